/- Texts of this claim, together. -/
import Derived.Test.YtdkpgodakmailaaGreatDoorHC7
import Derived.Test.YtdkpgodakmailaaGreatDoorHC4
import Derived.Test.YtdkpgodakmailaaGreatDoorHC5

set_option linter.unusedVariables false
set_option linter.unusedSimpArgs false
namespace Go.Proofs.YtdkpgodakmailaaGreatDoor
open Go.RowKit Ev
def idxP {α : Type} (p : α → Bool) (l : List α) : Int := if l.findIdx p < l.length then l.findIdx p else -1
theorem idxP_at {α : Type} {p : α → Bool} {l : List α} {d : α} {k : Nat} (hk : k < l.length) (hz : ∀ j, j < k → p (l.getD j d) = false) (h : p (l.getD k d) = true) : idxP p l = k := by
 have e : l.findIdx p = k := by
  rw [List.findIdx_eq hk]
  refine ⟨by simpa [List.getD, hk] using h, fun j hj => ?_⟩
  simpa [List.getD, show j < l.length by omega] using hz j hj
 unfold idxP
 rw [e, if_pos hk]
theorem idxP_none {α : Type} {p : α → Bool} {l : List α} {d : α} (hz : ∀ j, j < l.length → p (l.getD j d) = false) : idxP p l = -1 := by
 unfold idxP
 rw [if_neg]
 intro h
 have := List.findIdx_getElem (w := h)
 have h2 := hz _ h
 simp only [List.getD, List.getElem?_eq_getElem h, Option.getD_some] at h2
 rw [this] at h2
 cases h2
theorem idxP_any {α : Type} {p : α → Bool} {l : List α} : l.any p = decide (idxP p l ≥ 0) := by
 unfold idxP
 by_cases h : l.findIdx p < l.length
 ·rw [if_pos h]
  have := List.findIdx_getElem (w := h)
  rw [decide_eq_true (by omega), List.any_eq_true]
  exact ⟨_, List.getElem_mem h, this⟩
 ·rw [if_neg h, decide_eq_false (by omega), List.any_eq_false]
  intro x hx hp
  exact h (List.findIdx_lt_length_of_exists ⟨x, hx, hp⟩)
theorem contains_idx {l : List Int} {a : Int} : l.contains a = decide (idxP (fun n => a == n) l ≥ 0) := by
 rw [← idxP_any, List.contains_eq_any_beq]
theorem ints_take {l : List Int} {n : Nat} (h : n ≤ l.length) : listC n mkInt (fun i j => intsC l (((0 : Int)).toNat + i) j) = l.take n := by
 apply List.ext_getElem?
 intro i
 by_cases hi : i < n
 ·rw [listC, List.getElem?_map, List.getElem?_range hi, List.getElem?_take, if_pos hi]
  simp [mkInt, intsC, cvInt, List.getD, show i < l.length by omega]
 ·rw [List.getElem?_eq_none (by simpa [listC] using hi), List.getElem?_take, if_neg hi]
def muSm (m : List Muon) : Prop := ∀ k, k < m.length → (muAt m k).s.length ≤ 1000000
def vc_flash_isSensor (a : Int) (post : DV → Prop) : Prop := post (.t (.c (.v (.bool (inB a (0 : Int) (7 : Int))))))
def ann_flash_isSensor : Ann := ⟨fun _ => none, fun _ => none, fun _ => [], noIt, false, fun _ => none, fun _ => none⟩
theorem ev_flash_isSensor (J : Inv) (a : Int) (post : DV → Prop) : evFn Tryz.prog tab S29 ann_flash_isSensor J Tryz.f119 [.t (.c (.v (.int .i64 a)))] post = vc_flash_isSensor a post := by kernel_rfl
theorem fit_flash_isSensor : okFn ann_flash_isSensor Tryz.f119 = true := by kernel_rfl
theorem lp_flash_isSensor (J : Inv) (post : DV → Prop) : AllG J (loopsFn Tryz.prog tab S29 ann_flash_isSensor J Tryz.f119 post) = (True) := by kernel_rfl
theorem spec_flash_isSensor (a : Int) : vc_flash_isSensor a (fun r => LeD r (.t (.c (.v (.bool (senB a)))))) := by
 exact LeD.refl _
def con_flash_isSensor : Con := fun args => match args with
 | [.t (.c (.v (.int .i64 a)))] => some (.t (.c (.v (.bool (senB a)))), none, false)
 | _ => none
theorem ok_flash_isSensor : Ok Tryz.prog 119 con_flash_isSensor := by
 refine Ok.fn (ann := ann_flash_isSensor) mixed tabOK VS29 ValidIt.no (fn := Tryz.f119) (by kernel_rfl) (by kernel_rfl) fit_flash_isSensor fun args r pre fresh h hp => ?_
 unfold con_flash_isSensor at h
 split at h
 ·rename_i a
  cases h
  refine ⟨rfl, fun _ _ _ => False, _, LeA.refl _, Nat.le_of_ble_eq_true (by kernel_rfl), ?_, ?_⟩
  ·rw [ev_flash_isSensor]; exact spec_flash_isSensor a
  ·rw [lp_flash_isSensor]; trivial
 ·cases h
def S30 : Sum := addS S29 119 con_flash_isSensor
theorem VS30 : Valid Tryz.prog S30 := Valid.add VS29 ok_flash_isSensor
def vc_flash_isFirst (a : Int) (post : DV → Prop) : Prop := post (.t (.c (.v (.bool (inB a (0 : Int) (8 : Int))))))
def ann_flash_isFirst : Ann := ⟨fun _ => none, fun _ => none, fun _ => [], noIt, false, fun _ => none, fun _ => none⟩
theorem ev_flash_isFirst (J : Inv) (a : Int) (post : DV → Prop) : evFn Tryz.prog tab S30 ann_flash_isFirst J Tryz.f80 [.t (.c (.v (.int .i64 a)))] post = vc_flash_isFirst a post := by kernel_rfl
theorem fit_flash_isFirst : okFn ann_flash_isFirst Tryz.f80 = true := by kernel_rfl
theorem lp_flash_isFirst (J : Inv) (post : DV → Prop) : AllG J (loopsFn Tryz.prog tab S30 ann_flash_isFirst J Tryz.f80 post) = (True) := by kernel_rfl
theorem spec_flash_isFirst (a : Int) : vc_flash_isFirst a (fun r => LeD r (.t (.c (.v (.bool (inB a 0 8)))))) := by
 exact LeD.refl _
def con_flash_isFirst : Con := fun args => match args with
 | [.t (.c (.v (.int .i64 a)))] => some (.t (.c (.v (.bool (inB a 0 8)))), none, false)
 | _ => none
theorem ok_flash_isFirst : Ok Tryz.prog 80 con_flash_isFirst := by
 refine Ok.fn (ann := ann_flash_isFirst) mixed tabOK VS30 ValidIt.no (fn := Tryz.f80) (by kernel_rfl) (by kernel_rfl) fit_flash_isFirst fun args r pre fresh h hp => ?_
 unfold con_flash_isFirst at h
 split at h
 ·rename_i a
  cases h
  refine ⟨rfl, fun _ _ _ => False, _, LeA.refl _, Nat.le_of_ble_eq_true (by kernel_rfl), ?_, ?_⟩
  ·rw [ev_flash_isFirst]; exact spec_flash_isFirst a
  ·rw [lp_flash_isFirst]; trivial
 ·cases h
def S31 : Sum := addS S30 80 con_flash_isFirst
theorem VS31 : Valid Tryz.prog S31 := Valid.add VS30 ok_flash_isFirst
def vc_flash_CheckMuons_1_1 (a : Int) (post : DV → Prop) : Prop := post (.t (.c (.v (.bool (!(senB a))))))
def ann_flash_CheckMuons_1_1 : Ann := ⟨fun _ => none, fun _ => none, fun _ => [], noIt, false, fun _ => none, fun _ => none⟩
theorem ev_flash_CheckMuons_1_1 (J : Inv) (a : Int) (post : DV → Prop) : evFn Tryz.prog tab S31 ann_flash_CheckMuons_1_1 J Tryz.f159 [.t (.c (.v (.int .i64 a)))] post = vc_flash_CheckMuons_1_1 a post := by kernel_rfl
theorem fit_flash_CheckMuons_1_1 : okFn ann_flash_CheckMuons_1_1 Tryz.f159 = true := by kernel_rfl
theorem lp_flash_CheckMuons_1_1 (J : Inv) (post : DV → Prop) : AllG J (loopsFn Tryz.prog tab S31 ann_flash_CheckMuons_1_1 J Tryz.f159 post) = (True) := by kernel_rfl
theorem spec_flash_CheckMuons_1_1 (a : Int) : vc_flash_CheckMuons_1_1 a (fun r => LeD r (.t (.c (.v (.bool (!senB a)))))) := by
 exact LeD.refl _
def con_flash_CheckMuons_1_1 : Con := fun args => match args with
 | [.t (.c (.v (.int .i64 a)))] => some (.t (.c (.v (.bool (!senB a)))), none, false)
 | _ => none
theorem ok_flash_CheckMuons_1_1 : Ok Tryz.prog 159 con_flash_CheckMuons_1_1 := by
 refine Ok.fn (ann := ann_flash_CheckMuons_1_1) mixed tabOK VS31 ValidIt.no (fn := Tryz.f159) (by kernel_rfl) (by kernel_rfl) fit_flash_CheckMuons_1_1 fun args r pre fresh h hp => ?_
 unfold con_flash_CheckMuons_1_1 at h
 split at h
 ·rename_i a
  cases h
  refine ⟨rfl, fun _ _ _ => False, _, LeA.refl _, Nat.le_of_ble_eq_true (by kernel_rfl), ?_, ?_⟩
  ·rw [ev_flash_CheckMuons_1_1]; exact spec_flash_CheckMuons_1_1 a
  ·rw [lp_flash_CheckMuons_1_1]; trivial
 ·cases h
def S32 : Sum := addS S31 159 con_flash_CheckMuons_1_1
theorem VS32 : Valid Tryz.prog S32 := Valid.add VS31 ok_flash_CheckMuons_1_1
def mk_slices_IndexFunc_int_int_a_0 (l : List Int) (v0_0 : Int) : DS := ⟨[some (.t (.c (.sl 1 l.length (intsC l)))), some (.t (.fn 159 [])), none, none, none, none, none, some (.t (.c (.v (.int .i64 ((l.length : Nat) : Int))))), some (.t (.c (.v (.int .i64 v0_0)))), none, none, none, none, none, none, none, none, none, none], [none, none, none, none, none, none, none, none, none, none, none, none, none, none, none, none, none, none, none]⟩
def vc_slices_IndexFunc_int_int_a (J : Inv) (l : List Int) (post : DV → Prop) : Prop := ∃ n, J 0 (n :: []) (mk_slices_IndexFunc_int_int_a_0 l 0)
def ann_slices_IndexFunc_int_int_a : Ann := ⟨fun _ => none, fun b => lookA b [(0, (none, some ⟨[0, 1, 7, 8], [], []⟩))], fun _ => [], noIt, false, fun _ => none, fun _ => none⟩
theorem ev_slices_IndexFunc_int_int_a (J : Inv) (l : List Int) (post : DV → Prop) : evFn Tryz.prog tab S32 ann_slices_IndexFunc_int_int_a J Tryz.f160 [.t (.c (.sl 1 l.length (intsC l))), .t (.fn 159 [])] post = vc_slices_IndexFunc_int_int_a J l post := by kernel_rfl
theorem fit_slices_IndexFunc_int_int_a : okFn ann_slices_IndexFunc_int_int_a Tryz.f160 = true := by kernel_rfl
def rd_slices_IndexFunc_int_int_a_0 (J : Inv) (l : List Int) (v0_0 : Int) (nn0 : Nat) (post : DV → Prop) : Prop := cond (decide (v0_0 < ((l.length : Nat) : Int))) ((0 ≤ v0_0 ∧ v0_0 < ((l.length : Nat) : Int)) ∧ (cond (!senB (l.getD v0_0.toNat 0)) (post (.t (.c (.v (.int .i64 v0_0))))) (lt (IntKind.i64.wrap (v0_0 + (1 : Int))) fun x1 => J 0 (nn0 :: []) (mk_slices_IndexFunc_int_int_a_0 l x1)))) (post (.t (.c (.v (.int .i64 (-1))))))
theorem er_slices_IndexFunc_int_int_a_0 (J : Inv) (l : List Int) (v0_0 : Int) (nn0 : Nat) (post : DV → Prop) : round Tryz.prog tab S32 ann_slices_IndexFunc_int_int_a J Tryz.f160 post 0 (nn0 :: []) (mk_slices_IndexFunc_int_int_a_0 l v0_0) = rd_slices_IndexFunc_int_int_a_0 J l v0_0 nn0 post := by kernel_rfl
theorem lp_slices_IndexFunc_int_int_a (J : Inv) (post : DV → Prop) : AllG J (loopsFn Tryz.prog tab S32 ann_slices_IndexFunc_int_int_a J Tryz.f160 post) = (((∀ F s, ¬ J 0 (0 :: F) s) ∧ ∀ n F s, J 0 ((n + 1) :: F) s → round Tryz.prog tab S32 ann_slices_IndexFunc_int_int_a J Tryz.f160 post 0 (n :: F) s) ∧ True) := by kernel_rfl
def J_slices_IndexFunc_int_int_a (l : List Int) : Inv := fun b F s => match b, F with
 | 0, [nn0] => ∃ (v0_0 : Int), s = mk_slices_IndexFunc_int_int_a_0 l v0_0 ∧ (l.length ≤ 1000000 ∧ 0 ≤ v0_0 ∧ v0_0 ≤ l.length ∧ (nn0 : Int) + v0_0 = l.length + 1 ∧ ∀ k : Nat, (k : Int) < v0_0 → (!senB (l.getD k 0)) = false)
 | _, _ => False
theorem rnd_slices_IndexFunc_int_int_a_0 (l : List Int) (v0_0 : Int) (nn0 : Nat) (hp : (l).length ≤ 1000000) (hi : l.length ≤ 1000000 ∧ 0 ≤ v0_0 ∧ v0_0 ≤ l.length ∧ ((nn0 + 1) : Int) + v0_0 = l.length + 1 ∧ ∀ k : Nat, (k : Int) < v0_0 → (!senB (l.getD k 0)) = false) : rd_slices_IndexFunc_int_int_a_0 (J_slices_IndexFunc_int_int_a l) l v0_0 nn0 (fun r => LeD r (.t (.c (.v (.int .i64 (idxP (fun n => !senB n) l)))))) := by
 obtain ⟨i0, i1, i2, i3, i4⟩ := hi
 obtain ⟨k, rfl⟩ : ∃ k : Nat, v0_0 = k := ⟨v0_0.toNat, by omega⟩
 have hk : (k : Int).toNat = k := rfl
 unfold rd_slices_IndexFunc_int_int_a_0
 rw [hk]
 refine cond_i (fun h => ?_) (fun h => leI ?_)
 ·have hlt : k < l.length := by have := of_decide_eq_true h; omega
  refine ⟨by omega, cond_i (fun e => leI ?_) (fun e => lt_i fun x hx => ?_)⟩
  ·exact (idxP_at (d := (0 : Int)) hlt (fun j hj => i4 j (by omega)) (by simpa using e)).symm
  ·rw [wi (by omega)] at hx
   subst hx
   exact ⟨_, rfl, i0, by omega, by omega, by omega, fun j hj => by
    by_cases q : j = k
    ·rw [q]; simpa using e
    ·exact i4 j (by omega)⟩
 ·have hge : k = l.length := by have := of_decide_eq_false h; omega
  subst hge
  exact (idxP_none (d := (0 : Int)) fun j hj => i4 j (by omega)).symm
theorem zero_slices_IndexFunc_int_int_a_0 (l : List Int) (v0_0 : Int)  (hi : l.length ≤ 1000000 ∧ 0 ≤ v0_0 ∧ v0_0 ≤ l.length ∧ (0 : Int) + v0_0 = l.length + 1 ∧ ∀ k : Nat, (k : Int) < v0_0 → (!senB (l.getD k 0)) = false) : False := by
 omega
theorem spec_slices_IndexFunc_int_int_a (l : List Int) (hp : (l).length ≤ 1000000) : vc_slices_IndexFunc_int_int_a (J_slices_IndexFunc_int_int_a l) l (fun r => LeD r (.t (.c (.v (.int .i64 (idxP (fun n => !senB n) l)))))) := by
 unfold vc_slices_IndexFunc_int_int_a
 exact ⟨l.length + 1, 0, rfl, hp, by omega, by omega, by omega, fun j hj => by omega⟩
theorem all_slices_IndexFunc_int_int_a (l : List Int) (hp : (l).length ≤ 1000000) : AllG (J_slices_IndexFunc_int_int_a l) (loopsFn Tryz.prog tab S32 ann_slices_IndexFunc_int_int_a (J_slices_IndexFunc_int_int_a l) Tryz.f160 (fun r => LeD r (.t (.c (.v (.int .i64 (idxP (fun n => !senB n) l))))))) := by
 rw [lp_slices_IndexFunc_int_int_a]
 refine ⟨⟨?_, ?_⟩, trivial⟩
 ·intro F s h
  obtain _ | ⟨g, F⟩ := F
  case cons => exact h.elim
  obtain ⟨w0, rfl, hi⟩ := h
  exact zero_slices_IndexFunc_int_int_a_0 l w0 hi
 ·intro n F s h
  obtain _ | ⟨g, F⟩ := F
  case cons => exact h.elim
  obtain ⟨w0, rfl, hi⟩ := h
  rw [er_slices_IndexFunc_int_int_a_0]
  exact rnd_slices_IndexFunc_int_int_a_0 l _ _ hp hi
def con_slices_IndexFunc_int_int_a : Con := fun args => match args with
 | [.t (.c (.sl 1 n_l c_l)), .t (.fn 159 [])] => some (.t (.c (.v (.int .i64 (idxP (fun n => !senB n) (listC n_l mkInt c_l))))), some (numsP 1 n_l c_l ∧ ((listC n_l mkInt c_l)).length ≤ 1000000), false)
 | _ => none
theorem ok_slices_IndexFunc_int_int_a : Ok Tryz.prog 160 con_slices_IndexFunc_int_int_a := by
 refine Ok.fn (ann := ann_slices_IndexFunc_int_int_a) mixed tabOK VS32 ValidIt.no (fn := Tryz.f160) (by kernel_rfl) (by kernel_rfl) fit_slices_IndexFunc_int_int_a fun args r pre fresh h hp => ?_
 unfold con_slices_IndexFunc_int_int_a at h
 split at h
 ·rename_i n_l c_l
  cases h
  obtain ⟨hp0, hp⟩ := hp
  refine ⟨rfl, J_slices_IndexFunc_int_int_a (listC n_l mkInt c_l), [.t (.c (.sl 1 ((listC n_l mkInt c_l).length) (intsC (listC n_l mkInt c_l)))), .t (.fn 159 [])], ?_, Nat.le_of_ble_eq_true (by kernel_rfl), ?_, ?_⟩
  ·exact (LeA_cons (leT_c ((leL_int hp0))) (LeA_cons (leT_f LeCs.nil) LeA_nil))
  ·rw [ev_slices_IndexFunc_int_int_a]; exact spec_slices_IndexFunc_int_int_a (listC n_l mkInt c_l) hp
  ·exact all_slices_IndexFunc_int_int_a (listC n_l mkInt c_l) hp
 ·cases h
def S33 : Sum := addF S32 160 con_slices_IndexFunc_int_int_a
theorem VS33 : Valid Tryz.prog S33 := Valid.addF VS32 ok_slices_IndexFunc_int_int_a
def vc_slices_ContainsFunc_int_int_a (l : List Int) (post : DV → Prop) : Prop := (numsP 1 l.length (intsC l) ∧ ((listC l.length mkInt (intsC l))).length ≤ 1000000) ∧ (post (.t (.c (.v (.bool (decide ((idxP (fun n => !senB n) (listC l.length mkInt (intsC l))) ≥ (0 : Int))))))))
def ann_slices_ContainsFunc_int_int_a : Ann := ⟨fun _ => none, fun _ => none, fun _ => [], noIt, false, fun _ => none, fun _ => none⟩
theorem ev_slices_ContainsFunc_int_int_a (J : Inv) (l : List Int) (post : DV → Prop) : evFn Tryz.prog tab S33 ann_slices_ContainsFunc_int_int_a J Tryz.f121 [.t (.c (.sl 1 l.length (intsC l))), .t (.fn 159 [])] post = vc_slices_ContainsFunc_int_int_a l post := by kernel_rfl
theorem fit_slices_ContainsFunc_int_int_a : okFn ann_slices_ContainsFunc_int_int_a Tryz.f121 = true := by kernel_rfl
theorem lp_slices_ContainsFunc_int_int_a (J : Inv) (post : DV → Prop) : AllG J (loopsFn Tryz.prog tab S33 ann_slices_ContainsFunc_int_int_a J Tryz.f121 post) = (True) := by kernel_rfl
theorem spec_slices_ContainsFunc_int_int_a (l : List Int) (hp : (l).length ≤ 1000000) : vc_slices_ContainsFunc_int_int_a l (fun r => LeD r (.t (.c (.v (.bool ((l).any fun n => !senB n)))))) := by
 unfold vc_slices_ContainsFunc_int_int_a
 rw [ints_listC]
 refine ⟨⟨numsP_ints l, hp⟩, leB ?_⟩
 rw [idxP_any]
def con_slices_ContainsFunc_int_int_a : Con := fun args => match args with
 | [.t (.c (.sl 1 n_l c_l)), .t (.fn 159 [])] => some (.t (.c (.v (.bool (((listC n_l mkInt c_l)).any fun n => !senB n)))), some (numsP 1 n_l c_l ∧ ((listC n_l mkInt c_l)).length ≤ 1000000), false)
 | _ => none
theorem ok_slices_ContainsFunc_int_int_a : Ok Tryz.prog 121 con_slices_ContainsFunc_int_int_a := by
 refine Ok.fn (ann := ann_slices_ContainsFunc_int_int_a) mixed tabOK VS33 ValidIt.no (fn := Tryz.f121) (by kernel_rfl) (by kernel_rfl) fit_slices_ContainsFunc_int_int_a fun args r pre fresh h hp => ?_
 unfold con_slices_ContainsFunc_int_int_a at h
 split at h
 ·rename_i n_l c_l
  cases h
  obtain ⟨hp0, hp⟩ := hp
  refine ⟨rfl, fun _ _ _ => False, [.t (.c (.sl 1 ((listC n_l mkInt c_l).length) (intsC (listC n_l mkInt c_l)))), .t (.fn 159 [])], ?_, Nat.le_of_ble_eq_true (by kernel_rfl), ?_, ?_⟩
  ·exact (LeA_cons (leT_c ((leL_int hp0))) (LeA_cons (leT_f LeCs.nil) LeA_nil))
  ·rw [ev_slices_ContainsFunc_int_int_a]; exact spec_slices_ContainsFunc_int_int_a (listC n_l mkInt c_l) hp
  ·rw [lp_slices_ContainsFunc_int_int_a]; trivial
 ·cases h
def S34 : Sum := addF S33 121 con_slices_ContainsFunc_int_int_a
theorem VS34 : Valid Tryz.prog S34 := Valid.addF VS33 ok_slices_ContainsFunc_int_int_a
def vc_flash_CheckMuons_1 (i : Int) (r : List Int) (b : Int) (s : List Int) (w : Int) (post : DV → Prop) : Prop := (numsP 1 s.length (intsC s) ∧ ((listC s.length mkInt (intsC s))).length ≤ 1000000) ∧ ((numsP 1 3 (genC [[.v (.int .i64 (unl (inB w (1 : Int) (100 : Int)) (2 : Int)))], [.v (.int .i64 (unl (decide (((s.length : Nat) : Int) ≤ (8 : Int))) (8 : Int)))], [.v (.int .i64 (unl (!(((listC s.length mkInt (intsC s))).any fun n => !senB n)) (6 : Int)))]]) ∧ (([(unl (inB w (1 : Int) (100 : Int)) (2 : Int)), (unl (decide (((s.length : Nat) : Int) ≤ (8 : Int))) (8 : Int)), (unl (!(((listC s.length mkInt (intsC s))).any fun n => !senB n)) (6 : Int))] : List Int)).length ≤ 100) ∧ (post (.t (.c (.v (.int .i64 (firstNZ ([(unl (inB w (1 : Int) (100 : Int)) (2 : Int)), (unl (decide (((s.length : Nat) : Int) ≤ (8 : Int))) (8 : Int)), (unl (!(((listC s.length mkInt (intsC s))).any fun n => !senB n)) (6 : Int))] : List Int))))))))
def ann_flash_CheckMuons_1 : Ann := ⟨fun r => lookA r [(2, ([[], [0], [0, 1], [0, 1, 2], [], [4], [4, 5], [4, 5, 6], [0, 1, 2, 3, 4, 5, 6, 7], [], [9], [0, 1, 2, 3, 4, 5, 6, 7, 8, 9, 10], [0, 1, 2, 3, 4, 5, 6, 7, 8, 9, 10, 11], [0, 1, 2, 3, 4, 5, 6, 7, 8, 9, 10, 11, 12], [0, 1, 2, 3, 4, 5, 6, 7, 8, 9, 10, 11, 12, 13]], [[13, 14, 19, 22, 23, 24], [13, 14, 19, 22, 23, 24], [14, 19, 22, 23, 24], [19, 22, 23, 24], [13, 14, 19, 22, 23, 24], [13, 14, 19, 22, 23, 24], [13, 14, 19, 22, 23, 24], [13, 14, 19, 22, 23, 24], [22, 23, 24], [13, 14, 19, 22, 23, 24], [13, 14, 19, 22, 23, 24], [23, 24], [24], [], []]))], fun _ => none, fun _ => [], noIt, false, fun _ => none, fun _ => none⟩
theorem ev_flash_CheckMuons_1 (J : Inv) (i : Int) (r : List Int) (b : Int) (s : List Int) (w : Int) (post : DV → Prop) : evFn Tryz.prog tab S34 ann_flash_CheckMuons_1 J Tryz.f158 [.t (.c (.v (.int .i64 i))), .t (.a [.sl 1 r.length (intsC r), .v (.int .i64 b)]), .t (.a [.sl 1 s.length (intsC s), .v (.int .i64 w)])] post = vc_flash_CheckMuons_1 i r b s w post := by kernel_rfl
theorem fit_flash_CheckMuons_1 : okFn ann_flash_CheckMuons_1 Tryz.f158 = true := by kernel_rfl
theorem lp_flash_CheckMuons_1 (J : Inv) (post : DV → Prop) : AllG J (loopsFn Tryz.prog tab S34 ann_flash_CheckMuons_1 J Tryz.f158 post) = (True) := by kernel_rfl
theorem spec_flash_CheckMuons_1 (i : Int) (r : List Int) (b : Int) (s : List Int) (w : Int) (hp : (s).length ≤ 1000000) : vc_flash_CheckMuons_1 i r b s w (fun r => LeD r (.t (.c (.v (.int .i64 ((⟨s, w⟩ : Muon).err)))))) := by
 unfold vc_flash_CheckMuons_1
 rw [ints_listC, List.not_any_eq_all_not]
 simp only [Bool.not_not]
 exact ⟨⟨numsP_ints s, hp⟩, ⟨numsP_gen [_, _, _], Nat.le_of_ble_eq_true rfl⟩, LeD.refl _⟩
def con_flash_CheckMuons_1 : Con := fun args => match args with
 | [.t (.c (.v (.int .i64 i))), .t (.a [.sl 1 n_r c_r, .v (.int .i64 b)]), .t (.a [.sl 1 n_s c_s, .v (.int .i64 w)])] => some (.t (.c (.v (.int .i64 ((⟨(listC n_s mkInt c_s), w⟩ : Muon).err)))), some (numsP 1 n_r c_r ∧ numsP 1 n_s c_s ∧ ((listC n_s mkInt c_s)).length ≤ 1000000), false)
 | _ => none
theorem ok_flash_CheckMuons_1 : Ok Tryz.prog 158 con_flash_CheckMuons_1 := by
 refine Ok.fn (ann := ann_flash_CheckMuons_1) mixed tabOK VS34 ValidIt.no (fn := Tryz.f158) (by kernel_rfl) (by kernel_rfl) fit_flash_CheckMuons_1 fun args r pre fresh h hp => ?_
 unfold con_flash_CheckMuons_1 at h
 split at h
 ·rename_i i n_r c_r b n_s c_s w
  cases h
  obtain ⟨hp0, hp1, hp⟩ := hp
  refine ⟨rfl, fun _ _ _ => False, [.t (.c (.v (.int .i64 i))), .t (.a [.sl 1 ((listC n_r mkInt c_r).length) (intsC (listC n_r mkInt c_r)), .v (.int .i64 b)]), .t (.a [.sl 1 ((listC n_s mkInt c_s).length) (intsC (listC n_s mkInt c_s)), .v (.int .i64 w)])], ?_, Nat.le_of_ble_eq_true (by kernel_rfl), ?_, ?_⟩
  ·exact (LeA_cons (LeD.refl _) (LeA_cons (leT_a (LeCs.cons ((leL_int hp0)) (LeCs.cons (LeC1.refl _) LeCs.nil))) (LeA_cons (leT_a (LeCs.cons ((leL_int hp1)) (LeCs.cons (LeC1.refl _) LeCs.nil))) LeA_nil)))
  ·rw [ev_flash_CheckMuons_1]; exact spec_flash_CheckMuons_1 i (listC n_r mkInt c_r) b (listC n_s mkInt c_s) w hp
  ·rw [lp_flash_CheckMuons_1]; trivial
 ·cases h
def S35 : Sum := addS S34 158 con_flash_CheckMuons_1
theorem VS35 : Valid Tryz.prog S35 := Valid.add VS34 ok_flash_CheckMuons_1
def mk_cherenkov_flash_each_cherenkov_api_FlashMuon_0 (m : List Muon) (v0_0 : Int) : DS := ⟨[some (.t (.c (.sl 2 m.length (musC m)))), some (.t (.fn 158 [])), none, none, none, none, none, none, none, some (.t (.c (.sl 2 m.length (musC m)))), some (.t (.c (.v (.int .i64 ((m.length : Nat) : Int))))), some (.t (.c (.v (.int .i64 v0_0)))), none, none, none, none, none, none, none, none, none, none, none, none, none, none, none, none, none, none, none], [none, none, none, none, none, none, none, none, none, none, none, none, none, none, none, none, none, none, none, none, none, none, none, none, none, none, none, none, none, none, none]⟩
def vc_cherenkov_flash_each_cherenkov_api_FlashMuon (J : Inv) (m : List Muon) (post : DV → Prop) : Prop := ∃ n, J 0 (n :: []) (mk_cherenkov_flash_each_cherenkov_api_FlashMuon_0 m 0)
def ann_cherenkov_flash_each_cherenkov_api_FlashMuon : Ann := ⟨fun r => lookA r [(4, ([[], [], [], [], [3], [3, 4], [2, 3, 4, 5], [2, 3, 4, 5, 6], [], [0, 1, 2, 3, 4, 5, 6, 7, 8], [0, 1, 2, 3, 4, 5, 6, 7, 8, 9]], [[25], [25], [25], [25], [25], [25], [25], [25], [25], [], []]))], fun b => lookA b [(0, (none, some ⟨[0, 1, 9, 10, 11], [], []⟩))], fun _ => [], noIt, false, fun _ => none, fun _ => none⟩
theorem ev_cherenkov_flash_each_cherenkov_api_FlashMuon (J : Inv) (m : List Muon) (post : DV → Prop) : evFn Tryz.prog tab S35 ann_cherenkov_flash_each_cherenkov_api_FlashMuon J Tryz.f157 [.t (.c (.sl 2 m.length (musC m))), .t (.fn 158 [])] post = vc_cherenkov_flash_each_cherenkov_api_FlashMuon J m post := by kernel_rfl
theorem fit_cherenkov_flash_each_cherenkov_api_FlashMuon : okFn ann_cherenkov_flash_each_cherenkov_api_FlashMuon Tryz.f157 = true := by kernel_rfl
def rd_cherenkov_flash_each_cherenkov_api_FlashMuon_0 (J : Inv) (m : List Muon) (v0_0 : Int) (nn0 : Nat) (post : DV → Prop) : Prop := cond (decide (v0_0 < ((m.length : Nat) : Int))) ((0 ≤ v0_0 ∧ v0_0 < ((m.length : Nat) : Int)) ∧ (lt (IntKind.i64.wrap (v0_0 - (1 : Int))) fun x1 => lt ((if x1 > (0 : Int) then x1 else (0 : Int))) fun x2 => (0 ≤ x2 ∧ x2 < ((m.length : Nat) : Int)) ∧ ((numsP 1 ((muAt m x2.toNat).s.length) (intsC (muAt m x2.toNat).s) ∧ numsP 1 ((muAt m v0_0.toNat).s.length) (intsC (muAt m v0_0.toNat).s) ∧ ((listC ((muAt m v0_0.toNat).s.length) mkInt (intsC (muAt m v0_0.toNat).s))).length ≤ 1000000) ∧ (cond (((⟨(listC ((muAt m v0_0.toNat).s.length) mkInt (intsC (muAt m v0_0.toNat).s)), ((muAt m v0_0.toNat).w)⟩ : Muon).err) != (0 : Int)) (post (.tu [.c (.v (.int .i64 v0_0)), .c (.v (.int .i64 ((⟨(listC ((muAt m v0_0.toNat).s.length) mkInt (intsC (muAt m v0_0.toNat).s)), ((muAt m v0_0.toNat).w)⟩ : Muon).err)))])) (lt (IntKind.i64.wrap (v0_0 + (1 : Int))) fun x3 => J 0 (nn0 :: []) (mk_cherenkov_flash_each_cherenkov_api_FlashMuon_0 m x3)))))) (post (.tu [.c (.v (.int .i64 0)), .c (.v (.int .i64 0))]))
theorem er_cherenkov_flash_each_cherenkov_api_FlashMuon_0 (J : Inv) (m : List Muon) (v0_0 : Int) (nn0 : Nat) (post : DV → Prop) : round Tryz.prog tab S35 ann_cherenkov_flash_each_cherenkov_api_FlashMuon J Tryz.f157 post 0 (nn0 :: []) (mk_cherenkov_flash_each_cherenkov_api_FlashMuon_0 m v0_0) = rd_cherenkov_flash_each_cherenkov_api_FlashMuon_0 J m v0_0 nn0 post := by kernel_rfl
theorem lp_cherenkov_flash_each_cherenkov_api_FlashMuon (J : Inv) (post : DV → Prop) : AllG J (loopsFn Tryz.prog tab S35 ann_cherenkov_flash_each_cherenkov_api_FlashMuon J Tryz.f157 post) = (((∀ F s, ¬ J 0 (0 :: F) s) ∧ ∀ n F s, J 0 ((n + 1) :: F) s → round Tryz.prog tab S35 ann_cherenkov_flash_each_cherenkov_api_FlashMuon J Tryz.f157 post 0 (n :: F) s) ∧ True) := by kernel_rfl
def J_cherenkov_flash_each_cherenkov_api_FlashMuon (m : List Muon) : Inv := fun b F s => match b, F with
 | 0, [nn0] => ∃ (v0_0 : Int), s = mk_cherenkov_flash_each_cherenkov_api_FlashMuon_0 m v0_0 ∧ (m.length ≤ 1000000 ∧ 0 ≤ v0_0 ∧ v0_0 ≤ m.length ∧ (nn0 : Int) + v0_0 = m.length + 1 ∧ ∀ k : Nat, (k : Int) < v0_0 → (muAt m k).err = 0)
 | _, _ => False
theorem rnd_cherenkov_flash_each_cherenkov_api_FlashMuon_0 (m : List Muon) (v0_0 : Int) (nn0 : Nat) (hp : (m).length ≤ 1000000 ∧ muSm m) (hi : m.length ≤ 1000000 ∧ 0 ≤ v0_0 ∧ v0_0 ≤ m.length ∧ ((nn0 + 1) : Int) + v0_0 = m.length + 1 ∧ ∀ k : Nat, (k : Int) < v0_0 → (muAt m k).err = 0) : rd_cherenkov_flash_each_cherenkov_api_FlashMuon_0 (J_cherenkov_flash_each_cherenkov_api_FlashMuon m) m v0_0 nn0 (fun r => LeD r (.tu [.c (.v (.int .i64 (scanI (fun k => (muAt m k).err) (m).length))), .c (.v (.int .i64 (scan (fun k => (muAt m k).err) (m).length)))])) := by
 obtain ⟨i0, i1, i2, i3, i4⟩ := hi
 obtain ⟨k, rfl⟩ : ∃ k : Nat, v0_0 = k := ⟨v0_0.toNat, by omega⟩
 have hk : (k : Int).toNat = k := rfl
 unfold rd_cherenkov_flash_each_cherenkov_api_FlashMuon_0
 rw [hk]
 refine cond_i (fun h => ?_) (fun h => ?_)
 ·have h := of_decide_eq_true h
  refine ⟨by omega, lt_i fun x1 h1 => lt_i fun x2 h2 => ?_⟩
  rw [wi (by omega)] at h1
  obtain ⟨m, hm⟩ : ∃ m : Nat, x2 = m := ⟨x2.toNat, by split at h2 <;> omega⟩
  have hm2 : m = k - 1 := by split at h2 <;> omega
  subst hm
  subst hm2
  clear h2
  rw [ints_listC]
  refine ⟨by omega, ⟨numsP_ints _, numsP_ints _, hp.2 k (by omega)⟩, cond_i (fun e => ?_) (fun e => lt_i fun x hx => ?_)⟩
  ·have e : (muAt m k).err ≠ 0 := by simpa using e
   have hlt : k < m.length := by omega
   exact le2 (scanI_at (f := fun k => (muAt m k).err) (fun j hj => i4 j (by omega)) hlt e).symm (scan_at (f := fun k => (muAt m k).err) (fun j hj => i4 j (by omega)) hlt e).symm
  ·have e : (muAt m k).err = 0 := by simpa using e
   rw [wi (by omega)] at hx
   subst hx
   refine ⟨_, rfl, i0, by omega, by omega, by omega, fun j hj => ?_⟩
   by_cases q : j = k
   ·rw [q]; exact e
   ·exact i4 j (by omega)
 ·have h := of_decide_eq_false h
  exact le2 (scanI_end (f := fun k => (muAt m k).err) fun j hj => i4 j (by omega)).symm (scan_end (f := fun k => (muAt m k).err) fun j hj => i4 j (by omega)).symm
theorem zero_cherenkov_flash_each_cherenkov_api_FlashMuon_0 (m : List Muon) (v0_0 : Int)  (hi : m.length ≤ 1000000 ∧ 0 ≤ v0_0 ∧ v0_0 ≤ m.length ∧ (0 : Int) + v0_0 = m.length + 1 ∧ ∀ k : Nat, (k : Int) < v0_0 → (muAt m k).err = 0) : False := by
 omega
theorem spec_cherenkov_flash_each_cherenkov_api_FlashMuon (m : List Muon) (hp : (m).length ≤ 1000000 ∧ muSm m) : vc_cherenkov_flash_each_cherenkov_api_FlashMuon (J_cherenkov_flash_each_cherenkov_api_FlashMuon m) m (fun r => LeD r (.tu [.c (.v (.int .i64 (scanI (fun k => (muAt m k).err) (m).length))), .c (.v (.int .i64 (scan (fun k => (muAt m k).err) (m).length)))])) := by
 unfold vc_cherenkov_flash_each_cherenkov_api_FlashMuon
 exact ⟨m.length + 1, 0, rfl, hp.1, by omega, by omega, by omega, fun j hj => by omega⟩
theorem all_cherenkov_flash_each_cherenkov_api_FlashMuon (m : List Muon) (hp : (m).length ≤ 1000000 ∧ muSm m) : AllG (J_cherenkov_flash_each_cherenkov_api_FlashMuon m) (loopsFn Tryz.prog tab S35 ann_cherenkov_flash_each_cherenkov_api_FlashMuon (J_cherenkov_flash_each_cherenkov_api_FlashMuon m) Tryz.f157 (fun r => LeD r (.tu [.c (.v (.int .i64 (scanI (fun k => (muAt m k).err) (m).length))), .c (.v (.int .i64 (scan (fun k => (muAt m k).err) (m).length)))]))) := by
 rw [lp_cherenkov_flash_each_cherenkov_api_FlashMuon]
 refine ⟨⟨?_, ?_⟩, trivial⟩
 ·intro F s h
  obtain _ | ⟨g, F⟩ := F
  case cons => exact h.elim
  obtain ⟨w0, rfl, hi⟩ := h
  exact zero_cherenkov_flash_each_cherenkov_api_FlashMuon_0 m w0 hi
 ·intro n F s h
  obtain _ | ⟨g, F⟩ := F
  case cons => exact h.elim
  obtain ⟨w0, rfl, hi⟩ := h
  rw [er_cherenkov_flash_each_cherenkov_api_FlashMuon_0]
  exact rnd_cherenkov_flash_each_cherenkov_api_FlashMuon_0 m _ _ hp hi
def con_cherenkov_flash_each_cherenkov_api_FlashMuon : Con := fun args => match args with
 | [.t (.c (.sl 2 n_m c_m)), .t (.fn 158 [])] => some (.tu [.c (.v (.int .i64 (scanI (fun k => (muAt (muOf n_m c_m) k).err) ((muOf n_m c_m)).length))), .c (.v (.int .i64 (scan (fun k => (muAt (muOf n_m c_m) k).err) ((muOf n_m c_m)).length)))], some (muP n_m c_m ∧ ((muOf n_m c_m)).length ≤ 1000000 ∧ muSm (muOf n_m c_m)), false)
 | _ => none
theorem ok_cherenkov_flash_each_cherenkov_api_FlashMuon : Ok Tryz.prog 157 con_cherenkov_flash_each_cherenkov_api_FlashMuon := by
 refine Ok.fn (ann := ann_cherenkov_flash_each_cherenkov_api_FlashMuon) mixed tabOK VS35 ValidIt.no (fn := Tryz.f157) (by kernel_rfl) (by kernel_rfl) fit_cherenkov_flash_each_cherenkov_api_FlashMuon fun args r pre fresh h hp => ?_
 unfold con_cherenkov_flash_each_cherenkov_api_FlashMuon at h
 split at h
 ·rename_i n_m c_m
  cases h
  obtain ⟨hp0, hp⟩ := hp
  refine ⟨rfl, J_cherenkov_flash_each_cherenkov_api_FlashMuon (muOf n_m c_m), [.t (.c (.sl 2 ((muOf n_m c_m).length) (musC (muOf n_m c_m)))), .t (.fn 158 [])], ?_, Nat.le_of_ble_eq_true (by kernel_rfl), ?_, ?_⟩
  ·exact (LeA_cons (leT_c ((leL_Muon hp0))) (LeA_cons (leT_f LeCs.nil) LeA_nil))
  ·rw [ev_cherenkov_flash_each_cherenkov_api_FlashMuon]; exact spec_cherenkov_flash_each_cherenkov_api_FlashMuon (muOf n_m c_m) hp
  ·exact all_cherenkov_flash_each_cherenkov_api_FlashMuon (muOf n_m c_m) hp
 ·cases h
def S36 : Sum := addS S35 157 con_cherenkov_flash_each_cherenkov_api_FlashMuon
theorem VS36 : Valid Tryz.prog S36 := Valid.add VS35 ok_cherenkov_flash_each_cherenkov_api_FlashMuon
def vc_flash_CheckMuons (m : List Muon) (post : DV → Prop) : Prop := cond ((cntW ((m.length : Nat) : Int) (40 : Int)) != (0 : Int)) (post (.tu [.c (.v (.int .i64 0)), .c (.v (.int .i64 (cntW ((m.length : Nat) : Int) (40 : Int))))])) ((muP m.length (musC m) ∧ ((muOf m.length (musC m))).length ≤ 1000000 ∧ muSm (muOf m.length (musC m))) ∧ (post (.tu [.c (.v (.int .i64 (scanI (fun k => (muAt (muOf m.length (musC m)) k).err) ((muOf m.length (musC m))).length))), .c (.v (.int .i64 (scan (fun k => (muAt (muOf m.length (musC m)) k).err) ((muOf m.length (musC m))).length)))])))
def ann_flash_CheckMuons : Ann := ⟨fun _ => none, fun _ => none, fun _ => [], noIt, false, fun _ => none, fun _ => none⟩
theorem ev_flash_CheckMuons (J : Inv) (m : List Muon) (post : DV → Prop) : evFn Tryz.prog tab S36 ann_flash_CheckMuons J Tryz.f120 [.t (.c (.sl 2 m.length (musC m)))] post = vc_flash_CheckMuons m post := by kernel_rfl
theorem fit_flash_CheckMuons : okFn ann_flash_CheckMuons Tryz.f120 = true := by kernel_rfl
theorem lp_flash_CheckMuons (J : Inv) (post : DV → Prop) : AllG J (loopsFn Tryz.prog tab S36 ann_flash_CheckMuons J Tryz.f120 post) = (True) := by kernel_rfl
theorem spec_flash_CheckMuons (m : List Muon) (hp : muSm m) : vc_flash_CheckMuons m (fun r => LeD r (.tu [.c (.v (.int .i64 (musI m))), .c (.v (.int .i64 (musE m)))])) := by
 unfold vc_flash_CheckMuons
 rw [mus_of]
 refine cond_i (fun h => ?_) (fun h => ?_)
 ·have h : cntE m.length 40 ≠ 0 := by simpa [cntW, cntE] using h
  exact le2 (if_neg h).symm (if_neg h).symm
 ·have h : cntE m.length 40 = 0 := by simpa [cntW, cntE] using h
  refine ⟨⟨muP_mus m, ?_, hp⟩, le2 (if_pos h).symm (if_pos h).symm⟩
  have h2 := (fn2 h).2
  rw [unl_0 (by decide)] at h2
  have := of_decide_eq_true h2
  omega
def con_flash_CheckMuons : Con := fun args => match args with
 | [.t (.c (.sl 2 n_m c_m))] => some (.tu [.c (.v (.int .i64 (musI (muOf n_m c_m)))), .c (.v (.int .i64 (musE (muOf n_m c_m))))], some (muP n_m c_m ∧ muSm (muOf n_m c_m)), false)
 | _ => none
theorem ok_flash_CheckMuons : Ok Tryz.prog 120 con_flash_CheckMuons := by
 refine Ok.fn (ann := ann_flash_CheckMuons) mixed tabOK VS36 ValidIt.no (fn := Tryz.f120) (by kernel_rfl) (by kernel_rfl) fit_flash_CheckMuons fun args r pre fresh h hp => ?_
 unfold con_flash_CheckMuons at h
 split at h
 ·rename_i n_m c_m
  cases h
  obtain ⟨hp0, hp⟩ := hp
  refine ⟨rfl, fun _ _ _ => False, [.t (.c (.sl 2 ((muOf n_m c_m).length) (musC (muOf n_m c_m))))], ?_, Nat.le_of_ble_eq_true (by kernel_rfl), ?_, ?_⟩
  ·exact (LeA_cons (leT_c ((leL_Muon hp0))) LeA_nil)
  ·rw [ev_flash_CheckMuons]; exact spec_flash_CheckMuons (muOf n_m c_m) hp
  ·rw [lp_flash_CheckMuons]; trivial
 ·cases h
def S37 : Sum := addS S36 120 con_flash_CheckMuons
theorem VS37 : Valid Tryz.prog S37 := Valid.add VS36 ok_flash_CheckMuons
def vc_flash_muonsErr (m : List Muon) (post : DV → Prop) : Prop := (muP m.length (musC m) ∧ muSm (muOf m.length (musC m))) ∧ (post (.t (.c (.v (.int .i64 (musE (muOf m.length (musC m))))))))
def ann_flash_muonsErr : Ann := ⟨fun _ => none, fun _ => none, fun _ => [], noIt, false, fun _ => none, fun _ => none⟩
theorem ev_flash_muonsErr (J : Inv) (m : List Muon) (post : DV → Prop) : evFn Tryz.prog tab S37 ann_flash_muonsErr J Tryz.f68 [.t (.c (.sl 2 m.length (musC m)))] post = vc_flash_muonsErr m post := by kernel_rfl
theorem fit_flash_muonsErr : okFn ann_flash_muonsErr Tryz.f68 = true := by kernel_rfl
theorem lp_flash_muonsErr (J : Inv) (post : DV → Prop) : AllG J (loopsFn Tryz.prog tab S37 ann_flash_muonsErr J Tryz.f68 post) = (True) := by kernel_rfl
theorem spec_flash_muonsErr (m : List Muon) (hp : muSm m) : vc_flash_muonsErr m (fun r => LeD r (.t (.c (.v (.int .i64 (musE m)))))) := by
 unfold vc_flash_muonsErr
 rw [mus_of]
 exact ⟨⟨muP_mus m, hp⟩, LeD.refl _⟩
def con_flash_muonsErr : Con := fun args => match args with
 | [.t (.c (.sl 2 n_m c_m))] => some (.t (.c (.v (.int .i64 (musE (muOf n_m c_m))))), some (muP n_m c_m ∧ muSm (muOf n_m c_m)), false)
 | _ => none
theorem ok_flash_muonsErr : Ok Tryz.prog 68 con_flash_muonsErr := by
 refine Ok.fn (ann := ann_flash_muonsErr) mixed tabOK VS37 ValidIt.no (fn := Tryz.f68) (by kernel_rfl) (by kernel_rfl) fit_flash_muonsErr fun args r pre fresh h hp => ?_
 unfold con_flash_muonsErr at h
 split at h
 ·rename_i n_m c_m
  cases h
  obtain ⟨hp0, hp⟩ := hp
  refine ⟨rfl, fun _ _ _ => False, [.t (.c (.sl 2 ((muOf n_m c_m).length) (musC (muOf n_m c_m))))], ?_, Nat.le_of_ble_eq_true (by kernel_rfl), ?_, ?_⟩
  ·exact (LeA_cons (leT_c ((leL_Muon hp0))) LeA_nil)
  ·rw [ev_flash_muonsErr]; exact spec_flash_muonsErr (muOf n_m c_m) hp
  ·rw [lp_flash_muonsErr]; trivial
 ·cases h
def S38 : Sum := addS S37 68 con_flash_muonsErr
theorem VS38 : Valid Tryz.prog S38 := Valid.add VS37 ok_flash_muonsErr
def vc_flash_vetoErr_1 (i : Int) (a : Int) (b : Int) (post : DV → Prop) : Prop := cond (i == (0 : Int)) ((true = true) ∧ ((numsP 1 2 (genC [[.v (.int .i64 (unl (senB b) (6 : Int)))], [.v (.int .i64 (unl true (9 : Int)))]]) ∧ (([(unl (senB b) (6 : Int)), (unl true (9 : Int))] : List Int)).length ≤ 100) ∧ (post (.t (.c (.v (.int .i64 (firstNZ ([(unl (senB b) (6 : Int)), (unl true (9 : Int))] : List Int))))))))) ((numsP 1 2 (genC [[.v (.int .i64 (unl (senB b) (6 : Int)))], [.v (.int .i64 (unl (decide (b > a)) (9 : Int)))]]) ∧ (([(unl (senB b) (6 : Int)), (unl (decide (b > a)) (9 : Int))] : List Int)).length ≤ 100) ∧ (post (.t (.c (.v (.int .i64 (firstNZ ([(unl (senB b) (6 : Int)), (unl (decide (b > a)) (9 : Int))] : List Int))))))))
def ann_flash_vetoErr_1 : Ann := ⟨fun _ => none, fun _ => none, fun _ => [], noIt, false, fun _ => none, fun _ => none⟩
theorem ev_flash_vetoErr_1 (J : Inv) (i : Int) (a : Int) (b : Int) (post : DV → Prop) : evFn Tryz.prog tab S38 ann_flash_vetoErr_1 J Tryz.f118 [.t (.c (.v (.int .i64 i))), .t (.c (.v (.int .i64 a))), .t (.c (.v (.int .i64 b)))] post = vc_flash_vetoErr_1 i a b post := by kernel_rfl
theorem fit_flash_vetoErr_1 : okFn ann_flash_vetoErr_1 Tryz.f118 = true := by kernel_rfl
theorem lp_flash_vetoErr_1 (J : Inv) (post : DV → Prop) : AllG J (loopsFn Tryz.prog tab S38 ann_flash_vetoErr_1 J Tryz.f118 post) = (True) := by kernel_rfl
theorem spec_flash_vetoErr_1 (i : Int) (a : Int) (b : Int) : vc_flash_vetoErr_1 i a b (fun r => LeD r (.t (.c (.v (.int .i64 (sen1 i a b)))))) := by
 unfold vc_flash_vetoErr_1
 unfold sen1
 refine cond_i (fun h => ⟨rfl, ⟨numsP_gen [_, _], Nat.le_of_ble_eq_true rfl⟩, leI ?_⟩) (fun h => ⟨⟨numsP_gen [_, _], Nat.le_of_ble_eq_true rfl⟩, leI ?_⟩)
 ·have h : i = 0 := by simpa using h
  rw [decide_eq_true h]; rfl
 ·have h : i ≠ 0 := by simpa using h
  rw [decide_eq_false h]; rfl
def con_flash_vetoErr_1 : Con := fun args => match args with
 | [.t (.c (.v (.int .i64 i))), .t (.c (.v (.int .i64 a))), .t (.c (.v (.int .i64 b)))] => some (.t (.c (.v (.int .i64 (sen1 i a b)))), none, false)
 | _ => none
theorem ok_flash_vetoErr_1 : Ok Tryz.prog 118 con_flash_vetoErr_1 := by
 refine Ok.fn (ann := ann_flash_vetoErr_1) mixed tabOK VS38 ValidIt.no (fn := Tryz.f118) (by kernel_rfl) (by kernel_rfl) fit_flash_vetoErr_1 fun args r pre fresh h hp => ?_
 unfold con_flash_vetoErr_1 at h
 split at h
 ·rename_i i a b
  cases h
  refine ⟨rfl, fun _ _ _ => False, _, LeA.refl _, Nat.le_of_ble_eq_true (by kernel_rfl), ?_, ?_⟩
  ·rw [ev_flash_vetoErr_1]; exact spec_flash_vetoErr_1 i a b
  ·rw [lp_flash_vetoErr_1]; trivial
 ·cases h
def S39 : Sum := addS S38 118 con_flash_vetoErr_1
theorem VS39 : Valid Tryz.prog S39 := Valid.add VS38 ok_flash_vetoErr_1
def mk_cherenkov_flash_each_int_a_0 (l : List Int) (v0_0 : Int) : DS := ⟨[some (.t (.c (.sl 1 l.length (intsC l)))), some (.t (.fn 118 [])), none, none, none, none, none, none, none, some (.t (.c (.sl 1 l.length (intsC l)))), some (.t (.c (.v (.int .i64 ((l.length : Nat) : Int))))), some (.t (.c (.v (.int .i64 v0_0)))), none, none, none, none, none, none, none, none, none, none, none, none, none, none, none, none, none, none, none], [none, none, none, none, none, none, none, none, none, none, none, none, none, none, none, none, none, none, none, none, none, none, none, none, none, none, none, none, none, none, none]⟩
def vc_cherenkov_flash_each_int_a (J : Inv) (l : List Int) (post : DV → Prop) : Prop := ∃ n, J 0 (n :: []) (mk_cherenkov_flash_each_int_a_0 l 0)
def ann_cherenkov_flash_each_int_a : Ann := ⟨fun _ => none, fun b => lookA b [(0, (none, some ⟨[0, 1, 9, 10, 11], [], []⟩))], fun _ => [], noIt, false, fun _ => none, fun _ => none⟩
theorem ev_cherenkov_flash_each_int_a (J : Inv) (l : List Int) (post : DV → Prop) : evFn Tryz.prog tab S39 ann_cherenkov_flash_each_int_a J Tryz.f117 [.t (.c (.sl 1 l.length (intsC l))), .t (.fn 118 [])] post = vc_cherenkov_flash_each_int_a J l post := by kernel_rfl
theorem fit_cherenkov_flash_each_int_a : okFn ann_cherenkov_flash_each_int_a Tryz.f117 = true := by kernel_rfl
def rd_cherenkov_flash_each_int_a_0 (J : Inv) (l : List Int) (v0_0 : Int) (nn0 : Nat) (post : DV → Prop) : Prop := cond (decide (v0_0 < ((l.length : Nat) : Int))) ((0 ≤ v0_0 ∧ v0_0 < ((l.length : Nat) : Int)) ∧ (lt (IntKind.i64.wrap (v0_0 - (1 : Int))) fun x1 => lt ((if x1 > (0 : Int) then x1 else (0 : Int))) fun x2 => (0 ≤ x2 ∧ x2 < ((l.length : Nat) : Int)) ∧ (cond ((sen1 v0_0 (l.getD x2.toNat 0) (l.getD v0_0.toNat 0)) != (0 : Int)) (post (.tu [.c (.v (.int .i64 v0_0)), .c (.v (.int .i64 (sen1 v0_0 (l.getD x2.toNat 0) (l.getD v0_0.toNat 0))))])) (lt (IntKind.i64.wrap (v0_0 + (1 : Int))) fun x3 => J 0 (nn0 :: []) (mk_cherenkov_flash_each_int_a_0 l x3))))) (post (.tu [.c (.v (.int .i64 0)), .c (.v (.int .i64 0))]))
theorem er_cherenkov_flash_each_int_a_0 (J : Inv) (l : List Int) (v0_0 : Int) (nn0 : Nat) (post : DV → Prop) : round Tryz.prog tab S39 ann_cherenkov_flash_each_int_a J Tryz.f117 post 0 (nn0 :: []) (mk_cherenkov_flash_each_int_a_0 l v0_0) = rd_cherenkov_flash_each_int_a_0 J l v0_0 nn0 post := by kernel_rfl
theorem lp_cherenkov_flash_each_int_a (J : Inv) (post : DV → Prop) : AllG J (loopsFn Tryz.prog tab S39 ann_cherenkov_flash_each_int_a J Tryz.f117 post) = (((∀ F s, ¬ J 0 (0 :: F) s) ∧ ∀ n F s, J 0 ((n + 1) :: F) s → round Tryz.prog tab S39 ann_cherenkov_flash_each_int_a J Tryz.f117 post 0 (n :: F) s) ∧ True) := by kernel_rfl
def J_cherenkov_flash_each_int_a (l : List Int) : Inv := fun b F s => match b, F with
 | 0, [nn0] => ∃ (v0_0 : Int), s = mk_cherenkov_flash_each_int_a_0 l v0_0 ∧ (l.length ≤ 1000000 ∧ 0 ≤ v0_0 ∧ v0_0 ≤ l.length ∧ (nn0 : Int) + v0_0 = l.length + 1 ∧ ∀ k : Nat, (k : Int) < v0_0 → sen1 (k : Int) (l.getD (k - 1) 0) (l.getD k 0) = 0)
 | _, _ => False
theorem rnd_cherenkov_flash_each_int_a_0 (l : List Int) (v0_0 : Int) (nn0 : Nat) (hp : (l).length ≤ 1000000) (hi : l.length ≤ 1000000 ∧ 0 ≤ v0_0 ∧ v0_0 ≤ l.length ∧ ((nn0 + 1) : Int) + v0_0 = l.length + 1 ∧ ∀ k : Nat, (k : Int) < v0_0 → sen1 (k : Int) (l.getD (k - 1) 0) (l.getD k 0) = 0) : rd_cherenkov_flash_each_int_a_0 (J_cherenkov_flash_each_int_a l) l v0_0 nn0 (fun r => LeD r (.tu [.c (.v (.int .i64 (scanI (senE l) (l).length))), .c (.v (.int .i64 (scan (senE l) (l).length)))])) := by
 obtain ⟨i0, i1, i2, i3, i4⟩ := hi
 obtain ⟨k, rfl⟩ : ∃ k : Nat, v0_0 = k := ⟨v0_0.toNat, by omega⟩
 have hk : (k : Int).toNat = k := rfl
 unfold rd_cherenkov_flash_each_int_a_0
 rw [hk]
 refine cond_i (fun h => ?_) (fun h => ?_)
 ·have h := of_decide_eq_true h
  refine ⟨by omega, lt_i fun x1 h1 => lt_i fun x2 h2 => ?_⟩
  rw [wi (by omega)] at h1
  obtain ⟨m, hm⟩ : ∃ m : Nat, x2 = m := ⟨x2.toNat, by split at h2 <;> omega⟩
  have hm2 : m = k - 1 := by split at h2 <;> omega
  subst hm
  subst hm2
  clear h2
  refine ⟨by omega, cond_i (fun e => ?_) (fun e => lt_i fun x hx => ?_)⟩
  ·have e : sen1 (k : Int) (l.getD (k - 1) 0) (l.getD k 0) ≠ 0 := by simpa using e
   have hlt : k < l.length := by omega
   exact le2 (scanI_at (f := fun k => sen1 (k : Int) (l.getD (k - 1) 0) (l.getD k 0)) (fun j hj => i4 j (by omega)) hlt e).symm (scan_at (f := fun k => sen1 (k : Int) (l.getD (k - 1) 0) (l.getD k 0)) (fun j hj => i4 j (by omega)) hlt e).symm
  ·have e : sen1 (k : Int) (l.getD (k - 1) 0) (l.getD k 0) = 0 := by simpa using e
   rw [wi (by omega)] at hx
   subst hx
   refine ⟨_, rfl, i0, by omega, by omega, by omega, fun j hj => ?_⟩
   by_cases q : j = k
   ·rw [q]; exact e
   ·exact i4 j (by omega)
 ·have h := of_decide_eq_false h
  exact le2 (scanI_end (f := fun k => sen1 (k : Int) (l.getD (k - 1) 0) (l.getD k 0)) fun j hj => i4 j (by omega)).symm (scan_end (f := fun k => sen1 (k : Int) (l.getD (k - 1) 0) (l.getD k 0)) fun j hj => i4 j (by omega)).symm
theorem zero_cherenkov_flash_each_int_a_0 (l : List Int) (v0_0 : Int)  (hi : l.length ≤ 1000000 ∧ 0 ≤ v0_0 ∧ v0_0 ≤ l.length ∧ (0 : Int) + v0_0 = l.length + 1 ∧ ∀ k : Nat, (k : Int) < v0_0 → sen1 (k : Int) (l.getD (k - 1) 0) (l.getD k 0) = 0) : False := by
 omega
theorem spec_cherenkov_flash_each_int_a (l : List Int) (hp : (l).length ≤ 1000000) : vc_cherenkov_flash_each_int_a (J_cherenkov_flash_each_int_a l) l (fun r => LeD r (.tu [.c (.v (.int .i64 (scanI (senE l) (l).length))), .c (.v (.int .i64 (scan (senE l) (l).length)))])) := by
 unfold vc_cherenkov_flash_each_int_a
 exact ⟨l.length + 1, 0, rfl, hp, by omega, by omega, by omega, fun j hj => by omega⟩
theorem all_cherenkov_flash_each_int_a (l : List Int) (hp : (l).length ≤ 1000000) : AllG (J_cherenkov_flash_each_int_a l) (loopsFn Tryz.prog tab S39 ann_cherenkov_flash_each_int_a (J_cherenkov_flash_each_int_a l) Tryz.f117 (fun r => LeD r (.tu [.c (.v (.int .i64 (scanI (senE l) (l).length))), .c (.v (.int .i64 (scan (senE l) (l).length)))]))) := by
 rw [lp_cherenkov_flash_each_int_a]
 refine ⟨⟨?_, ?_⟩, trivial⟩
 ·intro F s h
  obtain _ | ⟨g, F⟩ := F
  case cons => exact h.elim
  obtain ⟨w0, rfl, hi⟩ := h
  exact zero_cherenkov_flash_each_int_a_0 l w0 hi
 ·intro n F s h
  obtain _ | ⟨g, F⟩ := F
  case cons => exact h.elim
  obtain ⟨w0, rfl, hi⟩ := h
  rw [er_cherenkov_flash_each_int_a_0]
  exact rnd_cherenkov_flash_each_int_a_0 l _ _ hp hi
def con_cherenkov_flash_each_int_a : Con := fun args => match args with
 | [.t (.c (.sl 1 n_l c_l)), .t (.fn 118 [])] => some (.tu [.c (.v (.int .i64 (scanI (senE (listC n_l mkInt c_l)) ((listC n_l mkInt c_l)).length))), .c (.v (.int .i64 (scan (senE (listC n_l mkInt c_l)) ((listC n_l mkInt c_l)).length)))], some (numsP 1 n_l c_l ∧ ((listC n_l mkInt c_l)).length ≤ 1000000), false)
 | _ => none
theorem ok_cherenkov_flash_each_int_a : Ok Tryz.prog 117 con_cherenkov_flash_each_int_a := by
 refine Ok.fn (ann := ann_cherenkov_flash_each_int_a) mixed tabOK VS39 ValidIt.no (fn := Tryz.f117) (by kernel_rfl) (by kernel_rfl) fit_cherenkov_flash_each_int_a fun args r pre fresh h hp => ?_
 unfold con_cherenkov_flash_each_int_a at h
 split at h
 ·rename_i n_l c_l
  cases h
  obtain ⟨hp0, hp⟩ := hp
  refine ⟨rfl, J_cherenkov_flash_each_int_a (listC n_l mkInt c_l), [.t (.c (.sl 1 ((listC n_l mkInt c_l).length) (intsC (listC n_l mkInt c_l)))), .t (.fn 118 [])], ?_, Nat.le_of_ble_eq_true (by kernel_rfl), ?_, ?_⟩
  ·exact (LeA_cons (leT_c ((leL_int hp0))) (LeA_cons (leT_f LeCs.nil) LeA_nil))
  ·rw [ev_cherenkov_flash_each_int_a]; exact spec_cherenkov_flash_each_int_a (listC n_l mkInt c_l) hp
  ·exact all_cherenkov_flash_each_int_a (listC n_l mkInt c_l) hp
 ·cases h
def S40 : Sum := addF S39 117 con_cherenkov_flash_each_int_a
theorem VS40 : Valid Tryz.prog S40 := Valid.addF VS39 ok_cherenkov_flash_each_int_a
def vc_flash_vetoErr (f : Int) (v : List Int) (post : DV → Prop) : Prop := (numsP 1 v.length (intsC v) ∧ ((listC v.length mkInt (intsC v))).length ≤ 1000000) ∧ ((numsP 1 3 (genC [[.v (.int .i64 (unl (inB f 0 8) (2 : Int)))], [.v (.int .i64 (unl (decide (((v.length : Nat) : Int) ≤ (8 : Int))) (8 : Int)))], [.v (.int .i64 (scan (senE (listC v.length mkInt (intsC v))) ((listC v.length mkInt (intsC v))).length))]]) ∧ (([(unl (inB f 0 8) (2 : Int)), (unl (decide (((v.length : Nat) : Int) ≤ (8 : Int))) (8 : Int)), (scan (senE (listC v.length mkInt (intsC v))) ((listC v.length mkInt (intsC v))).length)] : List Int)).length ≤ 100) ∧ (post (.t (.c (.v (.int .i64 (firstNZ ([(unl (inB f 0 8) (2 : Int)), (unl (decide (((v.length : Nat) : Int) ≤ (8 : Int))) (8 : Int)), (scan (senE (listC v.length mkInt (intsC v))) ((listC v.length mkInt (intsC v))).length)] : List Int))))))))
def ann_flash_vetoErr : Ann := ⟨fun r => lookA r [(2, ([[], [0], [0, 1], [0, 1, 2], [], [4], [4, 5], [4, 5, 6], [0, 1, 2, 3, 4, 5, 6, 7], [], [0, 1, 2, 3, 4, 5, 6, 7, 8, 9], [0, 1, 2, 3, 4, 5, 6, 7, 8, 9, 10], [0, 1, 2, 3, 4, 5, 6, 7, 8, 9, 10, 11]], [[13, 14, 19, 21, 22], [13, 14, 19, 21, 22], [14, 19, 21, 22], [19, 21, 22], [13, 14, 19, 21, 22], [13, 14, 19, 21, 22], [13, 14, 19, 21, 22], [13, 14, 19, 21, 22], [21, 22], [13, 14, 19, 21, 22], [22], [], []]))], fun _ => none, fun _ => [], noIt, false, fun _ => none, fun _ => none⟩
theorem ev_flash_vetoErr (J : Inv) (f : Int) (v : List Int) (post : DV → Prop) : evFn Tryz.prog tab S40 ann_flash_vetoErr J Tryz.f65 [.t (.a [.v (.int .i64 f), .sl 1 v.length (intsC v)])] post = vc_flash_vetoErr f v post := by kernel_rfl
theorem fit_flash_vetoErr : okFn ann_flash_vetoErr Tryz.f65 = true := by kernel_rfl
theorem lp_flash_vetoErr (J : Inv) (post : DV → Prop) : AllG J (loopsFn Tryz.prog tab S40 ann_flash_vetoErr J Tryz.f65 post) = (True) := by kernel_rfl
theorem spec_flash_vetoErr (f : Int) (v : List Int) (hp : (v).length ≤ 1000000) : vc_flash_vetoErr f v (fun r => LeD r (.t (.c (.v (.int .i64 (vetE f v)))))) := by
 unfold vc_flash_vetoErr
 rw [ints_listC]
 exact ⟨⟨numsP_ints v, hp⟩, ⟨numsP_gen [_, _, _], Nat.le_of_ble_eq_true rfl⟩, LeD.refl _⟩
def con_flash_vetoErr : Con := fun args => match args with
 | [.t (.a [.v (.int .i64 f), .sl 1 n_v c_v])] => some (.t (.c (.v (.int .i64 (vetE f (listC n_v mkInt c_v))))), some (numsP 1 n_v c_v ∧ ((listC n_v mkInt c_v)).length ≤ 1000000), false)
 | _ => none
theorem ok_flash_vetoErr : Ok Tryz.prog 65 con_flash_vetoErr := by
 refine Ok.fn (ann := ann_flash_vetoErr) mixed tabOK VS40 ValidIt.no (fn := Tryz.f65) (by kernel_rfl) (by kernel_rfl) fit_flash_vetoErr fun args r pre fresh h hp => ?_
 unfold con_flash_vetoErr at h
 split at h
 ·rename_i f n_v c_v
  cases h
  obtain ⟨hp0, hp⟩ := hp
  refine ⟨rfl, fun _ _ _ => False, [.t (.a [.v (.int .i64 f), .sl 1 ((listC n_v mkInt c_v).length) (intsC (listC n_v mkInt c_v))])], ?_, Nat.le_of_ble_eq_true (by kernel_rfl), ?_, ?_⟩
  ·exact (LeA_cons (leT_a (LeCs.cons (LeC1.refl _) (LeCs.cons ((leL_int hp0)) LeCs.nil))) LeA_nil)
  ·rw [ev_flash_vetoErr]; exact spec_flash_vetoErr f (listC n_v mkInt c_v) hp
  ·rw [lp_flash_vetoErr]; trivial
 ·cases h
def S41 : Sum := addS S40 65 con_flash_vetoErr
theorem VS41 : Valid Tryz.prog S41 := Valid.add VS40 ok_flash_vetoErr
def mk_slices_Index_int_int_0 (l : List Int) (a : Int) (v0_0 : Int) : DS := ⟨[some (.t (.c (.sl 1 l.length (intsC l)))), some (.t (.c (.v (.int .i64 a)))), none, none, none, none, none, some (.t (.c (.v (.int .i64 ((l.length : Nat) : Int))))), some (.t (.c (.v (.int .i64 v0_0)))), none, none, none, none, none, none, none, none, none, none], [none, none, none, none, none, none, none, none, none, none, none, none, none, none, none, none, none, none, none]⟩
def vc_slices_Index_int_int (J : Inv) (l : List Int) (a : Int) (post : DV → Prop) : Prop := ∃ n, J 0 (n :: []) (mk_slices_Index_int_int_0 l a 0)
def ann_slices_Index_int_int : Ann := ⟨fun _ => none, fun b => lookA b [(0, (none, some ⟨[0, 1, 7, 8], [], []⟩))], fun _ => [], noIt, false, fun _ => none, fun _ => none⟩
theorem ev_slices_Index_int_int (J : Inv) (l : List Int) (a : Int) (post : DV → Prop) : evFn Tryz.prog tab S41 ann_slices_Index_int_int J Tryz.f161 [.t (.c (.sl 1 l.length (intsC l))), .t (.c (.v (.int .i64 a)))] post = vc_slices_Index_int_int J l a post := by kernel_rfl
theorem fit_slices_Index_int_int : okFn ann_slices_Index_int_int Tryz.f161 = true := by kernel_rfl
def rd_slices_Index_int_int_0 (J : Inv) (l : List Int) (a : Int) (v0_0 : Int) (nn0 : Nat) (post : DV → Prop) : Prop := cond (decide (v0_0 < ((l.length : Nat) : Int))) ((0 ≤ v0_0 ∧ v0_0 < ((l.length : Nat) : Int)) ∧ (cond (a == (l.getD v0_0.toNat 0)) (post (.t (.c (.v (.int .i64 v0_0))))) (lt (IntKind.i64.wrap (v0_0 + (1 : Int))) fun x1 => J 0 (nn0 :: []) (mk_slices_Index_int_int_0 l a x1)))) (post (.t (.c (.v (.int .i64 (-1))))))
theorem er_slices_Index_int_int_0 (J : Inv) (l : List Int) (a : Int) (v0_0 : Int) (nn0 : Nat) (post : DV → Prop) : round Tryz.prog tab S41 ann_slices_Index_int_int J Tryz.f161 post 0 (nn0 :: []) (mk_slices_Index_int_int_0 l a v0_0) = rd_slices_Index_int_int_0 J l a v0_0 nn0 post := by kernel_rfl
theorem lp_slices_Index_int_int (J : Inv) (post : DV → Prop) : AllG J (loopsFn Tryz.prog tab S41 ann_slices_Index_int_int J Tryz.f161 post) = (((∀ F s, ¬ J 0 (0 :: F) s) ∧ ∀ n F s, J 0 ((n + 1) :: F) s → round Tryz.prog tab S41 ann_slices_Index_int_int J Tryz.f161 post 0 (n :: F) s) ∧ True) := by kernel_rfl
def J_slices_Index_int_int (l : List Int) (a : Int) : Inv := fun b F s => match b, F with
 | 0, [nn0] => ∃ (v0_0 : Int), s = mk_slices_Index_int_int_0 l a v0_0 ∧ (l.length ≤ 1000000 ∧ 0 ≤ v0_0 ∧ v0_0 ≤ l.length ∧ (nn0 : Int) + v0_0 = l.length + 1 ∧ ∀ k : Nat, (k : Int) < v0_0 → (a == (l.getD k 0)) = false)
 | _, _ => False
theorem rnd_slices_Index_int_int_0 (l : List Int) (a : Int) (v0_0 : Int) (nn0 : Nat) (hp : (l).length ≤ 1000000) (hi : l.length ≤ 1000000 ∧ 0 ≤ v0_0 ∧ v0_0 ≤ l.length ∧ ((nn0 + 1) : Int) + v0_0 = l.length + 1 ∧ ∀ k : Nat, (k : Int) < v0_0 → (a == (l.getD k 0)) = false) : rd_slices_Index_int_int_0 (J_slices_Index_int_int l a) l a v0_0 nn0 (fun r => LeD r (.t (.c (.v (.int .i64 (idxP (fun n => a == n) l)))))) := by
 obtain ⟨i0, i1, i2, i3, i4⟩ := hi
 obtain ⟨k, rfl⟩ : ∃ k : Nat, v0_0 = k := ⟨v0_0.toNat, by omega⟩
 have hk : (k : Int).toNat = k := rfl
 unfold rd_slices_Index_int_int_0
 rw [hk]
 refine cond_i (fun h => ?_) (fun h => leI ?_)
 ·have hlt : k < l.length := by have := of_decide_eq_true h; omega
  refine ⟨by omega, cond_i (fun e => leI ?_) (fun e => lt_i fun x hx => ?_)⟩
  ·exact (idxP_at (d := (0 : Int)) hlt (fun j hj => i4 j (by omega)) (by simpa using e)).symm
  ·rw [wi (by omega)] at hx
   subst hx
   exact ⟨_, rfl, i0, by omega, by omega, by omega, fun j hj => by
    by_cases q : j = k
    ·rw [q]; simpa using e
    ·exact i4 j (by omega)⟩
 ·have hge : k = l.length := by have := of_decide_eq_false h; omega
  subst hge
  exact (idxP_none (d := (0 : Int)) fun j hj => i4 j (by omega)).symm
theorem zero_slices_Index_int_int_0 (l : List Int) (a : Int) (v0_0 : Int)  (hi : l.length ≤ 1000000 ∧ 0 ≤ v0_0 ∧ v0_0 ≤ l.length ∧ (0 : Int) + v0_0 = l.length + 1 ∧ ∀ k : Nat, (k : Int) < v0_0 → (a == (l.getD k 0)) = false) : False := by
 omega
theorem spec_slices_Index_int_int (l : List Int) (a : Int) (hp : (l).length ≤ 1000000) : vc_slices_Index_int_int (J_slices_Index_int_int l a) l a (fun r => LeD r (.t (.c (.v (.int .i64 (idxP (fun n => a == n) l)))))) := by
 unfold vc_slices_Index_int_int
 exact ⟨l.length + 1, 0, rfl, hp, by omega, by omega, by omega, fun j hj => by omega⟩
theorem all_slices_Index_int_int (l : List Int) (a : Int) (hp : (l).length ≤ 1000000) : AllG (J_slices_Index_int_int l a) (loopsFn Tryz.prog tab S41 ann_slices_Index_int_int (J_slices_Index_int_int l a) Tryz.f161 (fun r => LeD r (.t (.c (.v (.int .i64 (idxP (fun n => a == n) l))))))) := by
 rw [lp_slices_Index_int_int]
 refine ⟨⟨?_, ?_⟩, trivial⟩
 ·intro F s h
  obtain _ | ⟨g, F⟩ := F
  case cons => exact h.elim
  obtain ⟨w0, rfl, hi⟩ := h
  exact zero_slices_Index_int_int_0 l a w0 hi
 ·intro n F s h
  obtain _ | ⟨g, F⟩ := F
  case cons => exact h.elim
  obtain ⟨w0, rfl, hi⟩ := h
  rw [er_slices_Index_int_int_0]
  exact rnd_slices_Index_int_int_0 l a _ _ hp hi
def con_slices_Index_int_int : Con := fun args => match args with
 | [.t (.c (.sl 1 n_l c_l)), .t (.c (.v (.int .i64 a)))] => some (.t (.c (.v (.int .i64 (idxP (fun n => a == n) (listC n_l mkInt c_l))))), some (numsP 1 n_l c_l ∧ ((listC n_l mkInt c_l)).length ≤ 1000000), false)
 | _ => none
theorem ok_slices_Index_int_int : Ok Tryz.prog 161 con_slices_Index_int_int := by
 refine Ok.fn (ann := ann_slices_Index_int_int) mixed tabOK VS41 ValidIt.no (fn := Tryz.f161) (by kernel_rfl) (by kernel_rfl) fit_slices_Index_int_int fun args r pre fresh h hp => ?_
 unfold con_slices_Index_int_int at h
 split at h
 ·rename_i n_l c_l a
  cases h
  obtain ⟨hp0, hp⟩ := hp
  refine ⟨rfl, J_slices_Index_int_int (listC n_l mkInt c_l) a, [.t (.c (.sl 1 ((listC n_l mkInt c_l).length) (intsC (listC n_l mkInt c_l)))), .t (.c (.v (.int .i64 a)))], ?_, Nat.le_of_ble_eq_true (by kernel_rfl), ?_, ?_⟩
  ·exact (LeA_cons (leT_c ((leL_int hp0))) (LeA_cons (LeD.refl _) LeA_nil))
  ·rw [ev_slices_Index_int_int]; exact spec_slices_Index_int_int (listC n_l mkInt c_l) a hp
  ·exact all_slices_Index_int_int (listC n_l mkInt c_l) a hp
 ·cases h
def S42 : Sum := addS S41 161 con_slices_Index_int_int
theorem VS42 : Valid Tryz.prog S42 := Valid.add VS41 ok_slices_Index_int_int
def vc_slices_Contains_int_int (l : List Int) (a : Int) (post : DV → Prop) : Prop := (numsP 1 l.length (intsC l) ∧ ((listC l.length mkInt (intsC l))).length ≤ 1000000) ∧ (post (.t (.c (.v (.bool (decide ((idxP (fun n => a == n) (listC l.length mkInt (intsC l))) ≥ (0 : Int))))))))
def ann_slices_Contains_int_int : Ann := ⟨fun _ => none, fun _ => none, fun _ => [], noIt, false, fun _ => none, fun _ => none⟩
theorem ev_slices_Contains_int_int (J : Inv) (l : List Int) (a : Int) (post : DV → Prop) : evFn Tryz.prog tab S42 ann_slices_Contains_int_int J Tryz.f123 [.t (.c (.sl 1 l.length (intsC l))), .t (.c (.v (.int .i64 a)))] post = vc_slices_Contains_int_int l a post := by kernel_rfl
theorem fit_slices_Contains_int_int : okFn ann_slices_Contains_int_int Tryz.f123 = true := by kernel_rfl
theorem lp_slices_Contains_int_int (J : Inv) (post : DV → Prop) : AllG J (loopsFn Tryz.prog tab S42 ann_slices_Contains_int_int J Tryz.f123 post) = (True) := by kernel_rfl
theorem spec_slices_Contains_int_int (l : List Int) (a : Int) (hp : (l).length ≤ 1000000) : vc_slices_Contains_int_int l a (fun r => LeD r (.t (.c (.v (.bool ((l).contains a)))))) := by
 unfold vc_slices_Contains_int_int
 rw [ints_listC]
 refine ⟨⟨numsP_ints l, hp⟩, leB ?_⟩
 rw [← contains_idx]
def con_slices_Contains_int_int : Con := fun args => match args with
 | [.t (.c (.sl 1 n_l c_l)), .t (.c (.v (.int .i64 a)))] => some (.t (.c (.v (.bool (((listC n_l mkInt c_l)).contains a)))), some (numsP 1 n_l c_l ∧ ((listC n_l mkInt c_l)).length ≤ 1000000), false)
 | _ => none
theorem ok_slices_Contains_int_int : Ok Tryz.prog 123 con_slices_Contains_int_int := by
 refine Ok.fn (ann := ann_slices_Contains_int_int) mixed tabOK VS42 ValidIt.no (fn := Tryz.f123) (by kernel_rfl) (by kernel_rfl) fit_slices_Contains_int_int fun args r pre fresh h hp => ?_
 unfold con_slices_Contains_int_int at h
 split at h
 ·rename_i n_l c_l a
  cases h
  obtain ⟨hp0, hp⟩ := hp
  refine ⟨rfl, fun _ _ _ => False, [.t (.c (.sl 1 ((listC n_l mkInt c_l).length) (intsC (listC n_l mkInt c_l)))), .t (.c (.v (.int .i64 a)))], ?_, Nat.le_of_ble_eq_true (by kernel_rfl), ?_, ?_⟩
  ·exact (LeA_cons (leT_c ((leL_int hp0))) (LeA_cons (LeD.refl _) LeA_nil))
  ·rw [ev_slices_Contains_int_int]; exact spec_slices_Contains_int_int (listC n_l mkInt c_l) a hp
  ·rw [lp_slices_Contains_int_int]; trivial
 ·cases h
def S43 : Sum := addS S42 123 con_slices_Contains_int_int
theorem VS43 : Valid Tryz.prog S43 := Valid.add VS42 ok_slices_Contains_int_int
def vc_flash_passes_1 (a : Int) (f : Int) (v : List Int) (post : DV → Prop) : Prop := (numsP 1 v.length (intsC v) ∧ ((listC v.length mkInt (intsC v))).length ≤ 1000000) ∧ (post (.t (.c (.v (.bool (((listC v.length mkInt (intsC v))).contains a))))))
def ann_flash_passes_1 : Ann := ⟨fun _ => none, fun _ => none, fun _ => [], noIt, false, fun _ => none, fun _ => none⟩
theorem ev_flash_passes_1 (J : Inv) (a : Int) (f : Int) (v : List Int) (post : DV → Prop) : evFn Tryz.prog tab S43 ann_flash_passes_1 J Tryz.f122 [.t (.c (.v (.int .i64 a))), .t (.c (.px 2 0 (boxC [.v (.int .i64 f), .sl 1 v.length (intsC v)])))] post = vc_flash_passes_1 a f v post := by kernel_rfl
theorem fit_flash_passes_1 : okFn ann_flash_passes_1 Tryz.f122 = true := by kernel_rfl
theorem lp_flash_passes_1 (J : Inv) (post : DV → Prop) : AllG J (loopsFn Tryz.prog tab S43 ann_flash_passes_1 J Tryz.f122 post) = (True) := by kernel_rfl
theorem spec_flash_passes_1 (a : Int) (f : Int) (v : List Int) (hp : (v).length ≤ 1000000) : vc_flash_passes_1 a f v (fun r => LeD r (.t (.c (.v (.bool ((v).contains a)))))) := by
 unfold vc_flash_passes_1
 rw [ints_listC]
 exact ⟨⟨numsP_ints v, hp⟩, LeD.refl _⟩
def con_flash_passes_1 : Con := fun args => match args with
 | [.t (.c (.v (.int .i64 a))), .t (.c (.px 2 0 c_pv))] => some (.t (.c (.v (.bool (((listC (cvLen (c_pv 1)) mkInt (cvCells (c_pv 1)))).contains a)))), some (intsB [0] c_pv = true ∧ slP 1 (c_pv 1) ∧ numsP 1 (cvLen (c_pv 1)) (cvCells (c_pv 1)) ∧ ((listC (cvLen (c_pv 1)) mkInt (cvCells (c_pv 1)))).length ≤ 1000000), false)
 | _ => none
theorem ok_flash_passes_1 : Ok Tryz.prog 122 con_flash_passes_1 := by
 refine Ok.fn (ann := ann_flash_passes_1) mixed tabOK VS43 ValidIt.no (fn := Tryz.f122) (by kernel_rfl) (by kernel_rfl) fit_flash_passes_1 fun args r pre fresh h hp => ?_
 unfold con_flash_passes_1 at h
 split at h
 ·rename_i a c_pv
  cases h
  obtain ⟨hp0, hp1, hp2, hp⟩ := hp
  refine ⟨rfl, fun _ _ _ => False, [.t (.c (.v (.int .i64 a))), .t (.c (.px 2 0 (boxC [.v (.int .i64 (cvInt (c_pv 0))), .sl 1 ((listC (cvLen (c_pv 1)) mkInt (cvCells (c_pv 1))).length) (intsC (listC (cvLen (c_pv 1)) mkInt (cvCells (c_pv 1))))])))], ?_, Nat.le_of_ble_eq_true (by kernel_rfl), ?_, ?_⟩
  ·exact (LeA_cons (LeD.refl _) (LeA_cons (leT_c (leC_p (LeCs.cons (leC_i (intsB_get hp0 0 (by decide))) (LeCs.cons (leC_s hp1 (leL_int hp2)) LeCs.nil)))) LeA_nil))
  ·rw [ev_flash_passes_1]; exact spec_flash_passes_1 a (cvInt (c_pv 0)) (listC (cvLen (c_pv 1)) mkInt (cvCells (c_pv 1))) hp
  ·rw [lp_flash_passes_1]; trivial
 ·cases h
def S44 : Sum := addS S43 122 con_flash_passes_1
theorem VS44 : Valid Tryz.prog S44 := Valid.add VS43 ok_flash_passes_1
def mk_slices_IndexFunc_int_int_b_0 (l : List Int) (f : Int) (v : List Int) (v0_0 : Int) : DS := ⟨[some (.t (.c (.sl 1 l.length (intsC l)))), some (.t (.fn 122 [.px 2 0 (boxC [.v (.int .i64 f), .sl 1 v.length (intsC v)])])), none, none, none, none, none, some (.t (.c (.v (.int .i64 ((l.length : Nat) : Int))))), some (.t (.c (.v (.int .i64 v0_0)))), none, none, none, none, none, none, none, none, none, none], [none, none, none, none, none, none, none, none, none, none, none, none, none, none, none, none, none, none, none]⟩
def vc_slices_IndexFunc_int_int_b (J : Inv) (l : List Int) (f : Int) (v : List Int) (post : DV → Prop) : Prop := ∃ n, J 0 (n :: []) (mk_slices_IndexFunc_int_int_b_0 l f v 0)
def ann_slices_IndexFunc_int_int_b : Ann := ⟨fun _ => none, fun b => lookA b [(0, (none, some ⟨[0, 1, 7, 8], [], []⟩))], fun _ => [], noIt, false, fun _ => none, fun _ => none⟩
theorem ev_slices_IndexFunc_int_int_b (J : Inv) (l : List Int) (f : Int) (v : List Int) (post : DV → Prop) : evFn Tryz.prog tab S44 ann_slices_IndexFunc_int_int_b J Tryz.f160 [.t (.c (.sl 1 l.length (intsC l))), .t (.fn 122 [.px 2 0 (boxC [.v (.int .i64 f), .sl 1 v.length (intsC v)])])] post = vc_slices_IndexFunc_int_int_b J l f v post := by kernel_rfl
theorem fit_slices_IndexFunc_int_int_b : okFn ann_slices_IndexFunc_int_int_b Tryz.f160 = true := by kernel_rfl
def rd_slices_IndexFunc_int_int_b_0 (J : Inv) (l : List Int) (f : Int) (v : List Int) (v0_0 : Int) (nn0 : Nat) (post : DV → Prop) : Prop := cond (decide (v0_0 < ((l.length : Nat) : Int))) ((0 ≤ v0_0 ∧ v0_0 < ((l.length : Nat) : Int)) ∧ ((intsB [0] (boxC [.v (.int .i64 f), .sl 1 v.length (intsC v)]) = true ∧ slP 1 ((boxC [.v (.int .i64 f), .sl 1 v.length (intsC v)]) 1) ∧ numsP 1 v.length (intsC v) ∧ ((listC v.length mkInt (intsC v))).length ≤ 1000000) ∧ (cond (((listC v.length mkInt (intsC v))).contains (l.getD v0_0.toNat 0)) (post (.t (.c (.v (.int .i64 v0_0))))) (lt (IntKind.i64.wrap (v0_0 + (1 : Int))) fun x1 => J 0 (nn0 :: []) (mk_slices_IndexFunc_int_int_b_0 l f v x1))))) (post (.t (.c (.v (.int .i64 (-1))))))
theorem er_slices_IndexFunc_int_int_b_0 (J : Inv) (l : List Int) (f : Int) (v : List Int) (v0_0 : Int) (nn0 : Nat) (post : DV → Prop) : round Tryz.prog tab S44 ann_slices_IndexFunc_int_int_b J Tryz.f160 post 0 (nn0 :: []) (mk_slices_IndexFunc_int_int_b_0 l f v v0_0) = rd_slices_IndexFunc_int_int_b_0 J l f v v0_0 nn0 post := by kernel_rfl
theorem lp_slices_IndexFunc_int_int_b (J : Inv) (post : DV → Prop) : AllG J (loopsFn Tryz.prog tab S44 ann_slices_IndexFunc_int_int_b J Tryz.f160 post) = (((∀ F s, ¬ J 0 (0 :: F) s) ∧ ∀ n F s, J 0 ((n + 1) :: F) s → round Tryz.prog tab S44 ann_slices_IndexFunc_int_int_b J Tryz.f160 post 0 (n :: F) s) ∧ True) := by kernel_rfl
def J_slices_IndexFunc_int_int_b (l : List Int) (f : Int) (v : List Int) : Inv := fun b F s => match b, F with
 | 0, [nn0] => ∃ (v0_0 : Int), s = mk_slices_IndexFunc_int_int_b_0 l f v v0_0 ∧ (l.length ≤ 1000000 ∧ 0 ≤ v0_0 ∧ v0_0 ≤ l.length ∧ (nn0 : Int) + v0_0 = l.length + 1 ∧ ∀ k : Nat, (k : Int) < v0_0 → (v.contains (l.getD k 0)) = false)
 | _, _ => False
theorem rnd_slices_IndexFunc_int_int_b_0 (l : List Int) (f : Int) (v : List Int) (v0_0 : Int) (nn0 : Nat) (hp : (l).length ≤ 1000000 ∧ (v).length ≤ 1000000) (hi : l.length ≤ 1000000 ∧ 0 ≤ v0_0 ∧ v0_0 ≤ l.length ∧ ((nn0 + 1) : Int) + v0_0 = l.length + 1 ∧ ∀ k : Nat, (k : Int) < v0_0 → (v.contains (l.getD k 0)) = false) : rd_slices_IndexFunc_int_int_b_0 (J_slices_IndexFunc_int_int_b l f v) l f v v0_0 nn0 (fun r => LeD r (.t (.c (.v (.int .i64 (idxP (fun n => (v).contains n) l)))))) := by
 obtain ⟨i0, i1, i2, i3, i4⟩ := hi
 obtain ⟨k, rfl⟩ : ∃ k : Nat, v0_0 = k := ⟨v0_0.toNat, by omega⟩
 have hk : (k : Int).toNat = k := rfl
 unfold rd_slices_IndexFunc_int_int_b_0
 rw [hk, ints_listC]
 refine cond_i (fun h => ?_) (fun h => leI ?_)
 ·have hlt : k < l.length := by have := of_decide_eq_true h; omega
  refine ⟨by omega, ⟨rfl, rfl, numsP_ints v, hp.2⟩, cond_i (fun e => leI ?_) (fun e => lt_i fun x hx => ?_)⟩
  ·exact (idxP_at (d := (0 : Int)) hlt (fun j hj => i4 j (by omega)) (by simpa using e)).symm
  ·rw [wi (by omega)] at hx
   subst hx
   exact ⟨_, rfl, i0, by omega, by omega, by omega, fun j hj => by
    by_cases q : j = k
    ·rw [q]; simpa using e
    ·exact i4 j (by omega)⟩
 ·have hge : k = l.length := by have := of_decide_eq_false h; omega
  subst hge
  exact (idxP_none (d := (0 : Int)) fun j hj => i4 j (by omega)).symm
theorem zero_slices_IndexFunc_int_int_b_0 (l : List Int) (f : Int) (v : List Int) (v0_0 : Int)  (hi : l.length ≤ 1000000 ∧ 0 ≤ v0_0 ∧ v0_0 ≤ l.length ∧ (0 : Int) + v0_0 = l.length + 1 ∧ ∀ k : Nat, (k : Int) < v0_0 → (v.contains (l.getD k 0)) = false) : False := by
 omega
theorem spec_slices_IndexFunc_int_int_b (l : List Int) (f : Int) (v : List Int) (hp : (l).length ≤ 1000000 ∧ (v).length ≤ 1000000) : vc_slices_IndexFunc_int_int_b (J_slices_IndexFunc_int_int_b l f v) l f v (fun r => LeD r (.t (.c (.v (.int .i64 (idxP (fun n => (v).contains n) l)))))) := by
 unfold vc_slices_IndexFunc_int_int_b
 exact ⟨l.length + 1, 0, rfl, hp.1, by omega, by omega, by omega, fun j hj => by omega⟩
theorem all_slices_IndexFunc_int_int_b (l : List Int) (f : Int) (v : List Int) (hp : (l).length ≤ 1000000 ∧ (v).length ≤ 1000000) : AllG (J_slices_IndexFunc_int_int_b l f v) (loopsFn Tryz.prog tab S44 ann_slices_IndexFunc_int_int_b (J_slices_IndexFunc_int_int_b l f v) Tryz.f160 (fun r => LeD r (.t (.c (.v (.int .i64 (idxP (fun n => (v).contains n) l))))))) := by
 rw [lp_slices_IndexFunc_int_int_b]
 refine ⟨⟨?_, ?_⟩, trivial⟩
 ·intro F s h
  obtain _ | ⟨g, F⟩ := F
  case cons => exact h.elim
  obtain ⟨w0, rfl, hi⟩ := h
  exact zero_slices_IndexFunc_int_int_b_0 l f v w0 hi
 ·intro n F s h
  obtain _ | ⟨g, F⟩ := F
  case cons => exact h.elim
  obtain ⟨w0, rfl, hi⟩ := h
  rw [er_slices_IndexFunc_int_int_b_0]
  exact rnd_slices_IndexFunc_int_int_b_0 l f v _ _ hp hi
def con_slices_IndexFunc_int_int_b : Con := fun args => match args with
 | [.t (.c (.sl 1 n_l c_l)), .t (.fn 122 [.px 2 0 c_pv])] => some (.t (.c (.v (.int .i64 (idxP (fun n => ((listC (cvLen (c_pv 1)) mkInt (cvCells (c_pv 1)))).contains n) (listC n_l mkInt c_l))))), some (numsP 1 n_l c_l ∧ intsB [0] c_pv = true ∧ slP 1 (c_pv 1) ∧ numsP 1 (cvLen (c_pv 1)) (cvCells (c_pv 1)) ∧ ((listC n_l mkInt c_l)).length ≤ 1000000 ∧ ((listC (cvLen (c_pv 1)) mkInt (cvCells (c_pv 1)))).length ≤ 1000000), false)
 | _ => none
theorem ok_slices_IndexFunc_int_int_b : Ok Tryz.prog 160 con_slices_IndexFunc_int_int_b := by
 refine Ok.fn (ann := ann_slices_IndexFunc_int_int_b) mixed tabOK VS44 ValidIt.no (fn := Tryz.f160) (by kernel_rfl) (by kernel_rfl) fit_slices_IndexFunc_int_int_b fun args r pre fresh h hp => ?_
 unfold con_slices_IndexFunc_int_int_b at h
 split at h
 ·rename_i n_l c_l c_pv
  cases h
  obtain ⟨hp0, hp1, hp2, hp3, hp⟩ := hp
  refine ⟨rfl, J_slices_IndexFunc_int_int_b (listC n_l mkInt c_l) (cvInt (c_pv 0)) (listC (cvLen (c_pv 1)) mkInt (cvCells (c_pv 1))), [.t (.c (.sl 1 ((listC n_l mkInt c_l).length) (intsC (listC n_l mkInt c_l)))), .t (.fn 122 [.px 2 0 (boxC [.v (.int .i64 (cvInt (c_pv 0))), .sl 1 ((listC (cvLen (c_pv 1)) mkInt (cvCells (c_pv 1))).length) (intsC (listC (cvLen (c_pv 1)) mkInt (cvCells (c_pv 1))))])])], ?_, Nat.le_of_ble_eq_true (by kernel_rfl), ?_, ?_⟩
  ·exact (LeA_cons (leT_c ((leL_int hp0))) (LeA_cons (leT_f (LeCs.cons (leC_p (LeCs.cons (leC_i (intsB_get hp1 0 (by decide))) (LeCs.cons (leC_s hp2 (leL_int hp3)) LeCs.nil))) LeCs.nil)) LeA_nil))
  ·rw [ev_slices_IndexFunc_int_int_b]; exact spec_slices_IndexFunc_int_int_b (listC n_l mkInt c_l) (cvInt (c_pv 0)) (listC (cvLen (c_pv 1)) mkInt (cvCells (c_pv 1))) hp
  ·exact all_slices_IndexFunc_int_int_b (listC n_l mkInt c_l) (cvInt (c_pv 0)) (listC (cvLen (c_pv 1)) mkInt (cvCells (c_pv 1))) hp
 ·cases h
def S45 : Sum := addF S44 160 con_slices_IndexFunc_int_int_b
theorem VS45 : Valid Tryz.prog S45 := Valid.addF VS44 ok_slices_IndexFunc_int_int_b
def vc_slices_ContainsFunc_int_int_b (l : List Int) (f : Int) (v : List Int) (post : DV → Prop) : Prop := (numsP 1 l.length (intsC l) ∧ intsB [0] (boxC [.v (.int .i64 f), .sl 1 v.length (intsC v)]) = true ∧ slP 1 ((boxC [.v (.int .i64 f), .sl 1 v.length (intsC v)]) 1) ∧ numsP 1 v.length (intsC v) ∧ ((listC l.length mkInt (intsC l))).length ≤ 1000000 ∧ ((listC v.length mkInt (intsC v))).length ≤ 1000000) ∧ (post (.t (.c (.v (.bool (decide ((idxP (fun n => ((listC v.length mkInt (intsC v))).contains n) (listC l.length mkInt (intsC l))) ≥ (0 : Int))))))))
def ann_slices_ContainsFunc_int_int_b : Ann := ⟨fun _ => none, fun _ => none, fun _ => [], noIt, false, fun _ => none, fun _ => none⟩
theorem ev_slices_ContainsFunc_int_int_b (J : Inv) (l : List Int) (f : Int) (v : List Int) (post : DV → Prop) : evFn Tryz.prog tab S45 ann_slices_ContainsFunc_int_int_b J Tryz.f121 [.t (.c (.sl 1 l.length (intsC l))), .t (.fn 122 [.px 2 0 (boxC [.v (.int .i64 f), .sl 1 v.length (intsC v)])])] post = vc_slices_ContainsFunc_int_int_b l f v post := by kernel_rfl
theorem fit_slices_ContainsFunc_int_int_b : okFn ann_slices_ContainsFunc_int_int_b Tryz.f121 = true := by kernel_rfl
theorem lp_slices_ContainsFunc_int_int_b (J : Inv) (post : DV → Prop) : AllG J (loopsFn Tryz.prog tab S45 ann_slices_ContainsFunc_int_int_b J Tryz.f121 post) = (True) := by kernel_rfl
theorem spec_slices_ContainsFunc_int_int_b (l : List Int) (f : Int) (v : List Int) (hp : (l).length ≤ 1000000 ∧ (v).length ≤ 1000000) : vc_slices_ContainsFunc_int_int_b l f v (fun r => LeD r (.t (.c (.v (.bool ((l).any fun n => (v).contains n)))))) := by
 unfold vc_slices_ContainsFunc_int_int_b
 rw [ints_listC, ints_listC]
 refine ⟨⟨numsP_ints l, rfl, rfl, numsP_ints v, hp⟩, leB ?_⟩
 rw [idxP_any]
def con_slices_ContainsFunc_int_int_b : Con := fun args => match args with
 | [.t (.c (.sl 1 n_l c_l)), .t (.fn 122 [.px 2 0 c_pv])] => some (.t (.c (.v (.bool (((listC n_l mkInt c_l)).any fun n => ((listC (cvLen (c_pv 1)) mkInt (cvCells (c_pv 1)))).contains n)))), some (numsP 1 n_l c_l ∧ intsB [0] c_pv = true ∧ slP 1 (c_pv 1) ∧ numsP 1 (cvLen (c_pv 1)) (cvCells (c_pv 1)) ∧ ((listC n_l mkInt c_l)).length ≤ 1000000 ∧ ((listC (cvLen (c_pv 1)) mkInt (cvCells (c_pv 1)))).length ≤ 1000000), false)
 | _ => none
theorem ok_slices_ContainsFunc_int_int_b : Ok Tryz.prog 121 con_slices_ContainsFunc_int_int_b := by
 refine Ok.fn (ann := ann_slices_ContainsFunc_int_int_b) mixed tabOK VS45 ValidIt.no (fn := Tryz.f121) (by kernel_rfl) (by kernel_rfl) fit_slices_ContainsFunc_int_int_b fun args r pre fresh h hp => ?_
 unfold con_slices_ContainsFunc_int_int_b at h
 split at h
 ·rename_i n_l c_l c_pv
  cases h
  obtain ⟨hp0, hp1, hp2, hp3, hp⟩ := hp
  refine ⟨rfl, fun _ _ _ => False, [.t (.c (.sl 1 ((listC n_l mkInt c_l).length) (intsC (listC n_l mkInt c_l)))), .t (.fn 122 [.px 2 0 (boxC [.v (.int .i64 (cvInt (c_pv 0))), .sl 1 ((listC (cvLen (c_pv 1)) mkInt (cvCells (c_pv 1))).length) (intsC (listC (cvLen (c_pv 1)) mkInt (cvCells (c_pv 1))))])])], ?_, Nat.le_of_ble_eq_true (by kernel_rfl), ?_, ?_⟩
  ·exact (LeA_cons (leT_c ((leL_int hp0))) (LeA_cons (leT_f (LeCs.cons (leC_p (LeCs.cons (leC_i (intsB_get hp1 0 (by decide))) (LeCs.cons (leC_s hp2 (leL_int hp3)) LeCs.nil))) LeCs.nil)) LeA_nil))
  ·rw [ev_slices_ContainsFunc_int_int_b]; exact spec_slices_ContainsFunc_int_int_b (listC n_l mkInt c_l) (cvInt (c_pv 0)) (listC (cvLen (c_pv 1)) mkInt (cvCells (c_pv 1))) hp
  ·rw [lp_slices_ContainsFunc_int_int_b]; trivial
 ·cases h
def S46 : Sum := addF S45 121 con_slices_ContainsFunc_int_int_b
theorem VS46 : Valid Tryz.prog S46 := Valid.addF VS45 ok_slices_ContainsFunc_int_int_b
def vc_flash_passes (s : List Int) (w : Int) (f : Int) (v : List Int) (post : DV → Prop) : Prop := lt ((if f < ((s.length : Nat) : Int) then f else ((s.length : Nat) : Int))) fun x1 => (0 ≤ (0 : Int) ∧ (0 : Int) ≤ x1 ∧ x1 ≤ ((s.length : Nat) : Int)) ∧ ((numsP 1 ((x1 - (0 : Int)).toNat) (fun i j => (intsC s) (((0 : Int)).toNat + i) j) ∧ intsB [0] (boxC [.v (.int .i64 f), .sl 1 v.length (intsC v)]) = true ∧ slP 1 ((boxC [.v (.int .i64 f), .sl 1 v.length (intsC v)]) 1) ∧ numsP 1 v.length (intsC v) ∧ ((listC ((x1 - (0 : Int)).toNat) mkInt (fun i j => (intsC s) (((0 : Int)).toNat + i) j))).length ≤ 1000000 ∧ ((listC v.length mkInt (intsC v))).length ≤ 1000000) ∧ (post (.t (.c (.v (.bool (!(((listC ((x1 - (0 : Int)).toNat) mkInt (fun i j => (intsC s) (((0 : Int)).toNat + i) j))).any fun n => ((listC v.length mkInt (intsC v))).contains n))))))))
def ann_flash_passes : Ann := ⟨fun _ => none, fun _ => none, fun _ => [], noIt, false, fun _ => none, fun _ => none⟩
theorem ev_flash_passes (J : Inv) (s : List Int) (w : Int) (f : Int) (v : List Int) (post : DV → Prop) : evFn Tryz.prog tab S46 ann_flash_passes J Tryz.f69 [.t (.a [.sl 1 s.length (intsC s), .v (.int .i64 w)]), .t (.a [.v (.int .i64 f), .sl 1 v.length (intsC v)])] post = vc_flash_passes s w f v post := by kernel_rfl
theorem fit_flash_passes : okFn ann_flash_passes Tryz.f69 = true := by kernel_rfl
theorem lp_flash_passes (J : Inv) (post : DV → Prop) : AllG J (loopsFn Tryz.prog tab S46 ann_flash_passes J Tryz.f69 post) = (True) := by kernel_rfl
theorem spec_flash_passes (s : List Int) (w : Int) (f : Int) (v : List Int) (hp : 0 ≤ f ∧ (s).length ≤ 1000000 ∧ (v).length ≤ 1000000) : vc_flash_passes s w f v (fun r => LeD r (.t (.c (.v (.bool (passB f v ⟨s, w⟩)))))) := by
 unfold vc_flash_passes
 refine lt_i fun x1 h1 => ?_
 rw [mn_if] at h1
 have h0 := hp.1
 have e1 : (x1 - (0 : Int)).toNat ≤ s.length := by omega
 refine ⟨by omega, ⟨fun i j hi hj => numsP_ints s _ j (by rw [show ((0 : Int)).toNat + i = i by simp]; omega) hj, rfl, rfl, numsP_ints v, by rw [listC_len]; omega, by rw [ints_listC]; exact hp.2.2⟩, leB ?_⟩
 rw [ints_listC, ints_take e1, List.not_any_eq_all_not]
 unfold passB
 simp only
 congr 1
 rcases (by omega : x1 = f ∨ (x1 = s.length ∧ s.length ≤ f)) with e | ⟨e, e2⟩
 ·rw [e, Int.sub_zero]
 ·rw [List.take_of_length_le (by omega), List.take_of_length_le (by omega)]
def con_flash_passes : Con := fun args => match args with
 | [.t (.a [.sl 1 n_s c_s, .v (.int .i64 w)]), .t (.a [.v (.int .i64 f), .sl 1 n_v c_v])] => some (.t (.c (.v (.bool (passB f (listC n_v mkInt c_v) ⟨(listC n_s mkInt c_s), w⟩)))), some (numsP 1 n_s c_s ∧ numsP 1 n_v c_v ∧ 0 ≤ f ∧ ((listC n_s mkInt c_s)).length ≤ 1000000 ∧ ((listC n_v mkInt c_v)).length ≤ 1000000), false)
 | _ => none
theorem ok_flash_passes : Ok Tryz.prog 69 con_flash_passes := by
 refine Ok.fn (ann := ann_flash_passes) mixed tabOK VS46 ValidIt.no (fn := Tryz.f69) (by kernel_rfl) (by kernel_rfl) fit_flash_passes fun args r pre fresh h hp => ?_
 unfold con_flash_passes at h
 split at h
 ·rename_i n_s c_s w f n_v c_v
  cases h
  obtain ⟨hp0, hp1, hp⟩ := hp
  refine ⟨rfl, fun _ _ _ => False, [.t (.a [.sl 1 ((listC n_s mkInt c_s).length) (intsC (listC n_s mkInt c_s)), .v (.int .i64 w)]), .t (.a [.v (.int .i64 f), .sl 1 ((listC n_v mkInt c_v).length) (intsC (listC n_v mkInt c_v))])], ?_, Nat.le_of_ble_eq_true (by kernel_rfl), ?_, ?_⟩
  ·exact (LeA_cons (leT_a (LeCs.cons ((leL_int hp0)) (LeCs.cons (LeC1.refl _) LeCs.nil))) (LeA_cons (leT_a (LeCs.cons (LeC1.refl _) (LeCs.cons ((leL_int hp1)) LeCs.nil))) LeA_nil))
  ·rw [ev_flash_passes]; exact spec_flash_passes (listC n_s mkInt c_s) w f (listC n_v mkInt c_v) hp
  ·rw [lp_flash_passes]; trivial
 ·cases h
def S47 : Sum := addS S46 69 con_flash_passes
theorem VS47 : Valid Tryz.prog S47 := Valid.add VS46 ok_flash_passes
def mk_flash_weights_0 (m : List Muon) (f : Int) (v : List Int) (v0_0 : Int) (v0_1 : Int) (v0_2 : Int) (v0_3 : Int) : DS := ⟨[none, none, none, some (.t (.c (.p 3 0))), some (.t (.c (.v (.int .i64 v0_1)))), some (.t (.c (.v (.int .i64 v0_2)))), some (.t (.c (.v (.int .i64 v0_3)))), none, none, some (.t (.c (.sl 2 m.length (musC m)))), some (.t (.c (.v (.int .i64 ((m.length : Nat) : Int))))), some (.t (.c (.v (.int .i64 v0_0)))), none, none, none, none, none, none, none, none, none, none, none, none, none, none, none, none, none, none, none, none, none, none, none, none, none], [none, none, none, some (.box 25 [.v (.int .i64 f), .sl 1 v.length (intsC v)]), none, none, none, none, none, none, none, none, none, none, none, none, none, none, none, none, none, none, none, none, none, none, none, none, none, none, none, none, none, none, none, none, none]⟩
def vc_flash_weights (J : Inv) (m : List Muon) (f : Int) (v : List Int) (post : DV → Prop) : Prop := ∃ n, J 0 (n :: []) (mk_flash_weights_0 m f v 0 0 0 0)
def ann_flash_weights : Ann := ⟨fun r => lookA r [(6, ([[], [], [1], [0, 1, 2], [], [], [5], [], [7], [5, 6, 7, 8], [4, 5, 6, 7, 8, 9], [0, 1, 2, 3], [0, 1, 2, 3, 4, 5, 6, 7, 8, 9, 10, 11]], [[], [], [], [], [], [], [], [], [], [], [], [], []]))], fun b => lookA b [(0, (none, some ⟨[3, 4, 5, 6, 9, 10, 11], [3], []⟩))], fun _ => [], noIt, false, fun _ => none, fun r => lookA r [(6, [4, 5])]⟩
theorem ev_flash_weights (J : Inv) (m : List Muon) (f : Int) (v : List Int) (post : DV → Prop) : evFn Tryz.prog tab S47 ann_flash_weights J Tryz.f70 [.t (.c (.sl 2 m.length (musC m))), .t (.a [.v (.int .i64 f), .sl 1 v.length (intsC v)])] post = vc_flash_weights J m f v post := by kernel_rfl
theorem fit_flash_weights : okFn ann_flash_weights Tryz.f70 = true := by kernel_rfl
def rd_flash_weights_0 (J : Inv) (m : List Muon) (f : Int) (v : List Int) (v0_0 : Int) (v0_1 : Int) (v0_2 : Int) (v0_3 : Int) (nn0 : Nat) (post : DV → Prop) : Prop := cond (decide (v0_0 < ((m.length : Nat) : Int))) ((0 ≤ v0_0 ∧ v0_0 < ((m.length : Nat) : Int)) ∧ (lt (IntKind.i64.wrap (v0_3 + ((muAt m v0_0.toNat).w))) fun x1 => (numsP 1 ((muAt m v0_0.toNat).s.length) (intsC (muAt m v0_0.toNat).s) ∧ numsP 1 v.length (intsC v) ∧ 0 ≤ f ∧ ((listC ((muAt m v0_0.toNat).s.length) mkInt (intsC (muAt m v0_0.toNat).s))).length ≤ 1000000 ∧ ((listC v.length mkInt (intsC v))).length ≤ 1000000) ∧ ((cond (passB f (listC v.length mkInt (intsC v)) ⟨(listC ((muAt m v0_0.toNat).s.length) mkInt (intsC (muAt m v0_0.toNat).s)), ((muAt m v0_0.toNat).w)⟩) (lt (IntKind.i64.wrap (v0_1 + ((muAt m v0_0.toNat).w))) fun x5 => lt (IntKind.i64.wrap (((muAt m v0_0.toNat).w) * ((muAt m v0_0.toNat).w))) fun x6 => lt (IntKind.i64.wrap (v0_2 + x6)) fun x7 => True) (True)) ∧ (lt ((bif passB f (listC v.length mkInt (intsC v)) ⟨(listC ((muAt m v0_0.toNat).s.length) mkInt (intsC (muAt m v0_0.toNat).s)), ((muAt m v0_0.toNat).w)⟩ then (IntKind.i64.wrap (v0_1 + ((muAt m v0_0.toNat).w))) else v0_1)) fun x8 => lt ((bif passB f (listC v.length mkInt (intsC v)) ⟨(listC ((muAt m v0_0.toNat).s.length) mkInt (intsC (muAt m v0_0.toNat).s)), ((muAt m v0_0.toNat).w)⟩ then (IntKind.i64.wrap (v0_2 + (IntKind.i64.wrap (((muAt m v0_0.toNat).w) * ((muAt m v0_0.toNat).w))))) else v0_2)) fun x9 => lt (IntKind.i64.wrap (v0_0 + (1 : Int))) fun x10 => J 0 (nn0 :: []) (mk_flash_weights_0 m f v x10 x8 x9 x1))))) (post (.tu [.c (.v (.int .i64 v0_1)), .c (.v (.int .i64 v0_2)), .c (.v (.int .i64 v0_3))]))
theorem er_flash_weights_0 (J : Inv) (m : List Muon) (f : Int) (v : List Int) (v0_0 : Int) (v0_1 : Int) (v0_2 : Int) (v0_3 : Int) (nn0 : Nat) (post : DV → Prop) : round Tryz.prog tab S47 ann_flash_weights J Tryz.f70 post 0 (nn0 :: []) (mk_flash_weights_0 m f v v0_0 v0_1 v0_2 v0_3) = rd_flash_weights_0 J m f v v0_0 v0_1 v0_2 v0_3 nn0 post := by kernel_rfl
theorem lp_flash_weights (J : Inv) (post : DV → Prop) : AllG J (loopsFn Tryz.prog tab S47 ann_flash_weights J Tryz.f70 post) = (((∀ F s, ¬ J 0 (0 :: F) s) ∧ ∀ n F s, J 0 ((n + 1) :: F) s → round Tryz.prog tab S47 ann_flash_weights J Tryz.f70 post 0 (n :: F) s) ∧ True) := by kernel_rfl
def J_flash_weights (m : List Muon) (f : Int) (v : List Int) : Inv := fun b F s => match b, F with
 | 0, [nn0] => ∃ (v0_0 : Int) (v0_1 : Int) (v0_2 : Int) (v0_3 : Int), s = mk_flash_weights_0 m f v v0_0 v0_1 v0_2 v0_3 ∧ ((musE m = 0 ∧ vetE f v = 0) ∧ 0 ≤ v0_0 ∧ v0_0 ≤ m.length ∧ (nn0 : Int) + v0_0 = m.length + 1 ∧ v0_1 = sumW (passL f v (m.take v0_0.toNat)) ∧ v0_2 = sumQ (passL f v (m.take v0_0.toNat)) ∧ v0_3 = sumW (m.take v0_0.toNat))
 | _, _ => False
theorem rnd_flash_weights_0 (m : List Muon) (f : Int) (v : List Int) (v0_0 : Int) (v0_1 : Int) (v0_2 : Int) (v0_3 : Int) (nn0 : Nat) (hp : musE m = 0 ∧ vetE f v = 0) (hi : (musE m = 0 ∧ vetE f v = 0) ∧ 0 ≤ v0_0 ∧ v0_0 ≤ m.length ∧ ((nn0 + 1) : Int) + v0_0 = m.length + 1 ∧ v0_1 = sumW (passL f v (m.take v0_0.toNat)) ∧ v0_2 = sumQ (passL f v (m.take v0_0.toNat)) ∧ v0_3 = sumW (m.take v0_0.toNat)) : rd_flash_weights_0 (J_flash_weights m f v) m f v v0_0 v0_1 v0_2 v0_3 nn0 (fun r => LeD r (.tu [.c (.v (.int .i64 (sumW (passL f v m)))), .c (.v (.int .i64 (sumQ (passL f v m)))), .c (.v (.int .i64 (sumW m)))])) := by
 obtain ⟨⟨q1, q2⟩, i1, i2, i3, i4, i5, i6⟩ := hi
 obtain ⟨k, rfl⟩ : ∃ k : Nat, v0_0 = k := ⟨v0_0.toNat, by omega⟩
 have hk : (k : Int).toNat = k := rfl
 rw [hk] at i4 i5 i6
 obtain ⟨⟨z1, z2⟩, z3⟩ := mus_ok q1
 obtain ⟨f1, f2, _⟩ := vet_ok q2
 have ht : ∀ x ∈ m.take k, 1 ≤ x.w ∧ x.w ≤ 100 := fun x hx => (mus_mem q1 x (List.mem_of_mem_take hx)).1
 have r1 := sums_rg (m.take k) ht
 have r2 := sums_rg (passL f v (m.take k)) fun x hx => ht x (List.mem_filter.1 hx).1
 have r3 := List.length_filter_le (passB f v) (m.take k)
 have r4 := List.length_take_le k m
 rw [show (m.take k).filter (passB f v) = passL f v (m.take k) from rfl] at r3
 unfold rd_flash_weights_0
 rw [hk]
 refine cond_i (fun h => ?_) (fun h => ?_)
 ·have hlt : k < m.length := by have := of_decide_eq_true h; omega
  obtain ⟨w1, w2, _⟩ := mu_ok (z3 k hlt)
  have w3 := sq_rg (d := (muAt m k).w) (K := 100) (by omega)
  have eW : sumW (m.take (k + 1)) = sumW (m.take k) + (muAt m k).w := by rw [muAt_take hlt, sumW_app]; simp [sumW]
  have eP : passL f v (m.take (k + 1)) = passL f v (m.take k) ++ (if passB f v (muAt m k) = true then [muAt m k] else []) := by
   unfold passL
   rw [muAt_take hlt, List.filter_append, List.filter_cons]; rfl
  rw [ints_listC, ints_listC]
  have eM : (⟨(muAt m k).s, (muAt m k).w⟩ : Muon) = muAt m k := rfl
  rw [eM]
  refine ⟨by omega, lt_i fun x1 h1 => ⟨⟨numsP_ints _, numsP_ints _, by omega, by omega, by omega⟩, cond_i (fun _ => lt_i fun _ _ => lt_i fun _ _ => lt_i fun _ _ => trivial) (fun _ => trivial), lt_i fun x8 h8 => lt_i fun x9 h9 => lt_i fun x hx => ?_⟩⟩
  rw [wi (by omega)] at h1 hx h8
  rw [show IntKind.i64.wrap ((muAt m k).w * (muAt m k).w) = (muAt m k).w * (muAt m k).w from wi (by omega), wi (by omega)] at h9
  subst hx
  refine ⟨_, _, _, _, rfl, ⟨q1, q2⟩, by omega, by omega, by omega, ?_, ?_, ?_⟩
  ·rw [show ((k : Int) + 1).toNat = k + 1 by omega, eP, sumW_app, ← h8, i4]
   cases passB f v (muAt m k) <;> simp [sumW]
  ·rw [show ((k : Int) + 1).toNat = k + 1 by omega, eP, sumQ_app, ← h9, i5]
   cases passB f v (muAt m k) <;> simp [sumQ]
  ·rw [show ((k : Int) + 1).toNat = k + 1 by omega, eW, ← h1, i6]
 ·have hge : k = m.length := by have := of_decide_eq_false h; omega
  rw [hge, List.take_length] at i4 i5 i6
  rw [i4, i5, i6]
  exact LeD.refl _
theorem zero_flash_weights_0 (m : List Muon) (f : Int) (v : List Int) (v0_0 : Int) (v0_1 : Int) (v0_2 : Int) (v0_3 : Int)  (hi : (musE m = 0 ∧ vetE f v = 0) ∧ 0 ≤ v0_0 ∧ v0_0 ≤ m.length ∧ (0 : Int) + v0_0 = m.length + 1 ∧ v0_1 = sumW (passL f v (m.take v0_0.toNat)) ∧ v0_2 = sumQ (passL f v (m.take v0_0.toNat)) ∧ v0_3 = sumW (m.take v0_0.toNat)) : False := by
 omega
theorem spec_flash_weights (m : List Muon) (f : Int) (v : List Int) (hp : musE m = 0 ∧ vetE f v = 0) : vc_flash_weights (J_flash_weights m f v) m f v (fun r => LeD r (.tu [.c (.v (.int .i64 (sumW (passL f v m)))), .c (.v (.int .i64 (sumQ (passL f v m)))), .c (.v (.int .i64 (sumW m)))])) := by
 unfold vc_flash_weights
 exact ⟨m.length + 1, 0, 0, 0, 0, rfl, hp, by omega, by omega, by omega, rfl, rfl, rfl⟩
theorem all_flash_weights (m : List Muon) (f : Int) (v : List Int) (hp : musE m = 0 ∧ vetE f v = 0) : AllG (J_flash_weights m f v) (loopsFn Tryz.prog tab S47 ann_flash_weights (J_flash_weights m f v) Tryz.f70 (fun r => LeD r (.tu [.c (.v (.int .i64 (sumW (passL f v m)))), .c (.v (.int .i64 (sumQ (passL f v m)))), .c (.v (.int .i64 (sumW m)))]))) := by
 rw [lp_flash_weights]
 refine ⟨⟨?_, ?_⟩, trivial⟩
 ·intro F s h
  obtain _ | ⟨g, F⟩ := F
  case cons => exact h.elim
  obtain ⟨w0, w1, w2, w3, rfl, hi⟩ := h
  exact zero_flash_weights_0 m f v w0 w1 w2 w3 hi
 ·intro n F s h
  obtain _ | ⟨g, F⟩ := F
  case cons => exact h.elim
  obtain ⟨w0, w1, w2, w3, rfl, hi⟩ := h
  rw [er_flash_weights_0]
  exact rnd_flash_weights_0 m f v _ _ _ _ _ hp hi
def con_flash_weights : Con := fun args => match args with
 | [.t (.c (.sl 2 n_m c_m)), .t (.a [.v (.int .i64 f), .sl 1 n_v c_v])] => some (.tu [.c (.v (.int .i64 (sumW (passL f (listC n_v mkInt c_v) (muOf n_m c_m))))), .c (.v (.int .i64 (sumQ (passL f (listC n_v mkInt c_v) (muOf n_m c_m))))), .c (.v (.int .i64 (sumW (muOf n_m c_m))))], some (muP n_m c_m ∧ numsP 1 n_v c_v ∧ musE (muOf n_m c_m) = 0 ∧ vetE f (listC n_v mkInt c_v) = 0), false)
 | _ => none
theorem ok_flash_weights : Ok Tryz.prog 70 con_flash_weights := by
 refine Ok.fn (ann := ann_flash_weights) mixed tabOK VS47 ValidIt.no (fn := Tryz.f70) (by kernel_rfl) (by kernel_rfl) fit_flash_weights fun args r pre fresh h hp => ?_
 unfold con_flash_weights at h
 split at h
 ·rename_i n_m c_m f n_v c_v
  cases h
  obtain ⟨hp0, hp1, hp⟩ := hp
  refine ⟨rfl, J_flash_weights (muOf n_m c_m) f (listC n_v mkInt c_v), [.t (.c (.sl 2 ((muOf n_m c_m).length) (musC (muOf n_m c_m)))), .t (.a [.v (.int .i64 f), .sl 1 ((listC n_v mkInt c_v).length) (intsC (listC n_v mkInt c_v))])], ?_, Nat.le_of_ble_eq_true (by kernel_rfl), ?_, ?_⟩
  ·exact (LeA_cons (leT_c ((leL_Muon hp0))) (LeA_cons (leT_a (LeCs.cons (LeC1.refl _) (LeCs.cons ((leL_int hp1)) LeCs.nil))) LeA_nil))
  ·rw [ev_flash_weights]; exact spec_flash_weights (muOf n_m c_m) f (listC n_v mkInt c_v) hp
  ·exact all_flash_weights (muOf n_m c_m) f (listC n_v mkInt c_v) hp
 ·cases h
def S48 : Sum := addS S47 70 con_flash_weights
theorem VS48 : Valid Tryz.prog S48 := Valid.add VS47 ok_flash_weights
def mk_flash_divisor_0 (a : Int) (c : Int) (v0_0 : Int) (v0_1 : Int) : DS := ⟨[some (.t (.c (.v (.int .i64 v0_0)))), some (.t (.c (.v (.int .i64 v0_1)))), none, none, none, none, none, none, none, none, none, none, none, none, none], [none, none, none, none, none, none, none, none, none, none, none, none, none, none, none]⟩
def vc_flash_divisor (J : Inv) (a : Int) (c : Int) (post : DV → Prop) : Prop := ∃ n, J 0 (n :: []) (mk_flash_divisor_0 a c a c)
def ann_flash_divisor : Ann := ⟨fun r => lookA r [(2, ([[], [], [], [1, 2], [0, 1], [0, 1, 2, 3, 4]], [[], [], [], [], [], []]))], fun b => lookA b [(0, (none, some ⟨[0, 1], [], []⟩))], fun _ => [], noIt, false, fun _ => none, fun _ => none⟩
theorem ev_flash_divisor (J : Inv) (a : Int) (c : Int) (post : DV → Prop) : evFn Tryz.prog tab S48 ann_flash_divisor J Tryz.f81 [.t (.c (.v (.int .i64 a))), .t (.c (.v (.int .i64 c)))] post = vc_flash_divisor J a c post := by kernel_rfl
theorem fit_flash_divisor : okFn ann_flash_divisor Tryz.f81 = true := by kernel_rfl
def rd_flash_divisor_0 (J : Inv) (a : Int) (c : Int) (v0_0 : Int) (v0_1 : Int) (nn0 : Nat) (post : DV → Prop) : Prop := cond (v0_1 != (0 : Int)) (lt (Int.tmod v0_0 v0_1) fun x1 => (IntKind.i64 = IntKind.i64 ∧ v0_1 ≠ 0) ∧ (J 0 (nn0 :: []) (mk_flash_divisor_0 a c v0_1 x1))) (lt (IntKind.i64.wrap ((0 : Int) - v0_0)) fun x2 => lt ((if x2 > v0_0 then x2 else v0_0)) fun x3 => post (.t (.c (.v (.int .i64 x3)))))
theorem er_flash_divisor_0 (J : Inv) (a : Int) (c : Int) (v0_0 : Int) (v0_1 : Int) (nn0 : Nat) (post : DV → Prop) : round Tryz.prog tab S48 ann_flash_divisor J Tryz.f81 post 0 (nn0 :: []) (mk_flash_divisor_0 a c v0_0 v0_1) = rd_flash_divisor_0 J a c v0_0 v0_1 nn0 post := by kernel_rfl
theorem lp_flash_divisor (J : Inv) (post : DV → Prop) : AllG J (loopsFn Tryz.prog tab S48 ann_flash_divisor J Tryz.f81 post) = (((∀ F s, ¬ J 0 (0 :: F) s) ∧ ∀ n F s, J 0 ((n + 1) :: F) s → round Tryz.prog tab S48 ann_flash_divisor J Tryz.f81 post 0 (n :: F) s) ∧ True) := by kernel_rfl
def J_flash_divisor (a : Int) (c : Int) : Inv := fun b F s => match b, F with
 | 0, [nn0] => ∃ (v0_0 : Int) (v0_1 : Int), s = mk_flash_divisor_0 a c v0_0 v0_1 ∧ (gcd2 v0_0 v0_1 = gcd2 a c ∧ v0_1.natAbs < nn0 ∧ (-9223372036854775808 ≤ v0_0 ∧ v0_0 ≤ 9223372036854775807) ∧ (-9223372036854775807 ≤ v0_1 ∧ v0_1 ≤ 9223372036854775807) ∧ (v0_1 ≠ 0 ∨ -9223372036854775807 ≤ v0_0))
 | _, _ => False
theorem rnd_flash_divisor_0 (a : Int) (c : Int) (v0_0 : Int) (v0_1 : Int) (nn0 : Nat) (hp : (-9223372036854775808 ≤ a ∧ a ≤ 9223372036854775807) ∧ (-9223372036854775807 ≤ c ∧ c ≤ 9223372036854775807) ∧ (c ≠ 0 ∨ -9223372036854775807 ≤ a)) (hi : gcd2 v0_0 v0_1 = gcd2 a c ∧ v0_1.natAbs < (nn0 + 1) ∧ (-9223372036854775808 ≤ v0_0 ∧ v0_0 ≤ 9223372036854775807) ∧ (-9223372036854775807 ≤ v0_1 ∧ v0_1 ≤ 9223372036854775807) ∧ (v0_1 ≠ 0 ∨ -9223372036854775807 ≤ v0_0)) : rd_flash_divisor_0 (J_flash_divisor a c) a c v0_0 v0_1 nn0 (fun r => LeD r (.t (.c (.v (.int .i64 (gcd2 a c)))))) := by
 obtain ⟨i1, i2, i3, i4, i5⟩ := hi
 unfold rd_flash_divisor_0
 refine cond_i (fun h => lt_i fun x1 h1 => ?_) (fun h => lt_i fun x2 h2 => lt_i fun x3 h3 => leI ?_)
 ·have h : v0_1 ≠ 0 := by simpa using h
  have e := Int.natAbs_tmod v0_0 v0_1
  rw [h1] at e
  have e2 := Nat.mod_lt v0_0.natAbs (show 0 < v0_1.natAbs by omega)
  refine ⟨⟨rfl, h⟩, v0_1, x1, rfl, ?_, by omega, by omega, by omega, by omega⟩
  rw [← h1, gcd2_step, i1]
 ·have h : v0_1 = 0 := by simpa using h
  subst h
  have : gcd2 v0_0 0 = (v0_0.natAbs : Int) := by unfold gcd2; rw [Int.gcd_zero_right]
  rw [this] at i1
  rw [IntWalk.i64_in _ (by omega)] at h2
  rw [mx_if] at h3
  omega
theorem zero_flash_divisor_0 (a : Int) (c : Int) (v0_0 : Int) (v0_1 : Int)  (hi : gcd2 v0_0 v0_1 = gcd2 a c ∧ v0_1.natAbs < 0 ∧ (-9223372036854775808 ≤ v0_0 ∧ v0_0 ≤ 9223372036854775807) ∧ (-9223372036854775807 ≤ v0_1 ∧ v0_1 ≤ 9223372036854775807) ∧ (v0_1 ≠ 0 ∨ -9223372036854775807 ≤ v0_0)) : False := by
 omega
theorem spec_flash_divisor (a : Int) (c : Int) (hp : (-9223372036854775808 ≤ a ∧ a ≤ 9223372036854775807) ∧ (-9223372036854775807 ≤ c ∧ c ≤ 9223372036854775807) ∧ (c ≠ 0 ∨ -9223372036854775807 ≤ a)) : vc_flash_divisor (J_flash_divisor a c) a c (fun r => LeD r (.t (.c (.v (.int .i64 (gcd2 a c)))))) := by
 unfold vc_flash_divisor
 exact ⟨c.natAbs + 1, a, c, rfl, rfl, by omega, hp⟩
theorem all_flash_divisor (a : Int) (c : Int) (hp : (-9223372036854775808 ≤ a ∧ a ≤ 9223372036854775807) ∧ (-9223372036854775807 ≤ c ∧ c ≤ 9223372036854775807) ∧ (c ≠ 0 ∨ -9223372036854775807 ≤ a)) : AllG (J_flash_divisor a c) (loopsFn Tryz.prog tab S48 ann_flash_divisor (J_flash_divisor a c) Tryz.f81 (fun r => LeD r (.t (.c (.v (.int .i64 (gcd2 a c))))))) := by
 rw [lp_flash_divisor]
 refine ⟨⟨?_, ?_⟩, trivial⟩
 ·intro F s h
  obtain _ | ⟨g, F⟩ := F
  case cons => exact h.elim
  obtain ⟨w0, w1, rfl, hi⟩ := h
  exact zero_flash_divisor_0 a c w0 w1 hi
 ·intro n F s h
  obtain _ | ⟨g, F⟩ := F
  case cons => exact h.elim
  obtain ⟨w0, w1, rfl, hi⟩ := h
  rw [er_flash_divisor_0]
  exact rnd_flash_divisor_0 a c _ _ _ hp hi
def con_flash_divisor : Con := fun args => match args with
 | [.t (.c (.v (.int .i64 a))), .t (.c (.v (.int .i64 c)))] => some (.t (.c (.v (.int .i64 (gcd2 a c)))), some ((-9223372036854775808 ≤ a ∧ a ≤ 9223372036854775807) ∧ (-9223372036854775807 ≤ c ∧ c ≤ 9223372036854775807) ∧ (c ≠ 0 ∨ -9223372036854775807 ≤ a)), false)
 | _ => none
theorem ok_flash_divisor : Ok Tryz.prog 81 con_flash_divisor := by
 refine Ok.fn (ann := ann_flash_divisor) mixed tabOK VS48 ValidIt.no (fn := Tryz.f81) (by kernel_rfl) (by kernel_rfl) fit_flash_divisor fun args r pre fresh h hp => ?_
 unfold con_flash_divisor at h
 split at h
 ·rename_i a c
  cases h
  refine ⟨rfl, J_flash_divisor a c, _, LeA.refl _, Nat.le_of_ble_eq_true (by kernel_rfl), ?_, ?_⟩
  ·rw [ev_flash_divisor]; exact spec_flash_divisor a c hp
  ·exact all_flash_divisor a c hp
 ·cases h
def S49 : Sum := addS S48 81 con_flash_divisor
theorem VS49 : Valid Tryz.prog S49 := Valid.add VS48 ok_flash_divisor
def vc_flash_lowest (a : Int) (c : Int) (post : DV → Prop) : Prop := ((-9223372036854775808 ≤ a ∧ a ≤ 9223372036854775807) ∧ (-9223372036854775807 ≤ c ∧ c ≤ 9223372036854775807) ∧ (c ≠ 0 ∨ -9223372036854775807 ≤ a)) ∧ (lt (IntKind.i64.wrap (Int.tdiv a (gcd2 a c))) fun x1 => (IntKind.i64 = IntKind.i64 ∧ (gcd2 a c) ≠ 0) ∧ (lt (IntKind.i64.wrap (Int.tdiv c (gcd2 a c))) fun x2 => (IntKind.i64 = IntKind.i64 ∧ (gcd2 a c) ≠ 0) ∧ (post (.t (.a [.v (.int .i64 x1), .v (.int .i64 x2)])))))
def ann_flash_lowest : Ann := ⟨fun r => lookA r [(2, ([[], [], [0, 1], [], [], [3, 4], [0, 1, 2, 3, 4, 5], [0, 1, 2, 3, 4, 5, 6]], [[], [], [], [], [], [], [], []]))], fun _ => none, fun _ => [], noIt, false, fun _ => none, fun _ => none⟩
theorem ev_flash_lowest (J : Inv) (a : Int) (c : Int) (post : DV → Prop) : evFn Tryz.prog tab S49 ann_flash_lowest J Tryz.f71 [.t (.c (.v (.int .i64 a))), .t (.c (.v (.int .i64 c)))] post = vc_flash_lowest a c post := by kernel_rfl
theorem fit_flash_lowest : okFn ann_flash_lowest Tryz.f71 = true := by kernel_rfl
theorem lp_flash_lowest (J : Inv) (post : DV → Prop) : AllG J (loopsFn Tryz.prog tab S49 ann_flash_lowest J Tryz.f71 post) = (True) := by kernel_rfl
theorem spec_flash_lowest (a : Int) (c : Int) (hp : 0 ≤ a ∧ a ≤ 1000000000000 ∧ 0 < c ∧ c ≤ 1000000000000) : vc_flash_lowest a c (fun r => LeD r (.t (.a [.v (.int .i64 (lowN a c)), .v (.int .i64 (lowD a c))]))) := by
 unfold vc_flash_lowest
 obtain ⟨q1, q2, q3, q4⟩ := hp
 have g := gcd2_pos (a := a) (b := c) (by omega)
 have e1 : Int.tdiv a (gcd2 a c) = a / gcd2 a c := Int.tdiv_eq_ediv_of_nonneg q1
 have e2 : Int.tdiv c (gcd2 a c) = c / gcd2 a c := Int.tdiv_eq_ediv_of_nonneg (by omega)
 have l1 := Int.ediv_le_self (gcd2 a c) q1
 have l2 := Int.ediv_le_self (a := c) (gcd2 a c) (by omega)
 have n1 := Int.ediv_nonneg (b := gcd2 a c) q1 (by omega)
 have n2 := Int.ediv_nonneg (a := c) (b := gcd2 a c) (by omega) (by omega)
 rw [e1, e2]
 refine ⟨⟨by omega, by omega, by omega⟩, lt_i fun x1 h1 => ⟨⟨rfl, by omega⟩, lt_i fun x2 h2 => ⟨⟨rfl, by omega⟩, ?_⟩⟩⟩
 rw [wi (by omega)] at h1 h2
 subst h1 h2
 exact LeD.refl _
def con_flash_lowest : Con := fun args => match args with
 | [.t (.c (.v (.int .i64 a))), .t (.c (.v (.int .i64 c)))] => some (.t (.a [.v (.int .i64 (lowN a c)), .v (.int .i64 (lowD a c))]), some (0 ≤ a ∧ a ≤ 1000000000000 ∧ 0 < c ∧ c ≤ 1000000000000), false)
 | _ => none
theorem ok_flash_lowest : Ok Tryz.prog 71 con_flash_lowest := by
 refine Ok.fn (ann := ann_flash_lowest) mixed tabOK VS49 ValidIt.no (fn := Tryz.f71) (by kernel_rfl) (by kernel_rfl) fit_flash_lowest fun args r pre fresh h hp => ?_
 unfold con_flash_lowest at h
 split at h
 ·rename_i a c
  cases h
  refine ⟨rfl, fun _ _ _ => False, _, LeA.refl _, Nat.le_of_ble_eq_true (by kernel_rfl), ?_, ?_⟩
  ·rw [ev_flash_lowest]; exact spec_flash_lowest a c hp
  ·rw [lp_flash_lowest]; trivial
 ·cases h
def S50 : Sum := addS S49 71 con_flash_lowest
theorem VS50 : Valid Tryz.prog S50 := Valid.add VS49 ok_flash_lowest
def vc_flash_PartOf (m : List Muon) (f : Int) (v : List Int) (post : DV → Prop) : Prop := (muP m.length (musC m) ∧ muSm (muOf m.length (musC m))) ∧ ((numsP 1 v.length (intsC v) ∧ ((listC v.length mkInt (intsC v))).length ≤ 1000000) ∧ ((numsP 1 2 (genC [[.v (.int .i64 (musE (muOf m.length (musC m))))], [.v (.int .i64 (vetE f (listC v.length mkInt (intsC v))))]]) ∧ (([(musE (muOf m.length (musC m))), (vetE f (listC v.length mkInt (intsC v)))] : List Int)).length ≤ 100) ∧ (cond ((firstNZ ([(musE (muOf m.length (musC m))), (vetE f (listC v.length mkInt (intsC v)))] : List Int)) != (0 : Int)) (post (.tu [.a [.v (.int .i64 0), .v (.int .i64 0)], .c (.v (.int .i64 (firstNZ ([(musE (muOf m.length (musC m))), (vetE f (listC v.length mkInt (intsC v)))] : List Int))))])) ((muP m.length (musC m) ∧ numsP 1 v.length (intsC v) ∧ musE (muOf m.length (musC m)) = 0 ∧ vetE f (listC v.length mkInt (intsC v)) = 0) ∧ ((0 ≤ (sumW (passL f (listC v.length mkInt (intsC v)) (muOf m.length (musC m)))) ∧ (sumW (passL f (listC v.length mkInt (intsC v)) (muOf m.length (musC m)))) ≤ 1000000000000 ∧ 0 < (sumW (muOf m.length (musC m))) ∧ (sumW (muOf m.length (musC m))) ≤ 1000000000000) ∧ (post (.tu [.a [.v (.int .i64 (lowN (sumW (passL f (listC v.length mkInt (intsC v)) (muOf m.length (musC m)))) (sumW (muOf m.length (musC m))))), .v (.int .i64 (lowD (sumW (passL f (listC v.length mkInt (intsC v)) (muOf m.length (musC m)))) (sumW (muOf m.length (musC m)))))], .c (.v (.int .i64 0))])))))))
def ann_flash_PartOf : Ann := ⟨fun r => lookA r [(1, ([[], [0], [], [0, 1, 2], [0, 1, 2, 3], [0, 1, 2, 3, 4], [0, 1, 2, 3, 4, 5]], [[11, 13, 14, 15], [13, 14, 15], [11, 13, 14, 15], [14, 15], [15], [], []]))], fun _ => none, fun _ => [], noIt, false, fun _ => none, fun _ => none⟩
theorem ev_flash_PartOf (J : Inv) (m : List Muon) (f : Int) (v : List Int) (post : DV → Prop) : evFn Tryz.prog tab S50 ann_flash_PartOf J Tryz.f18 [.t (.c (.sl 2 m.length (musC m))), .t (.a [.v (.int .i64 f), .sl 1 v.length (intsC v)])] post = vc_flash_PartOf m f v post := by kernel_rfl
theorem fit_flash_PartOf : okFn ann_flash_PartOf Tryz.f18 = true := by kernel_rfl
theorem lp_flash_PartOf (J : Inv) (post : DV → Prop) : AllG J (loopsFn Tryz.prog tab S50 ann_flash_PartOf J Tryz.f18 post) = (True) := by kernel_rfl
theorem spec_flash_PartOf (m : List Muon) (f : Int) (v : List Int) (hp : muSm m ∧ (v).length ≤ 1000000) : vc_flash_PartOf m f v (fun r => LeD r (.tu [.a [.v (.int .i64 (prtN m f v)), .v (.int .i64 (prtD m f v))], .c (.v (.int .i64 (vvE m f v)))])) := by
 unfold vc_flash_PartOf
 rw [mus_of, ints_listC]
 have bad : vvE m f v ≠ 0 → prtN m f v = 0 ∧ prtD m f v = 0 := fun h => ⟨if_neg h, if_neg h⟩
 have good : vvE m f v = 0 → prtN m f v = lowN (sumW (passL f v m)) (sumW m) ∧ prtD m f v = lowD (sumW (passL f v m)) (sumW m) := fun h => ⟨if_pos h, if_pos h⟩
 refine ⟨⟨muP_mus m, hp.1⟩, ⟨numsP_ints v, hp.2⟩, ⟨numsP_gen [_, _], Nat.le_of_ble_eq_true rfl⟩, cond_i (fun h => ?_) (fun h => ?_)⟩
 ·have h : vvE m f v ≠ 0 := by unfold vvE; simpa using h
  obtain ⟨e1, e2⟩ := bad h
  rw [e1, e2]
  exact LeD.refl _
 ·have h : vvE m f v = 0 := by unfold vvE; simpa using h
  obtain ⟨e1, e2⟩ := good h
  have k := fn2 h
  have r := pass_rg k.1 f v
  have z := (mus_ok k.1).1
  rw [e1, e2, h]
  exact ⟨⟨muP_mus m, numsP_ints v, k⟩, by omega, LeD.refl _⟩
def con_flash_PartOf : Con := fun args => match args with
 | [.t (.c (.sl 2 n_m c_m)), .t (.a [.v (.int .i64 f), .sl 1 n_v c_v])] => some (.tu [.a [.v (.int .i64 (prtN (muOf n_m c_m) f (listC n_v mkInt c_v))), .v (.int .i64 (prtD (muOf n_m c_m) f (listC n_v mkInt c_v)))], .c (.v (.int .i64 (vvE (muOf n_m c_m) f (listC n_v mkInt c_v))))], some (muP n_m c_m ∧ numsP 1 n_v c_v ∧ muSm (muOf n_m c_m) ∧ ((listC n_v mkInt c_v)).length ≤ 1000000), false)
 | _ => none
theorem ok_flash_PartOf : Ok Tryz.prog 18 con_flash_PartOf := by
 refine Ok.fn (ann := ann_flash_PartOf) mixed tabOK VS50 ValidIt.no (fn := Tryz.f18) (by kernel_rfl) (by kernel_rfl) fit_flash_PartOf fun args r pre fresh h hp => ?_
 unfold con_flash_PartOf at h
 split at h
 ·rename_i n_m c_m f n_v c_v
  cases h
  obtain ⟨hp0, hp1, hp⟩ := hp
  refine ⟨rfl, fun _ _ _ => False, [.t (.c (.sl 2 ((muOf n_m c_m).length) (musC (muOf n_m c_m)))), .t (.a [.v (.int .i64 f), .sl 1 ((listC n_v mkInt c_v).length) (intsC (listC n_v mkInt c_v))])], ?_, Nat.le_of_ble_eq_true (by kernel_rfl), ?_, ?_⟩
  ·exact (LeA_cons (leT_c ((leL_Muon hp0))) (LeA_cons (leT_a (LeCs.cons (LeC1.refl _) (LeCs.cons ((leL_int hp1)) LeCs.nil))) LeA_nil))
  ·rw [ev_flash_PartOf]; exact spec_flash_PartOf (muOf n_m c_m) f (listC n_v mkInt c_v) hp
  ·rw [lp_flash_PartOf]; trivial
 ·cases h
def S51 : Sum := addS S50 18 con_flash_PartOf
theorem VS51 : Valid Tryz.prog S51 := Valid.add VS50 ok_flash_PartOf
end Go.Proofs.YtdkpgodakmailaaGreatDoor
set_option linter.unusedVariables false
set_option linter.unusedSimpArgs false
namespace Go.Proofs.YtdkpgodakmailaaGreatDoor
open Go.RowKit Ev
end Go.Proofs.YtdkpgodakmailaaGreatDoor
set_option linter.unusedVariables false
set_option linter.unusedSimpArgs false
namespace Go.Proofs.YtdkpgodakmailaaGreatDoor
open Go.RowKit Ev
theorem relF_row {w : World} {N : Nat → Prop} {cs : Array Value} {ty : TypeId} {n sz b : Nat} {c : Nat → Nat → CV} (hb : w.heap[b]? = some (.cells cs ty (0, 0))) (hN : N b) (hn : n ≤ maxLen) (h : ∀ i j, i < n → j < sz → ∃ x, cs[i * sz + j]? = some x ∧ RelF w N (c i j) x) : RelF w N (.sl sz n c) (.slice (some ⟨b, 0, none⟩) n n) := by
 refine ⟨_, n, rfl, Nat.le_refl _, hn, (fun h => by cases h), fun _ => ⟨b, 0, rfl, (Array.getElem?_eq_some_iff.1 hb).1, hN, fun i j hi hj => ?_⟩⟩
 obtain ⟨x, h1, h2⟩ := h i j hi hj
 refine ⟨x, ?_, h2⟩
 rw [Nat.zero_add, cell_of_row w b _ _ ty (0, 0) hb]
 exact h1
def muL : List Muon := [⟨[0, 3], 3⟩, ⟨[2, 0], 1⟩, ⟨[5], 4⟩]
theorem BelowA {h : Nat} {w w' : World} (g : Below h w w' := by (repeat (with_reducible first | exact Below.refl _ _ | assumption | refine Below.drewN _ ?_ | refine Below.drew ?_ | refine Below_alloc ?_ _ | refine Below.alloc ?_ (by first | (simp; done) | (simp; omega) | omega) _ | refine Below.setCell ?_ (by first | (simp; done) | (simp; omega) | omega) _ | refine Below_call ?_ (by assumption) | refine Below.trans ?_ (by assumption)))) : Below h w w' := g
set_option maxRecDepth 100000 in
theorem law_Muons (W : World) (N : Nat → Prop) : Calls Tryz.prog 59 #[] W fun e w' => ∃ v, e = .returned v ∧ RelF w' (resN W N .no) (.sl 2 3 (musC muL)) v ∧ Below W.heap.size W w' := by
 go_enter Tryz.func59, Tryz.ntmps59
 go_wp2_with fail
 ((try simp only [Exit.inBlock, Exit.then]); refine bodyPost_ret (v := .slice (some ⟨W.heap.size + 1 + 1 + 1, 0, none⟩) 3 3) ?_ rfl ?_; (next => simp [results, Tryz.results59, go_sem]))
 refine ⟨_, rfl, ?_, ?_⟩
 ·obtain ⟨w1, e1⟩ : ∃ w1, W.alloc (Obj.cells #[Value.int IntKind.i64 0, Value.int IntKind.i64 3] 3) = w1 := ⟨_, rfl⟩
  have s1 : w1.heap.size = W.heap.size + 1 := by rw [← e1]; simp
  have k1 : w1.heap[W.heap.size]? = some (Obj.cells #[Value.int IntKind.i64 0, Value.int IntKind.i64 3] 3) := by rw [← e1]; exact World.alloc_heap_new _ _
  rw [e1]
  obtain ⟨w2, e2⟩ : ∃ w2, w1.alloc (Obj.cells #[Value.int IntKind.i64 2, Value.int IntKind.i64 0] 3) = w2 := ⟨_, rfl⟩
  have s2 : w2.heap.size = W.heap.size + 1 + 1 := by rw [← e2, ← s1]; simp
  have k2 : w2.heap[W.heap.size + 1]? = some (Obj.cells #[Value.int IntKind.i64 2, Value.int IntKind.i64 0] 3) := by rw [← e2, ← s1]; exact World.alloc_heap_new _ _
  have k1 := (show w2.heap[W.heap.size]? = w1.heap[W.heap.size]? by rw [← e2]; exact Below.heap_alloc _ _ _ (by omega)).trans k1
  rw [e2]
  obtain ⟨w3, e3⟩ : ∃ w3, w2.alloc (Obj.cells #[Value.int IntKind.i64 5] 3) = w3 := ⟨_, rfl⟩
  have s3 : w3.heap.size = W.heap.size + 1 + 1 + 1 := by rw [← e3, ← s2]; simp
  have k3 : w3.heap[W.heap.size + 1 + 1]? = some (Obj.cells #[Value.int IntKind.i64 5] 3) := by rw [← e3, ← s2]; exact World.alloc_heap_new _ _
  have k1 := (show w3.heap[W.heap.size]? = w2.heap[W.heap.size]? by rw [← e3]; exact Below.heap_alloc _ _ _ (by omega)).trans k1
  have k2 := (show w3.heap[W.heap.size + 1]? = w2.heap[W.heap.size + 1]? by rw [← e3]; exact Below.heap_alloc _ _ _ (by omega)).trans k2
  rw [e3]
  obtain ⟨o4, h4⟩ : ∃ o4, (#[Value.slice (some { block := W.heap.size, off := 0 }) 2 2, Value.int IntKind.i64 3, Value.slice (some { block := W.heap.size + 1, off := 0 }) 2 2, Value.int IntKind.i64 1, Value.slice (some { block := W.heap.size + 1 + 1, off := 0 }) 1 1, Value.int IntKind.i64 4] : Array Value) = o4 := ⟨_, rfl⟩
  rw [h4]
  obtain ⟨w4, e4⟩ : ∃ w4, w3.alloc (Obj.cells o4 126) = w4 := ⟨_, rfl⟩
  have k4 : w4.heap[W.heap.size + 1 + 1 + 1]? = some (Obj.cells o4 126) := by rw [← e4, ← s3]; exact World.alloc_heap_new _ _
  have k1 := (show w4.heap[W.heap.size]? = w3.heap[W.heap.size]? by rw [← e4]; exact Below.heap_alloc _ _ _ (by omega)).trans k1
  have k2 := (show w4.heap[W.heap.size + 1]? = w3.heap[W.heap.size + 1]? by rw [← e4]; exact Below.heap_alloc _ _ _ (by omega)).trans k2
  have k3 := (show w4.heap[W.heap.size + 1 + 1]? = w3.heap[W.heap.size + 1 + 1]? by rw [← e4]; exact Below.heap_alloc _ _ _ (by omega)).trans k3
  rw [e4]
  subst h4
  clear e1 e2 e3 e4
  have ints : ∀ (b : Nat) (l : List Int) (ty : TypeId), w4.heap[b]? = some (.cells (l.map (Value.int .i64)).toArray ty (0, 0)) → W.heap.size ≤ b → l.length ≤ 10 → RelF w4 (resN W N .no) (.sl 1 l.length (intsC l)) (.slice (some ⟨b, 0, none⟩) l.length l.length) := fun b l ty hb hB hl =>
   relF_row hb (Or.inr hB) (by unfold maxLen; omega) fun i j hi hj => ⟨.int .i64 (l.getD i 0), by rw [show i * 1 + j = i by omega]; simp [hi, List.getD], rfl, rfl⟩
  have r1 := ints _ [0, 3] _ k1 (by omega) (by decide)
  have r2 := ints _ [2, 0] _ k2 (by omega) (by decide)
  have r3 := ints _ [5] _ k3 (by omega) (by decide)
  refine relF_row k4 (Or.inr (by omega)) (by decide) fun i j hi hj => ?_
  rcases (by omega : i = 0 ∨ i = 1 ∨ i = 2) with rfl | rfl | rfl <;> rcases (by omega : j = 0 ∨ j = 1) with rfl | rfl
  ·exact ⟨_, rfl, r1⟩
  ·exact ⟨_, rfl, rfl, rfl⟩
  ·exact ⟨_, rfl, r2⟩
  ·exact ⟨_, rfl, rfl, rfl⟩
  ·exact ⟨_, rfl, r3⟩
  ·exact ⟨_, rfl, rfl, rfl⟩
 ·exact BelowA
end Go.Proofs.YtdkpgodakmailaaGreatDoor
set_option linter.unusedVariables false
set_option linter.unusedSimpArgs false
namespace Go.Proofs.YtdkpgodakmailaaGreatDoor
open Go.RowKit Ev
structure Fr where
 (a b : Int)
theorem plain_int (l : List Int) (i j : Nat) : ∃ y, intsC l i j = .v y := ⟨_, rfl⟩
def S52 : Sum := S51
theorem VS52 : Valid Tryz.prog S52 := VS51
def S53 : Sum := S52
theorem VS53 : Valid Tryz.prog S53 := VS52
def S54 : Sum := S53
theorem VS54 : Valid Tryz.prog S54 := VS53
def S55 : Sum := S54
theorem VS55 : Valid Tryz.prog S55 := VS54
def S56 : Sum := S55
theorem VS56 : Valid Tryz.prog S56 := VS55
def S57 : Sum := S56
theorem VS57 : Valid Tryz.prog S57 := VS56
def S58 : Sum := S57
theorem VS58 : Valid Tryz.prog S58 := VS57
def S59 : Sum := S58
theorem VS59 : Valid Tryz.prog S59 := VS58
end Go.Proofs.YtdkpgodakmailaaGreatDoor