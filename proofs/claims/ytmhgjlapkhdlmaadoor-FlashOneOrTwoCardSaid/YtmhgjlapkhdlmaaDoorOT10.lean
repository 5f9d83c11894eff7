/- Texts of this claim, together. -/
import Derived.Test.YtmhgjlapkhdlmaaDoorOT9

set_option linter.unusedVariables false
set_option linter.unusedSimpArgs false
namespace Go.Proofs.YtmhgjlapkhdlmaaDoor
open Go.RowKit Ev
def rowOk (s : List Int) (r : List Rg) : Prop := (∀ i ∈ s, 0 ≤ i ∧ i < r.length) ∧ 0 < s.length ∧ s.length ≤ 1000
def exOk (sp : List (List Rg)) (s : List Int) : Prop := (∀ a ∈ sp, ∀ i ∈ s, 0 ≤ i ∧ i < a.length) ∧ s.length ≤ 1000 ∧ sp.length ≤ 1000
def cnOk (q : Int) (sp : List (List Rg)) : Prop := (1 ≤ q ∧ q ≤ 8) ∧ sp.length ≤ 1000 ∧ ∀ a ∈ sp, (a.length : Int) = q
theorem cnOk_ex {q : Int} {sp : List (List Rg)} {k : Nat} (h : cnOk q sp) (hk : k < 2 ^ q.toNat) : exOk sp (membs 8 k) := by
 obtain ⟨h1, h2, h3⟩ := h
 refine ⟨fun a ha i hi => ?_, ?_, h2⟩
 ·rw [← membs_n (n := q.toNat) (by omega) hk] at hi
  have := mem_membs hi
  have := h3 a ha
  omega
 ·have := membs_lt 8 k; omega
noncomputable def Sy124 : Sum := Sx123
theorem VSy124 : Valid Tryd.prog Sy124 := VSx123
noncomputable def Sy125 : Sum := Sy124
theorem VSy125 : Valid Tryd.prog Sy125 := VSy124
def mk_cherenkov_flash_search_explained_1_0 (a : List Rg) (v : List Int) (v0_0 : List (List CV)) (v0_1 : Int) : DS := ⟨[some (.t (.c (.sl 2 a.length (rgsC a)))), none, none, none, some (.t (.c (.os 4))), none, none, none, some (.t (.c (.sl 1 v.length (intsC v)))), some (.t (.c (.v (.int .i64 ((v.length : Nat) : Int))))), some (.t (.c (.v (.int .i64 v0_1)))), none, none, none, none, none, none, none, none, none, none, none, none, none, none, none, none, none, none], [none, none, none, none, some (.gen 94 2 v0_0), none, none, none, none, none, none, none, none, none, none, none, none, none, none, none, none, none, none, none, none, none, none, none, none]⟩
def vc_cherenkov_flash_search_explained_1 (J : Inv) (a : List Rg) (v : List Int) (post : DV → Prop) : Prop := ∃ n, J 0 (n :: []) (mk_cherenkov_flash_search_explained_1_0 a v ([]) 0)
def ann_cherenkov_flash_search_explained_1 : Ann := ⟨fun _ => none, fun b => lookA b [(0, (none, some ⟨[0, 8, 9, 10], [], [(4, .gen 94 2 [])]⟩))], fun _ => [], I1, false, fun _ => none, fun _ => none⟩
theorem ev_cherenkov_flash_search_explained_1 (J : Inv) (a : List Rg) (v : List Int) (post : DV → Prop) : evFn Tryd.prog tab Sy125 ann_cherenkov_flash_search_explained_1 J Tryd.f154 [.t (.c (.sl 2 a.length (rgsC a))), .t (.c (.px 1 0 (boxC [.sl 1 v.length (intsC v)])))] post = vc_cherenkov_flash_search_explained_1 J a v post := by kernel_rfl
theorem fit_cherenkov_flash_search_explained_1 : okFn ann_cherenkov_flash_search_explained_1 Tryd.f154 = true := by kernel_rfl
def rd_cherenkov_flash_search_explained_1_0 (J : Inv) (a : List Rg) (v : List Int) (v0_0 : List (List CV)) (v0_1 : Int) (nn0 : Nat) (post : DV → Prop) : Prop := cond (decide (v0_1 < ((v.length : Nat) : Int))) ((0 ≤ v0_1 ∧ v0_1 < ((v.length : Nat) : Int)) ∧ ((0 ≤ (v.getD v0_1.toNat 0) ∧ (v.getD v0_1.toNat 0) < ((a.length : Nat) : Int)) ∧ ((roomP 16 (v0_0.length + ([[.v (.int .i64 ((rgAt a ((v.getD v0_1.toNat 0).toNat)).lo)), .v (.int .i64 ((rgAt a ((v.getD v0_1.toNat 0).toNat)).hi))]] : List (List CV)).length)) ∧ (lt (IntKind.i64.wrap (v0_1 + (1 : Int))) fun x1 => J 0 (nn0 :: []) (mk_cherenkov_flash_search_explained_1_0 a v (v0_0 ++ ([[.v (.int .i64 ((rgAt a ((v.getD v0_1.toNat 0).toNat)).lo)), .v (.int .i64 ((rgAt a ((v.getD v0_1.toNat 0).toNat)).hi))]] : List (List CV))) x1))))) ((numsP 2 v0_0.length (genC v0_0) ∧ 0 < ((listC v0_0.length mkRg (genC v0_0))).length ∧ ((listC v0_0.length mkRg (genC v0_0))).length ≤ 1000000) ∧ (post (.t (.c (.v (.bool (decide (((comm (listC v0_0.length mkRg (genC v0_0))).lo) ≤ ((comm (listC v0_0.length mkRg (genC v0_0))).hi)))))))))
theorem er_cherenkov_flash_search_explained_1_0 (J : Inv) (a : List Rg) (v : List Int) (v0_0 : List (List CV)) (v0_1 : Int) (nn0 : Nat) (post : DV → Prop) : round Tryd.prog tab Sy125 ann_cherenkov_flash_search_explained_1 J Tryd.f154 post 0 (nn0 :: []) (mk_cherenkov_flash_search_explained_1_0 a v v0_0 v0_1) = rd_cherenkov_flash_search_explained_1_0 J a v v0_0 v0_1 nn0 post := by kernel_rfl
theorem lp_cherenkov_flash_search_explained_1 (J : Inv) (post : DV → Prop) : AllG J (loopsFn Tryd.prog tab Sy125 ann_cherenkov_flash_search_explained_1 J Tryd.f154 post) = (((∀ F s, ¬ J 0 (0 :: F) s) ∧ ∀ n F s, J 0 ((n + 1) :: F) s → round Tryd.prog tab Sy125 ann_cherenkov_flash_search_explained_1 J Tryd.f154 post 0 (n :: F) s) ∧ True) := by kernel_rfl
def J_cherenkov_flash_search_explained_1 (a : List Rg) (v : List Int) : Inv := fun b F s => match b, F with
 | 0, [nn0] => ∃ (v0_0 : List (List CV)) (v0_1 : Int), s = mk_cherenkov_flash_search_explained_1_0 a v v0_0 v0_1 ∧ (rowOk v a ∧ 0 ≤ v0_1 ∧ v0_1 ≤ v.length ∧ (nn0 : Int) + v0_1 = v.length + 1 ∧ v0_0 = (subR a (v.take v0_1.toNat)).map rgCv)
 | _, _ => False
theorem rnd_cherenkov_flash_search_explained_1_0 (a : List Rg) (v : List Int) (v0_0 : List (List CV)) (v0_1 : Int) (nn0 : Nat) (hp : rowOk v a) (hi : rowOk v a ∧ 0 ≤ v0_1 ∧ v0_1 ≤ v.length ∧ ((nn0 + 1) : Int) + v0_1 = v.length + 1 ∧ v0_0 = (subR a (v.take v0_1.toNat)).map rgCv) : rd_cherenkov_flash_search_explained_1_0 (J_cherenkov_flash_search_explained_1 a v) a v v0_0 v0_1 nn0 (fun r => LeD r (.t (.c (.v (.bool (rowB v a)))))) := by
 obtain ⟨⟨q1, q2, q3⟩, i1, i2, i3, i4⟩ := hi
 obtain ⟨k, rfl⟩ : ∃ k : Nat, v0_1 = k := ⟨v0_1.toNat, by omega⟩
 have hk : (k : Int).toNat = k := rfl
 rw [hk] at i4
 unfold rd_cherenkov_flash_search_explained_1_0
 rw [hk]
 refine cond_i (fun h => ?_) (fun h => ?_)
 ·have hlt : k < v.length := by have := of_decide_eq_true h; omega
  have hx := q1 _ (getD_mem hlt)
  refine ⟨by omega, by omega, ?_, lt_i fun x hx => ?_⟩
  ·rw [i4]; unfold roomP maxLen subR; simp; omega
  ·rw [wi (by omega)] at hx
   subst hx
   refine ⟨_, _, rfl, ⟨q1, q2, q3⟩, by omega, by omega, by omega, ?_⟩
   rw [show ((k : Int) + 1).toNat = k + 1 by omega, take_getD (0 : Int) hlt, i4]
   unfold subR
   rw [List.map_append, List.map_append]; rfl
 ·have hge : k = v.length := by have := of_decide_eq_false h; omega
  rw [hge, List.take_length] at i4
  subst i4
  simp only [rgg_listC]
  have e : (subR a v).length = v.length := by unfold subR; rw [List.length_map]
  exact ⟨⟨numsP_rgg _, by omega, by omega⟩, LeD.refl _⟩
theorem zero_cherenkov_flash_search_explained_1_0 (a : List Rg) (v : List Int) (v0_0 : List (List CV)) (v0_1 : Int)  (hi : rowOk v a ∧ 0 ≤ v0_1 ∧ v0_1 ≤ v.length ∧ (0 : Int) + v0_1 = v.length + 1 ∧ v0_0 = (subR a (v.take v0_1.toNat)).map rgCv) : False := by
 omega
theorem spec_cherenkov_flash_search_explained_1 (a : List Rg) (v : List Int) (hp : rowOk v a) : vc_cherenkov_flash_search_explained_1 (J_cherenkov_flash_search_explained_1 a v) a v (fun r => LeD r (.t (.c (.v (.bool (rowB v a)))))) := by
 unfold vc_cherenkov_flash_search_explained_1
 exact ⟨v.length + 1, [], 0, rfl, hp, by omega, by omega, by omega, rfl⟩
theorem all_cherenkov_flash_search_explained_1 (a : List Rg) (v : List Int) (hp : rowOk v a) : AllG (J_cherenkov_flash_search_explained_1 a v) (loopsFn Tryd.prog tab Sy125 ann_cherenkov_flash_search_explained_1 (J_cherenkov_flash_search_explained_1 a v) Tryd.f154 (fun r => LeD r (.t (.c (.v (.bool (rowB v a))))))) := by
 rw [lp_cherenkov_flash_search_explained_1]
 refine ⟨⟨?_, ?_⟩, trivial⟩
 ·intro F s h
  obtain _ | ⟨g, F⟩ := F
  case cons => exact h.elim
  obtain ⟨w0, w1, rfl, hi⟩ := h
  exact zero_cherenkov_flash_search_explained_1_0 a v w0 w1 hi
 ·intro n F s h
  obtain _ | ⟨g, F⟩ := F
  case cons => exact h.elim
  obtain ⟨w0, w1, rfl, hi⟩ := h
  rw [er_cherenkov_flash_search_explained_1_0]
  exact rnd_cherenkov_flash_search_explained_1_0 a v _ _ _ hp hi
def con_cherenkov_flash_search_explained_1 : Con := fun args => match args with
 | [.t (.c (.sl 2 n_a c_a)), .t (.c (.px 1 0 c_pm))] => some (.t (.c (.v (.bool (rowB (listC (cvLen (c_pm 0)) mkInt (cvCells (c_pm 0))) (listC n_a mkRg c_a))))), some (numsP 2 n_a c_a ∧ intsB [] c_pm = true ∧ slP 1 (c_pm 0) ∧ numsP 1 (cvLen (c_pm 0)) (cvCells (c_pm 0)) ∧ rowOk (listC (cvLen (c_pm 0)) mkInt (cvCells (c_pm 0))) (listC n_a mkRg c_a)), false)
 | _ => none
theorem ok_cherenkov_flash_search_explained_1 : Ok Tryd.prog 154 con_cherenkov_flash_search_explained_1 := by
 refine Ok.fn (ann := ann_cherenkov_flash_search_explained_1) mixed tabOK VSy125 VI1 (fn := Tryd.f154) (by kernel_rfl) (by kernel_rfl) fit_cherenkov_flash_search_explained_1 fun args r pre fresh h hp => ?_
 unfold con_cherenkov_flash_search_explained_1 at h
 split at h
 ·rename_i n_a c_a c_pm
  cases h
  obtain ⟨hp0, hp1, hp2, hp3, hp⟩ := hp
  refine ⟨rfl, J_cherenkov_flash_search_explained_1 (listC n_a mkRg c_a) (listC (cvLen (c_pm 0)) mkInt (cvCells (c_pm 0))), [.t (.c (.sl 2 ((listC n_a mkRg c_a).length) (rgsC (listC n_a mkRg c_a)))), .t (.c (.px 1 0 (boxC [.sl 1 ((listC (cvLen (c_pm 0)) mkInt (cvCells (c_pm 0))).length) (intsC (listC (cvLen (c_pm 0)) mkInt (cvCells (c_pm 0))))])))], ?_, Nat.le_of_ble_eq_true (by kernel_rfl), ?_, ?_⟩
  ·exact (LeA_cons (leT_c ((leL_Rg hp0))) (LeA_cons (leT_c (leC_p (LeCs.cons (leC_s hp2 (leL_int hp3)) LeCs.nil))) LeA_nil))
  ·rw [ev_cherenkov_flash_search_explained_1]; exact spec_cherenkov_flash_search_explained_1 (listC n_a mkRg c_a) (listC (cvLen (c_pm 0)) mkInt (cvCells (c_pm 0))) hp
  ·exact all_cherenkov_flash_search_explained_1 (listC n_a mkRg c_a) (listC (cvLen (c_pm 0)) mkInt (cvCells (c_pm 0))) hp
 ·cases h
noncomputable def Sy126 : Sum := addS Sy125 154 con_cherenkov_flash_search_explained_1
theorem VSy126 : Valid Tryd.prog Sy126 := Valid.add VSy125 ok_cherenkov_flash_search_explained_1
def mk_slices_IndexFunc_cherenkov_api_Range_cherenkov_api_Range_0 (sp : List (List Rg)) (v : List Int) (v0_0 : Int) : DS := ⟨[some (.t (.c (.sl 1 sp.length (rlsC sp)))), some (.t (.fn 154 [.px 1 0 (boxC [.sl 1 v.length (intsC v)])])), none, none, none, none, none, some (.t (.c (.v (.int .i64 ((sp.length : Nat) : Int))))), some (.t (.c (.v (.int .i64 v0_0)))), none, none, none, none, none, none, none, none, none, none], [none, none, none, none, none, none, none, none, none, none, none, none, none, none, none, none, none, none, none]⟩
def vc_slices_IndexFunc_cherenkov_api_Range_cherenkov_api_Range (J : Inv) (sp : List (List Rg)) (v : List Int) (post : DV → Prop) : Prop := ∃ n, J 0 (n :: []) (mk_slices_IndexFunc_cherenkov_api_Range_cherenkov_api_Range_0 sp v 0)
def ann_slices_IndexFunc_cherenkov_api_Range_cherenkov_api_Range : Ann := ⟨fun _ => none, fun b => lookA b [(0, (none, some ⟨[0, 1, 7, 8], [], []⟩))], fun _ => [], I1, false, fun _ => none, fun _ => none⟩
theorem ev_slices_IndexFunc_cherenkov_api_Range_cherenkov_api_Range (J : Inv) (sp : List (List Rg)) (v : List Int) (post : DV → Prop) : evFn Tryd.prog tab Sy126 ann_slices_IndexFunc_cherenkov_api_Range_cherenkov_api_Range J Tryd.f160 [.t (.c (.sl 1 sp.length (rlsC sp))), .t (.fn 154 [.px 1 0 (boxC [.sl 1 v.length (intsC v)])])] post = vc_slices_IndexFunc_cherenkov_api_Range_cherenkov_api_Range J sp v post := by kernel_rfl
theorem fit_slices_IndexFunc_cherenkov_api_Range_cherenkov_api_Range : okFn ann_slices_IndexFunc_cherenkov_api_Range_cherenkov_api_Range Tryd.f160 = true := by kernel_rfl
def rd_slices_IndexFunc_cherenkov_api_Range_cherenkov_api_Range_0 (J : Inv) (sp : List (List Rg)) (v : List Int) (v0_0 : Int) (nn0 : Nat) (post : DV → Prop) : Prop := cond (decide (v0_0 < ((sp.length : Nat) : Int))) ((0 ≤ v0_0 ∧ v0_0 < ((sp.length : Nat) : Int)) ∧ ((numsP 2 ((rlAt sp v0_0.toNat).length) (rgsC (rlAt sp v0_0.toNat)) ∧ intsB [] (boxC [.sl 1 v.length (intsC v)]) = true ∧ slP 1 ((boxC [.sl 1 v.length (intsC v)]) 0) ∧ numsP 1 v.length (intsC v) ∧ rowOk (listC v.length mkInt (intsC v)) (listC ((rlAt sp v0_0.toNat).length) mkRg (rgsC (rlAt sp v0_0.toNat)))) ∧ (cond (rowB (listC v.length mkInt (intsC v)) (listC ((rlAt sp v0_0.toNat).length) mkRg (rgsC (rlAt sp v0_0.toNat)))) (post (.t (.c (.v (.int .i64 v0_0))))) (lt (IntKind.i64.wrap (v0_0 + (1 : Int))) fun x1 => J 0 (nn0 :: []) (mk_slices_IndexFunc_cherenkov_api_Range_cherenkov_api_Range_0 sp v x1))))) (post (.t (.c (.v (.int .i64 (-1))))))
theorem er_slices_IndexFunc_cherenkov_api_Range_cherenkov_api_Range_0 (J : Inv) (sp : List (List Rg)) (v : List Int) (v0_0 : Int) (nn0 : Nat) (post : DV → Prop) : round Tryd.prog tab Sy126 ann_slices_IndexFunc_cherenkov_api_Range_cherenkov_api_Range J Tryd.f160 post 0 (nn0 :: []) (mk_slices_IndexFunc_cherenkov_api_Range_cherenkov_api_Range_0 sp v v0_0) = rd_slices_IndexFunc_cherenkov_api_Range_cherenkov_api_Range_0 J sp v v0_0 nn0 post := by kernel_rfl
theorem lp_slices_IndexFunc_cherenkov_api_Range_cherenkov_api_Range (J : Inv) (post : DV → Prop) : AllG J (loopsFn Tryd.prog tab Sy126 ann_slices_IndexFunc_cherenkov_api_Range_cherenkov_api_Range J Tryd.f160 post) = (((∀ F s, ¬ J 0 (0 :: F) s) ∧ ∀ n F s, J 0 ((n + 1) :: F) s → round Tryd.prog tab Sy126 ann_slices_IndexFunc_cherenkov_api_Range_cherenkov_api_Range J Tryd.f160 post 0 (n :: F) s) ∧ True) := by kernel_rfl
def J_slices_IndexFunc_cherenkov_api_Range_cherenkov_api_Range (sp : List (List Rg)) (v : List Int) : Inv := fun b F s => match b, F with
 | 0, [nn0] => ∃ (v0_0 : Int), s = mk_slices_IndexFunc_cherenkov_api_Range_cherenkov_api_Range_0 sp v v0_0 ∧ (sp.length ≤ 1000000 ∧ 0 ≤ v0_0 ∧ v0_0 ≤ sp.length ∧ (nn0 : Int) + v0_0 = sp.length + 1 ∧ ∀ k : Nat, (k : Int) < v0_0 → rowB v (rlAt sp k) = false)
 | _, _ => False
theorem rnd_slices_IndexFunc_cherenkov_api_Range_cherenkov_api_Range_0 (sp : List (List Rg)) (v : List Int) (v0_0 : Int) (nn0 : Nat) (hp : exOk sp v ∧ 0 < (v).length) (hi : sp.length ≤ 1000000 ∧ 0 ≤ v0_0 ∧ v0_0 ≤ sp.length ∧ ((nn0 + 1) : Int) + v0_0 = sp.length + 1 ∧ ∀ k : Nat, (k : Int) < v0_0 → rowB v (rlAt sp k) = false) : rd_slices_IndexFunc_cherenkov_api_Range_cherenkov_api_Range_0 (J_slices_IndexFunc_cherenkov_api_Range_cherenkov_api_Range sp v) sp v v0_0 nn0 (fun r => LeD r (.t (.c (.v (.int .i64 (idxP (rowB v) sp)))))) := by
 obtain ⟨i0, i1, i2, i3, i4⟩ := hi
 obtain ⟨k, rfl⟩ : ∃ k : Nat, v0_0 = k := ⟨v0_0.toNat, by omega⟩
 have hk : (k : Int).toNat = k := rfl
 unfold rd_slices_IndexFunc_cherenkov_api_Range_cherenkov_api_Range_0
 rw [hk, ints_listC, rgs_listC]
 refine cond_i (fun h => ?_) (fun h => leI ?_)
 ·have hlt : k < sp.length := by have := of_decide_eq_true h; omega
  refine ⟨by omega, ⟨numsP_rgs _, rfl, rfl, numsP_ints v, ⟨fun i hi => hp.1.1 _ (by rw [rlAt_lt hlt]; exact List.getElem_mem hlt) i hi, hp.2, hp.1.2.1⟩⟩, cond_i (fun e => leI ?_) (fun e => lt_i fun x hx => ?_)⟩
  ·exact (idxP_at (d := ([] : List Rg)) hlt (fun j hj => i4 j (by omega)) e).symm
  ·rw [wi (by omega)] at hx
   subst hx
   exact ⟨_, rfl, i0, by omega, by omega, by omega, fun j hj => by
    by_cases q : j = k
    ·rw [q]; exact e
    ·exact i4 j (by omega)⟩
 ·have hge : k = sp.length := by have := of_decide_eq_false h; omega
  subst hge
  exact (idxP_none (d := ([] : List Rg)) fun j hj => i4 j (by omega)).symm
theorem zero_slices_IndexFunc_cherenkov_api_Range_cherenkov_api_Range_0 (sp : List (List Rg)) (v : List Int) (v0_0 : Int)  (hi : sp.length ≤ 1000000 ∧ 0 ≤ v0_0 ∧ v0_0 ≤ sp.length ∧ (0 : Int) + v0_0 = sp.length + 1 ∧ ∀ k : Nat, (k : Int) < v0_0 → rowB v (rlAt sp k) = false) : False := by
 omega
theorem spec_slices_IndexFunc_cherenkov_api_Range_cherenkov_api_Range (sp : List (List Rg)) (v : List Int) (hp : exOk sp v ∧ 0 < (v).length) : vc_slices_IndexFunc_cherenkov_api_Range_cherenkov_api_Range (J_slices_IndexFunc_cherenkov_api_Range_cherenkov_api_Range sp v) sp v (fun r => LeD r (.t (.c (.v (.int .i64 (idxP (rowB v) sp)))))) := by
 have hp3 := hp.1.2.2
 unfold vc_slices_IndexFunc_cherenkov_api_Range_cherenkov_api_Range
 exact ⟨sp.length + 1, 0, rfl, by omega, by omega, by omega, by omega, fun j hj => by omega⟩
theorem all_slices_IndexFunc_cherenkov_api_Range_cherenkov_api_Range (sp : List (List Rg)) (v : List Int) (hp : exOk sp v ∧ 0 < (v).length) : AllG (J_slices_IndexFunc_cherenkov_api_Range_cherenkov_api_Range sp v) (loopsFn Tryd.prog tab Sy126 ann_slices_IndexFunc_cherenkov_api_Range_cherenkov_api_Range (J_slices_IndexFunc_cherenkov_api_Range_cherenkov_api_Range sp v) Tryd.f160 (fun r => LeD r (.t (.c (.v (.int .i64 (idxP (rowB v) sp))))))) := by
 rw [lp_slices_IndexFunc_cherenkov_api_Range_cherenkov_api_Range]
 refine ⟨⟨?_, ?_⟩, trivial⟩
 ·intro F s h
  obtain _ | ⟨g, F⟩ := F
  case cons => exact h.elim
  obtain ⟨w0, rfl, hi⟩ := h
  exact zero_slices_IndexFunc_cherenkov_api_Range_cherenkov_api_Range_0 sp v w0 hi
 ·intro n F s h
  obtain _ | ⟨g, F⟩ := F
  case cons => exact h.elim
  obtain ⟨w0, rfl, hi⟩ := h
  rw [er_slices_IndexFunc_cherenkov_api_Range_cherenkov_api_Range_0]
  exact rnd_slices_IndexFunc_cherenkov_api_Range_cherenkov_api_Range_0 sp v _ _ hp hi
def con_slices_IndexFunc_cherenkov_api_Range_cherenkov_api_Range : Con := fun args => match args with
 | [.t (.c (.sl 1 n_sp c_sp)), .t (.fn 154 [.px 1 0 c_pm])] => some (.t (.c (.v (.int .i64 (idxP (rowB (listC (cvLen (c_pm 0)) mkInt (cvCells (c_pm 0)))) (rlOf n_sp c_sp))))), some (rlP n_sp c_sp ∧ intsB [] c_pm = true ∧ slP 1 (c_pm 0) ∧ numsP 1 (cvLen (c_pm 0)) (cvCells (c_pm 0)) ∧ exOk (rlOf n_sp c_sp) (listC (cvLen (c_pm 0)) mkInt (cvCells (c_pm 0))) ∧ 0 < ((listC (cvLen (c_pm 0)) mkInt (cvCells (c_pm 0)))).length), false)
 | _ => none
theorem ok_slices_IndexFunc_cherenkov_api_Range_cherenkov_api_Range : Ok Tryd.prog 160 con_slices_IndexFunc_cherenkov_api_Range_cherenkov_api_Range := by
 refine Ok.fn (ann := ann_slices_IndexFunc_cherenkov_api_Range_cherenkov_api_Range) mixed tabOK VSy126 VI1 (fn := Tryd.f160) (by kernel_rfl) (by kernel_rfl) fit_slices_IndexFunc_cherenkov_api_Range_cherenkov_api_Range fun args r pre fresh h hp => ?_
 unfold con_slices_IndexFunc_cherenkov_api_Range_cherenkov_api_Range at h
 split at h
 ·rename_i n_sp c_sp c_pm
  cases h
  obtain ⟨hp0, hp1, hp2, hp3, hp⟩ := hp
  refine ⟨rfl, J_slices_IndexFunc_cherenkov_api_Range_cherenkov_api_Range (rlOf n_sp c_sp) (listC (cvLen (c_pm 0)) mkInt (cvCells (c_pm 0))), [.t (.c (.sl 1 ((rlOf n_sp c_sp).length) (rlsC (rlOf n_sp c_sp)))), .t (.fn 154 [.px 1 0 (boxC [.sl 1 ((listC (cvLen (c_pm 0)) mkInt (cvCells (c_pm 0))).length) (intsC (listC (cvLen (c_pm 0)) mkInt (cvCells (c_pm 0))))])])], ?_, Nat.le_of_ble_eq_true (by kernel_rfl), ?_, ?_⟩
  ·exact (LeA_cons (leT_c ((leL_LRg hp0))) (LeA_cons (leT_f (LeCs.cons (leC_p (LeCs.cons (leC_s hp2 (leL_int hp3)) LeCs.nil)) LeCs.nil)) LeA_nil))
  ·rw [ev_slices_IndexFunc_cherenkov_api_Range_cherenkov_api_Range]; exact spec_slices_IndexFunc_cherenkov_api_Range_cherenkov_api_Range (rlOf n_sp c_sp) (listC (cvLen (c_pm 0)) mkInt (cvCells (c_pm 0))) hp
  ·exact all_slices_IndexFunc_cherenkov_api_Range_cherenkov_api_Range (rlOf n_sp c_sp) (listC (cvLen (c_pm 0)) mkInt (cvCells (c_pm 0))) hp
 ·cases h
noncomputable def Sy127 : Sum := addS Sy126 160 con_slices_IndexFunc_cherenkov_api_Range_cherenkov_api_Range
theorem VSy127 : Valid Tryd.prog Sy127 := Valid.add VSy126 ok_slices_IndexFunc_cherenkov_api_Range_cherenkov_api_Range
def vc_slices_ContainsFunc_cherenkov_api_Range_cherenkov_api_Range (sp : List (List Rg)) (v : List Int) (post : DV → Prop) : Prop := (rlP sp.length (rlsC sp) ∧ intsB [] (boxC [.sl 1 v.length (intsC v)]) = true ∧ slP 1 ((boxC [.sl 1 v.length (intsC v)]) 0) ∧ numsP 1 v.length (intsC v) ∧ exOk (rlOf sp.length (rlsC sp)) (listC v.length mkInt (intsC v)) ∧ 0 < ((listC v.length mkInt (intsC v))).length) ∧ (post (.t (.c (.v (.bool (decide ((idxP (rowB (listC v.length mkInt (intsC v))) (rlOf sp.length (rlsC sp))) ≥ (0 : Int))))))))
def ann_slices_ContainsFunc_cherenkov_api_Range_cherenkov_api_Range : Ann := ⟨fun _ => none, fun _ => none, fun _ => [], I1, false, fun _ => none, fun _ => none⟩
theorem ev_slices_ContainsFunc_cherenkov_api_Range_cherenkov_api_Range (J : Inv) (sp : List (List Rg)) (v : List Int) (post : DV → Prop) : evFn Tryd.prog tab Sy127 ann_slices_ContainsFunc_cherenkov_api_Range_cherenkov_api_Range J Tryd.f153 [.t (.c (.sl 1 sp.length (rlsC sp))), .t (.fn 154 [.px 1 0 (boxC [.sl 1 v.length (intsC v)])])] post = vc_slices_ContainsFunc_cherenkov_api_Range_cherenkov_api_Range sp v post := by kernel_rfl
theorem fit_slices_ContainsFunc_cherenkov_api_Range_cherenkov_api_Range : okFn ann_slices_ContainsFunc_cherenkov_api_Range_cherenkov_api_Range Tryd.f153 = true := by kernel_rfl
theorem lp_slices_ContainsFunc_cherenkov_api_Range_cherenkov_api_Range (J : Inv) (post : DV → Prop) : AllG J (loopsFn Tryd.prog tab Sy127 ann_slices_ContainsFunc_cherenkov_api_Range_cherenkov_api_Range J Tryd.f153 post) = (True) := by kernel_rfl
theorem spec_slices_ContainsFunc_cherenkov_api_Range_cherenkov_api_Range (sp : List (List Rg)) (v : List Int) (hp : exOk sp v ∧ 0 < (v).length) : vc_slices_ContainsFunc_cherenkov_api_Range_cherenkov_api_Range sp v (fun r => LeD r (.t (.c (.v (.bool ((sp).any (rowB v))))))) := by
 unfold vc_slices_ContainsFunc_cherenkov_api_Range_cherenkov_api_Range
 simp only [ints_listC, rls_of]
 refine ⟨⟨rlP_rls sp, rfl, rfl, numsP_ints v, hp⟩, leB ?_⟩
 rw [idxP_any]
def con_slices_ContainsFunc_cherenkov_api_Range_cherenkov_api_Range : Con := fun args => match args with
 | [.t (.c (.sl 1 n_sp c_sp)), .t (.fn 154 [.px 1 0 c_pm])] => some (.t (.c (.v (.bool (((rlOf n_sp c_sp)).any (rowB (listC (cvLen (c_pm 0)) mkInt (cvCells (c_pm 0)))))))), some (rlP n_sp c_sp ∧ intsB [] c_pm = true ∧ slP 1 (c_pm 0) ∧ numsP 1 (cvLen (c_pm 0)) (cvCells (c_pm 0)) ∧ exOk (rlOf n_sp c_sp) (listC (cvLen (c_pm 0)) mkInt (cvCells (c_pm 0))) ∧ 0 < ((listC (cvLen (c_pm 0)) mkInt (cvCells (c_pm 0)))).length), false)
 | _ => none
theorem ok_slices_ContainsFunc_cherenkov_api_Range_cherenkov_api_Range : Ok Tryd.prog 153 con_slices_ContainsFunc_cherenkov_api_Range_cherenkov_api_Range := by
 refine Ok.fn (ann := ann_slices_ContainsFunc_cherenkov_api_Range_cherenkov_api_Range) mixed tabOK VSy127 VI1 (fn := Tryd.f153) (by kernel_rfl) (by kernel_rfl) fit_slices_ContainsFunc_cherenkov_api_Range_cherenkov_api_Range fun args r pre fresh h hp => ?_
 unfold con_slices_ContainsFunc_cherenkov_api_Range_cherenkov_api_Range at h
 split at h
 ·rename_i n_sp c_sp c_pm
  cases h
  obtain ⟨hp0, hp1, hp2, hp3, hp⟩ := hp
  refine ⟨rfl, fun _ _ _ => False, [.t (.c (.sl 1 ((rlOf n_sp c_sp).length) (rlsC (rlOf n_sp c_sp)))), .t (.fn 154 [.px 1 0 (boxC [.sl 1 ((listC (cvLen (c_pm 0)) mkInt (cvCells (c_pm 0))).length) (intsC (listC (cvLen (c_pm 0)) mkInt (cvCells (c_pm 0))))])])], ?_, Nat.le_of_ble_eq_true (by kernel_rfl), ?_, ?_⟩
  ·exact (LeA_cons (leT_c ((leL_LRg hp0))) (LeA_cons (leT_f (LeCs.cons (leC_p (LeCs.cons (leC_s hp2 (leL_int hp3)) LeCs.nil)) LeCs.nil)) LeA_nil))
  ·rw [ev_slices_ContainsFunc_cherenkov_api_Range_cherenkov_api_Range]; exact spec_slices_ContainsFunc_cherenkov_api_Range_cherenkov_api_Range (rlOf n_sp c_sp) (listC (cvLen (c_pm 0)) mkInt (cvCells (c_pm 0))) hp
  ·rw [lp_slices_ContainsFunc_cherenkov_api_Range_cherenkov_api_Range]; trivial
 ·cases h
noncomputable def Sy128 : Sum := addS Sy127 153 con_slices_ContainsFunc_cherenkov_api_Range_cherenkov_api_Range
theorem VSy128 : Valid Tryd.prog Sy128 := Valid.add VSy127 ok_slices_ContainsFunc_cherenkov_api_Range_cherenkov_api_Range
def vc_cherenkov_flash_search_explained (l : List FHit) (g0 g1 g2 g3 g4 : Int) (sp : List (List Rg)) (v : List Int) (post : DV → Prop) : Prop := cond (((v.length : Nat) : Int) == (0 : Int)) (post (.t (.c (.v (.bool true))))) ((rlP sp.length (rlsC sp) ∧ intsB [] (boxC [.sl 1 v.length (intsC v)]) = true ∧ slP 1 ((boxC [.sl 1 v.length (intsC v)]) 0) ∧ numsP 1 v.length (intsC v) ∧ exOk (rlOf sp.length (rlsC sp)) (listC v.length mkInt (intsC v)) ∧ 0 < ((listC v.length mkInt (intsC v))).length) ∧ (post (.t (.c (.v (.bool (((rlOf sp.length (rlsC sp))).any (rowB (listC v.length mkInt (intsC v))))))))))
def ann_cherenkov_flash_search_explained : Ann := ⟨fun _ => none, fun _ => none, fun _ => [], I1, false, fun _ => none, fun _ => none⟩
theorem ev_cherenkov_flash_search_explained (J : Inv) (l : List FHit) (g0 g1 g2 g3 g4 : Int) (sp : List (List Rg)) (v : List Int) (post : DV → Prop) : evFn Tryd.prog tab Sy128 ann_cherenkov_flash_search_explained J Tryd.f130 [.t (.a [.sl 7 l.length (hitsC l), .v (.int .i64 g0), .v (.int .i64 g1), .v (.int .i64 g2), .v (.int .i64 g3), .v (.int .i64 g4), .sl 1 sp.length (rlsC sp)]), .t (.c (.sl 1 v.length (intsC v)))] post = vc_cherenkov_flash_search_explained l g0 g1 g2 g3 g4 sp v post := by kernel_rfl
theorem fit_cherenkov_flash_search_explained : okFn ann_cherenkov_flash_search_explained Tryd.f130 = true := by kernel_rfl
theorem lp_cherenkov_flash_search_explained (J : Inv) (post : DV → Prop) : AllG J (loopsFn Tryd.prog tab Sy128 ann_cherenkov_flash_search_explained J Tryd.f130 post) = (True) := by kernel_rfl
theorem spec_cherenkov_flash_search_explained (l : List FHit) (g0 g1 g2 g3 g4 : Int) (sp : List (List Rg)) (v : List Int) (hp : exOk sp v) : vc_cherenkov_flash_search_explained l g0 g1 g2 g3 g4 sp v (fun r => LeD r (.t (.c (.v (.bool (explB sp v)))))) := by
 unfold vc_cherenkov_flash_search_explained
 simp only [ints_listC, rls_of]
 refine cond_i (fun h => leB ?_) (fun h => ⟨⟨rlP_rls sp, rfl, rfl, numsP_ints v, hp, ?_⟩, leB ?_⟩)
 ·have h : v = [] := by simpa using h
  subst h; rfl
 ·have h : v ≠ [] := by simpa using h
  exact List.length_pos_iff.2 h
 ·have h : v ≠ [] := by simpa using h
  unfold explB
  rw [show v.isEmpty = false by cases v <;> simp_all]; rfl
def con_cherenkov_flash_search_explained : Con := fun args => match args with
 | [.t (.a [.sl 7 n_l c_l, .v (.int .i64 g0), .v (.int .i64 g1), .v (.int .i64 g2), .v (.int .i64 g3), .v (.int .i64 g4), .sl 1 n_sp c_sp]), .t (.c (.sl 1 n_v c_v))] => some (.t (.c (.v (.bool (explB (rlOf n_sp c_sp) (listC n_v mkInt c_v))))), some (numsP 7 n_l c_l ∧ rlP n_sp c_sp ∧ numsP 1 n_v c_v ∧ exOk (rlOf n_sp c_sp) (listC n_v mkInt c_v)), false)
 | _ => none
theorem ok_cherenkov_flash_search_explained : Ok Tryd.prog 130 con_cherenkov_flash_search_explained := by
 refine Ok.fn (ann := ann_cherenkov_flash_search_explained) mixed tabOK VSy128 VI1 (fn := Tryd.f130) (by kernel_rfl) (by kernel_rfl) fit_cherenkov_flash_search_explained fun args r pre fresh h hp => ?_
 unfold con_cherenkov_flash_search_explained at h
 split at h
 ·rename_i n_l c_l g0 g1 g2 g3 g4 n_sp c_sp n_v c_v
  cases h
  obtain ⟨hp0, hp1, hp2, hp⟩ := hp
  refine ⟨rfl, fun _ _ _ => False, [.t (.a [.sl 7 ((listC n_l mkHit c_l).length) (hitsC (listC n_l mkHit c_l)), .v (.int .i64 g0), .v (.int .i64 g1), .v (.int .i64 g2), .v (.int .i64 g3), .v (.int .i64 g4), .sl 1 ((rlOf n_sp c_sp).length) (rlsC (rlOf n_sp c_sp))]), .t (.c (.sl 1 ((listC n_v mkInt c_v).length) (intsC (listC n_v mkInt c_v))))], ?_, Nat.le_of_ble_eq_true (by kernel_rfl), ?_, ?_⟩
  ·exact (LeA_cons (leT_a (LeCs.cons ((leL_FHit hp0)) (LeCs.cons (LeC1.refl _) (LeCs.cons (LeC1.refl _) (LeCs.cons (LeC1.refl _) (LeCs.cons (LeC1.refl _) (LeCs.cons (LeC1.refl _) (LeCs.cons ((leL_LRg hp1)) LeCs.nil)))))))) (LeA_cons (leT_c ((leL_int hp2))) LeA_nil))
  ·rw [ev_cherenkov_flash_search_explained]; exact spec_cherenkov_flash_search_explained (listC n_l mkHit c_l) g0 g1 g2 g3 g4 (rlOf n_sp c_sp) (listC n_v mkInt c_v) hp
  ·rw [lp_cherenkov_flash_search_explained]; trivial
 ·cases h
noncomputable def Sy129 : Sum := addS Sy128 130 con_cherenkov_flash_search_explained
theorem VSy129 : Valid Tryd.prog Sy129 := Valid.add VSy128 ok_cherenkov_flash_search_explained
def vc_flash_Contradicting_1 (v : List Int) (l : List FHit) (g0 g1 g2 g3 g4 : Int) (sp : List (List Rg)) (post : DV → Prop) : Prop := (numsP 7 l.length (hitsC l) ∧ rlP sp.length (rlsC sp) ∧ numsP 1 v.length (intsC v) ∧ exOk (rlOf sp.length (rlsC sp)) (listC v.length mkInt (intsC v))) ∧ (post (.t (.c (.v (.bool (!(explB (rlOf sp.length (rlsC sp)) (listC v.length mkInt (intsC v)))))))))
def ann_flash_Contradicting_1 : Ann := ⟨fun _ => none, fun _ => none, fun _ => [], I1, false, fun _ => none, fun _ => none⟩
theorem ev_flash_Contradicting_1 (J : Inv) (v : List Int) (l : List FHit) (g0 g1 g2 g3 g4 : Int) (sp : List (List Rg)) (post : DV → Prop) : evFn Tryd.prog tab Sy129 ann_flash_Contradicting_1 J Tryd.f129 [.t (.c (.sl 1 v.length (intsC v))), .t (.c (.px 7 0 (boxC [.sl 7 l.length (hitsC l), .v (.int .i64 g0), .v (.int .i64 g1), .v (.int .i64 g2), .v (.int .i64 g3), .v (.int .i64 g4), .sl 1 sp.length (rlsC sp)])))] post = vc_flash_Contradicting_1 v l g0 g1 g2 g3 g4 sp post := by kernel_rfl
theorem fit_flash_Contradicting_1 : okFn ann_flash_Contradicting_1 Tryd.f129 = true := by kernel_rfl
theorem lp_flash_Contradicting_1 (J : Inv) (post : DV → Prop) : AllG J (loopsFn Tryd.prog tab Sy129 ann_flash_Contradicting_1 J Tryd.f129 post) = (True) := by kernel_rfl
theorem spec_flash_Contradicting_1 (v : List Int) (l : List FHit) (g0 g1 g2 g3 g4 : Int) (sp : List (List Rg)) (hp : exOk sp v) : vc_flash_Contradicting_1 v l g0 g1 g2 g3 g4 sp (fun r => LeD r (.t (.c (.v (.bool (contB sp v)))))) := by
 unfold vc_flash_Contradicting_1
 simp only [ints_listC, rls_of]
 exact ⟨⟨numsP_hits l, rlP_rls sp, numsP_ints v, hp⟩, LeD.refl _⟩
def con_flash_Contradicting_1 : Con := fun args => match args with
 | [.t (.c (.sl 1 n_v c_v)), .t (.c (.px 7 0 c_ps))] => some (.t (.c (.v (.bool (contB (rlOf (cvLen (c_ps 6)) (cvCells (c_ps 6))) (listC n_v mkInt c_v))))), some (numsP 1 n_v c_v ∧ intsB [1, 2, 3, 4, 5] c_ps = true ∧ slP 7 (c_ps 0) ∧ numsP 7 (cvLen (c_ps 0)) (cvCells (c_ps 0)) ∧ slP 1 (c_ps 6) ∧ rlP (cvLen (c_ps 6)) (cvCells (c_ps 6)) ∧ exOk (rlOf (cvLen (c_ps 6)) (cvCells (c_ps 6))) (listC n_v mkInt c_v)), false)
 | _ => none
theorem ok_flash_Contradicting_1 : Ok Tryd.prog 129 con_flash_Contradicting_1 := by
 refine Ok.fn (ann := ann_flash_Contradicting_1) mixed tabOK VSy129 VI1 (fn := Tryd.f129) (by kernel_rfl) (by kernel_rfl) fit_flash_Contradicting_1 fun args r pre fresh h hp => ?_
 unfold con_flash_Contradicting_1 at h
 split at h
 ·rename_i n_v c_v c_ps
  cases h
  obtain ⟨hp0, hp1, hp2, hp3, hp4, hp5, hp⟩ := hp
  refine ⟨rfl, fun _ _ _ => False, [.t (.c (.sl 1 ((listC n_v mkInt c_v).length) (intsC (listC n_v mkInt c_v)))), .t (.c (.px 7 0 (boxC [.sl 7 ((listC (cvLen (c_ps 0)) mkHit (cvCells (c_ps 0))).length) (hitsC (listC (cvLen (c_ps 0)) mkHit (cvCells (c_ps 0)))), .v (.int .i64 (cvInt (c_ps 1))), .v (.int .i64 (cvInt (c_ps 2))), .v (.int .i64 (cvInt (c_ps 3))), .v (.int .i64 (cvInt (c_ps 4))), .v (.int .i64 (cvInt (c_ps 5))), .sl 1 ((rlOf (cvLen (c_ps 6)) (cvCells (c_ps 6))).length) (rlsC (rlOf (cvLen (c_ps 6)) (cvCells (c_ps 6))))])))], ?_, Nat.le_of_ble_eq_true (by kernel_rfl), ?_, ?_⟩
  ·exact (LeA_cons (leT_c ((leL_int hp0))) (LeA_cons (leT_c (leC_p (LeCs.cons (leC_s hp2 (leL_FHit hp3)) (LeCs.cons (leC_i (intsB_get hp1 1 (by decide))) (LeCs.cons (leC_i (intsB_get hp1 2 (by decide))) (LeCs.cons (leC_i (intsB_get hp1 3 (by decide))) (LeCs.cons (leC_i (intsB_get hp1 4 (by decide))) (LeCs.cons (leC_i (intsB_get hp1 5 (by decide))) (LeCs.cons (leC_s hp4 (leL_LRg hp5)) LeCs.nil))))))))) LeA_nil))
  ·rw [ev_flash_Contradicting_1]; exact spec_flash_Contradicting_1 (listC n_v mkInt c_v) (listC (cvLen (c_ps 0)) mkHit (cvCells (c_ps 0))) (cvInt (c_ps 1)) (cvInt (c_ps 2)) (cvInt (c_ps 3)) (cvInt (c_ps 4)) (cvInt (c_ps 5)) (rlOf (cvLen (c_ps 6)) (cvCells (c_ps 6))) hp
  ·rw [lp_flash_Contradicting_1]; trivial
 ·cases h
noncomputable def Sy130 : Sum := addS Sy129 129 con_flash_Contradicting_1
theorem VSy130 : Valid Tryd.prog Sy130 := Valid.add VSy129 ok_flash_Contradicting_1
def mk_flash_smallest_b_0 (q : Int) (l : List FHit) (g0 g1 g2 g3 g4 : Int) (sp : List (List Rg)) (v0_0 : List Int) (v0_1 : Int) (v0_2 : Int) (v0_3 : Bool) : DS := ⟨[none, some (.t (.fn 129 [.px 7 0 (boxC [.sl 7 l.length (hitsC l), .v (.int .i64 g0), .v (.int .i64 g1), .v (.int .i64 g2), .v (.int .i64 g3), .v (.int .i64 g4), .sl 1 sp.length (rlsC sp)])])), none, none, none, none, some (.t (.c (.os 6))), some (.t (.c (.v (.bool v0_3)))), none, none, none, some (.t (.c (.v (.int .u64 v0_1)))), some (.t (.c (.v (.int .u64 v0_2)))), none, none, none, none, none, none, none, none, none, none, none, none, none, none, none, none, none, none, none, none, none, none, none, none, none, none, none, none, none, none, none, none, none, none, none], [none, none, none, none, none, none, some (.num 3 .i64 v0_0), none, none, none, none, none, none, none, none, none, none, none, none, none, none, none, none, none, none, none, none, none, none, none, none, none, none, none, none, none, none, none, none, none, none, none, none, none, none, none, none, none]⟩
def vc_flash_smallest_b (J : Inv) (q : Int) (l : List FHit) (g0 g1 g2 g3 g4 : Int) (sp : List (List Rg)) (post : DV → Row → Prop) : Prop := lt (IntKind.u64.wrap ((1 : Int) * 2 ^ (min (q).toNat 64))) fun x1 => (0 ≤ q) ∧ (∃ n, J 0 (n :: []) (mk_flash_smallest_b_0 q l g0 g1 g2 g3 g4 sp ([]) x1 0 false))
def ann_flash_smallest_b : Ann := ⟨fun _ => none, fun b => lookA b [(0, (none, some ⟨[1, 7, 11, 12], [], [(6, .num 3 .i64 ([]))]⟩))], fun _ => [], I1, false, fun r => lookA r [(7, (2, [43]))], fun _ => none⟩
theorem ev_flash_smallest_b (J : Inv) (q : Int) (l : List FHit) (g0 g1 g2 g3 g4 : Int) (sp : List (List Rg)) (post : DV → Row → Prop) : evFnO Tryd.prog tab Sy130 ann_flash_smallest_b J Tryd.f105 [.t (.c (.v (.int .i64 q))), .t (.fn 129 [.px 7 0 (boxC [.sl 7 l.length (hitsC l), .v (.int .i64 g0), .v (.int .i64 g1), .v (.int .i64 g2), .v (.int .i64 g3), .v (.int .i64 g4), .sl 1 sp.length (rlsC sp)])])] post = vc_flash_smallest_b J q l g0 g1 g2 g3 g4 sp post := by kernel_rfl
theorem fit_flash_smallest_b : okFn ann_flash_smallest_b Tryd.f105 = true := by kernel_rfl
def rd_flash_smallest_b_0 (J : Inv) (q : Int) (l : List FHit) (g0 g1 g2 g3 g4 : Int) (sp : List (List Rg)) (v0_0 : List Int) (v0_1 : Int) (v0_2 : Int) (v0_3 : Bool) (nn0 : Nat) (post : DV → Row → Prop) : Prop := cond (decide (v0_2 < v0_1)) ((0 ≤ v0_2 ∧ v0_2 < 256) ∧ ((cond v0_3 (cond (decide ((((membs 8 (v0_2).toNat).length : Nat) : Int) > ((v0_0.length : Nat) : Int))) ((true = true) ∧ ((true = true) ∧ (True))) (cond ((((membs 8 (v0_2).toNat).length : Nat) : Int) == ((v0_0.length : Nat) : Int)) ((numsP 1 ((membs 8 (v0_2).toNat).length) (numsC .i64 (membs 8 (v0_2).toNat)) ∧ numsP 1 v0_0.length (numsC .i64 v0_0) ∧ ((listC ((membs 8 (v0_2).toNat).length) mkInt (numsC .i64 (membs 8 (v0_2).toNat)))).length ≤ 1000000) ∧ (cond (decide ((cmpL (listC ((membs 8 (v0_2).toNat).length) mkInt (numsC .i64 (membs 8 (v0_2).toNat))) (listC v0_0.length mkInt (numsC .i64 v0_0))) > (0 : Int))) ((true = true) ∧ (True)) ((numsP 1 ((membs 8 (v0_2).toNat).length) (numsC .i64 (membs 8 (v0_2).toNat)) ∧ intsB [1, 2, 3, 4, 5] (boxC [.sl 7 l.length (hitsC l), .v (.int .i64 g0), .v (.int .i64 g1), .v (.int .i64 g2), .v (.int .i64 g3), .v (.int .i64 g4), .sl 1 sp.length (rlsC sp)]) = true ∧ slP 7 ((boxC [.sl 7 l.length (hitsC l), .v (.int .i64 g0), .v (.int .i64 g1), .v (.int .i64 g2), .v (.int .i64 g3), .v (.int .i64 g4), .sl 1 sp.length (rlsC sp)]) 0) ∧ numsP 7 l.length (hitsC l) ∧ slP 1 ((boxC [.sl 7 l.length (hitsC l), .v (.int .i64 g0), .v (.int .i64 g1), .v (.int .i64 g2), .v (.int .i64 g3), .v (.int .i64 g4), .sl 1 sp.length (rlsC sp)]) 6) ∧ rlP sp.length (rlsC sp) ∧ exOk (rlOf sp.length (rlsC sp)) (listC ((membs 8 (v0_2).toNat).length) mkInt (numsC .i64 (membs 8 (v0_2).toNat)))) ∧ (True)))) ((false = false) ∧ ((numsP 1 ((membs 8 (v0_2).toNat).length) (numsC .i64 (membs 8 (v0_2).toNat)) ∧ intsB [1, 2, 3, 4, 5] (boxC [.sl 7 l.length (hitsC l), .v (.int .i64 g0), .v (.int .i64 g1), .v (.int .i64 g2), .v (.int .i64 g3), .v (.int .i64 g4), .sl 1 sp.length (rlsC sp)]) = true ∧ slP 7 ((boxC [.sl 7 l.length (hitsC l), .v (.int .i64 g0), .v (.int .i64 g1), .v (.int .i64 g2), .v (.int .i64 g3), .v (.int .i64 g4), .sl 1 sp.length (rlsC sp)]) 0) ∧ numsP 7 l.length (hitsC l) ∧ slP 1 ((boxC [.sl 7 l.length (hitsC l), .v (.int .i64 g0), .v (.int .i64 g1), .v (.int .i64 g2), .v (.int .i64 g3), .v (.int .i64 g4), .sl 1 sp.length (rlsC sp)]) 6) ∧ rlP sp.length (rlsC sp) ∧ exOk (rlOf sp.length (rlsC sp)) (listC ((membs 8 (v0_2).toNat).length) mkInt (numsC .i64 (membs 8 (v0_2).toNat)))) ∧ (True))))) ((false = false) ∧ ((numsP 1 ((membs 8 (v0_2).toNat).length) (numsC .i64 (membs 8 (v0_2).toNat)) ∧ intsB [1, 2, 3, 4, 5] (boxC [.sl 7 l.length (hitsC l), .v (.int .i64 g0), .v (.int .i64 g1), .v (.int .i64 g2), .v (.int .i64 g3), .v (.int .i64 g4), .sl 1 sp.length (rlsC sp)]) = true ∧ slP 7 ((boxC [.sl 7 l.length (hitsC l), .v (.int .i64 g0), .v (.int .i64 g1), .v (.int .i64 g2), .v (.int .i64 g3), .v (.int .i64 g4), .sl 1 sp.length (rlsC sp)]) 0) ∧ numsP 7 l.length (hitsC l) ∧ slP 1 ((boxC [.sl 7 l.length (hitsC l), .v (.int .i64 g0), .v (.int .i64 g1), .v (.int .i64 g2), .v (.int .i64 g3), .v (.int .i64 g4), .sl 1 sp.length (rlsC sp)]) 6) ∧ rlP sp.length (rlsC sp) ∧ exOk (rlOf sp.length (rlsC sp)) (listC ((membs 8 (v0_2).toNat).length) mkInt (numsC .i64 (membs 8 (v0_2).toNat)))) ∧ (True)))) ∧ (lt ((bif v0_3 then (bif decide ((((membs 8 (v0_2).toNat).length : Nat) : Int) > ((v0_0.length : Nat) : Int)) then true else (bif ((((membs 8 (v0_2).toNat).length : Nat) : Int) == ((v0_0.length : Nat) : Int)) then (bif decide ((cmpL (listC ((membs 8 (v0_2).toNat).length) mkInt (numsC .i64 (membs 8 (v0_2).toNat))) (listC v0_0.length mkInt (numsC .i64 v0_0))) > (0 : Int)) then true else (!(contB (rlOf sp.length (rlsC sp)) (listC ((membs 8 (v0_2).toNat).length) mkInt (numsC .i64 (membs 8 (v0_2).toNat)))))) else (!(contB (rlOf sp.length (rlsC sp)) (listC ((membs 8 (v0_2).toNat).length) mkInt (numsC .i64 (membs 8 (v0_2).toNat))))))) else (!(contB (rlOf sp.length (rlsC sp)) (listC ((membs 8 (v0_2).toNat).length) mkInt (numsC .i64 (membs 8 (v0_2).toNat))))))) fun x1 => cond x1 (lt (IntKind.u64.wrap (v0_2 + (1 : Int))) fun x2 => J 0 (nn0 :: []) (mk_flash_smallest_b_0 q l g0 g1 g2 g3 g4 sp v0_0 v0_1 x2 v0_3)) (lt (IntKind.u64.wrap (v0_2 + (1 : Int))) fun x3 => J 0 (nn0 :: []) (mk_flash_smallest_b_0 q l g0 g1 g2 g3 g4 sp (membs 8 (v0_2).toNat) v0_1 x3 true))))) (post (.tu [.c (.os 0), .c (.v (.bool v0_3))]) (.num 3 .i64 v0_0))
theorem er_flash_smallest_b_0 (J : Inv) (q : Int) (l : List FHit) (g0 g1 g2 g3 g4 : Int) (sp : List (List Rg)) (v0_0 : List Int) (v0_1 : Int) (v0_2 : Int) (v0_3 : Bool) (nn0 : Nat) (post : DV → Row → Prop) : roundO Tryd.prog tab Sy130 ann_flash_smallest_b J Tryd.f105 post 0 (nn0 :: []) (mk_flash_smallest_b_0 q l g0 g1 g2 g3 g4 sp v0_0 v0_1 v0_2 v0_3) = rd_flash_smallest_b_0 J q l g0 g1 g2 g3 g4 sp v0_0 v0_1 v0_2 v0_3 nn0 post := by kernel_rfl
theorem lp_flash_smallest_b (J : Inv) (post : DV → Row → Prop) : AllG J (loopsFnO Tryd.prog tab Sy130 ann_flash_smallest_b J Tryd.f105 post) = (((∀ F s, ¬ J 0 (0 :: F) s) ∧ ∀ n F s, J 0 ((n + 1) :: F) s → roundO Tryd.prog tab Sy130 ann_flash_smallest_b J Tryd.f105 post 0 (n :: F) s) ∧ True) := by kernel_rfl
def J_flash_smallest_b (q : Int) (l : List FHit) (g0 g1 g2 g3 g4 : Int) (sp : List (List Rg)) : Inv := fun b F s => match b, F with
 | 0, [nn0] => ∃ (v0_0 : List Int) (v0_1 : Int) (v0_2 : Int) (v0_3 : Bool), s = mk_flash_smallest_b_0 q l g0 g1 g2 g3 g4 sp v0_0 v0_1 v0_2 v0_3 ∧ (cnOk q sp ∧ v0_1 = ((2 ^ q.toNat : Nat) : Int) ∧ 0 ≤ v0_2 ∧ v0_2 ≤ v0_1 ∧ (nn0 : Int) + v0_2 = v0_1 + 1 ∧ v0_3 = (foldS (contB sp) v0_2.toNat).isSome ∧ v0_0 = (foldS (contB sp) v0_2.toNat).getD [])
 | _, _ => False
set_option maxHeartbeats 8000000 in
set_option maxRecDepth 100000 in
theorem rnd_flash_smallest_b_0 (q : Int) (l : List FHit) (g0 g1 g2 g3 g4 : Int) (sp : List (List Rg)) (v0_0 : List Int) (v0_1 : Int) (v0_2 : Int) (v0_3 : Bool) (nn0 : Nat) (hp : cnOk q sp) (hi : cnOk q sp ∧ v0_1 = ((2 ^ q.toNat : Nat) : Int) ∧ 0 ≤ v0_2 ∧ v0_2 ≤ v0_1 ∧ ((nn0 + 1) : Int) + v0_2 = v0_1 + 1 ∧ v0_3 = (foldS (contB sp) v0_2.toNat).isSome ∧ v0_0 = (foldS (contB sp) v0_2.toNat).getD []) : rd_flash_smallest_b_0 (J_flash_smallest_b q l g0 g1 g2 g3 g4 sp) q l g0 g1 g2 g3 g4 sp v0_0 v0_1 v0_2 v0_3 nn0 (fun r' R' => r' = (.tu [.c (.os 0), .c (.v (.bool ((foldS (contB sp) (2 ^ (q).toNat)).isSome)))]) ∧ R' = (.num 3 .i64 ((foldS (contB sp) (2 ^ (q).toNat)).getD []))) := by
 obtain ⟨q1, q2, i1, i2, i3, i4, i5⟩ := hi
 obtain ⟨k, rfl⟩ : ∃ k : Nat, v0_2 = k := ⟨v0_2.toNat, by omega⟩
 have hk : (k : Int).toNat = k := rfl
 rw [hk] at i4 i5
 have h256 := pow_8 (n := q.toNat) (by have := q1.1; omega)
 unfold rd_flash_smallest_b_0
 simp only [hk, nums_listC, rls_of]
 obtain ⟨o, ho⟩ : ∃ o, foldS (contB sp) k = o := ⟨_, rfl⟩
 rw [ho] at i4 i5
 subst i4 i5
 refine cond_i (fun h => ?_) (fun h => ?_)
 ·have h := of_decide_eq_true h
  have hlen := membs_len (k := k) (by omega)
  have hx : exOk sp (membs 8 k) := cnOk_ex q1 (by omega)
  have step : foldS (contB sp) (k + 1) = smStep (contB sp) o (membs 8 k) := by rw [← ho]; unfold foldS; rw [List.range_succ, List.foldl_append]; rfl
  refine ⟨by omega, ?_, lt_i fun x1 h1 => ?_⟩
  ·refine cond_i (fun _ => cond_i (fun _ => ⟨by trivial, by trivial, trivial⟩) (fun _ => cond_i (fun _ => ⟨⟨numsP_ints _, numsP_ints _, by omega⟩, cond_i (fun _ => ⟨by trivial, trivial⟩) (fun _ => ⟨⟨numsP_ints _, rfl, rfl, numsP_hits l, rfl, rlP_rls sp, hx⟩, trivial⟩)⟩) (fun _ => ⟨by trivial, ⟨numsP_ints _, rfl, rfl, numsP_hits l, rfl, rlP_rls sp, hx⟩, trivial⟩))) (fun _ => ⟨by trivial, ⟨numsP_ints _, rfl, rfl, numsP_hits l, rfl, rlP_rls sp, hx⟩, trivial⟩)
  ·have e := smStep_skip (hd := contB sp) (o := o) (s := membs 8 k)
   rw [h1] at e
   refine cond_i (fun hx => lt_i fun x2 h2 => ?_) (fun hx => lt_i fun x2 h2 => ?_)
   all_goals
    rw [hx] at e
    rw [u64_succ (by omega)] at h2
    subst h2
    refine ⟨_, _, _, _, rfl, q1, q2, by omega, by omega, by omega, ?_, ?_⟩
   all_goals
    rw [show ((k : Int) + 1).toNat = k + 1 by omega, step, e]; rfl
 ·have h := of_decide_eq_false h
  have hk : k = 2 ^ q.toNat := by omega
  rw [← hk, ho]
  exact ⟨by trivial, rfl⟩
theorem zero_flash_smallest_b_0 (q : Int) (l : List FHit) (g0 g1 g2 g3 g4 : Int) (sp : List (List Rg)) (v0_0 : List Int) (v0_1 : Int) (v0_2 : Int) (v0_3 : Bool)  (hi : cnOk q sp ∧ v0_1 = ((2 ^ q.toNat : Nat) : Int) ∧ 0 ≤ v0_2 ∧ v0_2 ≤ v0_1 ∧ (0 : Int) + v0_2 = v0_1 + 1 ∧ v0_3 = (foldS (contB sp) v0_2.toNat).isSome ∧ v0_0 = (foldS (contB sp) v0_2.toNat).getD []) : False := by
 omega
set_option maxHeartbeats 8000000 in
set_option maxRecDepth 100000 in
theorem spec_flash_smallest_b (q : Int) (l : List FHit) (g0 g1 g2 g3 g4 : Int) (sp : List (List Rg)) (hp : cnOk q sp) : vc_flash_smallest_b (J_flash_smallest_b q l g0 g1 g2 g3 g4 sp) q l g0 g1 g2 g3 g4 sp (fun r' R' => r' = (.tu [.c (.os 0), .c (.v (.bool ((foldS (contB sp) (2 ^ (q).toNat)).isSome)))]) ∧ R' = (.num 3 .i64 ((foldS (contB sp) (2 ^ (q).toNat)).getD []))) := by
 have hq := hp.1
 unfold vc_flash_smallest_b
 refine lt_i fun x1 h1 => ⟨by omega, (2 ^ q.toNat + 1), [], x1, 0, false, rfl, hp, ?_, by omega, ?_, ?_, rfl, rfl⟩
 all_goals
  have e : x1 = ((2 ^ q.toNat : Nat) : Int) := by
   rcases (by omega : q = 1 ∨ q = 2 ∨ q = 3 ∨ q = 4 ∨ q = 5 ∨ q = 6 ∨ q = 7 ∨ q = 8) with rfl | rfl | rfl | rfl | rfl | rfl | rfl | rfl <;> (rw [← h1]; kernel_rfl)
  rw [e]
 ·exact Int.natCast_nonneg _
 ·generalize 2 ^ q.toNat = M; omega
theorem all_flash_smallest_b (q : Int) (l : List FHit) (g0 g1 g2 g3 g4 : Int) (sp : List (List Rg)) (hp : cnOk q sp) : AllG (J_flash_smallest_b q l g0 g1 g2 g3 g4 sp) (loopsFnO Tryd.prog tab Sy130 ann_flash_smallest_b (J_flash_smallest_b q l g0 g1 g2 g3 g4 sp) Tryd.f105 (fun r' R' => r' = (.tu [.c (.os 0), .c (.v (.bool ((foldS (contB sp) (2 ^ (q).toNat)).isSome)))]) ∧ R' = (.num 3 .i64 ((foldS (contB sp) (2 ^ (q).toNat)).getD [])))) := by
 rw [lp_flash_smallest_b]
 refine ⟨⟨?_, ?_⟩, trivial⟩
 ·intro F s h
  obtain _ | ⟨g, F⟩ := F
  case cons => exact h.elim
  obtain ⟨w0, w1, w2, w3, rfl, hi⟩ := h
  exact zero_flash_smallest_b_0 q l g0 g1 g2 g3 g4 sp w0 w1 w2 w3 hi
 ·intro n F s h
  obtain _ | ⟨g, F⟩ := F
  case cons => exact h.elim
  obtain ⟨w0, w1, w2, w3, rfl, hi⟩ := h
  rw [er_flash_smallest_b_0]
  exact rnd_flash_smallest_b_0 q l g0 g1 g2 g3 g4 sp _ _ _ _ _ hp hi
def con_flash_smallest_b : Con := fun args => match args with
 | [.t (.c (.v (.int .i64 q))), .t (.fn 129 [.px 7 0 c_ps])] => some (.tu [.c (.os 0), .c (.v (.bool ((foldS (contB (rlOf (cvLen (c_ps 6)) (cvCells (c_ps 6)))) (2 ^ (q).toNat)).isSome)))], some (intsB [1, 2, 3, 4, 5] c_ps = true ∧ slP 7 (c_ps 0) ∧ numsP 7 (cvLen (c_ps 0)) (cvCells (c_ps 0)) ∧ slP 1 (c_ps 6) ∧ rlP (cvLen (c_ps 6)) (cvCells (c_ps 6)) ∧ cnOk q (rlOf (cvLen (c_ps 6)) (cvCells (c_ps 6)))), .own (.num 3 .i64 ((foldS (contB (rlOf (cvLen (c_ps 6)) (cvCells (c_ps 6)))) (2 ^ (q).toNat)).getD [])))
 | _ => none
theorem ok_flash_smallest_b : Ok Tryd.prog 105 con_flash_smallest_b := by
 refine Ok.fnO (ann := ann_flash_smallest_b) mixed tabOK VSy130 VI1 (fn := Tryd.f105) (by kernel_rfl) (by kernel_rfl) fit_flash_smallest_b fun args r pre fresh h hp => ?_
 unfold con_flash_smallest_b at h
 split at h
 ·rename_i q c_ps
  cases h
  obtain ⟨hp0, hp1, hp2, hp3, hp4, hp⟩ := hp
  refine ⟨_, rfl, trivial, J_flash_smallest_b q (listC (cvLen (c_ps 0)) mkHit (cvCells (c_ps 0))) (cvInt (c_ps 1)) (cvInt (c_ps 2)) (cvInt (c_ps 3)) (cvInt (c_ps 4)) (cvInt (c_ps 5)) (rlOf (cvLen (c_ps 6)) (cvCells (c_ps 6))), [.t (.c (.v (.int .i64 q))), .t (.fn 129 [.px 7 0 (boxC [.sl 7 ((listC (cvLen (c_ps 0)) mkHit (cvCells (c_ps 0))).length) (hitsC (listC (cvLen (c_ps 0)) mkHit (cvCells (c_ps 0)))), .v (.int .i64 (cvInt (c_ps 1))), .v (.int .i64 (cvInt (c_ps 2))), .v (.int .i64 (cvInt (c_ps 3))), .v (.int .i64 (cvInt (c_ps 4))), .v (.int .i64 (cvInt (c_ps 5))), .sl 1 ((rlOf (cvLen (c_ps 6)) (cvCells (c_ps 6))).length) (rlsC (rlOf (cvLen (c_ps 6)) (cvCells (c_ps 6))))])])], ?_, Nat.le_of_ble_eq_true (by kernel_rfl), ?_, ?_⟩
  ·exact (LeA_cons (LeD.refl _) (LeA_cons (leT_f (LeCs.cons (leC_p (LeCs.cons (leC_s hp1 (leL_FHit hp2)) (LeCs.cons (leC_i (intsB_get hp0 1 (by decide))) (LeCs.cons (leC_i (intsB_get hp0 2 (by decide))) (LeCs.cons (leC_i (intsB_get hp0 3 (by decide))) (LeCs.cons (leC_i (intsB_get hp0 4 (by decide))) (LeCs.cons (leC_i (intsB_get hp0 5 (by decide))) (LeCs.cons (leC_s hp3 (leL_LRg hp4)) LeCs.nil)))))))) LeCs.nil)) LeA_nil))
  ·rw [ev_flash_smallest_b]; exact spec_flash_smallest_b q (listC (cvLen (c_ps 0)) mkHit (cvCells (c_ps 0))) (cvInt (c_ps 1)) (cvInt (c_ps 2)) (cvInt (c_ps 3)) (cvInt (c_ps 4)) (cvInt (c_ps 5)) (rlOf (cvLen (c_ps 6)) (cvCells (c_ps 6))) hp
  ·exact all_flash_smallest_b q (listC (cvLen (c_ps 0)) mkHit (cvCells (c_ps 0))) (cvInt (c_ps 1)) (cvInt (c_ps 2)) (cvInt (c_ps 3)) (cvInt (c_ps 4)) (cvInt (c_ps 5)) (rlOf (cvLen (c_ps 6)) (cvCells (c_ps 6))) hp
 ·cases h
noncomputable def Sy131 : Sum := addF Sy130 105 con_flash_smallest_b
theorem VSy131 : Valid Tryd.prog Sy131 := Valid.addF VSy130 ok_flash_smallest_b
noncomputable def Sy132 : Sum := Sy131
theorem VSy132 : Valid Tryd.prog Sy132 := VSy131
end Go.Proofs.YtmhgjlapkhdlmaaDoor
set_option linter.unusedVariables false
set_option linter.unusedSimpArgs false
namespace Go.Proofs.YtmhgjlapkhdlmaaDoor
open Go.RowKit Ev
theorem plAt_all {x : Lat} {k : Nat} (hk : k < x.sz.toNat) : plAt (allP x) k = posAt x k := by
 simp only [plAt, allP, List.getD, List.getElem?_map, List.getElem?_range hk, Option.map_some, Option.getD_some]
theorem lt_v {α : Type} {v : α} {k : α → Prop} : lt v k = k v := by unfold lt; rfl
theorem n00 : (((0 : Nat) : Int) == (0 : Int)) = true := rfl
theorem wr00 : IntKind.i64.wrap (((0 : Nat) : Int) + ((0 : Nat) : Int)) = 0 := rfl
def vc_ref06_BothErr (l : List FHit) (g0 g1 g2 g3 g4 : Int) (post : DV → Prop) : Prop := (numsP 7 l.length (hitsC l)) ∧ (cond ((hitsE (listC l.length mkHit (hitsC l))) != (0 : Int)) (post (.t (.c (.v (.int .i64 (hitsE (listC l.length mkHit (hitsC l)))))))) (post (.t (.c (.v (.int .i64 (latE (⟨⟨g0, g1, g2⟩, g3, g4⟩ : Lat))))))))
def ann_ref06_BothErr : Ann := ⟨fun _ => none, fun _ => none, fun _ => [], I1, false, fun _ => none, fun _ => none⟩
theorem ev_ref06_BothErr (J : Inv) (l : List FHit) (g0 g1 g2 g3 g4 : Int) (post : DV → Prop) : evFn Tryd.prog tab Sy132 ann_ref06_BothErr J Tryd.f65 [.t (.c (.sl 7 l.length (hitsC l))), .t (.a [.v (.int .i64 g0), .v (.int .i64 g1), .v (.int .i64 g2), .v (.int .i64 g3), .v (.int .i64 g4)])] post = vc_ref06_BothErr l g0 g1 g2 g3 g4 post := by kernel_rfl
theorem fit_ref06_BothErr : okFn ann_ref06_BothErr Tryd.f65 = true := by kernel_rfl
theorem lp_ref06_BothErr (J : Inv) (post : DV → Prop) : AllG J (loopsFn Tryd.prog tab Sy132 ann_ref06_BothErr J Tryd.f65 post) = (True) := by kernel_rfl
theorem spec_ref06_BothErr (l : List FHit) (g0 g1 g2 g3 g4 : Int) : vc_ref06_BothErr l g0 g1 g2 g3 g4 (fun r => LeD r (.t (.c (.v (.int .i64 (bothE l (⟨⟨g0, g1, g2⟩, g3, g4⟩ : Lat))))))) := by
 unfold vc_ref06_BothErr
 simp only [hits_listC]
 refine ⟨numsP_hits l, cond_i (fun h => leI ?_) (fun h => leI ?_)⟩
 ·have h : hitsE l ≠ 0 := by simpa using h
  simp [bothE, firstNZ, h]
 ·have h : hitsE l = 0 := by simpa using h
  unfold bothE
  rw [h]
  by_cases e : latE (⟨⟨g0, g1, g2⟩, g3, g4⟩ : Lat) = 0
  ·rw [e]; rfl
  ·simp [firstNZ, e]
def con_ref06_BothErr : Con := fun args => match args with
 | [.t (.c (.sl 7 n_l c_l)), .t (.a [.v (.int .i64 g0), .v (.int .i64 g1), .v (.int .i64 g2), .v (.int .i64 g3), .v (.int .i64 g4)])] => some (.t (.c (.v (.int .i64 (bothE (listC n_l mkHit c_l) (⟨⟨g0, g1, g2⟩, g3, g4⟩ : Lat))))), some (numsP 7 n_l c_l), false)
 | _ => none
theorem ok_ref06_BothErr : Ok Tryd.prog 65 con_ref06_BothErr := by
 refine Ok.fn (ann := ann_ref06_BothErr) mixed tabOK VSy132 VI1 (fn := Tryd.f65) (by kernel_rfl) (by kernel_rfl) fit_ref06_BothErr fun args r pre fresh h hp => ?_
 unfold con_ref06_BothErr at h
 split at h
 ·rename_i n_l c_l g0 g1 g2 g3 g4
  cases h
  have hp0 := hp
  refine ⟨rfl, fun _ _ _ => False, [.t (.c (.sl 7 ((listC n_l mkHit c_l).length) (hitsC (listC n_l mkHit c_l)))), .t (.a [.v (.int .i64 g0), .v (.int .i64 g1), .v (.int .i64 g2), .v (.int .i64 g3), .v (.int .i64 g4)])], ?_, Nat.le_of_ble_eq_true (by kernel_rfl), ?_, ?_⟩
  ·exact (LeA_cons (leT_c ((leL_FHit hp0))) (LeA_cons (LeD.refl _) LeA_nil))
  ·rw [ev_ref06_BothErr]; exact spec_ref06_BothErr (listC n_l mkHit c_l) g0 g1 g2 g3 g4
  ·rw [lp_ref06_BothErr]; trivial
 ·cases h
noncomputable def Sz133 : Sum := addS Sy132 65 con_ref06_BothErr
theorem VSz133 : Valid Tryd.prog Sz133 := Valid.add VSy132 ok_ref06_BothErr
noncomputable def Sz134 : Sum := Sz133
theorem VSz134 : Valid Tryd.prog Sz134 := VSz133
noncomputable def Sz135 : Sum := Sz134
theorem VSz135 : Valid Tryd.prog Sz135 := VSz134
noncomputable def Sz136 : Sum := Sz135
theorem VSz136 : Valid Tryd.prog Sz136 := VSz135
noncomputable def Sz137 : Sum := Sz136
theorem VSz137 : Valid Tryd.prog Sz137 := VSz136
noncomputable def Sz138 : Sum := Sz137
theorem VSz138 : Valid Tryd.prog Sz138 := VSz137
def mk_base_Before_0 (l : List Int) (l2 : List Int) (v0_0 : Int) : DS := ⟨[some (.t (.c (.sl 1 l.length (intsC l)))), some (.t (.c (.sl 1 l2.length (intsC l2)))), none, none, none, some (.t (.c (.v (.int .i64 v0_0)))), none, none, none, none, none, none, none, none, none, none, none, none, none, none, none, none, none, none, none, none, none, none, none, none, none, none, none, none, none, none, none, none, none, none, none], [none, none, none, none, none, none, none, none, none, none, none, none, none, none, none, none, none, none, none, none, none, none, none, none, none, none, none, none, none, none, none, none, none, none, none, none, none, none, none, none, none]⟩
def vc_base_Before (J : Inv) (l : List Int) (l2 : List Int) (post : DV → Prop) : Prop := ∃ n, J 0 (n :: []) (mk_base_Before_0 l l2 0)
def ann_base_Before : Ann := ⟨fun r => lookA r [(4, ([[], [], [0, 1], [0, 1, 2], [], [], [4, 5], [4, 5, 6], [0, 1, 2, 3, 4, 5, 6, 7]], [[], [], [], [], [], [], [], [], []])), (5, ([[], [], [0, 1], [0, 1, 2], [], [], [4, 5], [4, 5, 6], [0, 1, 2, 3, 4, 5, 6, 7], [0, 1, 2, 3, 4, 5, 6, 7, 8]], [[], [], [], [], [], [], [], [], [], []]))], fun b => lookA b [(0, (none, some ⟨[0, 1, 5], [], []⟩))], fun _ => [], I1, false, fun r => lookA r [(2, (5, [15]))], fun _ => none⟩
theorem ev_base_Before (J : Inv) (l : List Int) (l2 : List Int) (post : DV → Prop) : evFn Tryd.prog tab Sz138 ann_base_Before J Tryd.f81 [.t (.c (.sl 1 l.length (intsC l))), .t (.c (.sl 1 l2.length (intsC l2)))] post = vc_base_Before J l l2 post := by kernel_rfl
theorem fit_base_Before : okFn ann_base_Before Tryd.f81 = true := by kernel_rfl
def rd_base_Before_0 (J : Inv) (l : List Int) (l2 : List Int) (v0_0 : Int) (nn0 : Nat) (post : DV → Prop) : Prop := (cond (decide (v0_0 < ((l.length : Nat) : Int))) (True) ((false = false) ∧ (True))) ∧ (lt ((bif decide (v0_0 < ((l.length : Nat) : Int)) then decide (v0_0 < ((l2.length : Nat) : Int)) else false)) fun x1 => cond x1 ((0 ≤ v0_0 ∧ v0_0 < ((l.length : Nat) : Int)) ∧ ((0 ≤ v0_0 ∧ v0_0 < ((l2.length : Nat) : Int)) ∧ (cond ((l.getD v0_0.toNat 0) != (l2.getD v0_0.toNat 0)) ((0 ≤ v0_0 ∧ v0_0 < ((l.length : Nat) : Int)) ∧ ((0 ≤ v0_0 ∧ v0_0 < ((l2.length : Nat) : Int)) ∧ (post (.t (.c (.v (.bool (decide ((l.getD v0_0.toNat 0) < (l2.getD v0_0.toNat 0)))))))))) (lt (IntKind.i64.wrap (v0_0 + (1 : Int))) fun x2 => J 0 (nn0 :: []) (mk_base_Before_0 l l2 x2))))) (post (.t (.c (.v (.bool (decide (((l.length : Nat) : Int) < ((l2.length : Nat) : Int)))))))))
theorem er_base_Before_0 (J : Inv) (l : List Int) (l2 : List Int) (v0_0 : Int) (nn0 : Nat) (post : DV → Prop) : round Tryd.prog tab Sz138 ann_base_Before J Tryd.f81 post 0 (nn0 :: []) (mk_base_Before_0 l l2 v0_0) = rd_base_Before_0 J l l2 v0_0 nn0 post := by kernel_rfl
theorem lp_base_Before (J : Inv) (post : DV → Prop) : AllG J (loopsFn Tryd.prog tab Sz138 ann_base_Before J Tryd.f81 post) = (((∀ F s, ¬ J 0 (0 :: F) s) ∧ ∀ n F s, J 0 ((n + 1) :: F) s → round Tryd.prog tab Sz138 ann_base_Before J Tryd.f81 post 0 (n :: F) s) ∧ True) := by kernel_rfl
def J_base_Before (l : List Int) (l2 : List Int) : Inv := fun b F s => match b, F with
 | 0, [nn0] => ∃ (v0_0 : Int), s = mk_base_Before_0 l l2 v0_0 ∧ (l.length ≤ 1000000 ∧ 0 ≤ v0_0 ∧ v0_0 ≤ l.length ∧ v0_0 ≤ l2.length ∧ (nn0 : Int) + v0_0 = l.length + 1 ∧ befL (l.drop v0_0.toNat) (l2.drop v0_0.toNat) = befL l l2)
 | _, _ => False
theorem rnd_base_Before_0 (l : List Int) (l2 : List Int) (v0_0 : Int) (nn0 : Nat) (hp : (l).length ≤ 1000000) (hi : l.length ≤ 1000000 ∧ 0 ≤ v0_0 ∧ v0_0 ≤ l.length ∧ v0_0 ≤ l2.length ∧ ((nn0 + 1) : Int) + v0_0 = l.length + 1 ∧ befL (l.drop v0_0.toNat) (l2.drop v0_0.toNat) = befL l l2) : rd_base_Before_0 (J_base_Before l l2) l l2 v0_0 nn0 (fun r => LeD r (.t (.c (.v (.bool (befL l l2)))))) := by
 obtain ⟨i0, i1, i2, i3, i4, i5⟩ := hi
 obtain ⟨k, rfl⟩ : ∃ k : Nat, v0_0 = k := ⟨v0_0.toNat, by omega⟩
 have hk : (k : Int).toNat = k := rfl
 rw [hk] at i5
 unfold rd_base_Before_0
 rw [hk]
 refine ⟨cond_i (fun _ => trivial) (fun _ => ⟨rfl, trivial⟩), lt_i fun x1 h1 => cond_i (fun c => ?_) (fun c => leB ?_)⟩
 ·have hl : k < l.length ∧ k < l2.length := by
   rw [← h1] at c
   by_cases a : (k : Int) < l.length
   ·rw [decide_eq_true a] at c
    have := of_decide_eq_true c
    omega
   ·rw [decide_eq_false a] at c; cases c
  have el : l.drop k = l.getD k 0 :: l.drop (k + 1) := by rw [List.drop_eq_getElem_cons hl.1]; simp [List.getD, hl.1]
  have er : l2.drop k = l2.getD k 0 :: l2.drop (k + 1) := by rw [List.drop_eq_getElem_cons hl.2]; simp [List.getD, hl.2]
  rw [el, er] at i5
  refine ⟨by omega, by omega, cond_i (fun q => ⟨by omega, by omega, leB ?_⟩) (fun q => lt_i fun x hx => ?_)⟩
  ·have q : l.getD k 0 ≠ l2.getD k 0 := by simpa using q
   rw [← i5, befL, decide_eq_false q, Bool.false_and, Bool.or_false]
  ·have q : l.getD k 0 = l2.getD k 0 := by simpa using q
   rw [wi (by omega)] at hx
   subst hx
   refine ⟨_, rfl, i0, by omega, by omega, by omega, by omega, ?_⟩
   rw [show ((k : Int) + 1).toNat = k + 1 by omega, ← i5, befL, q, decide_eq_true rfl, decide_eq_false (Int.lt_irrefl _)]; rfl
 ·rw [← i5]
  by_cases a : k < l.length
  ·have b : ¬ k < l2.length := fun b => by
    rw [← h1, decide_eq_true (show (k : Int) < l.length by omega)] at c
    have := of_decide_eq_false c
    omega
   have el : l.drop k = l.getD k 0 :: l.drop (k + 1) := by rw [List.drop_eq_getElem_cons a]; simp [List.getD, a]
   rw [el, List.drop_eq_nil_of_le (show l2.length ≤ k by omega), decide_eq_false (by omega)]; rfl
  ·rw [List.drop_eq_nil_of_le (show l.length ≤ k by omega)]
   by_cases b : k < l2.length
   ·have er : l2.drop k = l2.getD k 0 :: l2.drop (k + 1) := by rw [List.drop_eq_getElem_cons b]; simp [List.getD, b]
    rw [er, decide_eq_true (by omega)]; rfl
   ·rw [List.drop_eq_nil_of_le (show l2.length ≤ k by omega), decide_eq_false (by omega)]; rfl
theorem zero_base_Before_0 (l : List Int) (l2 : List Int) (v0_0 : Int)  (hi : l.length ≤ 1000000 ∧ 0 ≤ v0_0 ∧ v0_0 ≤ l.length ∧ v0_0 ≤ l2.length ∧ (0 : Int) + v0_0 = l.length + 1 ∧ befL (l.drop v0_0.toNat) (l2.drop v0_0.toNat) = befL l l2) : False := by
 omega
theorem spec_base_Before (l : List Int) (l2 : List Int) (hp : (l).length ≤ 1000000) : vc_base_Before (J_base_Before l l2) l l2 (fun r => LeD r (.t (.c (.v (.bool (befL l l2)))))) := by
 unfold vc_base_Before
 exact ⟨l.length + 1, 0, rfl, hp, by omega, by omega, by omega, by omega, rfl⟩
theorem all_base_Before (l : List Int) (l2 : List Int) (hp : (l).length ≤ 1000000) : AllG (J_base_Before l l2) (loopsFn Tryd.prog tab Sz138 ann_base_Before (J_base_Before l l2) Tryd.f81 (fun r => LeD r (.t (.c (.v (.bool (befL l l2))))))) := by
 rw [lp_base_Before]
 refine ⟨⟨?_, ?_⟩, trivial⟩
 ·intro F s h
  obtain _ | ⟨g, F⟩ := F
  case cons => exact h.elim
  obtain ⟨w0, rfl, hi⟩ := h
  exact zero_base_Before_0 l l2 w0 hi
 ·intro n F s h
  obtain _ | ⟨g, F⟩ := F
  case cons => exact h.elim
  obtain ⟨w0, rfl, hi⟩ := h
  rw [er_base_Before_0]
  exact rnd_base_Before_0 l l2 _ _ hp hi
def con_base_Before : Con := fun args => match args with
 | [.t (.c (.sl 1 n_l c_l)), .t (.c (.sl 1 n_l2 c_l2))] => some (.t (.c (.v (.bool (befL (listC n_l mkInt c_l) (listC n_l2 mkInt c_l2))))), some (numsP 1 n_l c_l ∧ numsP 1 n_l2 c_l2 ∧ ((listC n_l mkInt c_l)).length ≤ 1000000), false)
 | _ => none
theorem ok_base_Before : Ok Tryd.prog 81 con_base_Before := by
 refine Ok.fn (ann := ann_base_Before) mixed tabOK VSz138 VI1 (fn := Tryd.f81) (by kernel_rfl) (by kernel_rfl) fit_base_Before fun args r pre fresh h hp => ?_
 unfold con_base_Before at h
 split at h
 ·rename_i n_l c_l n_l2 c_l2
  cases h
  obtain ⟨hp0, hp1, hp⟩ := hp
  refine ⟨rfl, J_base_Before (listC n_l mkInt c_l) (listC n_l2 mkInt c_l2), [.t (.c (.sl 1 ((listC n_l mkInt c_l).length) (intsC (listC n_l mkInt c_l)))), .t (.c (.sl 1 ((listC n_l2 mkInt c_l2).length) (intsC (listC n_l2 mkInt c_l2))))], ?_, Nat.le_of_ble_eq_true (by kernel_rfl), ?_, ?_⟩
  ·exact (LeA_cons (leT_c ((leL_int hp0))) (LeA_cons (leT_c ((leL_int hp1))) LeA_nil))
  ·rw [ev_base_Before]; exact spec_base_Before (listC n_l mkInt c_l) (listC n_l2 mkInt c_l2) hp
  ·exact all_base_Before (listC n_l mkInt c_l) (listC n_l2 mkInt c_l2) hp
 ·cases h
noncomputable def Sz139 : Sum := addS Sz138 81 con_base_Before
theorem VSz139 : Valid Tryd.prog Sz139 := Valid.add VSz138 ok_base_Before
noncomputable def Sz140 : Sum := Sz139
theorem VSz140 : Valid Tryd.prog Sz140 := VSz139
end Go.Proofs.YtmhgjlapkhdlmaaDoor
set_option linter.unusedVariables false
set_option linter.unusedSimpArgs false
namespace Go.Proofs.YtmhgjlapkhdlmaaDoor
open Go.RowKit Ev
def hasB (r : Rg) (t : Int) : Bool := inB t r.lo r.hi
theorem hasB_iff {r : Rg} {t : Int} : hasB r t = true ↔ r.lo ≤ t ∧ t ≤ r.hi := inB_true
def okT (a b : List Rg) (s t : Int) : Prop := ∀ i, i < a.length → hasB (rgAt a i) s = true ∨ hasB (rgAt b i) t = true
def restR (a b : List Rg) (s : Int) : List Rg := ((List.range a.length).filter fun i => !hasB (rgAt a i) s).map fun i => rgAt b i
def minR (b : List Rg) (k : Nat) : Rg := ((b.drop 1).take k).foldl (fun m r => if r.lo - m.lo < 0 then r else m) (rgAt b 0)
def secT (a b : List Rg) (s : Int) : Option Int := if (restR a b s).length = 0 then some (minR b b.length).lo else if (comm (restR a b s)).lo ≤ (comm (restR a b s)).hi then some (comm (restR a b s)).lo else none
def tmStep (a b : List Rg) (o : Option (Int × Int)) (r : Rg) : Option (Int × Int) := if (o.isSome && decide (r.lo ≥ (o.getD (0, 0)).1)) = true then o else match secT a b r.lo with
 | some t => some (r.lo, t)
 | none => o
def timK (a b : List Rg) (k : Nat) : Option (Int × Int) := (a.take k).foldl (tmStep a b) none
def timF (a b : List Rg) : Option (Int × Int) := timK a b a.length
def losP (l : List Rg) (t : Int) : Prop := ∃ i, i < l.length ∧ (rgAt l i).lo = t
theorem timK_succ {a b : List Rg} {k : Nat} (hk : k < a.length) : timK a b (k + 1) = tmStep a b (timK a b k) (rgAt a k) := by
 unfold timK
 rw [List.take_succ_eq_append_getElem hk, List.foldl_append]
 simp [rgAt, List.getD, hk]
def isT (a b : List Rg) : Option (Int × Int) → Prop
 | none => ∀ s t, losP a s → losP b t → ¬ okT a b s t
 | some (s, t) => losP a s ∧ losP b t ∧ okT a b s t ∧ ∀ s' t', losP a s' → losP b t' → okT a b s' t' → s < s' ∨ (s = s' ∧ t ≤ t')
theorem minR_ok {b : List Rg} : ∀ k, k < b.length → ∃ i, i ≤ k ∧ minR b k = rgAt b i ∧ ∀ j, j ≤ k → (minR b k).lo ≤ (rgAt b j).lo := by
 intro k
 induction k with
 | zero => intro hk; exact ⟨0, Nat.le_refl _, rfl, fun j hj => by
   have : j = 0 := by omega
   rw [this]; exact Int.le_refl _⟩
 | succ k ih =>
  intro hk
  obtain ⟨i, i1, i2, i3⟩ := ih (by omega)
  have hd : k < (b.drop 1).length := by rw [List.length_drop]; omega
  have e : minR b (k + 1) = if (rgAt b (k + 1)).lo - (minR b k).lo < 0 then rgAt b (k + 1) else minR b k := by
   unfold minR
   rw [List.take_succ_eq_append_getElem hd, List.foldl_append]
   simp [rgAt, List.getD, Nat.add_comm 1 k, hk]
  rw [e]
  split
  ·refine ⟨k + 1, Nat.le_refl _, rfl, fun j hj => ?_⟩
   by_cases q : j = k + 1
   ·rw [q]; exact Int.le_refl _
   ·have := i3 j (by omega); omega
  ·refine ⟨i, by omega, i2, fun j hj => ?_⟩
   by_cases q : j = k + 1
   ·rw [q]; omega
   ·exact i3 j (by omega)
theorem minR_end {b : List Rg} (h : 0 < b.length) : minR b b.length = minR b (b.length - 1) := by
 unfold minR
 rw [List.take_of_length_le (by rw [List.length_drop]; omega), List.take_of_length_le (by rw [List.length_drop]; omega)]
theorem comm_lo {l : List Rg} (h0 : 0 < l.length) : ∃ i, i < l.length ∧ (comm l).lo = (rgAt l i).lo := by
 have key : ∀ (m : List Rg) (a : Rg), (m.foldl meetR a).lo = a.lo ∨ ∃ g ∈ m, (m.foldl meetR a).lo = g.lo := by
  intro m
  induction m with
  | nil => intro a; exact Or.inl rfl
  | cons g m ih =>
   intro a
   rw [List.foldl_cons]
   rcases ih (meetR a g) with h | ⟨y, hy, h⟩
   ·rw [h]
    have : (meetR a g).lo = max a.lo g.lo := rfl
    rcases Int.le_total a.lo g.lo with q | q
    ·exact Or.inr ⟨g, by simp, by rw [this]; omega⟩
    ·left; rw [this]; omega
   ·exact Or.inr ⟨y, by simp [hy], h⟩
 rcases key (l.drop 1) (rgAt l 0) with h | ⟨g, hg, h⟩
 ·exact ⟨0, h0, h⟩
 ·obtain ⟨i, hi, rfl⟩ := List.getElem_of_mem hg
  rw [List.length_drop] at hi
  refine ⟨1 + i, by omega, h.trans ?_⟩
  simp [rgAt, List.getD, show i + 1 < l.length by omega, Nat.add_comm 1 i]
theorem mem_rest {a b : List Rg} {s : Int} {g : Rg} : g ∈ restR a b s ↔ ∃ i, i < a.length ∧ hasB (rgAt a i) s = false ∧ rgAt b i = g := by
 unfold restR
 constructor
 ·intro h
  obtain ⟨i, hi, e⟩ := List.mem_map.1 h
  obtain ⟨h1, h2⟩ := List.mem_filter.1 hi
  exact ⟨i, List.mem_range.1 h1, by simpa using h2, e⟩
 ·rintro ⟨i, h1, h2, h3⟩
  exact List.mem_map.2 ⟨i, List.mem_filter.2 ⟨List.mem_range.2 h1, by simpa using h2⟩, h3⟩
theorem okT_rest {a b : List Rg} {s t : Int} : okT a b s t ↔ ∀ g ∈ restR a b s, g.lo ≤ t ∧ t ≤ g.hi := by
 constructor
 ·intro h g hg
  obtain ⟨i, h1, h2, rfl⟩ := mem_rest.1 hg
  rcases h i h1 with q | q
  ·rw [h2] at q; cases q
  ·exact hasB_iff.1 q
 ·intro h i hi
  cases hq : hasB (rgAt a i) s with
  | true => exact Or.inl rfl
  | false => exact Or.inr (hasB_iff.2 (h _ (mem_rest.2 ⟨i, hi, hq, rfl⟩)))
theorem secT_ok {a b : List Rg} {s : Int} (hl : a.length = b.length) (h0 : 0 < a.length) : (secT a b s = none ∧ ∀ t, ¬ okT a b s t) ∨ ∃ t, secT a b s = some t ∧ losP b t ∧ okT a b s t ∧ ∀ t', losP b t' → okT a b s t' → t ≤ t' := by
 unfold secT
 by_cases h : (restR a b s).length = 0
 ·rw [if_pos h]
  right
  obtain ⟨i, i1, i2, i3⟩ := minR_ok (b := b) (b.length - 1) (by omega)
  rw [← minR_end (by omega)] at i2 i3
  refine ⟨_, rfl, ⟨i, by omega, by rw [i2]⟩, okT_rest.2 fun g hg => ?_, fun t' ⟨j, j1, j2⟩ _ => ?_⟩
  ·rw [List.length_eq_zero_iff.1 h] at hg; cases hg
  ·rw [← j2]; exact i3 j (by omega)
 ·rw [if_neg h]
  have hp : 0 < (restR a b s).length := by omega
  by_cases hc : (comm (restR a b s)).lo ≤ (comm (restR a b s)).hi
  ·rw [if_pos hc]
   right
   obtain ⟨i, i1, i2⟩ := comm_lo hp
   have hg : rgAt (restR a b s) i ∈ restR a b s := by rw [show rgAt (restR a b s) i = (restR a b s)[i] by simp [rgAt, List.getD, i1]]; exact List.getElem_mem i1
   obtain ⟨j, j1, j2, j3⟩ := mem_rest.1 hg
   refine ⟨_, rfl, ⟨j, by omega, by rw [i2, j3]⟩, okT_rest.2 ((comm_iff hp).1 ⟨Int.le_refl _, hc⟩), fun t' _ ht => ?_⟩
   exact ((comm_iff hp).2 (okT_rest.1 ht)).1
  ·rw [if_neg hc]
   left
   refine ⟨rfl, fun t ht => ?_⟩
   have := (comm_iff hp).2 (okT_rest.1 ht)
   omega
theorem timK_ok {a b : List Rg} (hl : a.length = b.length) : ∀ k, k ≤ a.length → match timK a b k with
  | none => ∀ i, i < k → ∀ t, losP b t → ¬ okT a b (rgAt a i).lo t
  | some (s, t) => losP a s ∧ losP b t ∧ okT a b s t ∧ (∀ t', losP b t' → okT a b s t' → t ≤ t') ∧ ∀ i, i < k → ∀ t', losP b t' → okT a b (rgAt a i).lo t' → s ≤ (rgAt a i).lo := by
 intro k
 induction k with
 | zero => intro _; exact fun i hi => by omega
 | succ k ih =>
  intro hk
  have i0 := ih (by omega)
  rw [timK_succ (by omega)]
  unfold tmStep
  cases ho : timK a b k with
  | none =>
   rw [ho] at i0
   simp only [Option.isSome_none, Bool.false_and, if_neg (show ¬ (false = true) by simp)]
   rcases secT_ok (s := (rgAt a k).lo) hl (by omega) with ⟨e, h⟩ | ⟨t, e, h1, h2, h3⟩
   ·rw [e]
    intro i hi t ht
    by_cases q : i = k
    ·rw [q]; exact h t
    ·exact i0 i (by omega) t ht
   ·rw [e]
    refine ⟨⟨k, by omega, rfl⟩, h1, h2, h3, fun i hi t' ht hok => ?_⟩
    by_cases q : i = k
    ·rw [q]; exact Int.le_refl _
    ·exact (i0 i (by omega) t' ht hok).elim
  | some q =>
   obtain ⟨s, t⟩ := q
   rw [ho] at i0
   obtain ⟨j1, j2, j3, j4, j5⟩ := i0
   simp only [Option.isSome_some, Bool.true_and, Option.getD_some]
   by_cases hs : (rgAt a k).lo ≥ s
   ·rw [if_pos (decide_eq_true hs)]
    refine ⟨j1, j2, j3, j4, fun i hi t' ht hok => ?_⟩
    by_cases q : i = k
    ·rw [q]; omega
    ·exact j5 i (by omega) t' ht hok
   ·rw [if_neg (by rw [decide_eq_false hs]; simp)]
    rcases secT_ok (s := (rgAt a k).lo) hl (by omega) with ⟨e, h⟩ | ⟨u, e, h1, h2, h3⟩
    ·rw [e]
     refine ⟨j1, j2, j3, j4, fun i hi t' ht hok => ?_⟩
     by_cases q : i = k
     ·rw [q] at hok; exact (h t' hok).elim
     ·exact j5 i (by omega) t' ht hok
    ·rw [e]
     refine ⟨⟨k, by omega, rfl⟩, h1, h2, h3, fun i hi t' ht hok => ?_⟩
     by_cases q : i = k
     ·rw [q]; exact Int.le_refl _
     ·have := j5 i (by omega) t' ht hok; omega
theorem timF_ok {a b : List Rg} (hl : a.length = b.length) : isT a b (timF a b) := by
 have h := timK_ok hl a.length (Nat.le_refl _)
 unfold timF
 cases ho : timK a b a.length with
 | none =>
  rw [ho] at h
  rintro s t ⟨i, i1, rfl⟩ ht
  exact h i i1 t ht
 | some q =>
  obtain ⟨s, t⟩ := q
  rw [ho] at h
  obtain ⟨j1, j2, j3, j4, j5⟩ := h
  refine ⟨j1, j2, j3, ?_⟩
  rintro s' t' ⟨i, i1, rfl⟩ ht hok
  have := j5 i i1 t' ht hok
  rcases (by omega : s < (rgAt a i).lo ∨ s = (rgAt a i).lo) with q | q
  ·exact Or.inl q
  ·right
   refine ⟨q, j4 t' ht ?_⟩
   rw [q]; exact hok
def prB (sp : List (List Rg)) (q : Nat) : Bool := decide (q / sp.length ≤ q % sp.length) && (timF (rlAt sp (q / sp.length)) (rlAt sp (q % sp.length))).isSome
def prN (sp : List (List Rg)) : Nat := (List.range (sp.length * sp.length)).findIdx (prB sp)
theorem pr_code {n i k : Nat} (hk : k < n) : (i * n + k) / n = i ∧ (i * n + k) % n = k := by
 rw [Nat.mul_comm]
 exact ⟨by rw [Nat.mul_add_div (by omega), Nat.div_eq_of_lt hk, Nat.add_zero], by rw [Nat.mul_add_mod, Nat.mod_eq_of_lt hk]⟩
theorem pr_lt {n i k : Nat} (hi : i < n) (hk : k < n) : i * n + k < n * n := by
 have := Nat.mul_le_mul_right n (show i + 1 ≤ n by omega)
 rw [Nat.add_mul] at this
 omega
theorem prN_at {sp : List (List Rg)} {q : Nat} (hq : q < sp.length * sp.length) (h : prB sp q = true) (hz : ∀ j, j < q → prB sp j = false) : prN sp = q := by
 unfold prN
 rw [List.findIdx_eq (by rw [List.length_range]; exact hq)]
 refine ⟨by rw [List.getElem_range]; exact h, fun j hj => by rw [List.getElem_range]; exact hz j hj⟩
theorem prN_none {sp : List (List Rg)} (hz : ∀ j, j < sp.length * sp.length → prB sp j = false) : prN sp = sp.length * sp.length := by
 unfold prN
 have := List.findIdx_le_length (p := prB sp) (xs := List.range (sp.length * sp.length))
 rw [List.length_range] at this
 rcases Nat.lt_or_ge ((List.range (sp.length * sp.length)).findIdx (prB sp)) (sp.length * sp.length) with h | h
 ·have h2 := List.findIdx_getElem (w := (by rw [List.length_range]; exact h : (List.range (sp.length * sp.length)).findIdx (prB sp) < (List.range (sp.length * sp.length)).length))
  rw [List.getElem_range, hz _ h] at h2
  cases h2
 ·omega
def hasP (sp : List (List Rg)) : Bool := decide (prN sp < sp.length * sp.length)
def prT (sp : List (List Rg)) : Int × Int := (timF (rlAt sp (prN sp / sp.length)) (rlAt sp (prN sp % sp.length))).getD (0, 0)
structure Pr4 where
 (a b s t : Int)
def prV (sp : List (List Rg)) : Pr4 := if hasP sp = true then ⟨(prN sp / sp.length : Nat), (prN sp % sp.length : Nat), (prT sp).1, (prT sp).2⟩ else ⟨0, 0, 0, 0⟩
theorem prV_at {sp : List (List Rg)} {i k : Nat} {s t : Int} (hi : i < sp.length) (hk : k < sp.length) (hik : i ≤ k) (h : timF (rlAt sp i) (rlAt sp k) = some (s, t)) (hz : ∀ j, j < i * sp.length + k → prB sp j = false) : hasP sp = true ∧ prV sp = ⟨i, k, s, t⟩ := by
 obtain ⟨c1, c2⟩ := pr_code (i := i) hk
 have hq := pr_lt hi hk
 have hb : prB sp (i * sp.length + k) = true := by
  unfold prB
  rw [c1, c2, h, decide_eq_true hik]; rfl
 have e := prN_at hq hb hz
 have hp : hasP sp = true := by unfold hasP; rw [e]; exact decide_eq_true hq
 refine ⟨hp, ?_⟩
 rw [show prV sp = _ from if_pos hp]
 unfold prT
 rw [e, c1, c2, h]; rfl
theorem prV_none {sp : List (List Rg)} (hz : ∀ j, j < sp.length * sp.length → prB sp j = false) : hasP sp = false ∧ prV sp = ⟨0, 0, 0, 0⟩ := by
 have hp : hasP sp = false := by unfold hasP; rw [prN_none hz]; exact decide_eq_false (by omega)
 exact ⟨hp, if_neg (by rw [hp]; simp)⟩
theorem prB_low {sp : List (List Rg)} {i k : Nat} (hki : k < i) (hk : k < sp.length) : prB sp (i * sp.length + k) = false := by
 obtain ⟨c1, c2⟩ := pr_code (i := i) hk
 unfold prB
 rw [c1, c2, decide_eq_false (by omega)]; rfl
theorem prB_none {sp : List (List Rg)} {i k : Nat} (hk : k < sp.length) (h : timF (rlAt sp i) (rlAt sp k) = none) : prB sp (i * sp.length + k) = false := by
 obtain ⟨c1, c2⟩ := pr_code (i := i) hk
 unfold prB
 rw [c1, c2, h]; simp
theorem prB_row {sp : List (List Rg)} {i : Nat} (hi : i < sp.length) (h : ∀ j, j < i * sp.length + sp.length → prB sp j = false) : ∀ j, j < (i + 1) * sp.length + (i + 1) → j < sp.length * sp.length → prB sp j = false := by
 intro j hj hj2
 rcases Nat.lt_or_ge j (i * sp.length + sp.length) with q | q
 ·exact h j q
 ·have e : (i + 1) * sp.length = i * sp.length + sp.length := by rw [Nat.add_mul, Nat.one_mul]
  obtain ⟨k, rfl⟩ : ∃ k, j = (i + 1) * sp.length + k := ⟨j - (i + 1) * sp.length, by omega⟩
  rcases Nat.lt_or_ge k sp.length with h1 | h1
  ·exact prB_low (by omega) h1
  ·exfalso
   have : (i + 1) * sp.length + sp.length = (i + 1 + 1) * sp.length := by rw [Nat.add_mul (i + 1), Nat.one_mul]
   omega
end Go.Proofs.YtmhgjlapkhdlmaaDoor