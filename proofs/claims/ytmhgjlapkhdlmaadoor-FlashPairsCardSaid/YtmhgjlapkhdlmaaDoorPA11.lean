/- Texts of this claim, together. -/
import Derived.Test.YtmhgjlapkhdlmaaDoorPA10
import Derived.Test.YtmhgjlapkhdlmaaDoorPA5

set_option linter.unusedVariables false
set_option linter.unusedSimpArgs false
namespace Go.Proofs.YtmhgjlapkhdlmaaDoor
open Go.RowKit Ev
def rowOk (s : List Int) (r : List Rg) : Prop := (∀ i ∈ s, 0 ≤ i ∧ i < r.length) ∧ 0 < s.length ∧ s.length ≤ 1000
def exOk (sp : List (List Rg)) (s : List Int) : Prop := (∀ a ∈ sp, ∀ i ∈ s, 0 ≤ i ∧ i < a.length) ∧ s.length ≤ 1000 ∧ sp.length ≤ 1000
def cnOk (q : Int) (sp : List (List Rg)) : Prop := (1 ≤ q ∧ q ≤ 8) ∧ sp.length ≤ 1000 ∧ ∀ a ∈ sp, (a.length : Int) = q
theorem cnOk_ex {q : Int} {sp : List (List Rg)} {k : Nat} (h : cnOk q sp) (hk : k < 2 ^ q.toNat) : exOk sp (membs 8 k) := by
 obtain ⟨h1, h2, h3⟩ := h
 refine ⟨fun a ha i hi => ?_, ?_, h2⟩
 ·rw [← membs_n (n := q.toNat) (by omega) hk] at hi
  have := mem_membs hi
  have := h3 a ha
  omega
 ·have := membs_lt 8 k; omega
noncomputable def Sy124 : Sum := Sx123
theorem VSy124 : Valid Tryd.prog Sy124 := VSx123
noncomputable def Sy125 : Sum := Sy124
theorem VSy125 : Valid Tryd.prog Sy125 := VSy124
def mk_cherenkov_flash_search_explained_1_0 (a : List Rg) (v : List Int) (v0_0 : List (List CV)) (v0_1 : Int) : DS := ⟨[some (.t (.c (.sl 2 a.length (rgsC a)))), none, none, none, some (.t (.c (.os 4))), none, none, none, some (.t (.c (.sl 1 v.length (intsC v)))), some (.t (.c (.v (.int .i64 ((v.length : Nat) : Int))))), some (.t (.c (.v (.int .i64 v0_1)))), none, none, none, none, none, none, none, none, none, none, none, none, none, none, none, none, none, none], [none, none, none, none, some (.gen 94 2 v0_0), none, none, none, none, none, none, none, none, none, none, none, none, none, none, none, none, none, none, none, none, none, none, none, none]⟩
def vc_cherenkov_flash_search_explained_1 (J : Inv) (a : List Rg) (v : List Int) (post : DV → Prop) : Prop := ∃ n, J 0 (n :: []) (mk_cherenkov_flash_search_explained_1_0 a v ([]) 0)
def ann_cherenkov_flash_search_explained_1 : Ann := ⟨fun _ => none, fun b => lookA b [(0, (none, some ⟨[0, 8, 9, 10], [], [(4, .gen 94 2 [])]⟩))], fun _ => [], I1, false, fun _ => none, fun _ => none⟩
theorem ev_cherenkov_flash_search_explained_1 (J : Inv) (a : List Rg) (v : List Int) (post : DV → Prop) : evFn Tryd.prog tab Sy125 ann_cherenkov_flash_search_explained_1 J Tryd.f154 [.t (.c (.sl 2 a.length (rgsC a))), .t (.c (.px 1 0 (boxC [.sl 1 v.length (intsC v)])))] post = vc_cherenkov_flash_search_explained_1 J a v post := by kernel_rfl
theorem fit_cherenkov_flash_search_explained_1 : okFn ann_cherenkov_flash_search_explained_1 Tryd.f154 = true := by kernel_rfl
def rd_cherenkov_flash_search_explained_1_0 (J : Inv) (a : List Rg) (v : List Int) (v0_0 : List (List CV)) (v0_1 : Int) (nn0 : Nat) (post : DV → Prop) : Prop := cond (decide (v0_1 < ((v.length : Nat) : Int))) ((0 ≤ v0_1 ∧ v0_1 < ((v.length : Nat) : Int)) ∧ ((0 ≤ (v.getD v0_1.toNat 0) ∧ (v.getD v0_1.toNat 0) < ((a.length : Nat) : Int)) ∧ ((roomP 16 (v0_0.length + ([[.v (.int .i64 ((rgAt a ((v.getD v0_1.toNat 0).toNat)).lo)), .v (.int .i64 ((rgAt a ((v.getD v0_1.toNat 0).toNat)).hi))]] : List (List CV)).length)) ∧ (lt (IntKind.i64.wrap (v0_1 + (1 : Int))) fun x1 => J 0 (nn0 :: []) (mk_cherenkov_flash_search_explained_1_0 a v (v0_0 ++ ([[.v (.int .i64 ((rgAt a ((v.getD v0_1.toNat 0).toNat)).lo)), .v (.int .i64 ((rgAt a ((v.getD v0_1.toNat 0).toNat)).hi))]] : List (List CV))) x1))))) ((numsP 2 v0_0.length (genC v0_0) ∧ 0 < ((listC v0_0.length mkRg (genC v0_0))).length ∧ ((listC v0_0.length mkRg (genC v0_0))).length ≤ 1000000) ∧ (post (.t (.c (.v (.bool (decide (((comm (listC v0_0.length mkRg (genC v0_0))).lo) ≤ ((comm (listC v0_0.length mkRg (genC v0_0))).hi)))))))))
theorem er_cherenkov_flash_search_explained_1_0 (J : Inv) (a : List Rg) (v : List Int) (v0_0 : List (List CV)) (v0_1 : Int) (nn0 : Nat) (post : DV → Prop) : round Tryd.prog tab Sy125 ann_cherenkov_flash_search_explained_1 J Tryd.f154 post 0 (nn0 :: []) (mk_cherenkov_flash_search_explained_1_0 a v v0_0 v0_1) = rd_cherenkov_flash_search_explained_1_0 J a v v0_0 v0_1 nn0 post := by kernel_rfl
theorem lp_cherenkov_flash_search_explained_1 (J : Inv) (post : DV → Prop) : AllG J (loopsFn Tryd.prog tab Sy125 ann_cherenkov_flash_search_explained_1 J Tryd.f154 post) = (((∀ F s, ¬ J 0 (0 :: F) s) ∧ ∀ n F s, J 0 ((n + 1) :: F) s → round Tryd.prog tab Sy125 ann_cherenkov_flash_search_explained_1 J Tryd.f154 post 0 (n :: F) s) ∧ True) := by kernel_rfl
def J_cherenkov_flash_search_explained_1 (a : List Rg) (v : List Int) : Inv := fun b F s => match b, F with
 | 0, [nn0] => ∃ (v0_0 : List (List CV)) (v0_1 : Int), s = mk_cherenkov_flash_search_explained_1_0 a v v0_0 v0_1 ∧ (rowOk v a ∧ 0 ≤ v0_1 ∧ v0_1 ≤ v.length ∧ (nn0 : Int) + v0_1 = v.length + 1 ∧ v0_0 = (subR a (v.take v0_1.toNat)).map rgCv)
 | _, _ => False
theorem rnd_cherenkov_flash_search_explained_1_0 (a : List Rg) (v : List Int) (v0_0 : List (List CV)) (v0_1 : Int) (nn0 : Nat) (hp : rowOk v a) (hi : rowOk v a ∧ 0 ≤ v0_1 ∧ v0_1 ≤ v.length ∧ ((nn0 + 1) : Int) + v0_1 = v.length + 1 ∧ v0_0 = (subR a (v.take v0_1.toNat)).map rgCv) : rd_cherenkov_flash_search_explained_1_0 (J_cherenkov_flash_search_explained_1 a v) a v v0_0 v0_1 nn0 (fun r => LeD r (.t (.c (.v (.bool (rowB v a)))))) := by
 obtain ⟨⟨q1, q2, q3⟩, i1, i2, i3, i4⟩ := hi
 obtain ⟨k, rfl⟩ : ∃ k : Nat, v0_1 = k := ⟨v0_1.toNat, by omega⟩
 have hk : (k : Int).toNat = k := rfl
 rw [hk] at i4
 unfold rd_cherenkov_flash_search_explained_1_0
 rw [hk]
 refine cond_i (fun h => ?_) (fun h => ?_)
 ·have hlt : k < v.length := by have := of_decide_eq_true h; omega
  have hx := q1 _ (getD_mem hlt)
  refine ⟨by omega, by omega, ?_, lt_i fun x hx => ?_⟩
  ·rw [i4]; unfold roomP maxLen subR; simp; omega
  ·rw [wi (by omega)] at hx
   subst hx
   refine ⟨_, _, rfl, ⟨q1, q2, q3⟩, by omega, by omega, by omega, ?_⟩
   rw [show ((k : Int) + 1).toNat = k + 1 by omega, take_getD (0 : Int) hlt, i4]
   unfold subR
   rw [List.map_append, List.map_append]; rfl
 ·have hge : k = v.length := by have := of_decide_eq_false h; omega
  rw [hge, List.take_length] at i4
  subst i4
  simp only [rgg_listC]
  have e : (subR a v).length = v.length := by unfold subR; rw [List.length_map]
  exact ⟨⟨numsP_rgg _, by omega, by omega⟩, LeD.refl _⟩
theorem zero_cherenkov_flash_search_explained_1_0 (a : List Rg) (v : List Int) (v0_0 : List (List CV)) (v0_1 : Int)  (hi : rowOk v a ∧ 0 ≤ v0_1 ∧ v0_1 ≤ v.length ∧ (0 : Int) + v0_1 = v.length + 1 ∧ v0_0 = (subR a (v.take v0_1.toNat)).map rgCv) : False := by
 omega
theorem spec_cherenkov_flash_search_explained_1 (a : List Rg) (v : List Int) (hp : rowOk v a) : vc_cherenkov_flash_search_explained_1 (J_cherenkov_flash_search_explained_1 a v) a v (fun r => LeD r (.t (.c (.v (.bool (rowB v a)))))) := by
 unfold vc_cherenkov_flash_search_explained_1
 exact ⟨v.length + 1, [], 0, rfl, hp, by omega, by omega, by omega, rfl⟩
theorem all_cherenkov_flash_search_explained_1 (a : List Rg) (v : List Int) (hp : rowOk v a) : AllG (J_cherenkov_flash_search_explained_1 a v) (loopsFn Tryd.prog tab Sy125 ann_cherenkov_flash_search_explained_1 (J_cherenkov_flash_search_explained_1 a v) Tryd.f154 (fun r => LeD r (.t (.c (.v (.bool (rowB v a))))))) := by
 rw [lp_cherenkov_flash_search_explained_1]
 refine ⟨⟨?_, ?_⟩, trivial⟩
 ·intro F s h
  obtain _ | ⟨g, F⟩ := F
  case cons => exact h.elim
  obtain ⟨w0, w1, rfl, hi⟩ := h
  exact zero_cherenkov_flash_search_explained_1_0 a v w0 w1 hi
 ·intro n F s h
  obtain _ | ⟨g, F⟩ := F
  case cons => exact h.elim
  obtain ⟨w0, w1, rfl, hi⟩ := h
  rw [er_cherenkov_flash_search_explained_1_0]
  exact rnd_cherenkov_flash_search_explained_1_0 a v _ _ _ hp hi
def con_cherenkov_flash_search_explained_1 : Con := fun args => match args with
 | [.t (.c (.sl 2 n_a c_a)), .t (.c (.px 1 0 c_pm))] => some (.t (.c (.v (.bool (rowB (listC (cvLen (c_pm 0)) mkInt (cvCells (c_pm 0))) (listC n_a mkRg c_a))))), some (numsP 2 n_a c_a ∧ intsB [] c_pm = true ∧ slP 1 (c_pm 0) ∧ numsP 1 (cvLen (c_pm 0)) (cvCells (c_pm 0)) ∧ rowOk (listC (cvLen (c_pm 0)) mkInt (cvCells (c_pm 0))) (listC n_a mkRg c_a)), false)
 | _ => none
theorem ok_cherenkov_flash_search_explained_1 : Ok Tryd.prog 154 con_cherenkov_flash_search_explained_1 := by
 refine Ok.fn (ann := ann_cherenkov_flash_search_explained_1) mixed tabOK VSy125 VI1 (fn := Tryd.f154) (by kernel_rfl) (by kernel_rfl) fit_cherenkov_flash_search_explained_1 fun args r pre fresh h hp => ?_
 unfold con_cherenkov_flash_search_explained_1 at h
 split at h
 ·rename_i n_a c_a c_pm
  cases h
  obtain ⟨hp0, hp1, hp2, hp3, hp⟩ := hp
  refine ⟨rfl, J_cherenkov_flash_search_explained_1 (listC n_a mkRg c_a) (listC (cvLen (c_pm 0)) mkInt (cvCells (c_pm 0))), [.t (.c (.sl 2 ((listC n_a mkRg c_a).length) (rgsC (listC n_a mkRg c_a)))), .t (.c (.px 1 0 (boxC [.sl 1 ((listC (cvLen (c_pm 0)) mkInt (cvCells (c_pm 0))).length) (intsC (listC (cvLen (c_pm 0)) mkInt (cvCells (c_pm 0))))])))], ?_, Nat.le_of_ble_eq_true (by kernel_rfl), ?_, ?_⟩
  ·exact (LeA_cons (leT_c ((leL_Rg hp0))) (LeA_cons (leT_c (leC_p (LeCs.cons (leC_s hp2 (leL_int hp3)) LeCs.nil))) LeA_nil))
  ·rw [ev_cherenkov_flash_search_explained_1]; exact spec_cherenkov_flash_search_explained_1 (listC n_a mkRg c_a) (listC (cvLen (c_pm 0)) mkInt (cvCells (c_pm 0))) hp
  ·exact all_cherenkov_flash_search_explained_1 (listC n_a mkRg c_a) (listC (cvLen (c_pm 0)) mkInt (cvCells (c_pm 0))) hp
 ·cases h
noncomputable def Sy126 : Sum := addS Sy125 154 con_cherenkov_flash_search_explained_1
theorem VSy126 : Valid Tryd.prog Sy126 := Valid.add VSy125 ok_cherenkov_flash_search_explained_1
def mk_slices_IndexFunc_cherenkov_api_Range_cherenkov_api_Range_0 (sp : List (List Rg)) (v : List Int) (v0_0 : Int) : DS := ⟨[some (.t (.c (.sl 1 sp.length (rlsC sp)))), some (.t (.fn 154 [.px 1 0 (boxC [.sl 1 v.length (intsC v)])])), none, none, none, none, none, some (.t (.c (.v (.int .i64 ((sp.length : Nat) : Int))))), some (.t (.c (.v (.int .i64 v0_0)))), none, none, none, none, none, none, none, none, none, none], [none, none, none, none, none, none, none, none, none, none, none, none, none, none, none, none, none, none, none]⟩
def vc_slices_IndexFunc_cherenkov_api_Range_cherenkov_api_Range (J : Inv) (sp : List (List Rg)) (v : List Int) (post : DV → Prop) : Prop := ∃ n, J 0 (n :: []) (mk_slices_IndexFunc_cherenkov_api_Range_cherenkov_api_Range_0 sp v 0)
def ann_slices_IndexFunc_cherenkov_api_Range_cherenkov_api_Range : Ann := ⟨fun _ => none, fun b => lookA b [(0, (none, some ⟨[0, 1, 7, 8], [], []⟩))], fun _ => [], I1, false, fun _ => none, fun _ => none⟩
theorem ev_slices_IndexFunc_cherenkov_api_Range_cherenkov_api_Range (J : Inv) (sp : List (List Rg)) (v : List Int) (post : DV → Prop) : evFn Tryd.prog tab Sy126 ann_slices_IndexFunc_cherenkov_api_Range_cherenkov_api_Range J Tryd.f160 [.t (.c (.sl 1 sp.length (rlsC sp))), .t (.fn 154 [.px 1 0 (boxC [.sl 1 v.length (intsC v)])])] post = vc_slices_IndexFunc_cherenkov_api_Range_cherenkov_api_Range J sp v post := by kernel_rfl
theorem fit_slices_IndexFunc_cherenkov_api_Range_cherenkov_api_Range : okFn ann_slices_IndexFunc_cherenkov_api_Range_cherenkov_api_Range Tryd.f160 = true := by kernel_rfl
def rd_slices_IndexFunc_cherenkov_api_Range_cherenkov_api_Range_0 (J : Inv) (sp : List (List Rg)) (v : List Int) (v0_0 : Int) (nn0 : Nat) (post : DV → Prop) : Prop := cond (decide (v0_0 < ((sp.length : Nat) : Int))) ((0 ≤ v0_0 ∧ v0_0 < ((sp.length : Nat) : Int)) ∧ ((numsP 2 ((rlAt sp v0_0.toNat).length) (rgsC (rlAt sp v0_0.toNat)) ∧ intsB [] (boxC [.sl 1 v.length (intsC v)]) = true ∧ slP 1 ((boxC [.sl 1 v.length (intsC v)]) 0) ∧ numsP 1 v.length (intsC v) ∧ rowOk (listC v.length mkInt (intsC v)) (listC ((rlAt sp v0_0.toNat).length) mkRg (rgsC (rlAt sp v0_0.toNat)))) ∧ (cond (rowB (listC v.length mkInt (intsC v)) (listC ((rlAt sp v0_0.toNat).length) mkRg (rgsC (rlAt sp v0_0.toNat)))) (post (.t (.c (.v (.int .i64 v0_0))))) (lt (IntKind.i64.wrap (v0_0 + (1 : Int))) fun x1 => J 0 (nn0 :: []) (mk_slices_IndexFunc_cherenkov_api_Range_cherenkov_api_Range_0 sp v x1))))) (post (.t (.c (.v (.int .i64 (-1))))))
theorem er_slices_IndexFunc_cherenkov_api_Range_cherenkov_api_Range_0 (J : Inv) (sp : List (List Rg)) (v : List Int) (v0_0 : Int) (nn0 : Nat) (post : DV → Prop) : round Tryd.prog tab Sy126 ann_slices_IndexFunc_cherenkov_api_Range_cherenkov_api_Range J Tryd.f160 post 0 (nn0 :: []) (mk_slices_IndexFunc_cherenkov_api_Range_cherenkov_api_Range_0 sp v v0_0) = rd_slices_IndexFunc_cherenkov_api_Range_cherenkov_api_Range_0 J sp v v0_0 nn0 post := by kernel_rfl
theorem lp_slices_IndexFunc_cherenkov_api_Range_cherenkov_api_Range (J : Inv) (post : DV → Prop) : AllG J (loopsFn Tryd.prog tab Sy126 ann_slices_IndexFunc_cherenkov_api_Range_cherenkov_api_Range J Tryd.f160 post) = (((∀ F s, ¬ J 0 (0 :: F) s) ∧ ∀ n F s, J 0 ((n + 1) :: F) s → round Tryd.prog tab Sy126 ann_slices_IndexFunc_cherenkov_api_Range_cherenkov_api_Range J Tryd.f160 post 0 (n :: F) s) ∧ True) := by kernel_rfl
def J_slices_IndexFunc_cherenkov_api_Range_cherenkov_api_Range (sp : List (List Rg)) (v : List Int) : Inv := fun b F s => match b, F with
 | 0, [nn0] => ∃ (v0_0 : Int), s = mk_slices_IndexFunc_cherenkov_api_Range_cherenkov_api_Range_0 sp v v0_0 ∧ (sp.length ≤ 1000000 ∧ 0 ≤ v0_0 ∧ v0_0 ≤ sp.length ∧ (nn0 : Int) + v0_0 = sp.length + 1 ∧ ∀ k : Nat, (k : Int) < v0_0 → rowB v (rlAt sp k) = false)
 | _, _ => False
theorem rnd_slices_IndexFunc_cherenkov_api_Range_cherenkov_api_Range_0 (sp : List (List Rg)) (v : List Int) (v0_0 : Int) (nn0 : Nat) (hp : exOk sp v ∧ 0 < (v).length) (hi : sp.length ≤ 1000000 ∧ 0 ≤ v0_0 ∧ v0_0 ≤ sp.length ∧ ((nn0 + 1) : Int) + v0_0 = sp.length + 1 ∧ ∀ k : Nat, (k : Int) < v0_0 → rowB v (rlAt sp k) = false) : rd_slices_IndexFunc_cherenkov_api_Range_cherenkov_api_Range_0 (J_slices_IndexFunc_cherenkov_api_Range_cherenkov_api_Range sp v) sp v v0_0 nn0 (fun r => LeD r (.t (.c (.v (.int .i64 (idxP (rowB v) sp)))))) := by
 obtain ⟨i0, i1, i2, i3, i4⟩ := hi
 obtain ⟨k, rfl⟩ : ∃ k : Nat, v0_0 = k := ⟨v0_0.toNat, by omega⟩
 have hk : (k : Int).toNat = k := rfl
 unfold rd_slices_IndexFunc_cherenkov_api_Range_cherenkov_api_Range_0
 rw [hk, ints_listC, rgs_listC]
 refine cond_i (fun h => ?_) (fun h => leI ?_)
 ·have hlt : k < sp.length := by have := of_decide_eq_true h; omega
  refine ⟨by omega, ⟨numsP_rgs _, rfl, rfl, numsP_ints v, ⟨fun i hi => hp.1.1 _ (by rw [rlAt_lt hlt]; exact List.getElem_mem hlt) i hi, hp.2, hp.1.2.1⟩⟩, cond_i (fun e => leI ?_) (fun e => lt_i fun x hx => ?_)⟩
  ·exact (idxP_at (d := ([] : List Rg)) hlt (fun j hj => i4 j (by omega)) e).symm
  ·rw [wi (by omega)] at hx
   subst hx
   exact ⟨_, rfl, i0, by omega, by omega, by omega, fun j hj => by
    by_cases q : j = k
    ·rw [q]; exact e
    ·exact i4 j (by omega)⟩
 ·have hge : k = sp.length := by have := of_decide_eq_false h; omega
  subst hge
  exact (idxP_none (d := ([] : List Rg)) fun j hj => i4 j (by omega)).symm
theorem zero_slices_IndexFunc_cherenkov_api_Range_cherenkov_api_Range_0 (sp : List (List Rg)) (v : List Int) (v0_0 : Int)  (hi : sp.length ≤ 1000000 ∧ 0 ≤ v0_0 ∧ v0_0 ≤ sp.length ∧ (0 : Int) + v0_0 = sp.length + 1 ∧ ∀ k : Nat, (k : Int) < v0_0 → rowB v (rlAt sp k) = false) : False := by
 omega
theorem spec_slices_IndexFunc_cherenkov_api_Range_cherenkov_api_Range (sp : List (List Rg)) (v : List Int) (hp : exOk sp v ∧ 0 < (v).length) : vc_slices_IndexFunc_cherenkov_api_Range_cherenkov_api_Range (J_slices_IndexFunc_cherenkov_api_Range_cherenkov_api_Range sp v) sp v (fun r => LeD r (.t (.c (.v (.int .i64 (idxP (rowB v) sp)))))) := by
 have hp3 := hp.1.2.2
 unfold vc_slices_IndexFunc_cherenkov_api_Range_cherenkov_api_Range
 exact ⟨sp.length + 1, 0, rfl, by omega, by omega, by omega, by omega, fun j hj => by omega⟩
theorem all_slices_IndexFunc_cherenkov_api_Range_cherenkov_api_Range (sp : List (List Rg)) (v : List Int) (hp : exOk sp v ∧ 0 < (v).length) : AllG (J_slices_IndexFunc_cherenkov_api_Range_cherenkov_api_Range sp v) (loopsFn Tryd.prog tab Sy126 ann_slices_IndexFunc_cherenkov_api_Range_cherenkov_api_Range (J_slices_IndexFunc_cherenkov_api_Range_cherenkov_api_Range sp v) Tryd.f160 (fun r => LeD r (.t (.c (.v (.int .i64 (idxP (rowB v) sp))))))) := by
 rw [lp_slices_IndexFunc_cherenkov_api_Range_cherenkov_api_Range]
 refine ⟨⟨?_, ?_⟩, trivial⟩
 ·intro F s h
  obtain _ | ⟨g, F⟩ := F
  case cons => exact h.elim
  obtain ⟨w0, rfl, hi⟩ := h
  exact zero_slices_IndexFunc_cherenkov_api_Range_cherenkov_api_Range_0 sp v w0 hi
 ·intro n F s h
  obtain _ | ⟨g, F⟩ := F
  case cons => exact h.elim
  obtain ⟨w0, rfl, hi⟩ := h
  rw [er_slices_IndexFunc_cherenkov_api_Range_cherenkov_api_Range_0]
  exact rnd_slices_IndexFunc_cherenkov_api_Range_cherenkov_api_Range_0 sp v _ _ hp hi
def con_slices_IndexFunc_cherenkov_api_Range_cherenkov_api_Range : Con := fun args => match args with
 | [.t (.c (.sl 1 n_sp c_sp)), .t (.fn 154 [.px 1 0 c_pm])] => some (.t (.c (.v (.int .i64 (idxP (rowB (listC (cvLen (c_pm 0)) mkInt (cvCells (c_pm 0)))) (rlOf n_sp c_sp))))), some (rlP n_sp c_sp ∧ intsB [] c_pm = true ∧ slP 1 (c_pm 0) ∧ numsP 1 (cvLen (c_pm 0)) (cvCells (c_pm 0)) ∧ exOk (rlOf n_sp c_sp) (listC (cvLen (c_pm 0)) mkInt (cvCells (c_pm 0))) ∧ 0 < ((listC (cvLen (c_pm 0)) mkInt (cvCells (c_pm 0)))).length), false)
 | _ => none
theorem ok_slices_IndexFunc_cherenkov_api_Range_cherenkov_api_Range : Ok Tryd.prog 160 con_slices_IndexFunc_cherenkov_api_Range_cherenkov_api_Range := by
 refine Ok.fn (ann := ann_slices_IndexFunc_cherenkov_api_Range_cherenkov_api_Range) mixed tabOK VSy126 VI1 (fn := Tryd.f160) (by kernel_rfl) (by kernel_rfl) fit_slices_IndexFunc_cherenkov_api_Range_cherenkov_api_Range fun args r pre fresh h hp => ?_
 unfold con_slices_IndexFunc_cherenkov_api_Range_cherenkov_api_Range at h
 split at h
 ·rename_i n_sp c_sp c_pm
  cases h
  obtain ⟨hp0, hp1, hp2, hp3, hp⟩ := hp
  refine ⟨rfl, J_slices_IndexFunc_cherenkov_api_Range_cherenkov_api_Range (rlOf n_sp c_sp) (listC (cvLen (c_pm 0)) mkInt (cvCells (c_pm 0))), [.t (.c (.sl 1 ((rlOf n_sp c_sp).length) (rlsC (rlOf n_sp c_sp)))), .t (.fn 154 [.px 1 0 (boxC [.sl 1 ((listC (cvLen (c_pm 0)) mkInt (cvCells (c_pm 0))).length) (intsC (listC (cvLen (c_pm 0)) mkInt (cvCells (c_pm 0))))])])], ?_, Nat.le_of_ble_eq_true (by kernel_rfl), ?_, ?_⟩
  ·exact (LeA_cons (leT_c ((leL_LRg hp0))) (LeA_cons (leT_f (LeCs.cons (leC_p (LeCs.cons (leC_s hp2 (leL_int hp3)) LeCs.nil)) LeCs.nil)) LeA_nil))
  ·rw [ev_slices_IndexFunc_cherenkov_api_Range_cherenkov_api_Range]; exact spec_slices_IndexFunc_cherenkov_api_Range_cherenkov_api_Range (rlOf n_sp c_sp) (listC (cvLen (c_pm 0)) mkInt (cvCells (c_pm 0))) hp
  ·exact all_slices_IndexFunc_cherenkov_api_Range_cherenkov_api_Range (rlOf n_sp c_sp) (listC (cvLen (c_pm 0)) mkInt (cvCells (c_pm 0))) hp
 ·cases h
noncomputable def Sy127 : Sum := addS Sy126 160 con_slices_IndexFunc_cherenkov_api_Range_cherenkov_api_Range
theorem VSy127 : Valid Tryd.prog Sy127 := Valid.add VSy126 ok_slices_IndexFunc_cherenkov_api_Range_cherenkov_api_Range
def vc_slices_ContainsFunc_cherenkov_api_Range_cherenkov_api_Range (sp : List (List Rg)) (v : List Int) (post : DV → Prop) : Prop := (rlP sp.length (rlsC sp) ∧ intsB [] (boxC [.sl 1 v.length (intsC v)]) = true ∧ slP 1 ((boxC [.sl 1 v.length (intsC v)]) 0) ∧ numsP 1 v.length (intsC v) ∧ exOk (rlOf sp.length (rlsC sp)) (listC v.length mkInt (intsC v)) ∧ 0 < ((listC v.length mkInt (intsC v))).length) ∧ (post (.t (.c (.v (.bool (decide ((idxP (rowB (listC v.length mkInt (intsC v))) (rlOf sp.length (rlsC sp))) ≥ (0 : Int))))))))
def ann_slices_ContainsFunc_cherenkov_api_Range_cherenkov_api_Range : Ann := ⟨fun _ => none, fun _ => none, fun _ => [], I1, false, fun _ => none, fun _ => none⟩
theorem ev_slices_ContainsFunc_cherenkov_api_Range_cherenkov_api_Range (J : Inv) (sp : List (List Rg)) (v : List Int) (post : DV → Prop) : evFn Tryd.prog tab Sy127 ann_slices_ContainsFunc_cherenkov_api_Range_cherenkov_api_Range J Tryd.f153 [.t (.c (.sl 1 sp.length (rlsC sp))), .t (.fn 154 [.px 1 0 (boxC [.sl 1 v.length (intsC v)])])] post = vc_slices_ContainsFunc_cherenkov_api_Range_cherenkov_api_Range sp v post := by kernel_rfl
theorem fit_slices_ContainsFunc_cherenkov_api_Range_cherenkov_api_Range : okFn ann_slices_ContainsFunc_cherenkov_api_Range_cherenkov_api_Range Tryd.f153 = true := by kernel_rfl
theorem lp_slices_ContainsFunc_cherenkov_api_Range_cherenkov_api_Range (J : Inv) (post : DV → Prop) : AllG J (loopsFn Tryd.prog tab Sy127 ann_slices_ContainsFunc_cherenkov_api_Range_cherenkov_api_Range J Tryd.f153 post) = (True) := by kernel_rfl
theorem spec_slices_ContainsFunc_cherenkov_api_Range_cherenkov_api_Range (sp : List (List Rg)) (v : List Int) (hp : exOk sp v ∧ 0 < (v).length) : vc_slices_ContainsFunc_cherenkov_api_Range_cherenkov_api_Range sp v (fun r => LeD r (.t (.c (.v (.bool ((sp).any (rowB v))))))) := by
 unfold vc_slices_ContainsFunc_cherenkov_api_Range_cherenkov_api_Range
 simp only [ints_listC, rls_of]
 refine ⟨⟨rlP_rls sp, rfl, rfl, numsP_ints v, hp⟩, leB ?_⟩
 rw [idxP_any]
def con_slices_ContainsFunc_cherenkov_api_Range_cherenkov_api_Range : Con := fun args => match args with
 | [.t (.c (.sl 1 n_sp c_sp)), .t (.fn 154 [.px 1 0 c_pm])] => some (.t (.c (.v (.bool (((rlOf n_sp c_sp)).any (rowB (listC (cvLen (c_pm 0)) mkInt (cvCells (c_pm 0)))))))), some (rlP n_sp c_sp ∧ intsB [] c_pm = true ∧ slP 1 (c_pm 0) ∧ numsP 1 (cvLen (c_pm 0)) (cvCells (c_pm 0)) ∧ exOk (rlOf n_sp c_sp) (listC (cvLen (c_pm 0)) mkInt (cvCells (c_pm 0))) ∧ 0 < ((listC (cvLen (c_pm 0)) mkInt (cvCells (c_pm 0)))).length), false)
 | _ => none
theorem ok_slices_ContainsFunc_cherenkov_api_Range_cherenkov_api_Range : Ok Tryd.prog 153 con_slices_ContainsFunc_cherenkov_api_Range_cherenkov_api_Range := by
 refine Ok.fn (ann := ann_slices_ContainsFunc_cherenkov_api_Range_cherenkov_api_Range) mixed tabOK VSy127 VI1 (fn := Tryd.f153) (by kernel_rfl) (by kernel_rfl) fit_slices_ContainsFunc_cherenkov_api_Range_cherenkov_api_Range fun args r pre fresh h hp => ?_
 unfold con_slices_ContainsFunc_cherenkov_api_Range_cherenkov_api_Range at h
 split at h
 ·rename_i n_sp c_sp c_pm
  cases h
  obtain ⟨hp0, hp1, hp2, hp3, hp⟩ := hp
  refine ⟨rfl, fun _ _ _ => False, [.t (.c (.sl 1 ((rlOf n_sp c_sp).length) (rlsC (rlOf n_sp c_sp)))), .t (.fn 154 [.px 1 0 (boxC [.sl 1 ((listC (cvLen (c_pm 0)) mkInt (cvCells (c_pm 0))).length) (intsC (listC (cvLen (c_pm 0)) mkInt (cvCells (c_pm 0))))])])], ?_, Nat.le_of_ble_eq_true (by kernel_rfl), ?_, ?_⟩
  ·exact (LeA_cons (leT_c ((leL_LRg hp0))) (LeA_cons (leT_f (LeCs.cons (leC_p (LeCs.cons (leC_s hp2 (leL_int hp3)) LeCs.nil)) LeCs.nil)) LeA_nil))
  ·rw [ev_slices_ContainsFunc_cherenkov_api_Range_cherenkov_api_Range]; exact spec_slices_ContainsFunc_cherenkov_api_Range_cherenkov_api_Range (rlOf n_sp c_sp) (listC (cvLen (c_pm 0)) mkInt (cvCells (c_pm 0))) hp
  ·rw [lp_slices_ContainsFunc_cherenkov_api_Range_cherenkov_api_Range]; trivial
 ·cases h
noncomputable def Sy128 : Sum := addS Sy127 153 con_slices_ContainsFunc_cherenkov_api_Range_cherenkov_api_Range
theorem VSy128 : Valid Tryd.prog Sy128 := Valid.add VSy127 ok_slices_ContainsFunc_cherenkov_api_Range_cherenkov_api_Range
def vc_cherenkov_flash_search_explained (l : List FHit) (g0 g1 g2 g3 g4 : Int) (sp : List (List Rg)) (v : List Int) (post : DV → Prop) : Prop := cond (((v.length : Nat) : Int) == (0 : Int)) (post (.t (.c (.v (.bool true))))) ((rlP sp.length (rlsC sp) ∧ intsB [] (boxC [.sl 1 v.length (intsC v)]) = true ∧ slP 1 ((boxC [.sl 1 v.length (intsC v)]) 0) ∧ numsP 1 v.length (intsC v) ∧ exOk (rlOf sp.length (rlsC sp)) (listC v.length mkInt (intsC v)) ∧ 0 < ((listC v.length mkInt (intsC v))).length) ∧ (post (.t (.c (.v (.bool (((rlOf sp.length (rlsC sp))).any (rowB (listC v.length mkInt (intsC v))))))))))
def ann_cherenkov_flash_search_explained : Ann := ⟨fun _ => none, fun _ => none, fun _ => [], I1, false, fun _ => none, fun _ => none⟩
theorem ev_cherenkov_flash_search_explained (J : Inv) (l : List FHit) (g0 g1 g2 g3 g4 : Int) (sp : List (List Rg)) (v : List Int) (post : DV → Prop) : evFn Tryd.prog tab Sy128 ann_cherenkov_flash_search_explained J Tryd.f130 [.t (.a [.sl 7 l.length (hitsC l), .v (.int .i64 g0), .v (.int .i64 g1), .v (.int .i64 g2), .v (.int .i64 g3), .v (.int .i64 g4), .sl 1 sp.length (rlsC sp)]), .t (.c (.sl 1 v.length (intsC v)))] post = vc_cherenkov_flash_search_explained l g0 g1 g2 g3 g4 sp v post := by kernel_rfl
theorem fit_cherenkov_flash_search_explained : okFn ann_cherenkov_flash_search_explained Tryd.f130 = true := by kernel_rfl
theorem lp_cherenkov_flash_search_explained (J : Inv) (post : DV → Prop) : AllG J (loopsFn Tryd.prog tab Sy128 ann_cherenkov_flash_search_explained J Tryd.f130 post) = (True) := by kernel_rfl
theorem spec_cherenkov_flash_search_explained (l : List FHit) (g0 g1 g2 g3 g4 : Int) (sp : List (List Rg)) (v : List Int) (hp : exOk sp v) : vc_cherenkov_flash_search_explained l g0 g1 g2 g3 g4 sp v (fun r => LeD r (.t (.c (.v (.bool (explB sp v)))))) := by
 unfold vc_cherenkov_flash_search_explained
 simp only [ints_listC, rls_of]
 refine cond_i (fun h => leB ?_) (fun h => ⟨⟨rlP_rls sp, rfl, rfl, numsP_ints v, hp, ?_⟩, leB ?_⟩)
 ·have h : v = [] := by simpa using h
  subst h; rfl
 ·have h : v ≠ [] := by simpa using h
  exact List.length_pos_iff.2 h
 ·have h : v ≠ [] := by simpa using h
  unfold explB
  rw [show v.isEmpty = false by cases v <;> simp_all]; rfl
def con_cherenkov_flash_search_explained : Con := fun args => match args with
 | [.t (.a [.sl 7 n_l c_l, .v (.int .i64 g0), .v (.int .i64 g1), .v (.int .i64 g2), .v (.int .i64 g3), .v (.int .i64 g4), .sl 1 n_sp c_sp]), .t (.c (.sl 1 n_v c_v))] => some (.t (.c (.v (.bool (explB (rlOf n_sp c_sp) (listC n_v mkInt c_v))))), some (numsP 7 n_l c_l ∧ rlP n_sp c_sp ∧ numsP 1 n_v c_v ∧ exOk (rlOf n_sp c_sp) (listC n_v mkInt c_v)), false)
 | _ => none
theorem ok_cherenkov_flash_search_explained : Ok Tryd.prog 130 con_cherenkov_flash_search_explained := by
 refine Ok.fn (ann := ann_cherenkov_flash_search_explained) mixed tabOK VSy128 VI1 (fn := Tryd.f130) (by kernel_rfl) (by kernel_rfl) fit_cherenkov_flash_search_explained fun args r pre fresh h hp => ?_
 unfold con_cherenkov_flash_search_explained at h
 split at h
 ·rename_i n_l c_l g0 g1 g2 g3 g4 n_sp c_sp n_v c_v
  cases h
  obtain ⟨hp0, hp1, hp2, hp⟩ := hp
  refine ⟨rfl, fun _ _ _ => False, [.t (.a [.sl 7 ((listC n_l mkHit c_l).length) (hitsC (listC n_l mkHit c_l)), .v (.int .i64 g0), .v (.int .i64 g1), .v (.int .i64 g2), .v (.int .i64 g3), .v (.int .i64 g4), .sl 1 ((rlOf n_sp c_sp).length) (rlsC (rlOf n_sp c_sp))]), .t (.c (.sl 1 ((listC n_v mkInt c_v).length) (intsC (listC n_v mkInt c_v))))], ?_, Nat.le_of_ble_eq_true (by kernel_rfl), ?_, ?_⟩
  ·exact (LeA_cons (leT_a (LeCs.cons ((leL_FHit hp0)) (LeCs.cons (LeC1.refl _) (LeCs.cons (LeC1.refl _) (LeCs.cons (LeC1.refl _) (LeCs.cons (LeC1.refl _) (LeCs.cons (LeC1.refl _) (LeCs.cons ((leL_LRg hp1)) LeCs.nil)))))))) (LeA_cons (leT_c ((leL_int hp2))) LeA_nil))
  ·rw [ev_cherenkov_flash_search_explained]; exact spec_cherenkov_flash_search_explained (listC n_l mkHit c_l) g0 g1 g2 g3 g4 (rlOf n_sp c_sp) (listC n_v mkInt c_v) hp
  ·rw [lp_cherenkov_flash_search_explained]; trivial
 ·cases h
noncomputable def Sy129 : Sum := addS Sy128 130 con_cherenkov_flash_search_explained
theorem VSy129 : Valid Tryd.prog Sy129 := Valid.add VSy128 ok_cherenkov_flash_search_explained
def vc_flash_Contradicting_1 (v : List Int) (l : List FHit) (g0 g1 g2 g3 g4 : Int) (sp : List (List Rg)) (post : DV → Prop) : Prop := (numsP 7 l.length (hitsC l) ∧ rlP sp.length (rlsC sp) ∧ numsP 1 v.length (intsC v) ∧ exOk (rlOf sp.length (rlsC sp)) (listC v.length mkInt (intsC v))) ∧ (post (.t (.c (.v (.bool (!(explB (rlOf sp.length (rlsC sp)) (listC v.length mkInt (intsC v)))))))))
def ann_flash_Contradicting_1 : Ann := ⟨fun _ => none, fun _ => none, fun _ => [], I1, false, fun _ => none, fun _ => none⟩
theorem ev_flash_Contradicting_1 (J : Inv) (v : List Int) (l : List FHit) (g0 g1 g2 g3 g4 : Int) (sp : List (List Rg)) (post : DV → Prop) : evFn Tryd.prog tab Sy129 ann_flash_Contradicting_1 J Tryd.f129 [.t (.c (.sl 1 v.length (intsC v))), .t (.c (.px 7 0 (boxC [.sl 7 l.length (hitsC l), .v (.int .i64 g0), .v (.int .i64 g1), .v (.int .i64 g2), .v (.int .i64 g3), .v (.int .i64 g4), .sl 1 sp.length (rlsC sp)])))] post = vc_flash_Contradicting_1 v l g0 g1 g2 g3 g4 sp post := by kernel_rfl
theorem fit_flash_Contradicting_1 : okFn ann_flash_Contradicting_1 Tryd.f129 = true := by kernel_rfl
theorem lp_flash_Contradicting_1 (J : Inv) (post : DV → Prop) : AllG J (loopsFn Tryd.prog tab Sy129 ann_flash_Contradicting_1 J Tryd.f129 post) = (True) := by kernel_rfl
theorem spec_flash_Contradicting_1 (v : List Int) (l : List FHit) (g0 g1 g2 g3 g4 : Int) (sp : List (List Rg)) (hp : exOk sp v) : vc_flash_Contradicting_1 v l g0 g1 g2 g3 g4 sp (fun r => LeD r (.t (.c (.v (.bool (contB sp v)))))) := by
 unfold vc_flash_Contradicting_1
 simp only [ints_listC, rls_of]
 exact ⟨⟨numsP_hits l, rlP_rls sp, numsP_ints v, hp⟩, LeD.refl _⟩
def con_flash_Contradicting_1 : Con := fun args => match args with
 | [.t (.c (.sl 1 n_v c_v)), .t (.c (.px 7 0 c_ps))] => some (.t (.c (.v (.bool (contB (rlOf (cvLen (c_ps 6)) (cvCells (c_ps 6))) (listC n_v mkInt c_v))))), some (numsP 1 n_v c_v ∧ intsB [1, 2, 3, 4, 5] c_ps = true ∧ slP 7 (c_ps 0) ∧ numsP 7 (cvLen (c_ps 0)) (cvCells (c_ps 0)) ∧ slP 1 (c_ps 6) ∧ rlP (cvLen (c_ps 6)) (cvCells (c_ps 6)) ∧ exOk (rlOf (cvLen (c_ps 6)) (cvCells (c_ps 6))) (listC n_v mkInt c_v)), false)
 | _ => none
theorem ok_flash_Contradicting_1 : Ok Tryd.prog 129 con_flash_Contradicting_1 := by
 refine Ok.fn (ann := ann_flash_Contradicting_1) mixed tabOK VSy129 VI1 (fn := Tryd.f129) (by kernel_rfl) (by kernel_rfl) fit_flash_Contradicting_1 fun args r pre fresh h hp => ?_
 unfold con_flash_Contradicting_1 at h
 split at h
 ·rename_i n_v c_v c_ps
  cases h
  obtain ⟨hp0, hp1, hp2, hp3, hp4, hp5, hp⟩ := hp
  refine ⟨rfl, fun _ _ _ => False, [.t (.c (.sl 1 ((listC n_v mkInt c_v).length) (intsC (listC n_v mkInt c_v)))), .t (.c (.px 7 0 (boxC [.sl 7 ((listC (cvLen (c_ps 0)) mkHit (cvCells (c_ps 0))).length) (hitsC (listC (cvLen (c_ps 0)) mkHit (cvCells (c_ps 0)))), .v (.int .i64 (cvInt (c_ps 1))), .v (.int .i64 (cvInt (c_ps 2))), .v (.int .i64 (cvInt (c_ps 3))), .v (.int .i64 (cvInt (c_ps 4))), .v (.int .i64 (cvInt (c_ps 5))), .sl 1 ((rlOf (cvLen (c_ps 6)) (cvCells (c_ps 6))).length) (rlsC (rlOf (cvLen (c_ps 6)) (cvCells (c_ps 6))))])))], ?_, Nat.le_of_ble_eq_true (by kernel_rfl), ?_, ?_⟩
  ·exact (LeA_cons (leT_c ((leL_int hp0))) (LeA_cons (leT_c (leC_p (LeCs.cons (leC_s hp2 (leL_FHit hp3)) (LeCs.cons (leC_i (intsB_get hp1 1 (by decide))) (LeCs.cons (leC_i (intsB_get hp1 2 (by decide))) (LeCs.cons (leC_i (intsB_get hp1 3 (by decide))) (LeCs.cons (leC_i (intsB_get hp1 4 (by decide))) (LeCs.cons (leC_i (intsB_get hp1 5 (by decide))) (LeCs.cons (leC_s hp4 (leL_LRg hp5)) LeCs.nil))))))))) LeA_nil))
  ·rw [ev_flash_Contradicting_1]; exact spec_flash_Contradicting_1 (listC n_v mkInt c_v) (listC (cvLen (c_ps 0)) mkHit (cvCells (c_ps 0))) (cvInt (c_ps 1)) (cvInt (c_ps 2)) (cvInt (c_ps 3)) (cvInt (c_ps 4)) (cvInt (c_ps 5)) (rlOf (cvLen (c_ps 6)) (cvCells (c_ps 6))) hp
  ·rw [lp_flash_Contradicting_1]; trivial
 ·cases h
noncomputable def Sy130 : Sum := addS Sy129 129 con_flash_Contradicting_1
theorem VSy130 : Valid Tryd.prog Sy130 := Valid.add VSy129 ok_flash_Contradicting_1
def mk_flash_smallest_b_0 (q : Int) (l : List FHit) (g0 g1 g2 g3 g4 : Int) (sp : List (List Rg)) (v0_0 : List Int) (v0_1 : Int) (v0_2 : Int) (v0_3 : Bool) : DS := ⟨[none, some (.t (.fn 129 [.px 7 0 (boxC [.sl 7 l.length (hitsC l), .v (.int .i64 g0), .v (.int .i64 g1), .v (.int .i64 g2), .v (.int .i64 g3), .v (.int .i64 g4), .sl 1 sp.length (rlsC sp)])])), none, none, none, none, some (.t (.c (.os 6))), some (.t (.c (.v (.bool v0_3)))), none, none, none, some (.t (.c (.v (.int .u64 v0_1)))), some (.t (.c (.v (.int .u64 v0_2)))), none, none, none, none, none, none, none, none, none, none, none, none, none, none, none, none, none, none, none, none, none, none, none, none, none, none, none, none, none, none, none, none, none, none, none], [none, none, none, none, none, none, some (.num 3 .i64 v0_0), none, none, none, none, none, none, none, none, none, none, none, none, none, none, none, none, none, none, none, none, none, none, none, none, none, none, none, none, none, none, none, none, none, none, none, none, none, none, none, none, none]⟩
def vc_flash_smallest_b (J : Inv) (q : Int) (l : List FHit) (g0 g1 g2 g3 g4 : Int) (sp : List (List Rg)) (post : DV → Row → Prop) : Prop := lt (IntKind.u64.wrap ((1 : Int) * 2 ^ (min (q).toNat 64))) fun x1 => (0 ≤ q) ∧ (∃ n, J 0 (n :: []) (mk_flash_smallest_b_0 q l g0 g1 g2 g3 g4 sp ([]) x1 0 false))
def ann_flash_smallest_b : Ann := ⟨fun _ => none, fun b => lookA b [(0, (none, some ⟨[1, 7, 11, 12], [], [(6, .num 3 .i64 ([]))]⟩))], fun _ => [], I1, false, fun r => lookA r [(7, (2, [43]))], fun _ => none⟩
theorem ev_flash_smallest_b (J : Inv) (q : Int) (l : List FHit) (g0 g1 g2 g3 g4 : Int) (sp : List (List Rg)) (post : DV → Row → Prop) : evFnO Tryd.prog tab Sy130 ann_flash_smallest_b J Tryd.f105 [.t (.c (.v (.int .i64 q))), .t (.fn 129 [.px 7 0 (boxC [.sl 7 l.length (hitsC l), .v (.int .i64 g0), .v (.int .i64 g1), .v (.int .i64 g2), .v (.int .i64 g3), .v (.int .i64 g4), .sl 1 sp.length (rlsC sp)])])] post = vc_flash_smallest_b J q l g0 g1 g2 g3 g4 sp post := by kernel_rfl
theorem fit_flash_smallest_b : okFn ann_flash_smallest_b Tryd.f105 = true := by kernel_rfl
def rd_flash_smallest_b_0 (J : Inv) (q : Int) (l : List FHit) (g0 g1 g2 g3 g4 : Int) (sp : List (List Rg)) (v0_0 : List Int) (v0_1 : Int) (v0_2 : Int) (v0_3 : Bool) (nn0 : Nat) (post : DV → Row → Prop) : Prop := cond (decide (v0_2 < v0_1)) ((0 ≤ v0_2 ∧ v0_2 < 256) ∧ ((cond v0_3 (cond (decide ((((membs 8 (v0_2).toNat).length : Nat) : Int) > ((v0_0.length : Nat) : Int))) ((true = true) ∧ ((true = true) ∧ (True))) (cond ((((membs 8 (v0_2).toNat).length : Nat) : Int) == ((v0_0.length : Nat) : Int)) ((numsP 1 ((membs 8 (v0_2).toNat).length) (numsC .i64 (membs 8 (v0_2).toNat)) ∧ numsP 1 v0_0.length (numsC .i64 v0_0) ∧ ((listC ((membs 8 (v0_2).toNat).length) mkInt (numsC .i64 (membs 8 (v0_2).toNat)))).length ≤ 1000000) ∧ (cond (decide ((cmpL (listC ((membs 8 (v0_2).toNat).length) mkInt (numsC .i64 (membs 8 (v0_2).toNat))) (listC v0_0.length mkInt (numsC .i64 v0_0))) > (0 : Int))) ((true = true) ∧ (True)) ((numsP 1 ((membs 8 (v0_2).toNat).length) (numsC .i64 (membs 8 (v0_2).toNat)) ∧ intsB [1, 2, 3, 4, 5] (boxC [.sl 7 l.length (hitsC l), .v (.int .i64 g0), .v (.int .i64 g1), .v (.int .i64 g2), .v (.int .i64 g3), .v (.int .i64 g4), .sl 1 sp.length (rlsC sp)]) = true ∧ slP 7 ((boxC [.sl 7 l.length (hitsC l), .v (.int .i64 g0), .v (.int .i64 g1), .v (.int .i64 g2), .v (.int .i64 g3), .v (.int .i64 g4), .sl 1 sp.length (rlsC sp)]) 0) ∧ numsP 7 l.length (hitsC l) ∧ slP 1 ((boxC [.sl 7 l.length (hitsC l), .v (.int .i64 g0), .v (.int .i64 g1), .v (.int .i64 g2), .v (.int .i64 g3), .v (.int .i64 g4), .sl 1 sp.length (rlsC sp)]) 6) ∧ rlP sp.length (rlsC sp) ∧ exOk (rlOf sp.length (rlsC sp)) (listC ((membs 8 (v0_2).toNat).length) mkInt (numsC .i64 (membs 8 (v0_2).toNat)))) ∧ (True)))) ((false = false) ∧ ((numsP 1 ((membs 8 (v0_2).toNat).length) (numsC .i64 (membs 8 (v0_2).toNat)) ∧ intsB [1, 2, 3, 4, 5] (boxC [.sl 7 l.length (hitsC l), .v (.int .i64 g0), .v (.int .i64 g1), .v (.int .i64 g2), .v (.int .i64 g3), .v (.int .i64 g4), .sl 1 sp.length (rlsC sp)]) = true ∧ slP 7 ((boxC [.sl 7 l.length (hitsC l), .v (.int .i64 g0), .v (.int .i64 g1), .v (.int .i64 g2), .v (.int .i64 g3), .v (.int .i64 g4), .sl 1 sp.length (rlsC sp)]) 0) ∧ numsP 7 l.length (hitsC l) ∧ slP 1 ((boxC [.sl 7 l.length (hitsC l), .v (.int .i64 g0), .v (.int .i64 g1), .v (.int .i64 g2), .v (.int .i64 g3), .v (.int .i64 g4), .sl 1 sp.length (rlsC sp)]) 6) ∧ rlP sp.length (rlsC sp) ∧ exOk (rlOf sp.length (rlsC sp)) (listC ((membs 8 (v0_2).toNat).length) mkInt (numsC .i64 (membs 8 (v0_2).toNat)))) ∧ (True))))) ((false = false) ∧ ((numsP 1 ((membs 8 (v0_2).toNat).length) (numsC .i64 (membs 8 (v0_2).toNat)) ∧ intsB [1, 2, 3, 4, 5] (boxC [.sl 7 l.length (hitsC l), .v (.int .i64 g0), .v (.int .i64 g1), .v (.int .i64 g2), .v (.int .i64 g3), .v (.int .i64 g4), .sl 1 sp.length (rlsC sp)]) = true ∧ slP 7 ((boxC [.sl 7 l.length (hitsC l), .v (.int .i64 g0), .v (.int .i64 g1), .v (.int .i64 g2), .v (.int .i64 g3), .v (.int .i64 g4), .sl 1 sp.length (rlsC sp)]) 0) ∧ numsP 7 l.length (hitsC l) ∧ slP 1 ((boxC [.sl 7 l.length (hitsC l), .v (.int .i64 g0), .v (.int .i64 g1), .v (.int .i64 g2), .v (.int .i64 g3), .v (.int .i64 g4), .sl 1 sp.length (rlsC sp)]) 6) ∧ rlP sp.length (rlsC sp) ∧ exOk (rlOf sp.length (rlsC sp)) (listC ((membs 8 (v0_2).toNat).length) mkInt (numsC .i64 (membs 8 (v0_2).toNat)))) ∧ (True)))) ∧ (lt ((bif v0_3 then (bif decide ((((membs 8 (v0_2).toNat).length : Nat) : Int) > ((v0_0.length : Nat) : Int)) then true else (bif ((((membs 8 (v0_2).toNat).length : Nat) : Int) == ((v0_0.length : Nat) : Int)) then (bif decide ((cmpL (listC ((membs 8 (v0_2).toNat).length) mkInt (numsC .i64 (membs 8 (v0_2).toNat))) (listC v0_0.length mkInt (numsC .i64 v0_0))) > (0 : Int)) then true else (!(contB (rlOf sp.length (rlsC sp)) (listC ((membs 8 (v0_2).toNat).length) mkInt (numsC .i64 (membs 8 (v0_2).toNat)))))) else (!(contB (rlOf sp.length (rlsC sp)) (listC ((membs 8 (v0_2).toNat).length) mkInt (numsC .i64 (membs 8 (v0_2).toNat))))))) else (!(contB (rlOf sp.length (rlsC sp)) (listC ((membs 8 (v0_2).toNat).length) mkInt (numsC .i64 (membs 8 (v0_2).toNat))))))) fun x1 => cond x1 (lt (IntKind.u64.wrap (v0_2 + (1 : Int))) fun x2 => J 0 (nn0 :: []) (mk_flash_smallest_b_0 q l g0 g1 g2 g3 g4 sp v0_0 v0_1 x2 v0_3)) (lt (IntKind.u64.wrap (v0_2 + (1 : Int))) fun x3 => J 0 (nn0 :: []) (mk_flash_smallest_b_0 q l g0 g1 g2 g3 g4 sp (membs 8 (v0_2).toNat) v0_1 x3 true))))) (post (.tu [.c (.os 0), .c (.v (.bool v0_3))]) (.num 3 .i64 v0_0))
theorem er_flash_smallest_b_0 (J : Inv) (q : Int) (l : List FHit) (g0 g1 g2 g3 g4 : Int) (sp : List (List Rg)) (v0_0 : List Int) (v0_1 : Int) (v0_2 : Int) (v0_3 : Bool) (nn0 : Nat) (post : DV → Row → Prop) : roundO Tryd.prog tab Sy130 ann_flash_smallest_b J Tryd.f105 post 0 (nn0 :: []) (mk_flash_smallest_b_0 q l g0 g1 g2 g3 g4 sp v0_0 v0_1 v0_2 v0_3) = rd_flash_smallest_b_0 J q l g0 g1 g2 g3 g4 sp v0_0 v0_1 v0_2 v0_3 nn0 post := by kernel_rfl
theorem lp_flash_smallest_b (J : Inv) (post : DV → Row → Prop) : AllG J (loopsFnO Tryd.prog tab Sy130 ann_flash_smallest_b J Tryd.f105 post) = (((∀ F s, ¬ J 0 (0 :: F) s) ∧ ∀ n F s, J 0 ((n + 1) :: F) s → roundO Tryd.prog tab Sy130 ann_flash_smallest_b J Tryd.f105 post 0 (n :: F) s) ∧ True) := by kernel_rfl
def J_flash_smallest_b (q : Int) (l : List FHit) (g0 g1 g2 g3 g4 : Int) (sp : List (List Rg)) : Inv := fun b F s => match b, F with
 | 0, [nn0] => ∃ (v0_0 : List Int) (v0_1 : Int) (v0_2 : Int) (v0_3 : Bool), s = mk_flash_smallest_b_0 q l g0 g1 g2 g3 g4 sp v0_0 v0_1 v0_2 v0_3 ∧ (cnOk q sp ∧ v0_1 = ((2 ^ q.toNat : Nat) : Int) ∧ 0 ≤ v0_2 ∧ v0_2 ≤ v0_1 ∧ (nn0 : Int) + v0_2 = v0_1 + 1 ∧ v0_3 = (foldS (contB sp) v0_2.toNat).isSome ∧ v0_0 = (foldS (contB sp) v0_2.toNat).getD [])
 | _, _ => False
set_option maxHeartbeats 8000000 in
set_option maxRecDepth 100000 in
theorem rnd_flash_smallest_b_0 (q : Int) (l : List FHit) (g0 g1 g2 g3 g4 : Int) (sp : List (List Rg)) (v0_0 : List Int) (v0_1 : Int) (v0_2 : Int) (v0_3 : Bool) (nn0 : Nat) (hp : cnOk q sp) (hi : cnOk q sp ∧ v0_1 = ((2 ^ q.toNat : Nat) : Int) ∧ 0 ≤ v0_2 ∧ v0_2 ≤ v0_1 ∧ ((nn0 + 1) : Int) + v0_2 = v0_1 + 1 ∧ v0_3 = (foldS (contB sp) v0_2.toNat).isSome ∧ v0_0 = (foldS (contB sp) v0_2.toNat).getD []) : rd_flash_smallest_b_0 (J_flash_smallest_b q l g0 g1 g2 g3 g4 sp) q l g0 g1 g2 g3 g4 sp v0_0 v0_1 v0_2 v0_3 nn0 (fun r' R' => r' = (.tu [.c (.os 0), .c (.v (.bool ((foldS (contB sp) (2 ^ (q).toNat)).isSome)))]) ∧ R' = (.num 3 .i64 ((foldS (contB sp) (2 ^ (q).toNat)).getD []))) := by
 obtain ⟨q1, q2, i1, i2, i3, i4, i5⟩ := hi
 obtain ⟨k, rfl⟩ : ∃ k : Nat, v0_2 = k := ⟨v0_2.toNat, by omega⟩
 have hk : (k : Int).toNat = k := rfl
 rw [hk] at i4 i5
 have h256 := pow_8 (n := q.toNat) (by have := q1.1; omega)
 unfold rd_flash_smallest_b_0
 simp only [hk, nums_listC, rls_of]
 obtain ⟨o, ho⟩ : ∃ o, foldS (contB sp) k = o := ⟨_, rfl⟩
 rw [ho] at i4 i5
 subst i4 i5
 refine cond_i (fun h => ?_) (fun h => ?_)
 ·have h := of_decide_eq_true h
  have hlen := membs_len (k := k) (by omega)
  have hx : exOk sp (membs 8 k) := cnOk_ex q1 (by omega)
  have step : foldS (contB sp) (k + 1) = smStep (contB sp) o (membs 8 k) := by rw [← ho]; unfold foldS; rw [List.range_succ, List.foldl_append]; rfl
  refine ⟨by omega, ?_, lt_i fun x1 h1 => ?_⟩
  ·refine cond_i (fun _ => cond_i (fun _ => ⟨by trivial, by trivial, trivial⟩) (fun _ => cond_i (fun _ => ⟨⟨numsP_ints _, numsP_ints _, by omega⟩, cond_i (fun _ => ⟨by trivial, trivial⟩) (fun _ => ⟨⟨numsP_ints _, rfl, rfl, numsP_hits l, rfl, rlP_rls sp, hx⟩, trivial⟩)⟩) (fun _ => ⟨by trivial, ⟨numsP_ints _, rfl, rfl, numsP_hits l, rfl, rlP_rls sp, hx⟩, trivial⟩))) (fun _ => ⟨by trivial, ⟨numsP_ints _, rfl, rfl, numsP_hits l, rfl, rlP_rls sp, hx⟩, trivial⟩)
  ·have e := smStep_skip (hd := contB sp) (o := o) (s := membs 8 k)
   rw [h1] at e
   refine cond_i (fun hx => lt_i fun x2 h2 => ?_) (fun hx => lt_i fun x2 h2 => ?_)
   all_goals
    rw [hx] at e
    rw [u64_succ (by omega)] at h2
    subst h2
    refine ⟨_, _, _, _, rfl, q1, q2, by omega, by omega, by omega, ?_, ?_⟩
   all_goals
    rw [show ((k : Int) + 1).toNat = k + 1 by omega, step, e]; rfl
 ·have h := of_decide_eq_false h
  have hk : k = 2 ^ q.toNat := by omega
  rw [← hk, ho]
  exact ⟨by trivial, rfl⟩
theorem zero_flash_smallest_b_0 (q : Int) (l : List FHit) (g0 g1 g2 g3 g4 : Int) (sp : List (List Rg)) (v0_0 : List Int) (v0_1 : Int) (v0_2 : Int) (v0_3 : Bool)  (hi : cnOk q sp ∧ v0_1 = ((2 ^ q.toNat : Nat) : Int) ∧ 0 ≤ v0_2 ∧ v0_2 ≤ v0_1 ∧ (0 : Int) + v0_2 = v0_1 + 1 ∧ v0_3 = (foldS (contB sp) v0_2.toNat).isSome ∧ v0_0 = (foldS (contB sp) v0_2.toNat).getD []) : False := by
 omega
set_option maxHeartbeats 8000000 in
set_option maxRecDepth 100000 in
theorem spec_flash_smallest_b (q : Int) (l : List FHit) (g0 g1 g2 g3 g4 : Int) (sp : List (List Rg)) (hp : cnOk q sp) : vc_flash_smallest_b (J_flash_smallest_b q l g0 g1 g2 g3 g4 sp) q l g0 g1 g2 g3 g4 sp (fun r' R' => r' = (.tu [.c (.os 0), .c (.v (.bool ((foldS (contB sp) (2 ^ (q).toNat)).isSome)))]) ∧ R' = (.num 3 .i64 ((foldS (contB sp) (2 ^ (q).toNat)).getD []))) := by
 have hq := hp.1
 unfold vc_flash_smallest_b
 refine lt_i fun x1 h1 => ⟨by omega, (2 ^ q.toNat + 1), [], x1, 0, false, rfl, hp, ?_, by omega, ?_, ?_, rfl, rfl⟩
 all_goals
  have e : x1 = ((2 ^ q.toNat : Nat) : Int) := by
   rcases (by omega : q = 1 ∨ q = 2 ∨ q = 3 ∨ q = 4 ∨ q = 5 ∨ q = 6 ∨ q = 7 ∨ q = 8) with rfl | rfl | rfl | rfl | rfl | rfl | rfl | rfl <;> (rw [← h1]; kernel_rfl)
  rw [e]
 ·exact Int.natCast_nonneg _
 ·generalize 2 ^ q.toNat = M; omega
theorem all_flash_smallest_b (q : Int) (l : List FHit) (g0 g1 g2 g3 g4 : Int) (sp : List (List Rg)) (hp : cnOk q sp) : AllG (J_flash_smallest_b q l g0 g1 g2 g3 g4 sp) (loopsFnO Tryd.prog tab Sy130 ann_flash_smallest_b (J_flash_smallest_b q l g0 g1 g2 g3 g4 sp) Tryd.f105 (fun r' R' => r' = (.tu [.c (.os 0), .c (.v (.bool ((foldS (contB sp) (2 ^ (q).toNat)).isSome)))]) ∧ R' = (.num 3 .i64 ((foldS (contB sp) (2 ^ (q).toNat)).getD [])))) := by
 rw [lp_flash_smallest_b]
 refine ⟨⟨?_, ?_⟩, trivial⟩
 ·intro F s h
  obtain _ | ⟨g, F⟩ := F
  case cons => exact h.elim
  obtain ⟨w0, w1, w2, w3, rfl, hi⟩ := h
  exact zero_flash_smallest_b_0 q l g0 g1 g2 g3 g4 sp w0 w1 w2 w3 hi
 ·intro n F s h
  obtain _ | ⟨g, F⟩ := F
  case cons => exact h.elim
  obtain ⟨w0, w1, w2, w3, rfl, hi⟩ := h
  rw [er_flash_smallest_b_0]
  exact rnd_flash_smallest_b_0 q l g0 g1 g2 g3 g4 sp _ _ _ _ _ hp hi
def con_flash_smallest_b : Con := fun args => match args with
 | [.t (.c (.v (.int .i64 q))), .t (.fn 129 [.px 7 0 c_ps])] => some (.tu [.c (.os 0), .c (.v (.bool ((foldS (contB (rlOf (cvLen (c_ps 6)) (cvCells (c_ps 6)))) (2 ^ (q).toNat)).isSome)))], some (intsB [1, 2, 3, 4, 5] c_ps = true ∧ slP 7 (c_ps 0) ∧ numsP 7 (cvLen (c_ps 0)) (cvCells (c_ps 0)) ∧ slP 1 (c_ps 6) ∧ rlP (cvLen (c_ps 6)) (cvCells (c_ps 6)) ∧ cnOk q (rlOf (cvLen (c_ps 6)) (cvCells (c_ps 6)))), .own (.num 3 .i64 ((foldS (contB (rlOf (cvLen (c_ps 6)) (cvCells (c_ps 6)))) (2 ^ (q).toNat)).getD [])))
 | _ => none
theorem ok_flash_smallest_b : Ok Tryd.prog 105 con_flash_smallest_b := by
 refine Ok.fnO (ann := ann_flash_smallest_b) mixed tabOK VSy130 VI1 (fn := Tryd.f105) (by kernel_rfl) (by kernel_rfl) fit_flash_smallest_b fun args r pre fresh h hp => ?_
 unfold con_flash_smallest_b at h
 split at h
 ·rename_i q c_ps
  cases h
  obtain ⟨hp0, hp1, hp2, hp3, hp4, hp⟩ := hp
  refine ⟨_, rfl, trivial, J_flash_smallest_b q (listC (cvLen (c_ps 0)) mkHit (cvCells (c_ps 0))) (cvInt (c_ps 1)) (cvInt (c_ps 2)) (cvInt (c_ps 3)) (cvInt (c_ps 4)) (cvInt (c_ps 5)) (rlOf (cvLen (c_ps 6)) (cvCells (c_ps 6))), [.t (.c (.v (.int .i64 q))), .t (.fn 129 [.px 7 0 (boxC [.sl 7 ((listC (cvLen (c_ps 0)) mkHit (cvCells (c_ps 0))).length) (hitsC (listC (cvLen (c_ps 0)) mkHit (cvCells (c_ps 0)))), .v (.int .i64 (cvInt (c_ps 1))), .v (.int .i64 (cvInt (c_ps 2))), .v (.int .i64 (cvInt (c_ps 3))), .v (.int .i64 (cvInt (c_ps 4))), .v (.int .i64 (cvInt (c_ps 5))), .sl 1 ((rlOf (cvLen (c_ps 6)) (cvCells (c_ps 6))).length) (rlsC (rlOf (cvLen (c_ps 6)) (cvCells (c_ps 6))))])])], ?_, Nat.le_of_ble_eq_true (by kernel_rfl), ?_, ?_⟩
  ·exact (LeA_cons (LeD.refl _) (LeA_cons (leT_f (LeCs.cons (leC_p (LeCs.cons (leC_s hp1 (leL_FHit hp2)) (LeCs.cons (leC_i (intsB_get hp0 1 (by decide))) (LeCs.cons (leC_i (intsB_get hp0 2 (by decide))) (LeCs.cons (leC_i (intsB_get hp0 3 (by decide))) (LeCs.cons (leC_i (intsB_get hp0 4 (by decide))) (LeCs.cons (leC_i (intsB_get hp0 5 (by decide))) (LeCs.cons (leC_s hp3 (leL_LRg hp4)) LeCs.nil)))))))) LeCs.nil)) LeA_nil))
  ·rw [ev_flash_smallest_b]; exact spec_flash_smallest_b q (listC (cvLen (c_ps 0)) mkHit (cvCells (c_ps 0))) (cvInt (c_ps 1)) (cvInt (c_ps 2)) (cvInt (c_ps 3)) (cvInt (c_ps 4)) (cvInt (c_ps 5)) (rlOf (cvLen (c_ps 6)) (cvCells (c_ps 6))) hp
  ·exact all_flash_smallest_b q (listC (cvLen (c_ps 0)) mkHit (cvCells (c_ps 0))) (cvInt (c_ps 1)) (cvInt (c_ps 2)) (cvInt (c_ps 3)) (cvInt (c_ps 4)) (cvInt (c_ps 5)) (rlOf (cvLen (c_ps 6)) (cvCells (c_ps 6))) hp
 ·cases h
noncomputable def Sy131 : Sum := addF Sy130 105 con_flash_smallest_b
theorem VSy131 : Valid Tryd.prog Sy131 := Valid.addF VSy130 ok_flash_smallest_b
noncomputable def Sy132 : Sum := Sy131
theorem VSy132 : Valid Tryd.prog Sy132 := VSy131
end Go.Proofs.YtmhgjlapkhdlmaaDoor
set_option linter.unusedVariables false
set_option linter.unusedSimpArgs false
namespace Go.Proofs.YtmhgjlapkhdlmaaDoor
open Go.RowKit Ev
theorem comm_app {m : List Rg} {x : Rg} (h : m ≠ []) : comm (m ++ [x]) = meetR (comm m) x := by
 cases m with
 | nil => exact (h rfl).elim
 | cons a m =>
  show (m ++ [x]).foldl meetR a = meetR (m.foldl meetR a) x
  rw [List.foldl_append]; rfl
theorem comm_one (x : Rg) : comm [x] = x := rfl
theorem tms_rg {l : List FHit} {p : P3} (h : hitsE l = 0) (hp : p.bd 15000) : -2000000000 ≤ (tms l p).lo ∧ (tms l p).lo ≤ 2000000000 ∧ -2000000000 ≤ (tms l p).hi ∧ (tms l p).hi ≤ 2000000000 := by
 obtain ⟨⟨z1, z2⟩, z3⟩ := hitsE_ok h
 refine comm_rg (by rw [sts_len]; exact z1) fun g hg => ?_
 obtain ⟨a, ha, rfl⟩ := List.mem_map.1 hg
 obtain ⟨i, hi, rfl⟩ := List.getElem_of_mem ha
 obtain ⟨b1, b2, _⟩ := hit_ok (z3 i hi)
 rw [show hitAt l i = l[i] by simp [hitAt, List.getD, hi]] at b1 b2
 have dd := dly_rg hp (b1.mono (B := 15000) (by decide))
 unfold stR
 simp only
 omega
theorem plAt_all {x : Lat} {k : Nat} (hk : k < x.sz.toNat) : plAt (allP x) k = posAt x k := by
 simp only [plAt, allP, List.getD, List.getElem?_map, List.getElem?_range hk, Option.map_some, Option.getD_some]
theorem lt_v {α : Type} {v : α} {k : α → Prop} : lt v k = k v := by unfold lt; rfl
theorem n00 : (((0 : Nat) : Int) == (0 : Int)) = true := rfl
theorem wr00 : IntKind.i64.wrap (((0 : Nat) : Int) + ((0 : Nat) : Int)) = 0 := rfl
def vc_ref06_BothErr (l : List FHit) (g0 g1 g2 g3 g4 : Int) (post : DV → Prop) : Prop := (numsP 7 l.length (hitsC l)) ∧ (cond ((hitsE (listC l.length mkHit (hitsC l))) != (0 : Int)) (post (.t (.c (.v (.int .i64 (hitsE (listC l.length mkHit (hitsC l)))))))) (post (.t (.c (.v (.int .i64 (latE (⟨⟨g0, g1, g2⟩, g3, g4⟩ : Lat))))))))
def ann_ref06_BothErr : Ann := ⟨fun _ => none, fun _ => none, fun _ => [], I1, false, fun _ => none, fun _ => none⟩
theorem ev_ref06_BothErr (J : Inv) (l : List FHit) (g0 g1 g2 g3 g4 : Int) (post : DV → Prop) : evFn Tryd.prog tab Sy132 ann_ref06_BothErr J Tryd.f65 [.t (.c (.sl 7 l.length (hitsC l))), .t (.a [.v (.int .i64 g0), .v (.int .i64 g1), .v (.int .i64 g2), .v (.int .i64 g3), .v (.int .i64 g4)])] post = vc_ref06_BothErr l g0 g1 g2 g3 g4 post := by kernel_rfl
theorem fit_ref06_BothErr : okFn ann_ref06_BothErr Tryd.f65 = true := by kernel_rfl
theorem lp_ref06_BothErr (J : Inv) (post : DV → Prop) : AllG J (loopsFn Tryd.prog tab Sy132 ann_ref06_BothErr J Tryd.f65 post) = (True) := by kernel_rfl
theorem spec_ref06_BothErr (l : List FHit) (g0 g1 g2 g3 g4 : Int) : vc_ref06_BothErr l g0 g1 g2 g3 g4 (fun r => LeD r (.t (.c (.v (.int .i64 (bothE l (⟨⟨g0, g1, g2⟩, g3, g4⟩ : Lat))))))) := by
 unfold vc_ref06_BothErr
 simp only [hits_listC]
 refine ⟨numsP_hits l, cond_i (fun h => leI ?_) (fun h => leI ?_)⟩
 ·have h : hitsE l ≠ 0 := by simpa using h
  simp [bothE, firstNZ, h]
 ·have h : hitsE l = 0 := by simpa using h
  unfold bothE
  rw [h]
  by_cases e : latE (⟨⟨g0, g1, g2⟩, g3, g4⟩ : Lat) = 0
  ·rw [e]; rfl
  ·simp [firstNZ, e]
def con_ref06_BothErr : Con := fun args => match args with
 | [.t (.c (.sl 7 n_l c_l)), .t (.a [.v (.int .i64 g0), .v (.int .i64 g1), .v (.int .i64 g2), .v (.int .i64 g3), .v (.int .i64 g4)])] => some (.t (.c (.v (.int .i64 (bothE (listC n_l mkHit c_l) (⟨⟨g0, g1, g2⟩, g3, g4⟩ : Lat))))), some (numsP 7 n_l c_l), false)
 | _ => none
theorem ok_ref06_BothErr : Ok Tryd.prog 65 con_ref06_BothErr := by
 refine Ok.fn (ann := ann_ref06_BothErr) mixed tabOK VSy132 VI1 (fn := Tryd.f65) (by kernel_rfl) (by kernel_rfl) fit_ref06_BothErr fun args r pre fresh h hp => ?_
 unfold con_ref06_BothErr at h
 split at h
 ·rename_i n_l c_l g0 g1 g2 g3 g4
  cases h
  have hp0 := hp
  refine ⟨rfl, fun _ _ _ => False, [.t (.c (.sl 7 ((listC n_l mkHit c_l).length) (hitsC (listC n_l mkHit c_l)))), .t (.a [.v (.int .i64 g0), .v (.int .i64 g1), .v (.int .i64 g2), .v (.int .i64 g3), .v (.int .i64 g4)])], ?_, Nat.le_of_ble_eq_true (by kernel_rfl), ?_, ?_⟩
  ·exact (LeA_cons (leT_c ((leL_FHit hp0))) (LeA_cons (LeD.refl _) LeA_nil))
  ·rw [ev_ref06_BothErr]; exact spec_ref06_BothErr (listC n_l mkHit c_l) g0 g1 g2 g3 g4
  ·rw [lp_ref06_BothErr]; trivial
 ·cases h
noncomputable def Sz133 : Sum := addS Sy132 65 con_ref06_BothErr
theorem VSz133 : Valid Tryd.prog Sz133 := Valid.add VSy132 ok_ref06_BothErr
def mk_ref06_Times_0 (l : List FHit) (p0 p1 p2 : Int) (v0_0 : Int) (v0_1 : Int) (v0_2 : Int) : DS := ⟨[some (.t (.c (.sl 7 l.length (hitsC l)))), none, none, some (.t (.c (.p 3 0))), some (.t (.c (.p 4 0))), some (.t (.c (.p 5 0))), some (.t (.c (.v (.int .i64 v0_2)))), none, none, none, none, none, none, none, none, none, none, none, none, none, none, none, none, none, none, none, none, none, none, none, none, none, none, none, none, none, none, none, none, none, none, none, none, none, none, none, none, none, none, none, none, none, none, none], [none, none, none, some (.box 24 [.v (.int .i64 p0), .v (.int .i64 p1), .v (.int .i64 p2)]), some (.box 94 [.v (.int .i64 0), .v (.int .i64 0)]), some (.box 94 [.v (.int .i64 v0_0), .v (.int .i64 v0_1)]), none, none, none, none, none, none, none, none, none, none, none, none, none, none, none, none, none, none, none, none, none, none, none, none, none, none, none, none, none, none, none, none, none, none, none, none, none, none, none, none, none, none, none, none, none, none, none, none]⟩
def vc_ref06_Times (J : Inv) (l : List FHit) (p0 p1 p2 : Int) (post : DV → Prop) : Prop := ∃ n, J 0 (n :: []) (mk_ref06_Times_0 l p0 p1 p2 0 0 0)
def ann_ref06_Times : Ann := ⟨fun r => lookA r [(5, ([[], [], [], [1, 2], [1, 2, 3], [1, 2, 3, 4], [0, 1, 2, 3, 4, 5], [0, 1, 2, 3, 4, 5, 6]], [[22], [22], [22], [22], [22], [22], [], []])), (6, ([[], [], [0, 1], [0, 1, 2], [0, 1, 2, 3], [0, 1, 2, 3, 4], [], [0, 1, 2, 3, 4, 5, 6], [], [], [8, 9], [8, 9, 10], [8, 9, 10, 11], [8, 9, 10, 11, 12], [], [8, 9, 10, 11, 12, 13, 14], [0, 1, 2, 3, 4, 5, 6, 7], [0, 1, 2, 3, 4, 5, 6, 7, 8, 9, 10, 11, 12, 13, 14, 15, 16]], [[], [], [], [], [], [], [], [], [], [], [], [], [], [], [], [], [], []]))], fun b => lookA b [(0, (none, some ⟨[0, 3, 4, 5, 6], [3, 4, 5], []⟩))], fun _ => [], I1, false, fun _ => none, fun _ => none⟩
theorem ev_ref06_Times (J : Inv) (l : List FHit) (p0 p1 p2 : Int) (post : DV → Prop) : evFn Tryd.prog tab Sz133 ann_ref06_Times J Tryd.f71 [.t (.c (.sl 7 l.length (hitsC l))), .t (.a [.v (.int .i64 p0), .v (.int .i64 p1), .v (.int .i64 p2)])] post = vc_ref06_Times J l p0 p1 p2 post := by kernel_rfl
theorem fit_ref06_Times : okFn ann_ref06_Times Tryd.f71 = true := by kernel_rfl
def rd_ref06_Times_0 (J : Inv) (l : List FHit) (p0 p1 p2 : Int) (v0_0 : Int) (v0_1 : Int) (v0_2 : Int) (nn0 : Nat) (post : DV → Prop) : Prop := cond (decide (v0_2 < ((l.length : Nat) : Int))) ((0 ≤ v0_2 ∧ v0_2 < ((l.length : Nat) : Int)) ∧ ((((⟨p0, p1, p2⟩ : P3)).bd 15000 ∧ ((hitAt l v0_2.toNat).p).bd 15000) ∧ ((0 ≤ v0_2 ∧ v0_2 < ((l.length : Nat) : Int)) ∧ (lt (IntKind.i64.wrap (((hitAt l v0_2.toNat).t.lo) - (dly (⟨p0, p1, p2⟩ : P3) (hitAt l v0_2.toNat).p))) fun x1 => (0 ≤ v0_2 ∧ v0_2 < ((l.length : Nat) : Int)) ∧ (lt (IntKind.i64.wrap (((hitAt l v0_2.toNat).t.hi) - (dly (⟨p0, p1, p2⟩ : P3) (hitAt l v0_2.toNat).p))) fun x2 => cond (v0_2 == (0 : Int)) (lt ((if x1 > x1 then x1 else x1)) fun x3 => lt ((if x2 < x2 then x2 else x2)) fun x4 => lt (IntKind.i64.wrap (v0_2 + (1 : Int))) fun x5 => J 0 (nn0 :: []) (mk_ref06_Times_0 l p0 p1 p2 x3 x4 x5)) (lt ((if x1 > v0_0 then x1 else v0_0)) fun x6 => lt ((if x2 < v0_1 then x2 else v0_1)) fun x7 => lt (IntKind.i64.wrap (v0_2 + (1 : Int))) fun x8 => J 0 (nn0 :: []) (mk_ref06_Times_0 l p0 p1 p2 x6 x7 x8))))))) (post (.t (.a [.v (.int .i64 v0_0), .v (.int .i64 v0_1)])))
theorem er_ref06_Times_0 (J : Inv) (l : List FHit) (p0 p1 p2 : Int) (v0_0 : Int) (v0_1 : Int) (v0_2 : Int) (nn0 : Nat) (post : DV → Prop) : round Tryd.prog tab Sz133 ann_ref06_Times J Tryd.f71 post 0 (nn0 :: []) (mk_ref06_Times_0 l p0 p1 p2 v0_0 v0_1 v0_2) = rd_ref06_Times_0 J l p0 p1 p2 v0_0 v0_1 v0_2 nn0 post := by kernel_rfl
theorem lp_ref06_Times (J : Inv) (post : DV → Prop) : AllG J (loopsFn Tryd.prog tab Sz133 ann_ref06_Times J Tryd.f71 post) = (((∀ F s, ¬ J 0 (0 :: F) s) ∧ ∀ n F s, J 0 ((n + 1) :: F) s → round Tryd.prog tab Sz133 ann_ref06_Times J Tryd.f71 post 0 (n :: F) s) ∧ True) := by kernel_rfl
def J_ref06_Times (l : List FHit) (p0 p1 p2 : Int) : Inv := fun b F s => match b, F with
 | 0, [nn0] => ∃ (v0_0 : Int) (v0_1 : Int) (v0_2 : Int), s = mk_ref06_Times_0 l p0 p1 p2 v0_0 v0_1 v0_2 ∧ ((hitsE l = 0 ∧ (⟨p0, p1, p2⟩ : P3).bd 15000) ∧ 0 ≤ v0_2 ∧ v0_2 ≤ l.length ∧ (nn0 : Int) + v0_2 = l.length + 1 ∧ (0 < v0_2 → (⟨v0_0, v0_1⟩ : Rg) = comm ((l.take v0_2.toNat).map (stR (⟨p0, p1, p2⟩ : P3)))))
 | _, _ => False
theorem rnd_ref06_Times_0 (l : List FHit) (p0 p1 p2 : Int) (v0_0 : Int) (v0_1 : Int) (v0_2 : Int) (nn0 : Nat) (hp : hitsE l = 0 ∧ ((⟨p0, p1, p2⟩ : P3)).bd 15000) (hi : (hitsE l = 0 ∧ (⟨p0, p1, p2⟩ : P3).bd 15000) ∧ 0 ≤ v0_2 ∧ v0_2 ≤ l.length ∧ ((nn0 + 1) : Int) + v0_2 = l.length + 1 ∧ (0 < v0_2 → (⟨v0_0, v0_1⟩ : Rg) = comm ((l.take v0_2.toNat).map (stR (⟨p0, p1, p2⟩ : P3))))) : rd_ref06_Times_0 (J_ref06_Times l p0 p1 p2) l p0 p1 p2 v0_0 v0_1 v0_2 nn0 (fun r => LeD r (.t (.a [.v (.int .i64 ((tms l (⟨p0, p1, p2⟩ : P3)).lo)), .v (.int .i64 ((tms l (⟨p0, p1, p2⟩ : P3)).hi))]))) := by
 obtain ⟨⟨q1, q2⟩, i1, i2, i3, i4⟩ := hi
 obtain ⟨k, rfl⟩ : ∃ k : Nat, v0_2 = k := ⟨v0_2.toNat, by omega⟩
 have hk : (k : Int).toNat = k := rfl
 rw [hk] at i4
 obtain ⟨⟨z1, z2⟩, z3⟩ := hitsE_ok q1
 unfold rd_ref06_Times_0
 rw [hk]
 refine cond_i (fun h => ?_) (fun h => ?_)
 ·have hlt : k < l.length := by have := of_decide_eq_true h; omega
  obtain ⟨b1, b2, b3⟩ := hit_ok (z3 k hlt)
  have b4 := b1.mono (B := 15000) (by decide)
  have dd := dly_rg q2 b4
  refine ⟨by omega, ⟨q2, b4⟩, by omega, lt_i fun x1 h1 => ⟨by omega, lt_i fun x2 h2 => ?_⟩⟩
  rw [wi (by omega)] at h1 h2
  have eT : (l.take (k + 1)).map (stR (⟨p0, p1, p2⟩ : P3)) = (l.take k).map (stR (⟨p0, p1, p2⟩ : P3)) ++ [⟨x1, x2⟩] := by rw [hitAt_take hlt, List.map_append, ← h1, ← h2]; rfl
  refine cond_i (fun e => lt_i fun x3 h3 => lt_i fun x4 h4 => lt_i fun x5 h5 => ?_) (fun e => lt_i fun x3 h3 => lt_i fun x4 h4 => lt_i fun x5 h5 => ?_)
  all_goals
   rw [mx_if] at h3
   rw [mn_if] at h4
   rw [wi (by omega)] at h5
   subst h5
   refine ⟨_, _, _, rfl, ⟨q1, q2⟩, by omega, by omega, by omega, fun _ => ?_⟩
   rw [show ((k : Int) + 1).toNat = k + 1 by omega, eT]
  ·have e : k = 0 := by simpa using e
   rw [e, List.take_zero, List.map_nil, List.nil_append, comm_one, ← h3, ← h4]
   simp
  ·have e : k ≠ 0 := by simpa using e
   rw [comm_app (by intro q; have := congrArg List.length q; rw [List.length_map, List.length_take, List.length_nil] at this; omega), ← i4 (by omega), ← h3, ← h4]; rfl
 ·have hge : k = l.length := by have := of_decide_eq_false h; omega
  have i4 := i4 (by omega)
  rw [hge, List.take_length] at i4
  have e : tms l (⟨p0, p1, p2⟩ : P3) = ⟨v0_0, v0_1⟩ := i4.symm
  rw [e]
  exact LeD.refl _
theorem zero_ref06_Times_0 (l : List FHit) (p0 p1 p2 : Int) (v0_0 : Int) (v0_1 : Int) (v0_2 : Int)  (hi : (hitsE l = 0 ∧ (⟨p0, p1, p2⟩ : P3).bd 15000) ∧ 0 ≤ v0_2 ∧ v0_2 ≤ l.length ∧ (0 : Int) + v0_2 = l.length + 1 ∧ (0 < v0_2 → (⟨v0_0, v0_1⟩ : Rg) = comm ((l.take v0_2.toNat).map (stR (⟨p0, p1, p2⟩ : P3))))) : False := by
 omega
theorem spec_ref06_Times (l : List FHit) (p0 p1 p2 : Int) (hp : hitsE l = 0 ∧ ((⟨p0, p1, p2⟩ : P3)).bd 15000) : vc_ref06_Times (J_ref06_Times l p0 p1 p2) l p0 p1 p2 (fun r => LeD r (.t (.a [.v (.int .i64 ((tms l (⟨p0, p1, p2⟩ : P3)).lo)), .v (.int .i64 ((tms l (⟨p0, p1, p2⟩ : P3)).hi))]))) := by
 unfold vc_ref06_Times
 exact ⟨l.length + 1, 0, 0, 0, rfl, hp, by omega, by omega, by omega, fun h => by omega⟩
theorem all_ref06_Times (l : List FHit) (p0 p1 p2 : Int) (hp : hitsE l = 0 ∧ ((⟨p0, p1, p2⟩ : P3)).bd 15000) : AllG (J_ref06_Times l p0 p1 p2) (loopsFn Tryd.prog tab Sz133 ann_ref06_Times (J_ref06_Times l p0 p1 p2) Tryd.f71 (fun r => LeD r (.t (.a [.v (.int .i64 ((tms l (⟨p0, p1, p2⟩ : P3)).lo)), .v (.int .i64 ((tms l (⟨p0, p1, p2⟩ : P3)).hi))])))) := by
 rw [lp_ref06_Times]
 refine ⟨⟨?_, ?_⟩, trivial⟩
 ·intro F s h
  obtain _ | ⟨g, F⟩ := F
  case cons => exact h.elim
  obtain ⟨w0, w1, w2, rfl, hi⟩ := h
  exact zero_ref06_Times_0 l p0 p1 p2 w0 w1 w2 hi
 ·intro n F s h
  obtain _ | ⟨g, F⟩ := F
  case cons => exact h.elim
  obtain ⟨w0, w1, w2, rfl, hi⟩ := h
  rw [er_ref06_Times_0]
  exact rnd_ref06_Times_0 l p0 p1 p2 _ _ _ _ hp hi
def con_ref06_Times : Con := fun args => match args with
 | [.t (.c (.sl 7 n_l c_l)), .t (.a [.v (.int .i64 p0), .v (.int .i64 p1), .v (.int .i64 p2)])] => some (.t (.a [.v (.int .i64 ((tms (listC n_l mkHit c_l) (⟨p0, p1, p2⟩ : P3)).lo)), .v (.int .i64 ((tms (listC n_l mkHit c_l) (⟨p0, p1, p2⟩ : P3)).hi))]), some (numsP 7 n_l c_l ∧ hitsE (listC n_l mkHit c_l) = 0 ∧ ((⟨p0, p1, p2⟩ : P3)).bd 15000), false)
 | _ => none
theorem ok_ref06_Times : Ok Tryd.prog 71 con_ref06_Times := by
 refine Ok.fn (ann := ann_ref06_Times) mixed tabOK VSz133 VI1 (fn := Tryd.f71) (by kernel_rfl) (by kernel_rfl) fit_ref06_Times fun args r pre fresh h hp => ?_
 unfold con_ref06_Times at h
 split at h
 ·rename_i n_l c_l p0 p1 p2
  cases h
  obtain ⟨hp0, hp⟩ := hp
  refine ⟨rfl, J_ref06_Times (listC n_l mkHit c_l) p0 p1 p2, [.t (.c (.sl 7 ((listC n_l mkHit c_l).length) (hitsC (listC n_l mkHit c_l)))), .t (.a [.v (.int .i64 p0), .v (.int .i64 p1), .v (.int .i64 p2)])], ?_, Nat.le_of_ble_eq_true (by kernel_rfl), ?_, ?_⟩
  ·exact (LeA_cons (leT_c ((leL_FHit hp0))) (LeA_cons (LeD.refl _) LeA_nil))
  ·rw [ev_ref06_Times]; exact spec_ref06_Times (listC n_l mkHit c_l) p0 p1 p2 hp
  ·exact all_ref06_Times (listC n_l mkHit c_l) p0 p1 p2 hp
 ·cases h
noncomputable def Sz134 : Sum := addS Sz133 71 con_ref06_Times
theorem VSz134 : Valid Tryd.prog Sz134 := Valid.add VSz133 ok_ref06_Times
def vc_ref06_Spread (l : List FHit) (p0 p1 p2 : Int) (post : DV → Prop) : Prop := (numsP 7 l.length (hitsC l) ∧ hitsE (listC l.length mkHit (hitsC l)) = 0 ∧ ((⟨p0, p1, p2⟩ : P3)).bd 15000) ∧ (lt (IntKind.i64.wrap (((tms (listC l.length mkHit (hitsC l)) (⟨p0, p1, p2⟩ : P3)).lo) - ((tms (listC l.length mkHit (hitsC l)) (⟨p0, p1, p2⟩ : P3)).hi))) fun x1 => lt ((if x1 > (0 : Int) then x1 else (0 : Int))) fun x2 => post (.t (.c (.v (.int .i64 x2)))))
def ann_ref06_Spread : Ann := ⟨fun _ => none, fun _ => none, fun _ => [], I1, false, fun _ => none, fun _ => none⟩
theorem ev_ref06_Spread (J : Inv) (l : List FHit) (p0 p1 p2 : Int) (post : DV → Prop) : evFn Tryd.prog tab Sz134 ann_ref06_Spread J Tryd.f135 [.t (.c (.sl 7 l.length (hitsC l))), .t (.a [.v (.int .i64 p0), .v (.int .i64 p1), .v (.int .i64 p2)])] post = vc_ref06_Spread l p0 p1 p2 post := by kernel_rfl
theorem fit_ref06_Spread : okFn ann_ref06_Spread Tryd.f135 = true := by kernel_rfl
theorem lp_ref06_Spread (J : Inv) (post : DV → Prop) : AllG J (loopsFn Tryd.prog tab Sz134 ann_ref06_Spread J Tryd.f135 post) = (True) := by kernel_rfl
theorem spec_ref06_Spread (l : List FHit) (p0 p1 p2 : Int) (hp : hitsE l = 0 ∧ ((⟨p0, p1, p2⟩ : P3)).bd 15000) : vc_ref06_Spread l p0 p1 p2 (fun r => LeD r (.t (.c (.v (.int .i64 (spd l (⟨p0, p1, p2⟩ : P3))))))) := by
 have r := tms_rg hp.1 hp.2
 unfold vc_ref06_Spread
 simp only [hits_listC]
 refine ⟨⟨numsP_hits l, hp⟩, lt_i fun x1 h1 => lt_i fun x2 h2 => leI ?_⟩
 rw [wi (by omega)] at h1
 rw [mx_if] at h2
 unfold spd
 rw [h1, h2]
def con_ref06_Spread : Con := fun args => match args with
 | [.t (.c (.sl 7 n_l c_l)), .t (.a [.v (.int .i64 p0), .v (.int .i64 p1), .v (.int .i64 p2)])] => some (.t (.c (.v (.int .i64 (spd (listC n_l mkHit c_l) (⟨p0, p1, p2⟩ : P3))))), some (numsP 7 n_l c_l ∧ hitsE (listC n_l mkHit c_l) = 0 ∧ ((⟨p0, p1, p2⟩ : P3)).bd 15000), false)
 | _ => none
theorem ok_ref06_Spread : Ok Tryd.prog 135 con_ref06_Spread := by
 refine Ok.fn (ann := ann_ref06_Spread) mixed tabOK VSz134 VI1 (fn := Tryd.f135) (by kernel_rfl) (by kernel_rfl) fit_ref06_Spread fun args r pre fresh h hp => ?_
 unfold con_ref06_Spread at h
 split at h
 ·rename_i n_l c_l p0 p1 p2
  cases h
  obtain ⟨hp0, hp⟩ := hp
  refine ⟨rfl, fun _ _ _ => False, [.t (.c (.sl 7 ((listC n_l mkHit c_l).length) (hitsC (listC n_l mkHit c_l)))), .t (.a [.v (.int .i64 p0), .v (.int .i64 p1), .v (.int .i64 p2)])], ?_, Nat.le_of_ble_eq_true (by kernel_rfl), ?_, ?_⟩
  ·exact (LeA_cons (leT_c ((leL_FHit hp0))) (LeA_cons (LeD.refl _) LeA_nil))
  ·rw [ev_ref06_Spread]; exact spec_ref06_Spread (listC n_l mkHit c_l) p0 p1 p2 hp
  ·rw [lp_ref06_Spread]; trivial
 ·cases h
noncomputable def Sz135 : Sum := addS Sz134 135 con_ref06_Spread
theorem VSz135 : Valid Tryd.prog Sz135 := Valid.add VSz134 ok_ref06_Spread
def mk_ref06_Vertices_0 (l : List FHit) (g0 g1 g2 g3 g4 : Int) (v0_0 : List Int) (v0_1 : Int) : DS := ⟨[some (.t (.c (.sl 7 l.length (hitsC l)))), none, none, none, none, some (.t (.c (.os 5))), some (.t (.c (.sl 3 ((allP (⟨⟨g0, g1, g2⟩, g3, g4⟩ : Lat)).length) (plsC (allP (⟨⟨g0, g1, g2⟩, g3, g4⟩ : Lat)))))), some (.t (.c (.v (.int .i64 v0_1)))), none, none, none, none, none, none, none, none, none, none, none, none, none, none, none, none, none, none, none, none], [none, none, none, none, none, some (.num 3 .i64 v0_0), none, none, none, none, none, none, none, none, none, none, none, none, none, none, none, none, none, none, none, none, none, none]⟩
def vc_ref06_Vertices (J : Inv) (l : List FHit) (g0 g1 g2 g3 g4 : Int) (post : DV → Prop) : Prop := (latE (⟨⟨g0, g1, g2⟩, g3, g4⟩ : Lat) = 0) ∧ (∃ n, J 0 (n :: []) (mk_ref06_Vertices_0 l g0 g1 g2 g3 g4 ([]) 0))
def ann_ref06_Vertices : Ann := ⟨fun _ => none, fun b => lookA b [(0, (none, some ⟨[0, 6, 7], [], [(5, .num 3 .i64 ([]))]⟩))], fun _ => [], I1, true, fun _ => none, fun _ => none⟩
theorem ev_ref06_Vertices (J : Inv) (l : List FHit) (g0 g1 g2 g3 g4 : Int) (post : DV → Prop) : evFn Tryd.prog tab Sz135 ann_ref06_Vertices J Tryd.f72 [.t (.c (.sl 7 l.length (hitsC l))), .t (.a [.v (.int .i64 g0), .v (.int .i64 g1), .v (.int .i64 g2), .v (.int .i64 g3), .v (.int .i64 g4)])] post = vc_ref06_Vertices J l g0 g1 g2 g3 g4 post := by kernel_rfl
theorem fit_ref06_Vertices : okFn ann_ref06_Vertices Tryd.f72 = true := by kernel_rfl
def rd_ref06_Vertices_0 (J : Inv) (l : List FHit) (g0 g1 g2 g3 g4 : Int) (v0_0 : List Int) (v0_1 : Int) (nn0 : Nat) (post : DV → Prop) : Prop := cond (decide (v0_1 < (((allP (⟨⟨g0, g1, g2⟩, g3, g4⟩ : Lat)).length : Nat) : Int))) ((0 ≤ v0_1 ∧ v0_1 < (((allP (⟨⟨g0, g1, g2⟩, g3, g4⟩ : Lat)).length : Nat) : Int)) ∧ ((numsP 7 l.length (hitsC l) ∧ hitsE (listC l.length mkHit (hitsC l)) = 0 ∧ ((plAt (allP (⟨⟨g0, g1, g2⟩, g3, g4⟩ : Lat)) v0_1.toNat)).bd 15000) ∧ (cond ((spd (listC l.length mkHit (hitsC l)) (plAt (allP (⟨⟨g0, g1, g2⟩, g3, g4⟩ : Lat)) v0_1.toNat)) == (0 : Int)) (((IntKind.i64 = IntKind.i64 ∧ True) ∧ roomP 8 (v0_0.length + ([v0_1] : List Int).length)) ∧ (lt (IntKind.i64.wrap (v0_1 + (1 : Int))) fun x1 => J 0 (nn0 :: []) (mk_ref06_Vertices_0 l g0 g1 g2 g3 g4 (v0_0 ++ ([v0_1])) x1))) (lt (IntKind.i64.wrap (v0_1 + (1 : Int))) fun x2 => J 0 (nn0 :: []) (mk_ref06_Vertices_0 l g0 g1 g2 g3 g4 v0_0 x2))))) (post (.t (.c (.sl 1 v0_0.length (numsC .i64 v0_0)))))
theorem er_ref06_Vertices_0 (J : Inv) (l : List FHit) (g0 g1 g2 g3 g4 : Int) (v0_0 : List Int) (v0_1 : Int) (nn0 : Nat) (post : DV → Prop) : round Tryd.prog tab Sz135 ann_ref06_Vertices J Tryd.f72 post 0 (nn0 :: []) (mk_ref06_Vertices_0 l g0 g1 g2 g3 g4 v0_0 v0_1) = rd_ref06_Vertices_0 J l g0 g1 g2 g3 g4 v0_0 v0_1 nn0 post := by kernel_rfl
theorem lp_ref06_Vertices (J : Inv) (post : DV → Prop) : AllG J (loopsFn Tryd.prog tab Sz135 ann_ref06_Vertices J Tryd.f72 post) = (((∀ F s, ¬ J 0 (0 :: F) s) ∧ ∀ n F s, J 0 ((n + 1) :: F) s → round Tryd.prog tab Sz135 ann_ref06_Vertices J Tryd.f72 post 0 (n :: F) s) ∧ True) := by kernel_rfl
def J_ref06_Vertices (l : List FHit) (g0 g1 g2 g3 g4 : Int) : Inv := fun b F s => match b, F with
 | 0, [nn0] => ∃ (v0_0 : List Int) (v0_1 : Int), s = mk_ref06_Vertices_0 l g0 g1 g2 g3 g4 v0_0 v0_1 ∧ ((hitsE l = 0 ∧ latE (⟨⟨g0, g1, g2⟩, g3, g4⟩ : Lat) = 0) ∧ 0 ≤ v0_1 ∧ v0_1 ≤ (⟨⟨g0, g1, g2⟩, g3, g4⟩ : Lat).sz ∧ (nn0 : Int) + v0_1 = (⟨⟨g0, g1, g2⟩, g3, g4⟩ : Lat).sz + 1 ∧ v0_0 = vtxK (allS l (⟨⟨g0, g1, g2⟩, g3, g4⟩ : Lat)) v0_1.toNat)
 | _, _ => False
theorem rnd_ref06_Vertices_0 (l : List FHit) (g0 g1 g2 g3 g4 : Int) (v0_0 : List Int) (v0_1 : Int) (nn0 : Nat) (hp : hitsE l = 0 ∧ latE (⟨⟨g0, g1, g2⟩, g3, g4⟩ : Lat) = 0) (hi : (hitsE l = 0 ∧ latE (⟨⟨g0, g1, g2⟩, g3, g4⟩ : Lat) = 0) ∧ 0 ≤ v0_1 ∧ v0_1 ≤ (⟨⟨g0, g1, g2⟩, g3, g4⟩ : Lat).sz ∧ ((nn0 + 1) : Int) + v0_1 = (⟨⟨g0, g1, g2⟩, g3, g4⟩ : Lat).sz + 1 ∧ v0_0 = vtxK (allS l (⟨⟨g0, g1, g2⟩, g3, g4⟩ : Lat)) v0_1.toNat) : rd_ref06_Vertices_0 (J_ref06_Vertices l g0 g1 g2 g3 g4) l g0 g1 g2 g3 g4 v0_0 v0_1 nn0 (fun r => LeD r (.t (.c (.sl 1 ((vtxR l (⟨⟨g0, g1, g2⟩, g3, g4⟩ : Lat)).length) (intsC (vtxR l (⟨⟨g0, g1, g2⟩, g3, g4⟩ : Lat))))))) := by
 obtain ⟨⟨q1, q2⟩, i1, i2, i3, i4⟩ := hi
 obtain ⟨k, rfl⟩ : ∃ k : Nat, v0_1 = k := ⟨v0_1.toNat, by omega⟩
 have hk : (k : Int).toNat = k := rfl
 rw [hk] at i4
 have hz := sz_rg q2
 have hl := vtxK_len (allS l (⟨⟨g0, g1, g2⟩, g3, g4⟩ : Lat)) k
 unfold rd_ref06_Vertices_0
 simp only [hits_listC, hk, allP_len]
 refine cond_i (fun h => ?_) (fun h => ?_)
 ·have hlt : k < (⟨⟨g0, g1, g2⟩, g3, g4⟩ : Lat).sz.toNat := by have := of_decide_eq_true h; omega
  rw [plAt_all hlt]
  have eS := vtxK_succ (allS l (⟨⟨g0, g1, g2⟩, g3, g4⟩ : Lat)) k
  rw [sprF_all hlt] at eS
  refine ⟨by omega, ⟨numsP_hits l, q1, posAt_bd q2 (by omega) (by omega)⟩, cond_i (fun e => ⟨⟨by trivial, ?_⟩, lt_i fun x hx => ?_⟩) (fun e => lt_i fun x hx => ?_)⟩
  ·rw [i4]; unfold roomP maxLen; simp; omega
  all_goals
   rw [wi (by omega)] at hx
   subst hx
   refine ⟨_, _, rfl, ⟨q1, q2⟩, by omega, by omega, by omega, ?_⟩
   rw [show ((k : Int) + 1).toNat = k + 1 by omega, eS, i4]
  ·rw [if_pos e]
  ·rw [if_neg (by rw [e]; simp), List.append_nil]
 ·have hge : k = (⟨⟨g0, g1, g2⟩, g3, g4⟩ : Lat).sz.toNat := by have := of_decide_eq_false h; omega
  have e : vtxR l (⟨⟨g0, g1, g2⟩, g3, g4⟩ : Lat) = v0_0 := by rw [i4, hge, ← allS_len (l := l)]; rfl
  rw [e]
  exact LeD.refl _
theorem zero_ref06_Vertices_0 (l : List FHit) (g0 g1 g2 g3 g4 : Int) (v0_0 : List Int) (v0_1 : Int)  (hi : (hitsE l = 0 ∧ latE (⟨⟨g0, g1, g2⟩, g3, g4⟩ : Lat) = 0) ∧ 0 ≤ v0_1 ∧ v0_1 ≤ (⟨⟨g0, g1, g2⟩, g3, g4⟩ : Lat).sz ∧ (0 : Int) + v0_1 = (⟨⟨g0, g1, g2⟩, g3, g4⟩ : Lat).sz + 1 ∧ v0_0 = vtxK (allS l (⟨⟨g0, g1, g2⟩, g3, g4⟩ : Lat)) v0_1.toNat) : False := by
 omega
theorem spec_ref06_Vertices (l : List FHit) (g0 g1 g2 g3 g4 : Int) (hp : hitsE l = 0 ∧ latE (⟨⟨g0, g1, g2⟩, g3, g4⟩ : Lat) = 0) : vc_ref06_Vertices (J_ref06_Vertices l g0 g1 g2 g3 g4) l g0 g1 g2 g3 g4 (fun r => LeD r (.t (.c (.sl 1 ((vtxR l (⟨⟨g0, g1, g2⟩, g3, g4⟩ : Lat)).length) (intsC (vtxR l (⟨⟨g0, g1, g2⟩, g3, g4⟩ : Lat))))))) := by
 have hz := sz_rg hp.2
 unfold vc_ref06_Vertices
 exact ⟨hp.2, ((⟨⟨g0, g1, g2⟩, g3, g4⟩ : Lat).sz.toNat + 1), [], 0, rfl, hp, by omega, by omega, by omega, rfl⟩
theorem all_ref06_Vertices (l : List FHit) (g0 g1 g2 g3 g4 : Int) (hp : hitsE l = 0 ∧ latE (⟨⟨g0, g1, g2⟩, g3, g4⟩ : Lat) = 0) : AllG (J_ref06_Vertices l g0 g1 g2 g3 g4) (loopsFn Tryd.prog tab Sz135 ann_ref06_Vertices (J_ref06_Vertices l g0 g1 g2 g3 g4) Tryd.f72 (fun r => LeD r (.t (.c (.sl 1 ((vtxR l (⟨⟨g0, g1, g2⟩, g3, g4⟩ : Lat)).length) (intsC (vtxR l (⟨⟨g0, g1, g2⟩, g3, g4⟩ : Lat)))))))) := by
 rw [lp_ref06_Vertices]
 refine ⟨⟨?_, ?_⟩, trivial⟩
 ·intro F s h
  obtain _ | ⟨g, F⟩ := F
  case cons => exact h.elim
  obtain ⟨w0, w1, rfl, hi⟩ := h
  exact zero_ref06_Vertices_0 l g0 g1 g2 g3 g4 w0 w1 hi
 ·intro n F s h
  obtain _ | ⟨g, F⟩ := F
  case cons => exact h.elim
  obtain ⟨w0, w1, rfl, hi⟩ := h
  rw [er_ref06_Vertices_0]
  exact rnd_ref06_Vertices_0 l g0 g1 g2 g3 g4 _ _ _ hp hi
def con_ref06_Vertices : Con := fun args => match args with
 | [.t (.c (.sl 7 n_l c_l)), .t (.a [.v (.int .i64 g0), .v (.int .i64 g1), .v (.int .i64 g2), .v (.int .i64 g3), .v (.int .i64 g4)])] => some (.t (.c (.sl 1 ((vtxR (listC n_l mkHit c_l) (⟨⟨g0, g1, g2⟩, g3, g4⟩ : Lat)).length) (intsC (vtxR (listC n_l mkHit c_l) (⟨⟨g0, g1, g2⟩, g3, g4⟩ : Lat))))), some (numsP 7 n_l c_l ∧ hitsE (listC n_l mkHit c_l) = 0 ∧ latE (⟨⟨g0, g1, g2⟩, g3, g4⟩ : Lat) = 0), true)
 | _ => none
theorem ok_ref06_Vertices : Ok Tryd.prog 72 con_ref06_Vertices := by
 refine Ok.fnFr (ann := ann_ref06_Vertices) mixed tabOK VSz135 VI1 rfl (fn := Tryd.f72) (by kernel_rfl) (by kernel_rfl) fit_ref06_Vertices fun args r pre fresh h hp => ?_
 unfold con_ref06_Vertices at h
 split at h
 ·rename_i n_l c_l g0 g1 g2 g3 g4
  cases h
  obtain ⟨hp0, hp⟩ := hp
  refine ⟨rfl, (fun i j _ hj => plain_int _ i j), J_ref06_Vertices (listC n_l mkHit c_l) g0 g1 g2 g3 g4, [.t (.c (.sl 7 ((listC n_l mkHit c_l).length) (hitsC (listC n_l mkHit c_l)))), .t (.a [.v (.int .i64 g0), .v (.int .i64 g1), .v (.int .i64 g2), .v (.int .i64 g3), .v (.int .i64 g4)])], ?_, Nat.le_of_ble_eq_true (by kernel_rfl), ?_, ?_⟩
  ·exact (LeA_cons (leT_c ((leL_FHit hp0))) (LeA_cons (LeD.refl _) LeA_nil))
  ·rw [ev_ref06_Vertices]; exact spec_ref06_Vertices (listC n_l mkHit c_l) g0 g1 g2 g3 g4 hp
  ·exact all_ref06_Vertices (listC n_l mkHit c_l) g0 g1 g2 g3 g4 hp
 ·cases h
noncomputable def Sz136 : Sum := addS Sz135 72 con_ref06_Vertices
theorem VSz136 : Valid Tryd.prog Sz136 := Valid.add VSz135 ok_ref06_Vertices
noncomputable def Sz137 : Sum := Sz136
theorem VSz137 : Valid Tryd.prog Sz137 := VSz136
noncomputable def Sz138 : Sum := Sz137
theorem VSz138 : Valid Tryd.prog Sz138 := VSz137
noncomputable def Sz139 : Sum := Sz138
theorem VSz139 : Valid Tryd.prog Sz139 := VSz138
noncomputable def Sz140 : Sum := Sz139
theorem VSz140 : Valid Tryd.prog Sz140 := VSz139
end Go.Proofs.YtmhgjlapkhdlmaaDoor
set_option linter.unusedVariables false
set_option linter.unusedSimpArgs false
namespace Go.Proofs.YtmhgjlapkhdlmaaDoor
open Go.RowKit Ev
def hasB (r : Rg) (t : Int) : Bool := inB t r.lo r.hi
theorem hasB_iff {r : Rg} {t : Int} : hasB r t = true ↔ r.lo ≤ t ∧ t ≤ r.hi := inB_true
def okT (a b : List Rg) (s t : Int) : Prop := ∀ i, i < a.length → hasB (rgAt a i) s = true ∨ hasB (rgAt b i) t = true
def restR (a b : List Rg) (s : Int) : List Rg := ((List.range a.length).filter fun i => !hasB (rgAt a i) s).map fun i => rgAt b i
def minR (b : List Rg) (k : Nat) : Rg := ((b.drop 1).take k).foldl (fun m r => if r.lo - m.lo < 0 then r else m) (rgAt b 0)
def secT (a b : List Rg) (s : Int) : Option Int := if (restR a b s).length = 0 then some (minR b b.length).lo else if (comm (restR a b s)).lo ≤ (comm (restR a b s)).hi then some (comm (restR a b s)).lo else none
def tmStep (a b : List Rg) (o : Option (Int × Int)) (r : Rg) : Option (Int × Int) := if (o.isSome && decide (r.lo ≥ (o.getD (0, 0)).1)) = true then o else match secT a b r.lo with
 | some t => some (r.lo, t)
 | none => o
def timK (a b : List Rg) (k : Nat) : Option (Int × Int) := (a.take k).foldl (tmStep a b) none
def timF (a b : List Rg) : Option (Int × Int) := timK a b a.length
def losP (l : List Rg) (t : Int) : Prop := ∃ i, i < l.length ∧ (rgAt l i).lo = t
theorem timK_succ {a b : List Rg} {k : Nat} (hk : k < a.length) : timK a b (k + 1) = tmStep a b (timK a b k) (rgAt a k) := by
 unfold timK
 rw [List.take_succ_eq_append_getElem hk, List.foldl_append]
 simp [rgAt, List.getD, hk]
def isT (a b : List Rg) : Option (Int × Int) → Prop
 | none => ∀ s t, losP a s → losP b t → ¬ okT a b s t
 | some (s, t) => losP a s ∧ losP b t ∧ okT a b s t ∧ ∀ s' t', losP a s' → losP b t' → okT a b s' t' → s < s' ∨ (s = s' ∧ t ≤ t')
theorem isT_unique {a b : List Rg} {o o' : Option (Int × Int)} (h : isT a b o) (h' : isT a b o') : o = o' := by
 cases o with
 | none => cases o' with
  | none => rfl
  | some q => obtain ⟨s, t⟩ := q; exact (h s t h'.1 h'.2.1 h'.2.2.1).elim
 | some q =>
  obtain ⟨s, t⟩ := q
  cases o' with
  | none => exact (h' s t h.1 h.2.1 h.2.2.1).elim
  | some q' =>
   obtain ⟨s', t'⟩ := q'
   have g1 := h.2.2.2 s' t' h'.1 h'.2.1 h'.2.2.1
   have g2 := h'.2.2.2 s t h.1 h.2.1 h.2.2.1
   have : s = s' ∧ t = t' := by omega
   rw [this.1, this.2]
theorem minR_ok {b : List Rg} : ∀ k, k < b.length → ∃ i, i ≤ k ∧ minR b k = rgAt b i ∧ ∀ j, j ≤ k → (minR b k).lo ≤ (rgAt b j).lo := by
 intro k
 induction k with
 | zero => intro hk; exact ⟨0, Nat.le_refl _, rfl, fun j hj => by
   have : j = 0 := by omega
   rw [this]; exact Int.le_refl _⟩
 | succ k ih =>
  intro hk
  obtain ⟨i, i1, i2, i3⟩ := ih (by omega)
  have hd : k < (b.drop 1).length := by rw [List.length_drop]; omega
  have e : minR b (k + 1) = if (rgAt b (k + 1)).lo - (minR b k).lo < 0 then rgAt b (k + 1) else minR b k := by
   unfold minR
   rw [List.take_succ_eq_append_getElem hd, List.foldl_append]
   simp [rgAt, List.getD, Nat.add_comm 1 k, hk]
  rw [e]
  split
  ·refine ⟨k + 1, Nat.le_refl _, rfl, fun j hj => ?_⟩
   by_cases q : j = k + 1
   ·rw [q]; exact Int.le_refl _
   ·have := i3 j (by omega); omega
  ·refine ⟨i, by omega, i2, fun j hj => ?_⟩
   by_cases q : j = k + 1
   ·rw [q]; omega
   ·exact i3 j (by omega)
theorem minR_end {b : List Rg} (h : 0 < b.length) : minR b b.length = minR b (b.length - 1) := by
 unfold minR
 rw [List.take_of_length_le (by rw [List.length_drop]; omega), List.take_of_length_le (by rw [List.length_drop]; omega)]
theorem comm_lo {l : List Rg} (h0 : 0 < l.length) : ∃ i, i < l.length ∧ (comm l).lo = (rgAt l i).lo := by
 have key : ∀ (m : List Rg) (a : Rg), (m.foldl meetR a).lo = a.lo ∨ ∃ g ∈ m, (m.foldl meetR a).lo = g.lo := by
  intro m
  induction m with
  | nil => intro a; exact Or.inl rfl
  | cons g m ih =>
   intro a
   rw [List.foldl_cons]
   rcases ih (meetR a g) with h | ⟨y, hy, h⟩
   ·rw [h]
    have : (meetR a g).lo = max a.lo g.lo := rfl
    rcases Int.le_total a.lo g.lo with q | q
    ·exact Or.inr ⟨g, by simp, by rw [this]; omega⟩
    ·left; rw [this]; omega
   ·exact Or.inr ⟨y, by simp [hy], h⟩
 rcases key (l.drop 1) (rgAt l 0) with h | ⟨g, hg, h⟩
 ·exact ⟨0, h0, h⟩
 ·obtain ⟨i, hi, rfl⟩ := List.getElem_of_mem hg
  rw [List.length_drop] at hi
  refine ⟨1 + i, by omega, h.trans ?_⟩
  simp [rgAt, List.getD, show i + 1 < l.length by omega, Nat.add_comm 1 i]
theorem mem_rest {a b : List Rg} {s : Int} {g : Rg} : g ∈ restR a b s ↔ ∃ i, i < a.length ∧ hasB (rgAt a i) s = false ∧ rgAt b i = g := by
 unfold restR
 constructor
 ·intro h
  obtain ⟨i, hi, e⟩ := List.mem_map.1 h
  obtain ⟨h1, h2⟩ := List.mem_filter.1 hi
  exact ⟨i, List.mem_range.1 h1, by simpa using h2, e⟩
 ·rintro ⟨i, h1, h2, h3⟩
  exact List.mem_map.2 ⟨i, List.mem_filter.2 ⟨List.mem_range.2 h1, by simpa using h2⟩, h3⟩
theorem okT_rest {a b : List Rg} {s t : Int} : okT a b s t ↔ ∀ g ∈ restR a b s, g.lo ≤ t ∧ t ≤ g.hi := by
 constructor
 ·intro h g hg
  obtain ⟨i, h1, h2, rfl⟩ := mem_rest.1 hg
  rcases h i h1 with q | q
  ·rw [h2] at q; cases q
  ·exact hasB_iff.1 q
 ·intro h i hi
  cases hq : hasB (rgAt a i) s with
  | true => exact Or.inl rfl
  | false => exact Or.inr (hasB_iff.2 (h _ (mem_rest.2 ⟨i, hi, hq, rfl⟩)))
theorem secT_ok {a b : List Rg} {s : Int} (hl : a.length = b.length) (h0 : 0 < a.length) : (secT a b s = none ∧ ∀ t, ¬ okT a b s t) ∨ ∃ t, secT a b s = some t ∧ losP b t ∧ okT a b s t ∧ ∀ t', losP b t' → okT a b s t' → t ≤ t' := by
 unfold secT
 by_cases h : (restR a b s).length = 0
 ·rw [if_pos h]
  right
  obtain ⟨i, i1, i2, i3⟩ := minR_ok (b := b) (b.length - 1) (by omega)
  rw [← minR_end (by omega)] at i2 i3
  refine ⟨_, rfl, ⟨i, by omega, by rw [i2]⟩, okT_rest.2 fun g hg => ?_, fun t' ⟨j, j1, j2⟩ _ => ?_⟩
  ·rw [List.length_eq_zero_iff.1 h] at hg; cases hg
  ·rw [← j2]; exact i3 j (by omega)
 ·rw [if_neg h]
  have hp : 0 < (restR a b s).length := by omega
  by_cases hc : (comm (restR a b s)).lo ≤ (comm (restR a b s)).hi
  ·rw [if_pos hc]
   right
   obtain ⟨i, i1, i2⟩ := comm_lo hp
   have hg : rgAt (restR a b s) i ∈ restR a b s := by rw [show rgAt (restR a b s) i = (restR a b s)[i] by simp [rgAt, List.getD, i1]]; exact List.getElem_mem i1
   obtain ⟨j, j1, j2, j3⟩ := mem_rest.1 hg
   refine ⟨_, rfl, ⟨j, by omega, by rw [i2, j3]⟩, okT_rest.2 ((comm_iff hp).1 ⟨Int.le_refl _, hc⟩), fun t' _ ht => ?_⟩
   exact ((comm_iff hp).2 (okT_rest.1 ht)).1
  ·rw [if_neg hc]
   left
   refine ⟨rfl, fun t ht => ?_⟩
   have := (comm_iff hp).2 (okT_rest.1 ht)
   omega
theorem timK_ok {a b : List Rg} (hl : a.length = b.length) : ∀ k, k ≤ a.length → match timK a b k with
  | none => ∀ i, i < k → ∀ t, losP b t → ¬ okT a b (rgAt a i).lo t
  | some (s, t) => losP a s ∧ losP b t ∧ okT a b s t ∧ (∀ t', losP b t' → okT a b s t' → t ≤ t') ∧ ∀ i, i < k → ∀ t', losP b t' → okT a b (rgAt a i).lo t' → s ≤ (rgAt a i).lo := by
 intro k
 induction k with
 | zero => intro _; exact fun i hi => by omega
 | succ k ih =>
  intro hk
  have i0 := ih (by omega)
  rw [timK_succ (by omega)]
  unfold tmStep
  cases ho : timK a b k with
  | none =>
   rw [ho] at i0
   simp only [Option.isSome_none, Bool.false_and, if_neg (show ¬ (false = true) by simp)]
   rcases secT_ok (s := (rgAt a k).lo) hl (by omega) with ⟨e, h⟩ | ⟨t, e, h1, h2, h3⟩
   ·rw [e]
    intro i hi t ht
    by_cases q : i = k
    ·rw [q]; exact h t
    ·exact i0 i (by omega) t ht
   ·rw [e]
    refine ⟨⟨k, by omega, rfl⟩, h1, h2, h3, fun i hi t' ht hok => ?_⟩
    by_cases q : i = k
    ·rw [q]; exact Int.le_refl _
    ·exact (i0 i (by omega) t' ht hok).elim
  | some q =>
   obtain ⟨s, t⟩ := q
   rw [ho] at i0
   obtain ⟨j1, j2, j3, j4, j5⟩ := i0
   simp only [Option.isSome_some, Bool.true_and, Option.getD_some]
   by_cases hs : (rgAt a k).lo ≥ s
   ·rw [if_pos (decide_eq_true hs)]
    refine ⟨j1, j2, j3, j4, fun i hi t' ht hok => ?_⟩
    by_cases q : i = k
    ·rw [q]; omega
    ·exact j5 i (by omega) t' ht hok
   ·rw [if_neg (by rw [decide_eq_false hs]; simp)]
    rcases secT_ok (s := (rgAt a k).lo) hl (by omega) with ⟨e, h⟩ | ⟨u, e, h1, h2, h3⟩
    ·rw [e]
     refine ⟨j1, j2, j3, j4, fun i hi t' ht hok => ?_⟩
     by_cases q : i = k
     ·rw [q] at hok; exact (h t' hok).elim
     ·exact j5 i (by omega) t' ht hok
    ·rw [e]
     refine ⟨⟨k, by omega, rfl⟩, h1, h2, h3, fun i hi t' ht hok => ?_⟩
     by_cases q : i = k
     ·rw [q]; exact Int.le_refl _
     ·have := j5 i (by omega) t' ht hok; omega
theorem timF_ok {a b : List Rg} (hl : a.length = b.length) : isT a b (timF a b) := by
 have h := timK_ok hl a.length (Nat.le_refl _)
 unfold timF
 cases ho : timK a b a.length with
 | none =>
  rw [ho] at h
  rintro s t ⟨i, i1, rfl⟩ ht
  exact h i i1 t ht
 | some q =>
  obtain ⟨s, t⟩ := q
  rw [ho] at h
  obtain ⟨j1, j2, j3, j4, j5⟩ := h
  refine ⟨j1, j2, j3, ?_⟩
  rintro s' t' ⟨i, i1, rfl⟩ ht hok
  have := j5 i i1 t' ht hok
  rcases (by omega : s < (rgAt a i).lo ∨ s = (rgAt a i).lo) with q | q
  ·exact Or.inl q
  ·right
   refine ⟨q, j4 t' ht ?_⟩
   rw [q]; exact hok
def insS (t : Int) : List Int → List Int
 | [] => [t]
 | a :: l => if a < t then a :: insS t l else if a = t then a :: l else t :: a :: l
def strS (l : List Rg) : List Int := l.foldl (fun a r => insS r.lo a) []
theorem mem_ins {t u : Int} : ∀ l : List Int, u ∈ insS t l ↔ u = t ∨ u ∈ l := by
  intro l
  induction l with
  | nil => simp [insS]
  | cons a l ih =>
    unfold insS
    split
    · simp only [List.mem_cons, ih]; constructor
      · rintro (h | h | h); exact Or.inr (Or.inl h); exact Or.inl h; exact Or.inr (Or.inr h)
      · rintro (h | h | h); exact Or.inr (Or.inl h); exact Or.inl h; exact Or.inr (Or.inr h)
    · split
      · next h => subst h; simp only [List.mem_cons]; constructor
                  · rintro (h | h); exact Or.inl h; exact Or.inr (Or.inr h)
                  · rintro (h | h | h); exact Or.inl h; exact Or.inl h; exact Or.inr h
      · simp only [List.mem_cons]
theorem ins_sorted {t : Int} : ∀ l : List Int, l.Pairwise (· < ·) → (insS t l).Pairwise (· < ·) := by
 intro l
 induction l with
 | nil => intro _; simp [insS]
 | cons a l ih =>
  intro h
  obtain ⟨h1, h2⟩ := List.pairwise_cons.1 h
  unfold insS
  split
  ·next hat =>
   refine List.pairwise_cons.2 ⟨fun u hu => ?_, ih h2⟩
   rcases (mem_ins l).1 hu with rfl | hu
   ·exact hat
   ·exact h1 u hu
  ·split
   ·exact h
   ·refine List.pairwise_cons.2 ⟨fun u hu => ?_, h⟩
    rcases List.mem_cons.1 hu with rfl | hu
    ·omega
    ·have := h1 u hu; omega
theorem ins_len (t : Int) (l : List Int) : (insS t l).length ≤ l.length + 1 := by
 induction l with
 | nil => simp [insS]
 | cons a l ih =>
  unfold insS
  split
  ·simp only [List.length_cons]; omega
  ·split <;> simp
theorem strS_ok (l : List Rg) : (strS l).Pairwise (· < ·) ∧ (∀ t, t ∈ strS l ↔ losP l t) ∧ (strS l).length ≤ l.length := by
 have key : ∀ (l : List Rg) (a : List Int), a.Pairwise (· < ·) → (l.foldl (fun a r => insS r.lo a) a).Pairwise (· < ·) ∧ (∀ t, t ∈ l.foldl (fun a r => insS r.lo a) a ↔ t ∈ a ∨ ∃ g ∈ l, g.lo = t) ∧ (l.foldl (fun a r => insS r.lo a) a).length ≤ a.length + l.length := by
  intro l
  induction l with
  | nil => intro a h; exact ⟨h, fun t => by simp, by simp⟩
  | cons g l ih =>
   intro a h
   rw [List.foldl_cons]
   obtain ⟨h1, h2, h3⟩ := ih _ (ins_sorted (t := g.lo) a h)
   refine ⟨h1, fun t => ?_, ?_⟩
   ·rw [h2, mem_ins]
    simp only [List.mem_cons, exists_eq_or_imp]
    constructor
    ·rintro ((q | q) | q)
     ·exact Or.inr (Or.inl q.symm)
     ·exact Or.inl q
     ·exact Or.inr (Or.inr q)
    ·rintro (q | q | q)
     ·exact Or.inl (Or.inr q)
     ·exact Or.inl (Or.inl q.symm)
     ·exact Or.inr q
   ·have := ins_len g.lo a
    simp only [List.length_cons]; omega
 obtain ⟨h1, h2, h3⟩ := key l [] List.Pairwise.nil
 refine ⟨h1, fun t => (h2 t).trans ?_, by simpa [strS] using h3⟩
 constructor
 ·rintro (q | ⟨g, hg, rfl⟩)
  ·cases q
  ·obtain ⟨i, hi, rfl⟩ := List.getElem_of_mem hg
   exact ⟨i, hi, by simp [rgAt, List.getD, hi]⟩
 ·rintro ⟨i, hi, rfl⟩
  exact Or.inr ⟨rgAt l i, by rw [show rgAt l i = l[i] by simp [rgAt, List.getD, hi]]; exact List.getElem_mem hi, rfl⟩
theorem first_T {a b : List Rg} (hl : a.length = b.length) {m n : Nat} (hm : m < (strS a).length) (hn : n < (strS b).length) (h : okT a b ((strS a).getD m 0) ((strS b).getD n 0)) (h1 : ∀ m', m' < m → ∀ n', n' < (strS b).length → ¬ okT a b ((strS a).getD m' 0) ((strS b).getD n' 0)) (h2 : ∀ n', n' < n → ¬ okT a b ((strS a).getD m 0) ((strS b).getD n' 0)) : timF a b = some ((strS a).getD m 0, (strS b).getD n 0) := by
 obtain ⟨a1, a2, _⟩ := strS_ok a
 obtain ⟨b1, b2, _⟩ := strS_ok b
 have lt : ∀ {l : List Int}, l.Pairwise (· < ·) → ∀ {i j}, i < j → j < l.length → l.getD i 0 < l.getD j 0 := by
  intro l hl i j hij hj
  rw [List.pairwise_iff_getElem] at hl
  have := hl i j (by omega) hj hij
  simp only [List.getD, List.getElem?_eq_getElem hj, List.getElem?_eq_getElem (show i < l.length by omega), Option.getD_some]
  exact this
 refine isT_unique (timF_ok hl) ⟨(a2 _).1 (getD_mem hm), (b2 _).1 (getD_mem hn), h, fun s' t' hs ht hok => ?_⟩
 obtain ⟨i, i1, rfl⟩ := mem_getD ((a2 _).2 hs)
 obtain ⟨j, j1, rfl⟩ := mem_getD ((b2 _).2 ht)
 rcases Nat.lt_trichotomy i m with q | q | q
 ·exact (h1 i q j j1 hok).elim
 ·subst q
  right
  refine ⟨rfl, ?_⟩
  rcases Nat.lt_trichotomy j n with q | q | q
  ·exact (h2 j q hok).elim
  ·rw [q]; exact Int.le_refl _
  ·exact Int.le_of_lt (lt b1 q j1)
 ·exact Or.inl (lt a1 q i1)
theorem none_T {a b : List Rg} (hl : a.length = b.length) (h1 : ∀ m', m' < (strS a).length → ∀ n', n' < (strS b).length → ¬ okT a b ((strS a).getD m' 0) ((strS b).getD n' 0)) : timF a b = none := by
 obtain ⟨a1, a2, _⟩ := strS_ok a
 obtain ⟨b1, b2, _⟩ := strS_ok b
 refine isT_unique (timF_ok hl) fun s t hs ht hok => ?_
 obtain ⟨i, i1, rfl⟩ := mem_getD ((a2 _).2 hs)
 obtain ⟨j, j1, rfl⟩ := mem_getD ((b2 _).2 ht)
 exact h1 i i1 j j1 hok
def prB (sp : List (List Rg)) (q : Nat) : Bool := decide (q / sp.length ≤ q % sp.length) && (timF (rlAt sp (q / sp.length)) (rlAt sp (q % sp.length))).isSome
def prN (sp : List (List Rg)) : Nat := (List.range (sp.length * sp.length)).findIdx (prB sp)
theorem pr_code {n i k : Nat} (hk : k < n) : (i * n + k) / n = i ∧ (i * n + k) % n = k := by
 rw [Nat.mul_comm]
 exact ⟨by rw [Nat.mul_add_div (by omega), Nat.div_eq_of_lt hk, Nat.add_zero], by rw [Nat.mul_add_mod, Nat.mod_eq_of_lt hk]⟩
theorem pr_lt {n i k : Nat} (hi : i < n) (hk : k < n) : i * n + k < n * n := by
 have := Nat.mul_le_mul_right n (show i + 1 ≤ n by omega)
 rw [Nat.add_mul] at this
 omega
theorem prN_at {sp : List (List Rg)} {q : Nat} (hq : q < sp.length * sp.length) (h : prB sp q = true) (hz : ∀ j, j < q → prB sp j = false) : prN sp = q := by
 unfold prN
 rw [List.findIdx_eq (by rw [List.length_range]; exact hq)]
 refine ⟨by rw [List.getElem_range]; exact h, fun j hj => by rw [List.getElem_range]; exact hz j hj⟩
theorem prN_none {sp : List (List Rg)} (hz : ∀ j, j < sp.length * sp.length → prB sp j = false) : prN sp = sp.length * sp.length := by
 unfold prN
 have := List.findIdx_le_length (p := prB sp) (xs := List.range (sp.length * sp.length))
 rw [List.length_range] at this
 rcases Nat.lt_or_ge ((List.range (sp.length * sp.length)).findIdx (prB sp)) (sp.length * sp.length) with h | h
 ·have h2 := List.findIdx_getElem (w := (by rw [List.length_range]; exact h : (List.range (sp.length * sp.length)).findIdx (prB sp) < (List.range (sp.length * sp.length)).length))
  rw [List.getElem_range, hz _ h] at h2
  cases h2
 ·omega
def hasP (sp : List (List Rg)) : Bool := decide (prN sp < sp.length * sp.length)
def prT (sp : List (List Rg)) : Int × Int := (timF (rlAt sp (prN sp / sp.length)) (rlAt sp (prN sp % sp.length))).getD (0, 0)
structure Pr4 where
 (a b s t : Int)
def prV (sp : List (List Rg)) : Pr4 := if hasP sp = true then ⟨(prN sp / sp.length : Nat), (prN sp % sp.length : Nat), (prT sp).1, (prT sp).2⟩ else ⟨0, 0, 0, 0⟩
theorem prV_at {sp : List (List Rg)} {i k : Nat} {s t : Int} (hi : i < sp.length) (hk : k < sp.length) (hik : i ≤ k) (h : timF (rlAt sp i) (rlAt sp k) = some (s, t)) (hz : ∀ j, j < i * sp.length + k → prB sp j = false) : hasP sp = true ∧ prV sp = ⟨i, k, s, t⟩ := by
 obtain ⟨c1, c2⟩ := pr_code (i := i) hk
 have hq := pr_lt hi hk
 have hb : prB sp (i * sp.length + k) = true := by
  unfold prB
  rw [c1, c2, h, decide_eq_true hik]; rfl
 have e := prN_at hq hb hz
 have hp : hasP sp = true := by unfold hasP; rw [e]; exact decide_eq_true hq
 refine ⟨hp, ?_⟩
 rw [show prV sp = _ from if_pos hp]
 unfold prT
 rw [e, c1, c2, h]; rfl
theorem prV_none {sp : List (List Rg)} (hz : ∀ j, j < sp.length * sp.length → prB sp j = false) : hasP sp = false ∧ prV sp = ⟨0, 0, 0, 0⟩ := by
 have hp : hasP sp = false := by unfold hasP; rw [prN_none hz]; exact decide_eq_false (by omega)
 exact ⟨hp, if_neg (by rw [hp]; simp)⟩
theorem prB_low {sp : List (List Rg)} {i k : Nat} (hki : k < i) (hk : k < sp.length) : prB sp (i * sp.length + k) = false := by
 obtain ⟨c1, c2⟩ := pr_code (i := i) hk
 unfold prB
 rw [c1, c2, decide_eq_false (by omega)]; rfl
theorem prB_none {sp : List (List Rg)} {i k : Nat} (hk : k < sp.length) (h : timF (rlAt sp i) (rlAt sp k) = none) : prB sp (i * sp.length + k) = false := by
 obtain ⟨c1, c2⟩ := pr_code (i := i) hk
 unfold prB
 rw [c1, c2, h]; simp
theorem prB_row {sp : List (List Rg)} {i : Nat} (hi : i < sp.length) (h : ∀ j, j < i * sp.length + sp.length → prB sp j = false) : ∀ j, j < (i + 1) * sp.length + (i + 1) → j < sp.length * sp.length → prB sp j = false := by
 intro j hj hj2
 rcases Nat.lt_or_ge j (i * sp.length + sp.length) with q | q
 ·exact h j q
 ·have e : (i + 1) * sp.length = i * sp.length + sp.length := by rw [Nat.add_mul, Nat.one_mul]
  obtain ⟨k, rfl⟩ : ∃ k, j = (i + 1) * sp.length + k := ⟨j - (i + 1) * sp.length, by omega⟩
  rcases Nat.lt_or_ge k sp.length with h1 | h1
  ·exact prB_low (by omega) h1
  ·exfalso
   have : (i + 1) * sp.length + sp.length = (i + 1 + 1) * sp.length := by rw [Nat.add_mul (i + 1), Nat.one_mul]
   omega
end Go.Proofs.YtmhgjlapkhdlmaaDoor
set_option linter.unusedVariables false
set_option linter.unusedSimpArgs false
namespace Go.Proofs.YtmhgjlapkhdlmaaDoor
open Go.RowKit Ev
def strK (l : List FHit) (p : P3) (k : Nat) : List Int := ((sts l p).take k).foldl (fun a r => insS r.lo a) []
theorem strK_succ {l : List FHit} {p : P3} {k : Nat} (hk : k < l.length) : strK l p (k + 1) = insS ((hitAt l k).t.lo - dly p (hitAt l k).p) (strK l p k) := by
 unfold strK
 have hs : k < (sts l p).length := by rw [sts_len]; exact hk
 rw [List.take_succ_eq_append_getElem hs, List.foldl_append, List.foldl_cons, List.foldl_nil]
 have e : (sts l p)[k] = stR p (hitAt l k) := by rw [← sts_at hk]; simp [rgAt, List.getD, hs]
 rw [e]; rfl
theorem strK_all (l : List FHit) (p : P3) : strK l p l.length = strS (sts l p) := by
 unfold strK strS
 rw [List.take_of_length_le (by rw [sts_len]; omega)]
theorem strK_len (l : List FHit) (p : P3) (k : Nat) : (strK l p k).length ≤ k := by
 have h := (strS_ok ((sts l p).take k)).2.2
 rw [List.length_take] at h
 unfold strK strS at *
 omega
theorem ins_at {t : Int} : ∀ (L : List Int) (j : Nat), j ≤ L.length → (∀ i, i < j → nth L i < t) → (j < L.length → t ≤ nth L j) → insS t L = if j < L.length ∧ nth L j = t then L else L.take j ++ [t] ++ L.drop j
 | [], j, hj, _, _ => by simp at hj; subst hj; rfl
 | a :: L, 0, _, _, h2 => by
  have h := h2 (by simp)
  have h : t ≤ a := h
  unfold insS
  rw [if_neg (by omega)]
  by_cases e : a = t
  ·rw [if_pos e, if_pos ⟨by simp, e⟩]
  ·rw [if_neg e, if_neg (fun q => e q.2)]; rfl
 | a :: L, j + 1, hj, h1, h2 => by
  have h : a < t := h1 0 (by omega)
  have ih := ins_at (t := t) L j (by simpa using hj) (fun i hi => h1 (i + 1) (by omega)) (fun hl => h2 (by simpa using hl))
  unfold insS
  rw [if_pos h, ih]
  have e1 : (j + 1 < (a :: L).length ∧ nth (a :: L) (j + 1) = t) ↔ (j < L.length ∧ nth L j = t) := by simp [nth]
  by_cases e : j < L.length ∧ nth L j = t
  ·rw [if_pos e, if_pos (e1.2 e)]
  ·rw [if_neg e, if_neg (fun q => e (e1.1 q))]; simp
theorem cur_cell {w : World} {g i m : Nat} {cur : Array Value} {e : TypeId} {xs : List Int} (hg : w.heap[g]? = some (.cells cur e (0, 0))) (htk : cur.toList.take (m * 1) = xs.map (Value.int .i64)) (hx : xs.length = m) (hi : i < m) : w.cell? ⟨g, i, none⟩ = some (.int .i64 (nth xs i)) := by
 rw [cell_of_row w g i cur e (0, 0) hg]
 have e1 : (cur.toList.take (m * 1))[i]? = some (.int .i64 (nth xs i)) := by rw [htk]; exact map_nth (by omega)
 rw [List.getElem?_take] at e1
 split at e1
 ·simpa using e1
 ·cases e1
theorem seg_cells {W : World} {g m : Nat} {cur : Array Value} {e : TypeId} {xs : List Int} (hg : W.heap[g]? = some (.cells cur e (0, 0))) (htk : cur.toList.take (m * 1) = xs.map (Value.int .i64)) (hx : xs.length = m) (off : Nat) (zs : List Int) (hz : ∀ jj, jj < zs.length → off + jj < m ∧ nth zs jj = nth xs (off + jj)) :
  ∀ jj u, (zs.map (Value.int .i64))[jj]? = some u → W.cell? ((⟨g, off, none⟩ : Addr).add jj) = some u := by
 intro jj u hu
 have hjl : jj < zs.length := by
  have := (List.getElem?_eq_some_iff.1 hu).1; simpa using this
 rw [map_nth hjl] at hu
 rw [← Option.some.inj hu, add_plain', cur_cell hg htk hx (hz jj hjl).1, (hz jj hjl).2]
theorem nth_take {xs : List Int} {i jj : Nat} (h : jj < i) : nth (xs.take i) jj = nth xs jj := by simp [nth, List.getD, h]
theorem nth_drop (xs : List Int) (i jj : Nat) : nth (xs.drop i) jj = nth xs (i + jj) := by simp [nth, List.getD]
theorem ints_oneCell' (zs : List Int) : ∀ u ∈ zs.map (Value.int .i64), u.oneCell' = true := by
 intro u hu
 obtain ⟨z, _, rfl⟩ := List.mem_map.1 hu
 rfl
theorem own_relF {w w' : World} {N : Nat → Prop} {base : Nat} {e : TypeId} {v : Value} {L : List Int} (h : w'.ownsRow base e 1 v L.length (L.map (Value.int .i64))) (hb : w.heap.size ≤ base) : RelF w' (resN w N .no) (.sl 1 L.length (intsC L)) v := by
 rcases h.2 with ⟨rfl, h0⟩ | ⟨g, oc, cur, rfl, hbg, hgc, hmc, hcm, hcs, htk⟩
 ·exact ⟨none, 0, by rw [h0], by omega, by unfold maxLen; omega, fun _ => rfl, fun q => by omega⟩
 ·refine ⟨some ⟨g, 0, none⟩, oc, rfl, hmc, hcm, (fun q => by cases q), fun _ => ⟨g, 0, rfl, (Array.getElem?_eq_some_iff.1 hgc).1, Or.inr (by omega), fun i j hi hj => ?_⟩⟩
  have c := cur_cell hgc htk rfl hi
  refine ⟨_, by rw [show 0 + i * 1 + j = i by omega]; exact c, rfl, rfl⟩
theorem own_src {w : World} {base n : Nat} {e : TypeId} {v : Value} {L : List Int} (h : w.ownsRow base e 1 v n (L.map (Value.int .i64))) : ∃ ao c, v = .slice ao n c ∧ ∀ w' : World, (∀ q, q < w.heap.size → w'.heap[q]? = w.heap[q]?) → ((ao = none ∧ n = 0 ∧ c = 0) ∨ ∃ ad, ao = some ad ∧ ∀ j u, (L.map (Value.int .i64))[j]? = some u → w'.cell? (ad.add j) = some u) := by
 have hl : L.length = n := by have := h.1; simpa using this
 rcases h.2 with ⟨rfl, h0⟩ | ⟨g, oc, cur, rfl, hbg, hgc, hmc, hcm, hcs, htk⟩
 ·exact ⟨none, 0, by rw [h0], fun w' _ => Or.inl ⟨rfl, h0, rfl⟩⟩
 ·refine ⟨_, oc, rfl, fun w' hw => Or.inr ⟨_, rfl, ?_⟩⟩
  have hg := (Array.getElem?_eq_some_iff.1 hgc).1
  exact seg_cells ((hw g hg).trans hgc) htk hl 0 L (fun jj hjj => ⟨by omega, by rw [Nat.zero_add]⟩)
theorem new_keep {w w' : World} {cs : Array Value} {e : TypeId} {v' : Value} {n c : Nat} (h : Pushed w.heap.size (w.alloc (.cells cs e)) w' (.slice (some ⟨w.heap.size, 0, none⟩) n c) v') : ∀ q, q < w.heap.size → w'.heap[q]? = w.heap[q]? ∧ some q ≠ v'.ownBlock := by
 intro q hq
 refine ⟨(h.other q (by simp; omega) (by simp [Value.ownBlock]; omega)).trans (Below.heap_alloc w _ q hq), ?_⟩
 rcases h.lies with e | e
 ·rw [e]; simp [Value.ownBlock]; omega
 ·rw [e]; simp; omega
set_option maxRecDepth 100000 in
set_option maxHeartbeats 2000000 in
theorem walk_starts (w : World) (N : Nat → Prop) (hG : Gd w) (l : List FHit) (p0 p1 p2 : Int) (v : Value) (hp : hitsE l = 0 ∧ (⟨p0, p1, p2⟩ : P3).bd 15000) (hv : RelF w N (.sl 7 l.length (hitsC l)) v) :
  Calls Tryd.prog 142 #[v, .agg #[.int .i64 p0, .int .i64 p1, .int .i64 p2]] w fun e w' => ∃ u, e = .returned u ∧ RelD (RelF w' (resN w N .no)) (.t (.c (.sl 1 (strS (sts l ⟨p0, p1, p2⟩)).length (intsC (strS (sts l ⟨p0, p1, p2⟩)))))) u ∧ Below w.heap.size w w' := by
 obtain ⟨hE, hb⟩ := hp
 obtain ⟨⟨z1, z2⟩, z3⟩ := hitsE_ok hE
 obtain ⟨ao, cap, rfl, hcap, hmx, hnil, hcells⟩ := hv
 unfold maxLen at hmx
 have h3 : ∀ k, k < l.length → ∃ b off, ao = some ⟨b, off, none⟩ ∧ b < w.heap.size ∧ w.cell? ⟨b, off + k * 7, none⟩ = some (.int .i64 (hitAt l k).p.x) ∧ w.cell? ⟨b, off + k * 7 + 1, none⟩ = some (.int .i64 (hitAt l k).p.y) ∧ w.cell? ⟨b, off + k * 7 + 2, none⟩ = some (.int .i64 (hitAt l k).p.z) ∧ w.cell? ⟨b, off + k * 7 + 3, none⟩ = some (.int .i64 (hitAt l k).t.lo) := by
  intro k hk
  obtain ⟨b, off, e1, e2, e3, e4⟩ := hcells (by omega)
  have cl : ∀ j, j < 7 → ∀ x, hitsC l k j = .v x → w.cell? ⟨b, off + k * 7 + j, none⟩ = some x := by
   intro j hj x hx
   obtain ⟨y, y1, y2⟩ := e4 k j hk hj
   rw [hx] at y2
   rw [y1, y2.1]
  exact ⟨b, off, e1, e2, cl 0 (by omega) _ rfl, cl 1 (by omega) _ rfl, cl 2 (by omega) _ rfl, cl 3 (by omega) _ rfl⟩
 have HD : Hid (∀ W (h : P3), Below w.heap.size w W → h.bd 15000 → Calls Tryd.prog 21 #[.agg #[.int .i64 p0, .int .i64 p1, .int .i64 p2], .agg #[.int .i64 h.x, .int .i64 h.y, .int .i64 h.z]] W fun e w' => e = .returned (.int .i64 (dly ⟨p0, p1, p2⟩ h)) ∧ Below W.heap.size W w') := by
  refine hid fun W h hW hh => ((ok_ref06_Delay [.t (.a [.v (.int .i64 p0), .v (.int .i64 p1), .v (.int .i64 p2)]), .t (.a [.v (.int .i64 h.x), .v (.int .i64 h.y), .v (.int .i64 h.z)])] _ _ _ rfl ⟨hb, hh⟩).2 W (fun _ => True) _ (hG.below hW) (show All2 (RelD (RelF W (fun _ => True))) _ [.agg #[.int .i64 p0, .int .i64 p1, .int .i64 p2], .agg #[.int .i64 h.x, .int .i64 h.y, .int .i64 h.z]] from ⟨⟨[_, _, _], rfl, ⟨rfl, rfl⟩, ⟨rfl, rfl⟩, ⟨rfl, rfl⟩, trivial⟩, ⟨[_, _, _], rfl, ⟨rfl, rfl⟩, ⟨rfl, rfl⟩, ⟨rfl, rfl⟩, trivial⟩, trivial⟩)).mono ?_
  rintro e w' ⟨x, rfl, hr, hbl⟩
  obtain ⟨rfl, _⟩ := hr
  exact ⟨rfl, hbl⟩
 have HBD : Hid (∀ k, k < l.length → (hitAt l k).err = 0) := hid z3
 have HDR : Hid (∀ h : P3, h.bd 15000 → 0 ≤ dly ⟨p0, p1, p2⟩ h ∧ dly ⟨p0, p1, p2⟩ h ≤ 100000) := hid fun h hh => dly_rg hb hh
 have H3 := hid h3
 clear hcells hG h3 hb hE z3 hnil
 go_enter Tryd.func142, Tryd.ntmps142
 go_wp2_with fail
 obtain ⟨W0, hW0⟩ : ∃ W0, W0 = w.alloc (.cells #[.int .i64 p0, .int .i64 p1, .int .i64 p2] 24) := ⟨_, rfl⟩
 have r0 : W0.cell? ⟨w.heap.size, 0, none⟩ = some (.int .i64 p0) := by rw [hW0]; simp
 have r1 : W0.cell? ⟨w.heap.size, 1, none⟩ = some (.int .i64 p1) := by rw [hW0]; simp
 have r2 : W0.cell? ⟨w.heap.size, 2, none⟩ = some (.int .i64 p2) := by rw [hW0]; simp
 have hk0 : w.heap.size < W0.heap.size := by rw [hW0]; simp
 have hBW : Below w.heap.size w W0 := by rw [hW0]; exact BelowA
 rw [← hW0]
 clear hW0
 go_loopw [5, 6] (fun o i wr => ∃ k : Nat, k ≤ l.length ∧ i = .int .i64 k ∧ wr.ownsRow W0.heap.size 3 1 o (strK l ⟨p0, p1, p2⟩ k).length ((strK l ⟨p0, p1, p2⟩ k).map (Value.int .i64)) ∧ Below W0.heap.size W0 wr) (fun _ i _ => l.length - (intOf i).toNat)
 case atStart => exact ⟨0, Nat.zero_le _, rfl, World.ownsRow_nil _ _ _ _, Below.refl _ _⟩
 case round =>
  obtain ⟨k, hk, rfl, hown, hbel⟩ := hrel
  have hzw := hbel.size
  have hB : Below w.heap.size w wr := hBW.trans (hbel.mono hBW.size)
  by_cases hlt : k < l.length
  ·obtain ⟨b, off, rfl, hb0, c0, c1, c2, c3⟩ := H3.out k hlt
   obtain ⟨hcb, hfb⟩ := bcell hB
   rw [← hcb b _ hb0] at c0 c1 c2 c3
   have hbw : b < wr.heap.size := Nat.lt_of_lt_of_le hb0 hB.size
   obtain ⟨hcb2, hfb2⟩ := bcell hbel
   have t0 := (hcb2 _ 0 hk0).trans r0
   have t1 := (hcb2 _ 1 hk0).trans r1
   have t2 := (hcb2 _ 2 hk0).trans r2
   have hkw : w.heap.size < wr.heap.size := by omega
   obtain ⟨e1, e2, e3⟩ := hit_ok (HBD.out k hlt)
   clear e3
   have HX := hid (e1.mono (B := 15000) (by decide))
   obtain ⟨d1, d2⟩ := HDR.out _ HX.out
   have HST := hid (strK_succ (p := ⟨p0, p1, p2⟩) hlt)
   have hlen := strK_len l ⟨p0, p1, p2⟩ k
   obtain ⟨d, hd⟩ : ∃ d, d = dly ⟨p0, p1, p2⟩ (hitAt l k).p := ⟨_, rfl⟩
   obtain ⟨tl, htl⟩ : ∃ tl, tl = (hitAt l k).t.lo := ⟨_, rfl⟩
   have HD2 : Hid (∀ W, Below w.heap.size w W → Calls Tryd.prog 21 #[.agg #[.int .i64 p0, .int .i64 p1, .int .i64 p2], .agg #[.int .i64 (hitAt l k).p.x, .int .i64 (hitAt l k).p.y, .int .i64 (hitAt l k).p.z]] W fun e w' => e = .returned (.int .i64 d) ∧ Below W.heap.size W w') := hid fun W hW => by rw [hd]; exact HD.out W _ hW HX.out
   rw [← hd, ← htl] at HST
   rw [← hd] at d1 d2
   rw [← htl] at c3 e2
   clear hcb hfb hcb2 hfb2 r0 r1 r2 hd htl e1
   have hw64 : wrap64 (tl - d) = tl - d := IntWalk.wrap64_in _ (by omega)
   have hwi : IntKind.i64.wrap (tl - d) = tl - d := wi (by omega)
   have HW := hid hw64
   clear hw64
   go_wp2_with fail
   refine wp_mixC (fun wc => Below (wr.heap.size) wr wc) 14 [.q [0, 1, 2, 3, 4, 5, 6, 7, 8, 9, 10, 11], .f [12], .q [13]] [.q [14]] (by kernel_rfl) (by kernel_rfl) ((Below.refl _ _).drew) ?_
   intro Q' hQ'
   (rw [wpMixC]; simp only [pick, List.drop_succ_cons, List.drop_zero, List.head?_cons, Option.toList_some, List.cons_append, List.nil_append])
   (repeat (first | go_big_quiet_skip | (go_big_quiet_want; refine quiet_simple rfl ?_; go_big_quiet_op; go_big_quiet_on) | (go_big_quiet_want; refine quiet_cellB (ty := 3) rfl rfl (by kernel_rfl) (by assumption) (by first | omega | (simp; omega)) ?_; simp only [Act.put, List.setIfInBounds_toArray, List.set_cons_succ, List.set_cons_zero]; go_big_quiet_on) | (go_big_quiet_want; refine quiet_agg3B (ty := 24) rfl rfl (by kernel_rfl) (by assumption) (by assumption) (by assumption) (by first | omega | (simp; omega)) ?_; simp only [Act.put, List.setIfInBounds_toArray, List.set_cons_succ, List.set_cons_zero]; go_big_quiet_on)))
   (try refine wpQuiet_nil ?_)
   (rw [wpMixC]; simp only [pick, List.drop_succ_cons, List.drop_zero, List.head?_cons, Option.toList_some, List.cons_append, List.nil_append])
   (rw [wpSteps]; go_wp2_with ((go_at_call 21; refine (HD2.out _ (by exact BelowA)).mono ?_; rintro _ w3 ⟨rfl, hb3⟩)); rw [contF]; refine ⟨?_, ?_⟩; (next => exact BelowA))
   (rw [wpSteps])
   (rw [wpMixC]; simp only [pick, List.drop_succ_cons, List.drop_zero, List.head?_cons, Option.toList_some, List.cons_append, List.nil_append])
   (repeat (first | go_big_quiet_skip | (go_big_quiet_want; refine quiet_simple rfl ?_; go_big_quiet_op; go_big_quiet_on) | (go_big_quiet_want; refine quiet_cellB (ty := 3) rfl rfl (by kernel_rfl) (by assumption) (by first | omega | (simp; omega)) ?_; simp only [Act.put, List.setIfInBounds_toArray, List.set_cons_succ, List.set_cons_zero]; go_big_quiet_on) | (go_big_quiet_want; refine quiet_agg3B (ty := 24) rfl rfl (by kernel_rfl) (by assumption) (by assumption) (by assumption) (by first | omega | (simp; omega)) ?_; simp only [Act.put, List.setIfInBounds_toArray, List.set_cons_succ, List.set_cons_zero]; go_big_quiet_on)))
   (try refine wpQuiet_nil ?_)
   (rw [wpMixC])
   (rw [wpMix]; simp only [pick, List.drop_succ_cons, List.drop_zero, List.head?_cons, Option.toList_some, List.cons_append, List.nil_append])
   (repeat (first | (go_big_quiet_step (fail)) | (quiet_step (fail))))
   (try refine wpQuiet_nil ?_)
   (rw [wpMix])
   (refine hQ' _ _ ?_)
   have hB3 : Below wr.heap.size wr w3 := by exact BelowA
   have hown3 := ownsRow_below hown hB3
   have hz3 : W0.heap.size ≤ w3.heap.size := Nat.le_trans hzw hB3.size
   have hbel3 : Below W0.heap.size W0 w3 := hbel.trans (hB3.mono hzw)
   obtain ⟨L, hL⟩ : ∃ L, L = strK l ⟨p0, p1, p2⟩ k := ⟨_, rfl⟩
   rw [← hL] at hown3 hlen HST
   have HBEL := hid hbel3
   have hL8 : L.length ≤ 8 := by omega
   clear hL c0 c1 c2 c3 hbel hown hb3 hB t0 t1 t2
   rcases hown3.2 with ⟨rfl, h0⟩ | ⟨g, oc, cur, rfl, hbg, hgc, hmc, hcm, hcs, htk⟩
   ·obtain rfl : L = [] := List.eq_nil_of_length_eq_zero h0
    clear hown3 h0
    go_wp2_with fail
    go_loopw [8] (fun a wi => a = .int .i64 0 ∧ wi = w3) (fun _ _ => 0)
    case atStart => exact ⟨rfl, rfl⟩
    case round =>
     obtain ⟨rfl, rfl⟩ := hrel
     have HE := hid (ownsRow_empty wr elemInt)
     go_wp2_with (first | (at_builtin; refine wpList_append_list rfl (.tmp 56) (.tmp 59) _ rfl elemInt wr.heap.size (.slice (some ⟨wr.heap.size, 0, none⟩) 0 0) 0 [] rfl HE.out none 0 0 [] rfl rfl (by simp) (Or.inl ⟨rfl, rfl, rfl⟩) (by omega) (by unfold maxLen; omega) (by simp) ?_; intro v4 w4 hown4 hp4 _; obtain ⟨ao4, c4, rfl, hs4⟩ := own_src (L := []) hown4; have HS4 := hid hs4; have hz4 : wr.heap.size + 1 ≤ w4.heap.size := (by have := hp4.below.size; simpa using this); have hb4 := hp4.below; clear hs4 hp4 hown4) | (at_builtin; refine wpList_append_list rfl (.tmp 61) (.tmp 64) _ rfl elemInt w4.heap.size (.slice (some ⟨w4.heap.size, 0, none⟩) 0 0) 0 [] rfl (ownsRow_empty w4 elemInt) none 0 0 [] rfl rfl (by simp) (Or.inl ⟨rfl, rfl, rfl⟩) (by omega) (by unfold maxLen; omega) (by simp) ?_; intro v5 w5 hown5 hp5 _; have hk5 := hid (new_keep hp5); have hb5 := hp5.below; clear hp5) | (at_builtin; refine wpList_push rfl _ _ _ rfl elemInt w4.heap.size _ 0 _ rfl w5 hown5 [.int .i64 (tl - d)] rfl (by simp [Value.oneCell']) rfl _ rfl rfl (by omega) (by unfold maxLen; omega) (Nat.le_trans (by simp) hb5.size) ?_; intro v6 w6 hown6 hb6 hoth6 _; have hk6 := hid (fun q hq => (hoth6 q (Nat.lt_of_lt_of_le hq (Nat.le_trans (by simp) hb5.size)) (hk5.out q hq).2).trans (hk5.out q hq).1); clear hoth6 hown5) | (at_builtin; refine wpList_append_list rfl (.tmp 69) (.tmp 70) _ rfl elemInt w4.heap.size v6 1 _ rfl hown6 ao4 0 c4 [] rfl rfl (by simp) (HS4.out w6 hk6.out) (by omega) (by unfold maxLen; omega) (Nat.le_trans (by have := hb5.size; simp at this; omega) hb6.size) ?_; intro v7 w7 hown7 hp7 _; have hb7 := hp7.below; clear hp7 hown6))
     go_roundw
     case rel =>
      have q1 : Below wr.heap.size wr w4 := ((Below.refl _ _).alloc (Nat.le_refl _) _).trans hb4
      have q2 : Below w4.heap.size w4 w7 := ((((Below.refl _ _).alloc (Nat.le_refl _) _).trans hb5).trans hb6).trans hb7
      refine ⟨k + 1, by omega, by go_num, ?_, HBEL.out.trans ((q1.trans (q2.mono (by omega))).mono hz3)⟩
      have h7 := ownsRow_base hown7 (show W0.heap.size ≤ w4.heap.size by omega)
      rw [HST.out]
      exact h7
     case measure => simp [intOf]; omega
   ·unfold maxLen at hcm
    have hgw3 : g < w3.heap.size := (Array.getElem?_eq_some_iff.1 hgc).1
    have HGC := hid hgc
    have HTK := hid htk
    have HOWN := hid hown3
    clear hgc htk hcs hown3
    go_wp2_with fail
    go_loopw [8] (fun a wi => ∃ j : Nat, j ≤ L.length ∧ a = .int .i64 j ∧ wi = w3 ∧ Hid (∀ i, i < j → nth L i < tl - d)) (fun a _ => L.length - (intOf a).toNat)
    case atStart => exact ⟨0, Nat.zero_le _, rfl, rfl, hid fun i hi => by omega⟩
    case round =>
     obtain ⟨j, hj, rfl, rfl, HL⟩ := hrel
     by_cases hjl : j < L.length
     ·have cj := cur_cell HGC.out HTK.out rfl hjl
      by_cases hlt2 : nth L j < tl - d
      ·go_wp2_with fail
       go_roundw
       case rel => exact ⟨j + 1, by omega, by go_num, by trivial, hid fun i hi => by
        by_cases e : i = j
        ·rw [e]; exact hlt2
        ·exact HL.out i (by omega)⟩
       case measure => simp [intOf]; omega
      ·have HI := hid (ins_at L j hj HL.out (fun _ => by omega))
       by_cases heq : nth L j = tl - d
       ·go_wp2_with fail
        go_roundw
        case rel => exact ⟨k + 1, by omega, by go_num, by rw [HST.out, HI.out, if_pos ⟨hjl, heq⟩]; exact HOWN.out, HBEL.out⟩
        case measure => simp [intOf]; omega
       ·have HI2 := hid (HI.out.trans (if_neg (fun q => heq q.2)))
        clear HI
        have hj0 : (0 : Int) ≤ (j : Int) := Int.natCast_nonneg _
        have hj1 : (j : Int) ≤ (L.length : Int) := by omega
        have hj2 : (L.length : Int) ≤ (oc : Int) := by omega
        have hj3 : (j : Int) ≤ (oc : Int) := by omega
        have hgA : (wr.alloc (.cells #[] 3)).heap[g]? = some (.cells cur 3 (0, 0)) := (Below.heap_alloc wr _ g hgw3).trans HGC.out
        have hnA := seg_cells hgA HTK.out rfl j (L.drop j) (fun jj hjj => ⟨by rw [List.length_drop] at hjj; omega, nth_drop _ _ _⟩)
        have hlA : ((L.drop j).map (Value.int .i64)).length = (L.length - j) * 1 := by simp
        have hlB : ((L.take j).map (Value.int .i64)).length = j * 1 := by simp; omega
        have HE := hid (ownsRow_empty wr elemInt)
        have HLA := hid hlA
        have HLB := hid hlB
        have HNA := hid hnA
        have HGA := hid hgA
        clear hgA hnA hlA hlB
        go_wp2_with (first | (at_builtin; refine wpList_append_list rfl (.tmp 56) (.tmp 59) _ rfl elemInt wr.heap.size (.slice (some ⟨wr.heap.size, 0, none⟩) 0 0) 0 [] rfl HE.out _ (L.length - j) _ ((L.drop j).map (Value.int .i64)) rfl HLA.out (ints_oneCell' _) (Or.inr ⟨_, rfl, by first | exact HNA.out | exact fun jj u hu => absurd (List.getElem?_eq_some_iff.1 hu).1 (by have := HLA.out; omega)⟩) (by omega) (by unfold maxLen; omega) (by simp) ?_; intro v4 w4 hown4 hp4 _; rw [Nat.zero_add, List.nil_append] at hown4; obtain ⟨ao4, c4, rfl, hs4⟩ := own_src hown4; have HS4 := hid hs4; have hz4 : wr.heap.size + 1 ≤ w4.heap.size := (by have := hp4.below.size; simpa using this); have hgn : some g ≠ (Value.slice (some ⟨wr.heap.size, 0, none⟩) 0 0).ownBlock := (by simp [Value.ownBlock]; omega); have hg4 := hid ((hp4.other g (by simp; omega) hgn).trans HGA.out); have hb4 := hp4.below; clear hs4 hp4 hown4 hgn) | (at_builtin; refine wpList_append_list rfl (.tmp 61) (.tmp 64) _ rfl elemInt w4.heap.size (.slice (some ⟨w4.heap.size, 0, none⟩) 0 0) 0 [] rfl (ownsRow_empty w4 elemInt) _ j _ ((L.take j).map (Value.int .i64)) rfl HLB.out (ints_oneCell' _) (Or.inr ⟨_, rfl, seg_cells ((Below.heap_alloc w4 _ g (by omega)).trans hg4.out) HTK.out rfl 0 (L.take j) (fun jj hjj => (by have h1 : jj < j := (by rw [List.length_take] at hjj; omega); exact ⟨by omega, by rw [nth_take h1, Nat.zero_add]⟩))⟩) (by omega) (by unfold maxLen; omega) (by simp) ?_; intro v5 w5 hown5 hp5 _; have hk5 := hid (new_keep hp5); have hb5 := hp5.below; clear hp5) | (at_builtin; refine wpList_push rfl _ _ _ rfl elemInt w4.heap.size _ (0 + j) _ rfl w5 hown5 [.int .i64 (tl - d)] rfl (by simp [Value.oneCell']) rfl _ rfl rfl (by omega) (by unfold maxLen; omega) (Nat.le_trans (by simp) hb5.size) ?_; intro v6 w6 hown6 hb6 hoth6 _; have hk6 := hid (fun q hq => (hoth6 q (Nat.lt_of_lt_of_le hq (Nat.le_trans (by simp) hb5.size)) (hk5.out q hq).2).trans (hk5.out q hq).1); clear hoth6 hown5) | (at_builtin; refine wpList_append_list rfl (.tmp 69) (.tmp 70) _ rfl elemInt w4.heap.size v6 (0 + j + 1) _ rfl hown6 ao4 (L.length - j) c4 ((L.drop j).map (Value.int .i64)) rfl (by have := HLA.out; omega) (ints_oneCell' _) (HS4.out w6 hk6.out) (by omega) (by unfold maxLen; omega) (Nat.le_trans (by have := hb5.size; simp at this; omega) hb6.size) ?_; intro v7 w7 hown7 hp7 _; have hb7 := hp7.below; clear hp7 hown6))
        go_roundw
        case rel =>
         have q1 : Below wr.heap.size wr w4 := ((Below.refl _ _).alloc (Nat.le_refl _) _).trans hb4
         have q2 : Below w4.heap.size w4 w7 := ((((Below.refl _ _).alloc (Nat.le_refl _) _).trans hb5).trans hb6).trans hb7
         refine ⟨k + 1, by omega, by go_num, ?_, HBEL.out.trans ((q1.trans (q2.mono (by omega))).mono hz3)⟩
         have h7 := ownsRow_base hown7 (show W0.heap.size ≤ w4.heap.size by omega)
         rw [HST.out, HI2.out]
         have e : (L.take j ++ [tl - d] ++ L.drop j).length = 0 + j + 1 + (L.length - j) := by simp; omega
         rw [e]
         simpa using h7
        case measure => simp [intOf]; omega
     ·skip
      have hjL : j = L.length := by omega
      have HI2 := hid ((ins_at L j hj HL.out (fun q => absurd q hjl)).trans (if_neg (fun q => hjl q.1)))
      have HJ := hid hjL
      clear hjL
      have hj0 : (0 : Int) ≤ (j : Int) := Int.natCast_nonneg _
      have hj1 : (j : Int) ≤ (L.length : Int) := by omega
      have hj2 : (L.length : Int) ≤ (oc : Int) := by omega
      have hj3 : (j : Int) ≤ (oc : Int) := by omega
      have hgA : (wr.alloc (.cells #[] 3)).heap[g]? = some (.cells cur 3 (0, 0)) := (Below.heap_alloc wr _ g hgw3).trans HGC.out
      have hnA := seg_cells hgA HTK.out rfl j (L.drop j) (fun jj hjj => ⟨by rw [List.length_drop] at hjj; omega, nth_drop _ _ _⟩)
      have hlA : ((L.drop j).map (Value.int .i64)).length = (L.length - j) * 1 := by simp
      have hlB : ((L.take j).map (Value.int .i64)).length = j * 1 := by simp; omega
      have HE := hid (ownsRow_empty wr elemInt)
      have HLA := hid hlA
      have HLB := hid hlB
      have HNA := hid hnA
      have HGA := hid hgA
      clear hgA hnA hlA hlB
      rcases Nat.lt_or_ge j oc with hcase | hcase
      all_goals
       go_wp2_with (first | (at_builtin; refine wpList_append_list rfl (.tmp 56) (.tmp 59) _ rfl elemInt wr.heap.size (.slice (some ⟨wr.heap.size, 0, none⟩) 0 0) 0 [] rfl HE.out _ (L.length - j) _ ((L.drop j).map (Value.int .i64)) rfl HLA.out (ints_oneCell' _) (Or.inr ⟨_, rfl, by first | exact HNA.out | exact fun jj u hu => absurd (List.getElem?_eq_some_iff.1 hu).1 (by have := HLA.out; omega)⟩) (by omega) (by unfold maxLen; omega) (by simp) ?_; intro v4 w4 hown4 hp4 _; rw [Nat.zero_add, List.nil_append] at hown4; obtain ⟨ao4, c4, rfl, hs4⟩ := own_src hown4; have HS4 := hid hs4; have hz4 : wr.heap.size + 1 ≤ w4.heap.size := (by have := hp4.below.size; simpa using this); have hgn : some g ≠ (Value.slice (some ⟨wr.heap.size, 0, none⟩) 0 0).ownBlock := (by simp [Value.ownBlock]; omega); have hg4 := hid ((hp4.other g (by simp; omega) hgn).trans HGA.out); have hb4 := hp4.below; clear hs4 hp4 hown4 hgn) | (at_builtin; refine wpList_append_list rfl (.tmp 61) (.tmp 64) _ rfl elemInt w4.heap.size (.slice (some ⟨w4.heap.size, 0, none⟩) 0 0) 0 [] rfl (ownsRow_empty w4 elemInt) _ j _ ((L.take j).map (Value.int .i64)) rfl HLB.out (ints_oneCell' _) (Or.inr ⟨_, rfl, seg_cells ((Below.heap_alloc w4 _ g (by omega)).trans hg4.out) HTK.out rfl 0 (L.take j) (fun jj hjj => (by have h1 : jj < j := (by rw [List.length_take] at hjj; omega); exact ⟨by omega, by rw [nth_take h1, Nat.zero_add]⟩))⟩) (by omega) (by unfold maxLen; omega) (by simp) ?_; intro v5 w5 hown5 hp5 _; have hk5 := hid (new_keep hp5); have hb5 := hp5.below; clear hp5) | (at_builtin; refine wpList_push rfl _ _ _ rfl elemInt w4.heap.size _ (0 + j) _ rfl w5 hown5 [.int .i64 (tl - d)] rfl (by simp [Value.oneCell']) rfl _ rfl rfl (by omega) (by unfold maxLen; omega) (Nat.le_trans (by simp) hb5.size) ?_; intro v6 w6 hown6 hb6 hoth6 _; have hk6 := hid (fun q hq => (hoth6 q (Nat.lt_of_lt_of_le hq (Nat.le_trans (by simp) hb5.size)) (hk5.out q hq).2).trans (hk5.out q hq).1); clear hoth6 hown5) | (at_builtin; refine wpList_append_list rfl (.tmp 69) (.tmp 70) _ rfl elemInt w4.heap.size v6 (0 + j + 1) _ rfl hown6 ao4 (L.length - j) c4 ((L.drop j).map (Value.int .i64)) rfl (by have := HLA.out; omega) (ints_oneCell' _) (HS4.out w6 hk6.out) (by omega) (by unfold maxLen; omega) (Nat.le_trans (by have := hb5.size; simp at this; omega) hb6.size) ?_; intro v7 w7 hown7 hp7 _; have hb7 := hp7.below; clear hp7 hown6))
       go_roundw
       case rel =>
        have q1 : Below wr.heap.size wr w4 := ((Below.refl _ _).alloc (Nat.le_refl _) _).trans hb4
        have q2 : Below w4.heap.size w4 w7 := ((((Below.refl _ _).alloc (Nat.le_refl _) _).trans hb5).trans hb6).trans hb7
        refine ⟨k + 1, by omega, by go_num, ?_, HBEL.out.trans ((q1.trans (q2.mono (by omega))).mono hz3)⟩
        have h7 := ownsRow_base hown7 (show W0.heap.size ≤ w4.heap.size by omega)
        rw [HST.out, HI2.out]
        have e : (L.take j ++ [tl - d] ++ L.drop j).length = 0 + j + 1 + (L.length - j) := by simp; omega
        rw [e]
        simpa using h7
       case measure => simp [intOf]; omega
  ·have hkl : k = l.length := by omega
   go_wp2_with fail
   go_ret
   subst hkl
   rw [strK_all] at hown
   exact ⟨_, rfl, own_relF hown (Nat.le_of_lt hk0), hB⟩
end Go.Proofs.YtmhgjlapkhdlmaaDoor