/- Texts of this claim, together. -/
import Derived.Test.YtmhgjlapkhdlmaaDoorFW9

set_option linter.unusedVariables false
set_option linter.unusedSimpArgs false
namespace Go.Proofs.YtmhgjlapkhdlmaaDoor
open Go.RowKit Ev
def rowOk (s : List Int) (r : List Rg) : Prop := (∀ i ∈ s, 0 ≤ i ∧ i < r.length) ∧ 0 < s.length ∧ s.length ≤ 1000
def exOk (sp : List (List Rg)) (s : List Int) : Prop := (∀ a ∈ sp, ∀ i ∈ s, 0 ≤ i ∧ i < a.length) ∧ s.length ≤ 1000 ∧ sp.length ≤ 1000
def cnOk (q : Int) (sp : List (List Rg)) : Prop := (1 ≤ q ∧ q ≤ 8) ∧ sp.length ≤ 1000 ∧ ∀ a ∈ sp, (a.length : Int) = q
theorem cnOk_ex {q : Int} {sp : List (List Rg)} {k : Nat} (h : cnOk q sp) (hk : k < 2 ^ q.toNat) : exOk sp (membs 8 k) := by
 obtain ⟨h1, h2, h3⟩ := h
 refine ⟨fun a ha i hi => ?_, ?_, h2⟩
 ·rw [← membs_n (n := q.toNat) (by omega) hk] at hi
  have := mem_membs hi
  have := h3 a ha
  omega
 ·have := membs_lt 8 k; omega
theorem cnOk_opn {l : List FHit} {x : Lat} (h : bothE l x = 0) : cnOk (l.length : Nat) (opnS l x) := by
 obtain ⟨h1, h2⟩ := fn2 (show firstNZ [hitsE l, latE x] = 0 from h)
 obtain ⟨⟨z1, z2⟩, z3⟩ := hitsE_ok h1
 have hz := sz_rg h2
 refine ⟨by omega, by rw [opnS_all h, allS_len]; omega, fun a ha => ?_⟩
 rw [opnS_all h] at ha
 obtain ⟨p, hp, rfl⟩ := List.mem_map.1 ha
 rw [sts_len]
noncomputable def Sy124 : Sum := Sx123
theorem VSy124 : Valid Tryd.prog Sy124 := VSx123
noncomputable def Sy125 : Sum := Sy124
theorem VSy125 : Valid Tryd.prog Sy125 := VSy124
def mk_cherenkov_flash_search_explained_1_0 (a : List Rg) (v : List Int) (v0_0 : List (List CV)) (v0_1 : Int) : DS := ⟨[some (.t (.c (.sl 2 a.length (rgsC a)))), none, none, none, some (.t (.c (.os 4))), none, none, none, some (.t (.c (.sl 1 v.length (intsC v)))), some (.t (.c (.v (.int .i64 ((v.length : Nat) : Int))))), some (.t (.c (.v (.int .i64 v0_1)))), none, none, none, none, none, none, none, none, none, none, none, none, none, none, none, none, none, none], [none, none, none, none, some (.gen 94 2 v0_0), none, none, none, none, none, none, none, none, none, none, none, none, none, none, none, none, none, none, none, none, none, none, none, none]⟩
def vc_cherenkov_flash_search_explained_1 (J : Inv) (a : List Rg) (v : List Int) (post : DV → Prop) : Prop := ∃ n, J 0 (n :: []) (mk_cherenkov_flash_search_explained_1_0 a v ([]) 0)
def ann_cherenkov_flash_search_explained_1 : Ann := ⟨fun _ => none, fun b => lookA b [(0, (none, some ⟨[0, 8, 9, 10], [], [(4, .gen 94 2 [])]⟩))], fun _ => [], I1, false, fun _ => none, fun _ => none⟩
theorem ev_cherenkov_flash_search_explained_1 (J : Inv) (a : List Rg) (v : List Int) (post : DV → Prop) : evFn Tryd.prog tab Sy125 ann_cherenkov_flash_search_explained_1 J Tryd.f154 [.t (.c (.sl 2 a.length (rgsC a))), .t (.c (.px 1 0 (boxC [.sl 1 v.length (intsC v)])))] post = vc_cherenkov_flash_search_explained_1 J a v post := by kernel_rfl
theorem fit_cherenkov_flash_search_explained_1 : okFn ann_cherenkov_flash_search_explained_1 Tryd.f154 = true := by kernel_rfl
def rd_cherenkov_flash_search_explained_1_0 (J : Inv) (a : List Rg) (v : List Int) (v0_0 : List (List CV)) (v0_1 : Int) (nn0 : Nat) (post : DV → Prop) : Prop := cond (decide (v0_1 < ((v.length : Nat) : Int))) ((0 ≤ v0_1 ∧ v0_1 < ((v.length : Nat) : Int)) ∧ ((0 ≤ (v.getD v0_1.toNat 0) ∧ (v.getD v0_1.toNat 0) < ((a.length : Nat) : Int)) ∧ ((roomP 16 (v0_0.length + ([[.v (.int .i64 ((rgAt a ((v.getD v0_1.toNat 0).toNat)).lo)), .v (.int .i64 ((rgAt a ((v.getD v0_1.toNat 0).toNat)).hi))]] : List (List CV)).length)) ∧ (lt (IntKind.i64.wrap (v0_1 + (1 : Int))) fun x1 => J 0 (nn0 :: []) (mk_cherenkov_flash_search_explained_1_0 a v (v0_0 ++ ([[.v (.int .i64 ((rgAt a ((v.getD v0_1.toNat 0).toNat)).lo)), .v (.int .i64 ((rgAt a ((v.getD v0_1.toNat 0).toNat)).hi))]] : List (List CV))) x1))))) ((numsP 2 v0_0.length (genC v0_0) ∧ 0 < ((listC v0_0.length mkRg (genC v0_0))).length ∧ ((listC v0_0.length mkRg (genC v0_0))).length ≤ 1000000) ∧ (post (.t (.c (.v (.bool (decide (((comm (listC v0_0.length mkRg (genC v0_0))).lo) ≤ ((comm (listC v0_0.length mkRg (genC v0_0))).hi)))))))))
theorem er_cherenkov_flash_search_explained_1_0 (J : Inv) (a : List Rg) (v : List Int) (v0_0 : List (List CV)) (v0_1 : Int) (nn0 : Nat) (post : DV → Prop) : round Tryd.prog tab Sy125 ann_cherenkov_flash_search_explained_1 J Tryd.f154 post 0 (nn0 :: []) (mk_cherenkov_flash_search_explained_1_0 a v v0_0 v0_1) = rd_cherenkov_flash_search_explained_1_0 J a v v0_0 v0_1 nn0 post := by kernel_rfl
theorem lp_cherenkov_flash_search_explained_1 (J : Inv) (post : DV → Prop) : AllG J (loopsFn Tryd.prog tab Sy125 ann_cherenkov_flash_search_explained_1 J Tryd.f154 post) = (((∀ F s, ¬ J 0 (0 :: F) s) ∧ ∀ n F s, J 0 ((n + 1) :: F) s → round Tryd.prog tab Sy125 ann_cherenkov_flash_search_explained_1 J Tryd.f154 post 0 (n :: F) s) ∧ True) := by kernel_rfl
def J_cherenkov_flash_search_explained_1 (a : List Rg) (v : List Int) : Inv := fun b F s => match b, F with
 | 0, [nn0] => ∃ (v0_0 : List (List CV)) (v0_1 : Int), s = mk_cherenkov_flash_search_explained_1_0 a v v0_0 v0_1 ∧ (rowOk v a ∧ 0 ≤ v0_1 ∧ v0_1 ≤ v.length ∧ (nn0 : Int) + v0_1 = v.length + 1 ∧ v0_0 = (subR a (v.take v0_1.toNat)).map rgCv)
 | _, _ => False
theorem rnd_cherenkov_flash_search_explained_1_0 (a : List Rg) (v : List Int) (v0_0 : List (List CV)) (v0_1 : Int) (nn0 : Nat) (hp : rowOk v a) (hi : rowOk v a ∧ 0 ≤ v0_1 ∧ v0_1 ≤ v.length ∧ ((nn0 + 1) : Int) + v0_1 = v.length + 1 ∧ v0_0 = (subR a (v.take v0_1.toNat)).map rgCv) : rd_cherenkov_flash_search_explained_1_0 (J_cherenkov_flash_search_explained_1 a v) a v v0_0 v0_1 nn0 (fun r => LeD r (.t (.c (.v (.bool (rowB v a)))))) := by
 obtain ⟨⟨q1, q2, q3⟩, i1, i2, i3, i4⟩ := hi
 obtain ⟨k, rfl⟩ : ∃ k : Nat, v0_1 = k := ⟨v0_1.toNat, by omega⟩
 have hk : (k : Int).toNat = k := rfl
 rw [hk] at i4
 unfold rd_cherenkov_flash_search_explained_1_0
 rw [hk]
 refine cond_i (fun h => ?_) (fun h => ?_)
 ·have hlt : k < v.length := by have := of_decide_eq_true h; omega
  have hx := q1 _ (getD_mem hlt)
  refine ⟨by omega, by omega, ?_, lt_i fun x hx => ?_⟩
  ·rw [i4]; unfold roomP maxLen subR; simp; omega
  ·rw [wi (by omega)] at hx
   subst hx
   refine ⟨_, _, rfl, ⟨q1, q2, q3⟩, by omega, by omega, by omega, ?_⟩
   rw [show ((k : Int) + 1).toNat = k + 1 by omega, take_getD (0 : Int) hlt, i4]
   unfold subR
   rw [List.map_append, List.map_append]; rfl
 ·have hge : k = v.length := by have := of_decide_eq_false h; omega
  rw [hge, List.take_length] at i4
  subst i4
  simp only [rgg_listC]
  have e : (subR a v).length = v.length := by unfold subR; rw [List.length_map]
  exact ⟨⟨numsP_rgg _, by omega, by omega⟩, LeD.refl _⟩
theorem zero_cherenkov_flash_search_explained_1_0 (a : List Rg) (v : List Int) (v0_0 : List (List CV)) (v0_1 : Int)  (hi : rowOk v a ∧ 0 ≤ v0_1 ∧ v0_1 ≤ v.length ∧ (0 : Int) + v0_1 = v.length + 1 ∧ v0_0 = (subR a (v.take v0_1.toNat)).map rgCv) : False := by
 omega
theorem spec_cherenkov_flash_search_explained_1 (a : List Rg) (v : List Int) (hp : rowOk v a) : vc_cherenkov_flash_search_explained_1 (J_cherenkov_flash_search_explained_1 a v) a v (fun r => LeD r (.t (.c (.v (.bool (rowB v a)))))) := by
 unfold vc_cherenkov_flash_search_explained_1
 exact ⟨v.length + 1, [], 0, rfl, hp, by omega, by omega, by omega, rfl⟩
theorem all_cherenkov_flash_search_explained_1 (a : List Rg) (v : List Int) (hp : rowOk v a) : AllG (J_cherenkov_flash_search_explained_1 a v) (loopsFn Tryd.prog tab Sy125 ann_cherenkov_flash_search_explained_1 (J_cherenkov_flash_search_explained_1 a v) Tryd.f154 (fun r => LeD r (.t (.c (.v (.bool (rowB v a))))))) := by
 rw [lp_cherenkov_flash_search_explained_1]
 refine ⟨⟨?_, ?_⟩, trivial⟩
 ·intro F s h
  obtain _ | ⟨g, F⟩ := F
  case cons => exact h.elim
  obtain ⟨w0, w1, rfl, hi⟩ := h
  exact zero_cherenkov_flash_search_explained_1_0 a v w0 w1 hi
 ·intro n F s h
  obtain _ | ⟨g, F⟩ := F
  case cons => exact h.elim
  obtain ⟨w0, w1, rfl, hi⟩ := h
  rw [er_cherenkov_flash_search_explained_1_0]
  exact rnd_cherenkov_flash_search_explained_1_0 a v _ _ _ hp hi
def con_cherenkov_flash_search_explained_1 : Con := fun args => match args with
 | [.t (.c (.sl 2 n_a c_a)), .t (.c (.px 1 0 c_pm))] => some (.t (.c (.v (.bool (rowB (listC (cvLen (c_pm 0)) mkInt (cvCells (c_pm 0))) (listC n_a mkRg c_a))))), some (numsP 2 n_a c_a ∧ intsB [] c_pm = true ∧ slP 1 (c_pm 0) ∧ numsP 1 (cvLen (c_pm 0)) (cvCells (c_pm 0)) ∧ rowOk (listC (cvLen (c_pm 0)) mkInt (cvCells (c_pm 0))) (listC n_a mkRg c_a)), false)
 | _ => none
theorem ok_cherenkov_flash_search_explained_1 : Ok Tryd.prog 154 con_cherenkov_flash_search_explained_1 := by
 refine Ok.fn (ann := ann_cherenkov_flash_search_explained_1) mixed tabOK VSy125 VI1 (fn := Tryd.f154) (by kernel_rfl) (by kernel_rfl) fit_cherenkov_flash_search_explained_1 fun args r pre fresh h hp => ?_
 unfold con_cherenkov_flash_search_explained_1 at h
 split at h
 ·rename_i n_a c_a c_pm
  cases h
  obtain ⟨hp0, hp1, hp2, hp3, hp⟩ := hp
  refine ⟨rfl, J_cherenkov_flash_search_explained_1 (listC n_a mkRg c_a) (listC (cvLen (c_pm 0)) mkInt (cvCells (c_pm 0))), [.t (.c (.sl 2 ((listC n_a mkRg c_a).length) (rgsC (listC n_a mkRg c_a)))), .t (.c (.px 1 0 (boxC [.sl 1 ((listC (cvLen (c_pm 0)) mkInt (cvCells (c_pm 0))).length) (intsC (listC (cvLen (c_pm 0)) mkInt (cvCells (c_pm 0))))])))], ?_, Nat.le_of_ble_eq_true (by kernel_rfl), ?_, ?_⟩
  ·exact (LeA_cons (leT_c ((leL_Rg hp0))) (LeA_cons (leT_c (leC_p (LeCs.cons (leC_s hp2 (leL_int hp3)) LeCs.nil))) LeA_nil))
  ·rw [ev_cherenkov_flash_search_explained_1]; exact spec_cherenkov_flash_search_explained_1 (listC n_a mkRg c_a) (listC (cvLen (c_pm 0)) mkInt (cvCells (c_pm 0))) hp
  ·exact all_cherenkov_flash_search_explained_1 (listC n_a mkRg c_a) (listC (cvLen (c_pm 0)) mkInt (cvCells (c_pm 0))) hp
 ·cases h
noncomputable def Sy126 : Sum := addS Sy125 154 con_cherenkov_flash_search_explained_1
theorem VSy126 : Valid Tryd.prog Sy126 := Valid.add VSy125 ok_cherenkov_flash_search_explained_1
def mk_slices_IndexFunc_cherenkov_api_Range_cherenkov_api_Range_0 (sp : List (List Rg)) (v : List Int) (v0_0 : Int) : DS := ⟨[some (.t (.c (.sl 1 sp.length (rlsC sp)))), some (.t (.fn 154 [.px 1 0 (boxC [.sl 1 v.length (intsC v)])])), none, none, none, none, none, some (.t (.c (.v (.int .i64 ((sp.length : Nat) : Int))))), some (.t (.c (.v (.int .i64 v0_0)))), none, none, none, none, none, none, none, none, none, none], [none, none, none, none, none, none, none, none, none, none, none, none, none, none, none, none, none, none, none]⟩
def vc_slices_IndexFunc_cherenkov_api_Range_cherenkov_api_Range (J : Inv) (sp : List (List Rg)) (v : List Int) (post : DV → Prop) : Prop := ∃ n, J 0 (n :: []) (mk_slices_IndexFunc_cherenkov_api_Range_cherenkov_api_Range_0 sp v 0)
def ann_slices_IndexFunc_cherenkov_api_Range_cherenkov_api_Range : Ann := ⟨fun _ => none, fun b => lookA b [(0, (none, some ⟨[0, 1, 7, 8], [], []⟩))], fun _ => [], I1, false, fun _ => none, fun _ => none⟩
theorem ev_slices_IndexFunc_cherenkov_api_Range_cherenkov_api_Range (J : Inv) (sp : List (List Rg)) (v : List Int) (post : DV → Prop) : evFn Tryd.prog tab Sy126 ann_slices_IndexFunc_cherenkov_api_Range_cherenkov_api_Range J Tryd.f160 [.t (.c (.sl 1 sp.length (rlsC sp))), .t (.fn 154 [.px 1 0 (boxC [.sl 1 v.length (intsC v)])])] post = vc_slices_IndexFunc_cherenkov_api_Range_cherenkov_api_Range J sp v post := by kernel_rfl
theorem fit_slices_IndexFunc_cherenkov_api_Range_cherenkov_api_Range : okFn ann_slices_IndexFunc_cherenkov_api_Range_cherenkov_api_Range Tryd.f160 = true := by kernel_rfl
def rd_slices_IndexFunc_cherenkov_api_Range_cherenkov_api_Range_0 (J : Inv) (sp : List (List Rg)) (v : List Int) (v0_0 : Int) (nn0 : Nat) (post : DV → Prop) : Prop := cond (decide (v0_0 < ((sp.length : Nat) : Int))) ((0 ≤ v0_0 ∧ v0_0 < ((sp.length : Nat) : Int)) ∧ ((numsP 2 ((rlAt sp v0_0.toNat).length) (rgsC (rlAt sp v0_0.toNat)) ∧ intsB [] (boxC [.sl 1 v.length (intsC v)]) = true ∧ slP 1 ((boxC [.sl 1 v.length (intsC v)]) 0) ∧ numsP 1 v.length (intsC v) ∧ rowOk (listC v.length mkInt (intsC v)) (listC ((rlAt sp v0_0.toNat).length) mkRg (rgsC (rlAt sp v0_0.toNat)))) ∧ (cond (rowB (listC v.length mkInt (intsC v)) (listC ((rlAt sp v0_0.toNat).length) mkRg (rgsC (rlAt sp v0_0.toNat)))) (post (.t (.c (.v (.int .i64 v0_0))))) (lt (IntKind.i64.wrap (v0_0 + (1 : Int))) fun x1 => J 0 (nn0 :: []) (mk_slices_IndexFunc_cherenkov_api_Range_cherenkov_api_Range_0 sp v x1))))) (post (.t (.c (.v (.int .i64 (-1))))))
theorem er_slices_IndexFunc_cherenkov_api_Range_cherenkov_api_Range_0 (J : Inv) (sp : List (List Rg)) (v : List Int) (v0_0 : Int) (nn0 : Nat) (post : DV → Prop) : round Tryd.prog tab Sy126 ann_slices_IndexFunc_cherenkov_api_Range_cherenkov_api_Range J Tryd.f160 post 0 (nn0 :: []) (mk_slices_IndexFunc_cherenkov_api_Range_cherenkov_api_Range_0 sp v v0_0) = rd_slices_IndexFunc_cherenkov_api_Range_cherenkov_api_Range_0 J sp v v0_0 nn0 post := by kernel_rfl
theorem lp_slices_IndexFunc_cherenkov_api_Range_cherenkov_api_Range (J : Inv) (post : DV → Prop) : AllG J (loopsFn Tryd.prog tab Sy126 ann_slices_IndexFunc_cherenkov_api_Range_cherenkov_api_Range J Tryd.f160 post) = (((∀ F s, ¬ J 0 (0 :: F) s) ∧ ∀ n F s, J 0 ((n + 1) :: F) s → round Tryd.prog tab Sy126 ann_slices_IndexFunc_cherenkov_api_Range_cherenkov_api_Range J Tryd.f160 post 0 (n :: F) s) ∧ True) := by kernel_rfl
def J_slices_IndexFunc_cherenkov_api_Range_cherenkov_api_Range (sp : List (List Rg)) (v : List Int) : Inv := fun b F s => match b, F with
 | 0, [nn0] => ∃ (v0_0 : Int), s = mk_slices_IndexFunc_cherenkov_api_Range_cherenkov_api_Range_0 sp v v0_0 ∧ (sp.length ≤ 1000000 ∧ 0 ≤ v0_0 ∧ v0_0 ≤ sp.length ∧ (nn0 : Int) + v0_0 = sp.length + 1 ∧ ∀ k : Nat, (k : Int) < v0_0 → rowB v (rlAt sp k) = false)
 | _, _ => False
theorem rnd_slices_IndexFunc_cherenkov_api_Range_cherenkov_api_Range_0 (sp : List (List Rg)) (v : List Int) (v0_0 : Int) (nn0 : Nat) (hp : exOk sp v ∧ 0 < (v).length) (hi : sp.length ≤ 1000000 ∧ 0 ≤ v0_0 ∧ v0_0 ≤ sp.length ∧ ((nn0 + 1) : Int) + v0_0 = sp.length + 1 ∧ ∀ k : Nat, (k : Int) < v0_0 → rowB v (rlAt sp k) = false) : rd_slices_IndexFunc_cherenkov_api_Range_cherenkov_api_Range_0 (J_slices_IndexFunc_cherenkov_api_Range_cherenkov_api_Range sp v) sp v v0_0 nn0 (fun r => LeD r (.t (.c (.v (.int .i64 (idxP (rowB v) sp)))))) := by
 obtain ⟨i0, i1, i2, i3, i4⟩ := hi
 obtain ⟨k, rfl⟩ : ∃ k : Nat, v0_0 = k := ⟨v0_0.toNat, by omega⟩
 have hk : (k : Int).toNat = k := rfl
 unfold rd_slices_IndexFunc_cherenkov_api_Range_cherenkov_api_Range_0
 rw [hk, ints_listC, rgs_listC]
 refine cond_i (fun h => ?_) (fun h => leI ?_)
 ·have hlt : k < sp.length := by have := of_decide_eq_true h; omega
  refine ⟨by omega, ⟨numsP_rgs _, rfl, rfl, numsP_ints v, ⟨fun i hi => hp.1.1 _ (by rw [rlAt_lt hlt]; exact List.getElem_mem hlt) i hi, hp.2, hp.1.2.1⟩⟩, cond_i (fun e => leI ?_) (fun e => lt_i fun x hx => ?_)⟩
  ·exact (idxP_at (d := ([] : List Rg)) hlt (fun j hj => i4 j (by omega)) e).symm
  ·rw [wi (by omega)] at hx
   subst hx
   exact ⟨_, rfl, i0, by omega, by omega, by omega, fun j hj => by
    by_cases q : j = k
    ·rw [q]; exact e
    ·exact i4 j (by omega)⟩
 ·have hge : k = sp.length := by have := of_decide_eq_false h; omega
  subst hge
  exact (idxP_none (d := ([] : List Rg)) fun j hj => i4 j (by omega)).symm
theorem zero_slices_IndexFunc_cherenkov_api_Range_cherenkov_api_Range_0 (sp : List (List Rg)) (v : List Int) (v0_0 : Int)  (hi : sp.length ≤ 1000000 ∧ 0 ≤ v0_0 ∧ v0_0 ≤ sp.length ∧ (0 : Int) + v0_0 = sp.length + 1 ∧ ∀ k : Nat, (k : Int) < v0_0 → rowB v (rlAt sp k) = false) : False := by
 omega
theorem spec_slices_IndexFunc_cherenkov_api_Range_cherenkov_api_Range (sp : List (List Rg)) (v : List Int) (hp : exOk sp v ∧ 0 < (v).length) : vc_slices_IndexFunc_cherenkov_api_Range_cherenkov_api_Range (J_slices_IndexFunc_cherenkov_api_Range_cherenkov_api_Range sp v) sp v (fun r => LeD r (.t (.c (.v (.int .i64 (idxP (rowB v) sp)))))) := by
 have hp3 := hp.1.2.2
 unfold vc_slices_IndexFunc_cherenkov_api_Range_cherenkov_api_Range
 exact ⟨sp.length + 1, 0, rfl, by omega, by omega, by omega, by omega, fun j hj => by omega⟩
theorem all_slices_IndexFunc_cherenkov_api_Range_cherenkov_api_Range (sp : List (List Rg)) (v : List Int) (hp : exOk sp v ∧ 0 < (v).length) : AllG (J_slices_IndexFunc_cherenkov_api_Range_cherenkov_api_Range sp v) (loopsFn Tryd.prog tab Sy126 ann_slices_IndexFunc_cherenkov_api_Range_cherenkov_api_Range (J_slices_IndexFunc_cherenkov_api_Range_cherenkov_api_Range sp v) Tryd.f160 (fun r => LeD r (.t (.c (.v (.int .i64 (idxP (rowB v) sp))))))) := by
 rw [lp_slices_IndexFunc_cherenkov_api_Range_cherenkov_api_Range]
 refine ⟨⟨?_, ?_⟩, trivial⟩
 ·intro F s h
  obtain _ | ⟨g, F⟩ := F
  case cons => exact h.elim
  obtain ⟨w0, rfl, hi⟩ := h
  exact zero_slices_IndexFunc_cherenkov_api_Range_cherenkov_api_Range_0 sp v w0 hi
 ·intro n F s h
  obtain _ | ⟨g, F⟩ := F
  case cons => exact h.elim
  obtain ⟨w0, rfl, hi⟩ := h
  rw [er_slices_IndexFunc_cherenkov_api_Range_cherenkov_api_Range_0]
  exact rnd_slices_IndexFunc_cherenkov_api_Range_cherenkov_api_Range_0 sp v _ _ hp hi
def con_slices_IndexFunc_cherenkov_api_Range_cherenkov_api_Range : Con := fun args => match args with
 | [.t (.c (.sl 1 n_sp c_sp)), .t (.fn 154 [.px 1 0 c_pm])] => some (.t (.c (.v (.int .i64 (idxP (rowB (listC (cvLen (c_pm 0)) mkInt (cvCells (c_pm 0)))) (rlOf n_sp c_sp))))), some (rlP n_sp c_sp ∧ intsB [] c_pm = true ∧ slP 1 (c_pm 0) ∧ numsP 1 (cvLen (c_pm 0)) (cvCells (c_pm 0)) ∧ exOk (rlOf n_sp c_sp) (listC (cvLen (c_pm 0)) mkInt (cvCells (c_pm 0))) ∧ 0 < ((listC (cvLen (c_pm 0)) mkInt (cvCells (c_pm 0)))).length), false)
 | _ => none
theorem ok_slices_IndexFunc_cherenkov_api_Range_cherenkov_api_Range : Ok Tryd.prog 160 con_slices_IndexFunc_cherenkov_api_Range_cherenkov_api_Range := by
 refine Ok.fn (ann := ann_slices_IndexFunc_cherenkov_api_Range_cherenkov_api_Range) mixed tabOK VSy126 VI1 (fn := Tryd.f160) (by kernel_rfl) (by kernel_rfl) fit_slices_IndexFunc_cherenkov_api_Range_cherenkov_api_Range fun args r pre fresh h hp => ?_
 unfold con_slices_IndexFunc_cherenkov_api_Range_cherenkov_api_Range at h
 split at h
 ·rename_i n_sp c_sp c_pm
  cases h
  obtain ⟨hp0, hp1, hp2, hp3, hp⟩ := hp
  refine ⟨rfl, J_slices_IndexFunc_cherenkov_api_Range_cherenkov_api_Range (rlOf n_sp c_sp) (listC (cvLen (c_pm 0)) mkInt (cvCells (c_pm 0))), [.t (.c (.sl 1 ((rlOf n_sp c_sp).length) (rlsC (rlOf n_sp c_sp)))), .t (.fn 154 [.px 1 0 (boxC [.sl 1 ((listC (cvLen (c_pm 0)) mkInt (cvCells (c_pm 0))).length) (intsC (listC (cvLen (c_pm 0)) mkInt (cvCells (c_pm 0))))])])], ?_, Nat.le_of_ble_eq_true (by kernel_rfl), ?_, ?_⟩
  ·exact (LeA_cons (leT_c ((leL_LRg hp0))) (LeA_cons (leT_f (LeCs.cons (leC_p (LeCs.cons (leC_s hp2 (leL_int hp3)) LeCs.nil)) LeCs.nil)) LeA_nil))
  ·rw [ev_slices_IndexFunc_cherenkov_api_Range_cherenkov_api_Range]; exact spec_slices_IndexFunc_cherenkov_api_Range_cherenkov_api_Range (rlOf n_sp c_sp) (listC (cvLen (c_pm 0)) mkInt (cvCells (c_pm 0))) hp
  ·exact all_slices_IndexFunc_cherenkov_api_Range_cherenkov_api_Range (rlOf n_sp c_sp) (listC (cvLen (c_pm 0)) mkInt (cvCells (c_pm 0))) hp
 ·cases h
noncomputable def Sy127 : Sum := addS Sy126 160 con_slices_IndexFunc_cherenkov_api_Range_cherenkov_api_Range
theorem VSy127 : Valid Tryd.prog Sy127 := Valid.add VSy126 ok_slices_IndexFunc_cherenkov_api_Range_cherenkov_api_Range
def vc_slices_ContainsFunc_cherenkov_api_Range_cherenkov_api_Range (sp : List (List Rg)) (v : List Int) (post : DV → Prop) : Prop := (rlP sp.length (rlsC sp) ∧ intsB [] (boxC [.sl 1 v.length (intsC v)]) = true ∧ slP 1 ((boxC [.sl 1 v.length (intsC v)]) 0) ∧ numsP 1 v.length (intsC v) ∧ exOk (rlOf sp.length (rlsC sp)) (listC v.length mkInt (intsC v)) ∧ 0 < ((listC v.length mkInt (intsC v))).length) ∧ (post (.t (.c (.v (.bool (decide ((idxP (rowB (listC v.length mkInt (intsC v))) (rlOf sp.length (rlsC sp))) ≥ (0 : Int))))))))
def ann_slices_ContainsFunc_cherenkov_api_Range_cherenkov_api_Range : Ann := ⟨fun _ => none, fun _ => none, fun _ => [], I1, false, fun _ => none, fun _ => none⟩
theorem ev_slices_ContainsFunc_cherenkov_api_Range_cherenkov_api_Range (J : Inv) (sp : List (List Rg)) (v : List Int) (post : DV → Prop) : evFn Tryd.prog tab Sy127 ann_slices_ContainsFunc_cherenkov_api_Range_cherenkov_api_Range J Tryd.f153 [.t (.c (.sl 1 sp.length (rlsC sp))), .t (.fn 154 [.px 1 0 (boxC [.sl 1 v.length (intsC v)])])] post = vc_slices_ContainsFunc_cherenkov_api_Range_cherenkov_api_Range sp v post := by kernel_rfl
theorem fit_slices_ContainsFunc_cherenkov_api_Range_cherenkov_api_Range : okFn ann_slices_ContainsFunc_cherenkov_api_Range_cherenkov_api_Range Tryd.f153 = true := by kernel_rfl
theorem lp_slices_ContainsFunc_cherenkov_api_Range_cherenkov_api_Range (J : Inv) (post : DV → Prop) : AllG J (loopsFn Tryd.prog tab Sy127 ann_slices_ContainsFunc_cherenkov_api_Range_cherenkov_api_Range J Tryd.f153 post) = (True) := by kernel_rfl
theorem spec_slices_ContainsFunc_cherenkov_api_Range_cherenkov_api_Range (sp : List (List Rg)) (v : List Int) (hp : exOk sp v ∧ 0 < (v).length) : vc_slices_ContainsFunc_cherenkov_api_Range_cherenkov_api_Range sp v (fun r => LeD r (.t (.c (.v (.bool ((sp).any (rowB v))))))) := by
 unfold vc_slices_ContainsFunc_cherenkov_api_Range_cherenkov_api_Range
 simp only [ints_listC, rls_of]
 refine ⟨⟨rlP_rls sp, rfl, rfl, numsP_ints v, hp⟩, leB ?_⟩
 rw [idxP_any]
def con_slices_ContainsFunc_cherenkov_api_Range_cherenkov_api_Range : Con := fun args => match args with
 | [.t (.c (.sl 1 n_sp c_sp)), .t (.fn 154 [.px 1 0 c_pm])] => some (.t (.c (.v (.bool (((rlOf n_sp c_sp)).any (rowB (listC (cvLen (c_pm 0)) mkInt (cvCells (c_pm 0)))))))), some (rlP n_sp c_sp ∧ intsB [] c_pm = true ∧ slP 1 (c_pm 0) ∧ numsP 1 (cvLen (c_pm 0)) (cvCells (c_pm 0)) ∧ exOk (rlOf n_sp c_sp) (listC (cvLen (c_pm 0)) mkInt (cvCells (c_pm 0))) ∧ 0 < ((listC (cvLen (c_pm 0)) mkInt (cvCells (c_pm 0)))).length), false)
 | _ => none
theorem ok_slices_ContainsFunc_cherenkov_api_Range_cherenkov_api_Range : Ok Tryd.prog 153 con_slices_ContainsFunc_cherenkov_api_Range_cherenkov_api_Range := by
 refine Ok.fn (ann := ann_slices_ContainsFunc_cherenkov_api_Range_cherenkov_api_Range) mixed tabOK VSy127 VI1 (fn := Tryd.f153) (by kernel_rfl) (by kernel_rfl) fit_slices_ContainsFunc_cherenkov_api_Range_cherenkov_api_Range fun args r pre fresh h hp => ?_
 unfold con_slices_ContainsFunc_cherenkov_api_Range_cherenkov_api_Range at h
 split at h
 ·rename_i n_sp c_sp c_pm
  cases h
  obtain ⟨hp0, hp1, hp2, hp3, hp⟩ := hp
  refine ⟨rfl, fun _ _ _ => False, [.t (.c (.sl 1 ((rlOf n_sp c_sp).length) (rlsC (rlOf n_sp c_sp)))), .t (.fn 154 [.px 1 0 (boxC [.sl 1 ((listC (cvLen (c_pm 0)) mkInt (cvCells (c_pm 0))).length) (intsC (listC (cvLen (c_pm 0)) mkInt (cvCells (c_pm 0))))])])], ?_, Nat.le_of_ble_eq_true (by kernel_rfl), ?_, ?_⟩
  ·exact (LeA_cons (leT_c ((leL_LRg hp0))) (LeA_cons (leT_f (LeCs.cons (leC_p (LeCs.cons (leC_s hp2 (leL_int hp3)) LeCs.nil)) LeCs.nil)) LeA_nil))
  ·rw [ev_slices_ContainsFunc_cherenkov_api_Range_cherenkov_api_Range]; exact spec_slices_ContainsFunc_cherenkov_api_Range_cherenkov_api_Range (rlOf n_sp c_sp) (listC (cvLen (c_pm 0)) mkInt (cvCells (c_pm 0))) hp
  ·rw [lp_slices_ContainsFunc_cherenkov_api_Range_cherenkov_api_Range]; trivial
 ·cases h
noncomputable def Sy128 : Sum := addS Sy127 153 con_slices_ContainsFunc_cherenkov_api_Range_cherenkov_api_Range
theorem VSy128 : Valid Tryd.prog Sy128 := Valid.add VSy127 ok_slices_ContainsFunc_cherenkov_api_Range_cherenkov_api_Range
def vc_cherenkov_flash_search_explained (l : List FHit) (g0 g1 g2 g3 g4 : Int) (sp : List (List Rg)) (v : List Int) (post : DV → Prop) : Prop := cond (((v.length : Nat) : Int) == (0 : Int)) (post (.t (.c (.v (.bool true))))) ((rlP sp.length (rlsC sp) ∧ intsB [] (boxC [.sl 1 v.length (intsC v)]) = true ∧ slP 1 ((boxC [.sl 1 v.length (intsC v)]) 0) ∧ numsP 1 v.length (intsC v) ∧ exOk (rlOf sp.length (rlsC sp)) (listC v.length mkInt (intsC v)) ∧ 0 < ((listC v.length mkInt (intsC v))).length) ∧ (post (.t (.c (.v (.bool (((rlOf sp.length (rlsC sp))).any (rowB (listC v.length mkInt (intsC v))))))))))
def ann_cherenkov_flash_search_explained : Ann := ⟨fun _ => none, fun _ => none, fun _ => [], I1, false, fun _ => none, fun _ => none⟩
theorem ev_cherenkov_flash_search_explained (J : Inv) (l : List FHit) (g0 g1 g2 g3 g4 : Int) (sp : List (List Rg)) (v : List Int) (post : DV → Prop) : evFn Tryd.prog tab Sy128 ann_cherenkov_flash_search_explained J Tryd.f130 [.t (.a [.sl 7 l.length (hitsC l), .v (.int .i64 g0), .v (.int .i64 g1), .v (.int .i64 g2), .v (.int .i64 g3), .v (.int .i64 g4), .sl 1 sp.length (rlsC sp)]), .t (.c (.sl 1 v.length (intsC v)))] post = vc_cherenkov_flash_search_explained l g0 g1 g2 g3 g4 sp v post := by kernel_rfl
theorem fit_cherenkov_flash_search_explained : okFn ann_cherenkov_flash_search_explained Tryd.f130 = true := by kernel_rfl
theorem lp_cherenkov_flash_search_explained (J : Inv) (post : DV → Prop) : AllG J (loopsFn Tryd.prog tab Sy128 ann_cherenkov_flash_search_explained J Tryd.f130 post) = (True) := by kernel_rfl
theorem spec_cherenkov_flash_search_explained (l : List FHit) (g0 g1 g2 g3 g4 : Int) (sp : List (List Rg)) (v : List Int) (hp : exOk sp v) : vc_cherenkov_flash_search_explained l g0 g1 g2 g3 g4 sp v (fun r => LeD r (.t (.c (.v (.bool (explB sp v)))))) := by
 unfold vc_cherenkov_flash_search_explained
 simp only [ints_listC, rls_of]
 refine cond_i (fun h => leB ?_) (fun h => ⟨⟨rlP_rls sp, rfl, rfl, numsP_ints v, hp, ?_⟩, leB ?_⟩)
 ·have h : v = [] := by simpa using h
  subst h; rfl
 ·have h : v ≠ [] := by simpa using h
  exact List.length_pos_iff.2 h
 ·have h : v ≠ [] := by simpa using h
  unfold explB
  rw [show v.isEmpty = false by cases v <;> simp_all]; rfl
def con_cherenkov_flash_search_explained : Con := fun args => match args with
 | [.t (.a [.sl 7 n_l c_l, .v (.int .i64 g0), .v (.int .i64 g1), .v (.int .i64 g2), .v (.int .i64 g3), .v (.int .i64 g4), .sl 1 n_sp c_sp]), .t (.c (.sl 1 n_v c_v))] => some (.t (.c (.v (.bool (explB (rlOf n_sp c_sp) (listC n_v mkInt c_v))))), some (numsP 7 n_l c_l ∧ rlP n_sp c_sp ∧ numsP 1 n_v c_v ∧ exOk (rlOf n_sp c_sp) (listC n_v mkInt c_v)), false)
 | _ => none
theorem ok_cherenkov_flash_search_explained : Ok Tryd.prog 130 con_cherenkov_flash_search_explained := by
 refine Ok.fn (ann := ann_cherenkov_flash_search_explained) mixed tabOK VSy128 VI1 (fn := Tryd.f130) (by kernel_rfl) (by kernel_rfl) fit_cherenkov_flash_search_explained fun args r pre fresh h hp => ?_
 unfold con_cherenkov_flash_search_explained at h
 split at h
 ·rename_i n_l c_l g0 g1 g2 g3 g4 n_sp c_sp n_v c_v
  cases h
  obtain ⟨hp0, hp1, hp2, hp⟩ := hp
  refine ⟨rfl, fun _ _ _ => False, [.t (.a [.sl 7 ((listC n_l mkHit c_l).length) (hitsC (listC n_l mkHit c_l)), .v (.int .i64 g0), .v (.int .i64 g1), .v (.int .i64 g2), .v (.int .i64 g3), .v (.int .i64 g4), .sl 1 ((rlOf n_sp c_sp).length) (rlsC (rlOf n_sp c_sp))]), .t (.c (.sl 1 ((listC n_v mkInt c_v).length) (intsC (listC n_v mkInt c_v))))], ?_, Nat.le_of_ble_eq_true (by kernel_rfl), ?_, ?_⟩
  ·exact (LeA_cons (leT_a (LeCs.cons ((leL_FHit hp0)) (LeCs.cons (LeC1.refl _) (LeCs.cons (LeC1.refl _) (LeCs.cons (LeC1.refl _) (LeCs.cons (LeC1.refl _) (LeCs.cons (LeC1.refl _) (LeCs.cons ((leL_LRg hp1)) LeCs.nil)))))))) (LeA_cons (leT_c ((leL_int hp2))) LeA_nil))
  ·rw [ev_cherenkov_flash_search_explained]; exact spec_cherenkov_flash_search_explained (listC n_l mkHit c_l) g0 g1 g2 g3 g4 (rlOf n_sp c_sp) (listC n_v mkInt c_v) hp
  ·rw [lp_cherenkov_flash_search_explained]; trivial
 ·cases h
noncomputable def Sy129 : Sum := addS Sy128 130 con_cherenkov_flash_search_explained
theorem VSy129 : Valid Tryd.prog Sy129 := Valid.add VSy128 ok_cherenkov_flash_search_explained
def vc_flash_Contradicting_1 (v : List Int) (l : List FHit) (g0 g1 g2 g3 g4 : Int) (sp : List (List Rg)) (post : DV → Prop) : Prop := (numsP 7 l.length (hitsC l) ∧ rlP sp.length (rlsC sp) ∧ numsP 1 v.length (intsC v) ∧ exOk (rlOf sp.length (rlsC sp)) (listC v.length mkInt (intsC v))) ∧ (post (.t (.c (.v (.bool (!(explB (rlOf sp.length (rlsC sp)) (listC v.length mkInt (intsC v)))))))))
def ann_flash_Contradicting_1 : Ann := ⟨fun _ => none, fun _ => none, fun _ => [], I1, false, fun _ => none, fun _ => none⟩
theorem ev_flash_Contradicting_1 (J : Inv) (v : List Int) (l : List FHit) (g0 g1 g2 g3 g4 : Int) (sp : List (List Rg)) (post : DV → Prop) : evFn Tryd.prog tab Sy129 ann_flash_Contradicting_1 J Tryd.f129 [.t (.c (.sl 1 v.length (intsC v))), .t (.c (.px 7 0 (boxC [.sl 7 l.length (hitsC l), .v (.int .i64 g0), .v (.int .i64 g1), .v (.int .i64 g2), .v (.int .i64 g3), .v (.int .i64 g4), .sl 1 sp.length (rlsC sp)])))] post = vc_flash_Contradicting_1 v l g0 g1 g2 g3 g4 sp post := by kernel_rfl
theorem fit_flash_Contradicting_1 : okFn ann_flash_Contradicting_1 Tryd.f129 = true := by kernel_rfl
theorem lp_flash_Contradicting_1 (J : Inv) (post : DV → Prop) : AllG J (loopsFn Tryd.prog tab Sy129 ann_flash_Contradicting_1 J Tryd.f129 post) = (True) := by kernel_rfl
theorem spec_flash_Contradicting_1 (v : List Int) (l : List FHit) (g0 g1 g2 g3 g4 : Int) (sp : List (List Rg)) (hp : exOk sp v) : vc_flash_Contradicting_1 v l g0 g1 g2 g3 g4 sp (fun r => LeD r (.t (.c (.v (.bool (contB sp v)))))) := by
 unfold vc_flash_Contradicting_1
 simp only [ints_listC, rls_of]
 exact ⟨⟨numsP_hits l, rlP_rls sp, numsP_ints v, hp⟩, LeD.refl _⟩
def con_flash_Contradicting_1 : Con := fun args => match args with
 | [.t (.c (.sl 1 n_v c_v)), .t (.c (.px 7 0 c_ps))] => some (.t (.c (.v (.bool (contB (rlOf (cvLen (c_ps 6)) (cvCells (c_ps 6))) (listC n_v mkInt c_v))))), some (numsP 1 n_v c_v ∧ intsB [1, 2, 3, 4, 5] c_ps = true ∧ slP 7 (c_ps 0) ∧ numsP 7 (cvLen (c_ps 0)) (cvCells (c_ps 0)) ∧ slP 1 (c_ps 6) ∧ rlP (cvLen (c_ps 6)) (cvCells (c_ps 6)) ∧ exOk (rlOf (cvLen (c_ps 6)) (cvCells (c_ps 6))) (listC n_v mkInt c_v)), false)
 | _ => none
theorem ok_flash_Contradicting_1 : Ok Tryd.prog 129 con_flash_Contradicting_1 := by
 refine Ok.fn (ann := ann_flash_Contradicting_1) mixed tabOK VSy129 VI1 (fn := Tryd.f129) (by kernel_rfl) (by kernel_rfl) fit_flash_Contradicting_1 fun args r pre fresh h hp => ?_
 unfold con_flash_Contradicting_1 at h
 split at h
 ·rename_i n_v c_v c_ps
  cases h
  obtain ⟨hp0, hp1, hp2, hp3, hp4, hp5, hp⟩ := hp
  refine ⟨rfl, fun _ _ _ => False, [.t (.c (.sl 1 ((listC n_v mkInt c_v).length) (intsC (listC n_v mkInt c_v)))), .t (.c (.px 7 0 (boxC [.sl 7 ((listC (cvLen (c_ps 0)) mkHit (cvCells (c_ps 0))).length) (hitsC (listC (cvLen (c_ps 0)) mkHit (cvCells (c_ps 0)))), .v (.int .i64 (cvInt (c_ps 1))), .v (.int .i64 (cvInt (c_ps 2))), .v (.int .i64 (cvInt (c_ps 3))), .v (.int .i64 (cvInt (c_ps 4))), .v (.int .i64 (cvInt (c_ps 5))), .sl 1 ((rlOf (cvLen (c_ps 6)) (cvCells (c_ps 6))).length) (rlsC (rlOf (cvLen (c_ps 6)) (cvCells (c_ps 6))))])))], ?_, Nat.le_of_ble_eq_true (by kernel_rfl), ?_, ?_⟩
  ·exact (LeA_cons (leT_c ((leL_int hp0))) (LeA_cons (leT_c (leC_p (LeCs.cons (leC_s hp2 (leL_FHit hp3)) (LeCs.cons (leC_i (intsB_get hp1 1 (by decide))) (LeCs.cons (leC_i (intsB_get hp1 2 (by decide))) (LeCs.cons (leC_i (intsB_get hp1 3 (by decide))) (LeCs.cons (leC_i (intsB_get hp1 4 (by decide))) (LeCs.cons (leC_i (intsB_get hp1 5 (by decide))) (LeCs.cons (leC_s hp4 (leL_LRg hp5)) LeCs.nil))))))))) LeA_nil))
  ·rw [ev_flash_Contradicting_1]; exact spec_flash_Contradicting_1 (listC n_v mkInt c_v) (listC (cvLen (c_ps 0)) mkHit (cvCells (c_ps 0))) (cvInt (c_ps 1)) (cvInt (c_ps 2)) (cvInt (c_ps 3)) (cvInt (c_ps 4)) (cvInt (c_ps 5)) (rlOf (cvLen (c_ps 6)) (cvCells (c_ps 6))) hp
  ·rw [lp_flash_Contradicting_1]; trivial
 ·cases h
noncomputable def Sy130 : Sum := addS Sy129 129 con_flash_Contradicting_1
theorem VSy130 : Valid Tryd.prog Sy130 := Valid.add VSy129 ok_flash_Contradicting_1
def mk_flash_smallest_b_0 (q : Int) (l : List FHit) (g0 g1 g2 g3 g4 : Int) (sp : List (List Rg)) (v0_0 : List Int) (v0_1 : Int) (v0_2 : Int) (v0_3 : Bool) : DS := ⟨[none, some (.t (.fn 129 [.px 7 0 (boxC [.sl 7 l.length (hitsC l), .v (.int .i64 g0), .v (.int .i64 g1), .v (.int .i64 g2), .v (.int .i64 g3), .v (.int .i64 g4), .sl 1 sp.length (rlsC sp)])])), none, none, none, none, some (.t (.c (.os 6))), some (.t (.c (.v (.bool v0_3)))), none, none, none, some (.t (.c (.v (.int .u64 v0_1)))), some (.t (.c (.v (.int .u64 v0_2)))), none, none, none, none, none, none, none, none, none, none, none, none, none, none, none, none, none, none, none, none, none, none, none, none, none, none, none, none, none, none, none, none, none, none, none], [none, none, none, none, none, none, some (.num 3 .i64 v0_0), none, none, none, none, none, none, none, none, none, none, none, none, none, none, none, none, none, none, none, none, none, none, none, none, none, none, none, none, none, none, none, none, none, none, none, none, none, none, none, none, none]⟩
def vc_flash_smallest_b (J : Inv) (q : Int) (l : List FHit) (g0 g1 g2 g3 g4 : Int) (sp : List (List Rg)) (post : DV → Row → Prop) : Prop := lt (IntKind.u64.wrap ((1 : Int) * 2 ^ (min (q).toNat 64))) fun x1 => (0 ≤ q) ∧ (∃ n, J 0 (n :: []) (mk_flash_smallest_b_0 q l g0 g1 g2 g3 g4 sp ([]) x1 0 false))
def ann_flash_smallest_b : Ann := ⟨fun _ => none, fun b => lookA b [(0, (none, some ⟨[1, 7, 11, 12], [], [(6, .num 3 .i64 ([]))]⟩))], fun _ => [], I1, false, fun r => lookA r [(7, (2, [43]))], fun _ => none⟩
theorem ev_flash_smallest_b (J : Inv) (q : Int) (l : List FHit) (g0 g1 g2 g3 g4 : Int) (sp : List (List Rg)) (post : DV → Row → Prop) : evFnO Tryd.prog tab Sy130 ann_flash_smallest_b J Tryd.f105 [.t (.c (.v (.int .i64 q))), .t (.fn 129 [.px 7 0 (boxC [.sl 7 l.length (hitsC l), .v (.int .i64 g0), .v (.int .i64 g1), .v (.int .i64 g2), .v (.int .i64 g3), .v (.int .i64 g4), .sl 1 sp.length (rlsC sp)])])] post = vc_flash_smallest_b J q l g0 g1 g2 g3 g4 sp post := by kernel_rfl
theorem fit_flash_smallest_b : okFn ann_flash_smallest_b Tryd.f105 = true := by kernel_rfl
def rd_flash_smallest_b_0 (J : Inv) (q : Int) (l : List FHit) (g0 g1 g2 g3 g4 : Int) (sp : List (List Rg)) (v0_0 : List Int) (v0_1 : Int) (v0_2 : Int) (v0_3 : Bool) (nn0 : Nat) (post : DV → Row → Prop) : Prop := cond (decide (v0_2 < v0_1)) ((0 ≤ v0_2 ∧ v0_2 < 256) ∧ ((cond v0_3 (cond (decide ((((membs 8 (v0_2).toNat).length : Nat) : Int) > ((v0_0.length : Nat) : Int))) ((true = true) ∧ ((true = true) ∧ (True))) (cond ((((membs 8 (v0_2).toNat).length : Nat) : Int) == ((v0_0.length : Nat) : Int)) ((numsP 1 ((membs 8 (v0_2).toNat).length) (numsC .i64 (membs 8 (v0_2).toNat)) ∧ numsP 1 v0_0.length (numsC .i64 v0_0) ∧ ((listC ((membs 8 (v0_2).toNat).length) mkInt (numsC .i64 (membs 8 (v0_2).toNat)))).length ≤ 1000000) ∧ (cond (decide ((cmpL (listC ((membs 8 (v0_2).toNat).length) mkInt (numsC .i64 (membs 8 (v0_2).toNat))) (listC v0_0.length mkInt (numsC .i64 v0_0))) > (0 : Int))) ((true = true) ∧ (True)) ((numsP 1 ((membs 8 (v0_2).toNat).length) (numsC .i64 (membs 8 (v0_2).toNat)) ∧ intsB [1, 2, 3, 4, 5] (boxC [.sl 7 l.length (hitsC l), .v (.int .i64 g0), .v (.int .i64 g1), .v (.int .i64 g2), .v (.int .i64 g3), .v (.int .i64 g4), .sl 1 sp.length (rlsC sp)]) = true ∧ slP 7 ((boxC [.sl 7 l.length (hitsC l), .v (.int .i64 g0), .v (.int .i64 g1), .v (.int .i64 g2), .v (.int .i64 g3), .v (.int .i64 g4), .sl 1 sp.length (rlsC sp)]) 0) ∧ numsP 7 l.length (hitsC l) ∧ slP 1 ((boxC [.sl 7 l.length (hitsC l), .v (.int .i64 g0), .v (.int .i64 g1), .v (.int .i64 g2), .v (.int .i64 g3), .v (.int .i64 g4), .sl 1 sp.length (rlsC sp)]) 6) ∧ rlP sp.length (rlsC sp) ∧ exOk (rlOf sp.length (rlsC sp)) (listC ((membs 8 (v0_2).toNat).length) mkInt (numsC .i64 (membs 8 (v0_2).toNat)))) ∧ (True)))) ((false = false) ∧ ((numsP 1 ((membs 8 (v0_2).toNat).length) (numsC .i64 (membs 8 (v0_2).toNat)) ∧ intsB [1, 2, 3, 4, 5] (boxC [.sl 7 l.length (hitsC l), .v (.int .i64 g0), .v (.int .i64 g1), .v (.int .i64 g2), .v (.int .i64 g3), .v (.int .i64 g4), .sl 1 sp.length (rlsC sp)]) = true ∧ slP 7 ((boxC [.sl 7 l.length (hitsC l), .v (.int .i64 g0), .v (.int .i64 g1), .v (.int .i64 g2), .v (.int .i64 g3), .v (.int .i64 g4), .sl 1 sp.length (rlsC sp)]) 0) ∧ numsP 7 l.length (hitsC l) ∧ slP 1 ((boxC [.sl 7 l.length (hitsC l), .v (.int .i64 g0), .v (.int .i64 g1), .v (.int .i64 g2), .v (.int .i64 g3), .v (.int .i64 g4), .sl 1 sp.length (rlsC sp)]) 6) ∧ rlP sp.length (rlsC sp) ∧ exOk (rlOf sp.length (rlsC sp)) (listC ((membs 8 (v0_2).toNat).length) mkInt (numsC .i64 (membs 8 (v0_2).toNat)))) ∧ (True))))) ((false = false) ∧ ((numsP 1 ((membs 8 (v0_2).toNat).length) (numsC .i64 (membs 8 (v0_2).toNat)) ∧ intsB [1, 2, 3, 4, 5] (boxC [.sl 7 l.length (hitsC l), .v (.int .i64 g0), .v (.int .i64 g1), .v (.int .i64 g2), .v (.int .i64 g3), .v (.int .i64 g4), .sl 1 sp.length (rlsC sp)]) = true ∧ slP 7 ((boxC [.sl 7 l.length (hitsC l), .v (.int .i64 g0), .v (.int .i64 g1), .v (.int .i64 g2), .v (.int .i64 g3), .v (.int .i64 g4), .sl 1 sp.length (rlsC sp)]) 0) ∧ numsP 7 l.length (hitsC l) ∧ slP 1 ((boxC [.sl 7 l.length (hitsC l), .v (.int .i64 g0), .v (.int .i64 g1), .v (.int .i64 g2), .v (.int .i64 g3), .v (.int .i64 g4), .sl 1 sp.length (rlsC sp)]) 6) ∧ rlP sp.length (rlsC sp) ∧ exOk (rlOf sp.length (rlsC sp)) (listC ((membs 8 (v0_2).toNat).length) mkInt (numsC .i64 (membs 8 (v0_2).toNat)))) ∧ (True)))) ∧ (lt ((bif v0_3 then (bif decide ((((membs 8 (v0_2).toNat).length : Nat) : Int) > ((v0_0.length : Nat) : Int)) then true else (bif ((((membs 8 (v0_2).toNat).length : Nat) : Int) == ((v0_0.length : Nat) : Int)) then (bif decide ((cmpL (listC ((membs 8 (v0_2).toNat).length) mkInt (numsC .i64 (membs 8 (v0_2).toNat))) (listC v0_0.length mkInt (numsC .i64 v0_0))) > (0 : Int)) then true else (!(contB (rlOf sp.length (rlsC sp)) (listC ((membs 8 (v0_2).toNat).length) mkInt (numsC .i64 (membs 8 (v0_2).toNat)))))) else (!(contB (rlOf sp.length (rlsC sp)) (listC ((membs 8 (v0_2).toNat).length) mkInt (numsC .i64 (membs 8 (v0_2).toNat))))))) else (!(contB (rlOf sp.length (rlsC sp)) (listC ((membs 8 (v0_2).toNat).length) mkInt (numsC .i64 (membs 8 (v0_2).toNat))))))) fun x1 => cond x1 (lt (IntKind.u64.wrap (v0_2 + (1 : Int))) fun x2 => J 0 (nn0 :: []) (mk_flash_smallest_b_0 q l g0 g1 g2 g3 g4 sp v0_0 v0_1 x2 v0_3)) (lt (IntKind.u64.wrap (v0_2 + (1 : Int))) fun x3 => J 0 (nn0 :: []) (mk_flash_smallest_b_0 q l g0 g1 g2 g3 g4 sp (membs 8 (v0_2).toNat) v0_1 x3 true))))) (post (.tu [.c (.os 0), .c (.v (.bool v0_3))]) (.num 3 .i64 v0_0))
theorem er_flash_smallest_b_0 (J : Inv) (q : Int) (l : List FHit) (g0 g1 g2 g3 g4 : Int) (sp : List (List Rg)) (v0_0 : List Int) (v0_1 : Int) (v0_2 : Int) (v0_3 : Bool) (nn0 : Nat) (post : DV → Row → Prop) : roundO Tryd.prog tab Sy130 ann_flash_smallest_b J Tryd.f105 post 0 (nn0 :: []) (mk_flash_smallest_b_0 q l g0 g1 g2 g3 g4 sp v0_0 v0_1 v0_2 v0_3) = rd_flash_smallest_b_0 J q l g0 g1 g2 g3 g4 sp v0_0 v0_1 v0_2 v0_3 nn0 post := by kernel_rfl
theorem lp_flash_smallest_b (J : Inv) (post : DV → Row → Prop) : AllG J (loopsFnO Tryd.prog tab Sy130 ann_flash_smallest_b J Tryd.f105 post) = (((∀ F s, ¬ J 0 (0 :: F) s) ∧ ∀ n F s, J 0 ((n + 1) :: F) s → roundO Tryd.prog tab Sy130 ann_flash_smallest_b J Tryd.f105 post 0 (n :: F) s) ∧ True) := by kernel_rfl
def J_flash_smallest_b (q : Int) (l : List FHit) (g0 g1 g2 g3 g4 : Int) (sp : List (List Rg)) : Inv := fun b F s => match b, F with
 | 0, [nn0] => ∃ (v0_0 : List Int) (v0_1 : Int) (v0_2 : Int) (v0_3 : Bool), s = mk_flash_smallest_b_0 q l g0 g1 g2 g3 g4 sp v0_0 v0_1 v0_2 v0_3 ∧ (cnOk q sp ∧ v0_1 = ((2 ^ q.toNat : Nat) : Int) ∧ 0 ≤ v0_2 ∧ v0_2 ≤ v0_1 ∧ (nn0 : Int) + v0_2 = v0_1 + 1 ∧ v0_3 = (foldS (contB sp) v0_2.toNat).isSome ∧ v0_0 = (foldS (contB sp) v0_2.toNat).getD [])
 | _, _ => False
set_option maxHeartbeats 8000000 in
set_option maxRecDepth 100000 in
theorem rnd_flash_smallest_b_0 (q : Int) (l : List FHit) (g0 g1 g2 g3 g4 : Int) (sp : List (List Rg)) (v0_0 : List Int) (v0_1 : Int) (v0_2 : Int) (v0_3 : Bool) (nn0 : Nat) (hp : cnOk q sp) (hi : cnOk q sp ∧ v0_1 = ((2 ^ q.toNat : Nat) : Int) ∧ 0 ≤ v0_2 ∧ v0_2 ≤ v0_1 ∧ ((nn0 + 1) : Int) + v0_2 = v0_1 + 1 ∧ v0_3 = (foldS (contB sp) v0_2.toNat).isSome ∧ v0_0 = (foldS (contB sp) v0_2.toNat).getD []) : rd_flash_smallest_b_0 (J_flash_smallest_b q l g0 g1 g2 g3 g4 sp) q l g0 g1 g2 g3 g4 sp v0_0 v0_1 v0_2 v0_3 nn0 (fun r' R' => r' = (.tu [.c (.os 0), .c (.v (.bool ((foldS (contB sp) (2 ^ (q).toNat)).isSome)))]) ∧ R' = (.num 3 .i64 ((foldS (contB sp) (2 ^ (q).toNat)).getD []))) := by
 obtain ⟨q1, q2, i1, i2, i3, i4, i5⟩ := hi
 obtain ⟨k, rfl⟩ : ∃ k : Nat, v0_2 = k := ⟨v0_2.toNat, by omega⟩
 have hk : (k : Int).toNat = k := rfl
 rw [hk] at i4 i5
 have h256 := pow_8 (n := q.toNat) (by have := q1.1; omega)
 unfold rd_flash_smallest_b_0
 simp only [hk, nums_listC, rls_of]
 obtain ⟨o, ho⟩ : ∃ o, foldS (contB sp) k = o := ⟨_, rfl⟩
 rw [ho] at i4 i5
 subst i4 i5
 refine cond_i (fun h => ?_) (fun h => ?_)
 ·have h := of_decide_eq_true h
  have hlen := membs_len (k := k) (by omega)
  have hx : exOk sp (membs 8 k) := cnOk_ex q1 (by omega)
  have step : foldS (contB sp) (k + 1) = smStep (contB sp) o (membs 8 k) := by rw [← ho]; unfold foldS; rw [List.range_succ, List.foldl_append]; rfl
  refine ⟨by omega, ?_, lt_i fun x1 h1 => ?_⟩
  ·refine cond_i (fun _ => cond_i (fun _ => ⟨by trivial, by trivial, trivial⟩) (fun _ => cond_i (fun _ => ⟨⟨numsP_ints _, numsP_ints _, by omega⟩, cond_i (fun _ => ⟨by trivial, trivial⟩) (fun _ => ⟨⟨numsP_ints _, rfl, rfl, numsP_hits l, rfl, rlP_rls sp, hx⟩, trivial⟩)⟩) (fun _ => ⟨by trivial, ⟨numsP_ints _, rfl, rfl, numsP_hits l, rfl, rlP_rls sp, hx⟩, trivial⟩))) (fun _ => ⟨by trivial, ⟨numsP_ints _, rfl, rfl, numsP_hits l, rfl, rlP_rls sp, hx⟩, trivial⟩)
  ·have e := smStep_skip (hd := contB sp) (o := o) (s := membs 8 k)
   rw [h1] at e
   refine cond_i (fun hx => lt_i fun x2 h2 => ?_) (fun hx => lt_i fun x2 h2 => ?_)
   all_goals
    rw [hx] at e
    rw [u64_succ (by omega)] at h2
    subst h2
    refine ⟨_, _, _, _, rfl, q1, q2, by omega, by omega, by omega, ?_, ?_⟩
   all_goals
    rw [show ((k : Int) + 1).toNat = k + 1 by omega, step, e]; rfl
 ·have h := of_decide_eq_false h
  have hk : k = 2 ^ q.toNat := by omega
  rw [← hk, ho]
  exact ⟨by trivial, rfl⟩
theorem zero_flash_smallest_b_0 (q : Int) (l : List FHit) (g0 g1 g2 g3 g4 : Int) (sp : List (List Rg)) (v0_0 : List Int) (v0_1 : Int) (v0_2 : Int) (v0_3 : Bool)  (hi : cnOk q sp ∧ v0_1 = ((2 ^ q.toNat : Nat) : Int) ∧ 0 ≤ v0_2 ∧ v0_2 ≤ v0_1 ∧ (0 : Int) + v0_2 = v0_1 + 1 ∧ v0_3 = (foldS (contB sp) v0_2.toNat).isSome ∧ v0_0 = (foldS (contB sp) v0_2.toNat).getD []) : False := by
 omega
set_option maxHeartbeats 8000000 in
set_option maxRecDepth 100000 in
theorem spec_flash_smallest_b (q : Int) (l : List FHit) (g0 g1 g2 g3 g4 : Int) (sp : List (List Rg)) (hp : cnOk q sp) : vc_flash_smallest_b (J_flash_smallest_b q l g0 g1 g2 g3 g4 sp) q l g0 g1 g2 g3 g4 sp (fun r' R' => r' = (.tu [.c (.os 0), .c (.v (.bool ((foldS (contB sp) (2 ^ (q).toNat)).isSome)))]) ∧ R' = (.num 3 .i64 ((foldS (contB sp) (2 ^ (q).toNat)).getD []))) := by
 have hq := hp.1
 unfold vc_flash_smallest_b
 refine lt_i fun x1 h1 => ⟨by omega, (2 ^ q.toNat + 1), [], x1, 0, false, rfl, hp, ?_, by omega, ?_, ?_, rfl, rfl⟩
 all_goals
  have e : x1 = ((2 ^ q.toNat : Nat) : Int) := by
   rcases (by omega : q = 1 ∨ q = 2 ∨ q = 3 ∨ q = 4 ∨ q = 5 ∨ q = 6 ∨ q = 7 ∨ q = 8) with rfl | rfl | rfl | rfl | rfl | rfl | rfl | rfl <;> (rw [← h1]; kernel_rfl)
  rw [e]
 ·exact Int.natCast_nonneg _
 ·generalize 2 ^ q.toNat = M; omega
theorem all_flash_smallest_b (q : Int) (l : List FHit) (g0 g1 g2 g3 g4 : Int) (sp : List (List Rg)) (hp : cnOk q sp) : AllG (J_flash_smallest_b q l g0 g1 g2 g3 g4 sp) (loopsFnO Tryd.prog tab Sy130 ann_flash_smallest_b (J_flash_smallest_b q l g0 g1 g2 g3 g4 sp) Tryd.f105 (fun r' R' => r' = (.tu [.c (.os 0), .c (.v (.bool ((foldS (contB sp) (2 ^ (q).toNat)).isSome)))]) ∧ R' = (.num 3 .i64 ((foldS (contB sp) (2 ^ (q).toNat)).getD [])))) := by
 rw [lp_flash_smallest_b]
 refine ⟨⟨?_, ?_⟩, trivial⟩
 ·intro F s h
  obtain _ | ⟨g, F⟩ := F
  case cons => exact h.elim
  obtain ⟨w0, w1, w2, w3, rfl, hi⟩ := h
  exact zero_flash_smallest_b_0 q l g0 g1 g2 g3 g4 sp w0 w1 w2 w3 hi
 ·intro n F s h
  obtain _ | ⟨g, F⟩ := F
  case cons => exact h.elim
  obtain ⟨w0, w1, w2, w3, rfl, hi⟩ := h
  rw [er_flash_smallest_b_0]
  exact rnd_flash_smallest_b_0 q l g0 g1 g2 g3 g4 sp _ _ _ _ _ hp hi
def con_flash_smallest_b : Con := fun args => match args with
 | [.t (.c (.v (.int .i64 q))), .t (.fn 129 [.px 7 0 c_ps])] => some (.tu [.c (.os 0), .c (.v (.bool ((foldS (contB (rlOf (cvLen (c_ps 6)) (cvCells (c_ps 6)))) (2 ^ (q).toNat)).isSome)))], some (intsB [1, 2, 3, 4, 5] c_ps = true ∧ slP 7 (c_ps 0) ∧ numsP 7 (cvLen (c_ps 0)) (cvCells (c_ps 0)) ∧ slP 1 (c_ps 6) ∧ rlP (cvLen (c_ps 6)) (cvCells (c_ps 6)) ∧ cnOk q (rlOf (cvLen (c_ps 6)) (cvCells (c_ps 6)))), .own (.num 3 .i64 ((foldS (contB (rlOf (cvLen (c_ps 6)) (cvCells (c_ps 6)))) (2 ^ (q).toNat)).getD [])))
 | _ => none
theorem ok_flash_smallest_b : Ok Tryd.prog 105 con_flash_smallest_b := by
 refine Ok.fnO (ann := ann_flash_smallest_b) mixed tabOK VSy130 VI1 (fn := Tryd.f105) (by kernel_rfl) (by kernel_rfl) fit_flash_smallest_b fun args r pre fresh h hp => ?_
 unfold con_flash_smallest_b at h
 split at h
 ·rename_i q c_ps
  cases h
  obtain ⟨hp0, hp1, hp2, hp3, hp4, hp⟩ := hp
  refine ⟨_, rfl, trivial, J_flash_smallest_b q (listC (cvLen (c_ps 0)) mkHit (cvCells (c_ps 0))) (cvInt (c_ps 1)) (cvInt (c_ps 2)) (cvInt (c_ps 3)) (cvInt (c_ps 4)) (cvInt (c_ps 5)) (rlOf (cvLen (c_ps 6)) (cvCells (c_ps 6))), [.t (.c (.v (.int .i64 q))), .t (.fn 129 [.px 7 0 (boxC [.sl 7 ((listC (cvLen (c_ps 0)) mkHit (cvCells (c_ps 0))).length) (hitsC (listC (cvLen (c_ps 0)) mkHit (cvCells (c_ps 0)))), .v (.int .i64 (cvInt (c_ps 1))), .v (.int .i64 (cvInt (c_ps 2))), .v (.int .i64 (cvInt (c_ps 3))), .v (.int .i64 (cvInt (c_ps 4))), .v (.int .i64 (cvInt (c_ps 5))), .sl 1 ((rlOf (cvLen (c_ps 6)) (cvCells (c_ps 6))).length) (rlsC (rlOf (cvLen (c_ps 6)) (cvCells (c_ps 6))))])])], ?_, Nat.le_of_ble_eq_true (by kernel_rfl), ?_, ?_⟩
  ·exact (LeA_cons (LeD.refl _) (LeA_cons (leT_f (LeCs.cons (leC_p (LeCs.cons (leC_s hp1 (leL_FHit hp2)) (LeCs.cons (leC_i (intsB_get hp0 1 (by decide))) (LeCs.cons (leC_i (intsB_get hp0 2 (by decide))) (LeCs.cons (leC_i (intsB_get hp0 3 (by decide))) (LeCs.cons (leC_i (intsB_get hp0 4 (by decide))) (LeCs.cons (leC_i (intsB_get hp0 5 (by decide))) (LeCs.cons (leC_s hp3 (leL_LRg hp4)) LeCs.nil)))))))) LeCs.nil)) LeA_nil))
  ·rw [ev_flash_smallest_b]; exact spec_flash_smallest_b q (listC (cvLen (c_ps 0)) mkHit (cvCells (c_ps 0))) (cvInt (c_ps 1)) (cvInt (c_ps 2)) (cvInt (c_ps 3)) (cvInt (c_ps 4)) (cvInt (c_ps 5)) (rlOf (cvLen (c_ps 6)) (cvCells (c_ps 6))) hp
  ·exact all_flash_smallest_b q (listC (cvLen (c_ps 0)) mkHit (cvCells (c_ps 0))) (cvInt (c_ps 1)) (cvInt (c_ps 2)) (cvInt (c_ps 3)) (cvInt (c_ps 4)) (cvInt (c_ps 5)) (rlOf (cvLen (c_ps 6)) (cvCells (c_ps 6))) hp
 ·cases h
noncomputable def Sy131 : Sum := addF Sy130 105 con_flash_smallest_b
theorem VSy131 : Valid Tryd.prog Sy131 := Valid.addF VSy130 ok_flash_smallest_b
def vc_flash_Contradicting (l : List FHit) (g0 g1 g2 g3 g4 : Int) (post : DV → Prop) : Prop := (numsP 7 l.length (hitsC l)) ∧ (cond ((bothE (listC l.length mkHit (hitsC l)) (⟨⟨g0, g1, g2⟩, g3, g4⟩ : Lat)) != (0 : Int)) (post (.tu [.c (.v (.slice none 0 0)), .c (.v (.int .i64 (bothE (listC l.length mkHit (hitsC l)) (⟨⟨g0, g1, g2⟩, g3, g4⟩ : Lat))))])) ((intsB [1, 2, 3, 4, 5] (boxC [.sl 7 ((opnH (listC l.length mkHit (hitsC l)) (⟨⟨g0, g1, g2⟩, g3, g4⟩ : Lat)).length) (hitsC (opnH (listC l.length mkHit (hitsC l)) (⟨⟨g0, g1, g2⟩, g3, g4⟩ : Lat))), .v (.int .i64 ((opnX (listC l.length mkHit (hitsC l)) (⟨⟨g0, g1, g2⟩, g3, g4⟩ : Lat)).o.x)), .v (.int .i64 ((opnX (listC l.length mkHit (hitsC l)) (⟨⟨g0, g1, g2⟩, g3, g4⟩ : Lat)).o.y)), .v (.int .i64 ((opnX (listC l.length mkHit (hitsC l)) (⟨⟨g0, g1, g2⟩, g3, g4⟩ : Lat)).o.z)), .v (.int .i64 ((opnX (listC l.length mkHit (hitsC l)) (⟨⟨g0, g1, g2⟩, g3, g4⟩ : Lat)).st)), .v (.int .i64 ((opnX (listC l.length mkHit (hitsC l)) (⟨⟨g0, g1, g2⟩, g3, g4⟩ : Lat)).n)), .sl 1 ((opnS (listC l.length mkHit (hitsC l)) (⟨⟨g0, g1, g2⟩, g3, g4⟩ : Lat)).length) (rlsC (opnS (listC l.length mkHit (hitsC l)) (⟨⟨g0, g1, g2⟩, g3, g4⟩ : Lat)))]) = true ∧ slP 7 ((boxC [.sl 7 ((opnH (listC l.length mkHit (hitsC l)) (⟨⟨g0, g1, g2⟩, g3, g4⟩ : Lat)).length) (hitsC (opnH (listC l.length mkHit (hitsC l)) (⟨⟨g0, g1, g2⟩, g3, g4⟩ : Lat))), .v (.int .i64 ((opnX (listC l.length mkHit (hitsC l)) (⟨⟨g0, g1, g2⟩, g3, g4⟩ : Lat)).o.x)), .v (.int .i64 ((opnX (listC l.length mkHit (hitsC l)) (⟨⟨g0, g1, g2⟩, g3, g4⟩ : Lat)).o.y)), .v (.int .i64 ((opnX (listC l.length mkHit (hitsC l)) (⟨⟨g0, g1, g2⟩, g3, g4⟩ : Lat)).o.z)), .v (.int .i64 ((opnX (listC l.length mkHit (hitsC l)) (⟨⟨g0, g1, g2⟩, g3, g4⟩ : Lat)).st)), .v (.int .i64 ((opnX (listC l.length mkHit (hitsC l)) (⟨⟨g0, g1, g2⟩, g3, g4⟩ : Lat)).n)), .sl 1 ((opnS (listC l.length mkHit (hitsC l)) (⟨⟨g0, g1, g2⟩, g3, g4⟩ : Lat)).length) (rlsC (opnS (listC l.length mkHit (hitsC l)) (⟨⟨g0, g1, g2⟩, g3, g4⟩ : Lat)))]) 0) ∧ numsP 7 ((opnH (listC l.length mkHit (hitsC l)) (⟨⟨g0, g1, g2⟩, g3, g4⟩ : Lat)).length) (hitsC (opnH (listC l.length mkHit (hitsC l)) (⟨⟨g0, g1, g2⟩, g3, g4⟩ : Lat))) ∧ slP 1 ((boxC [.sl 7 ((opnH (listC l.length mkHit (hitsC l)) (⟨⟨g0, g1, g2⟩, g3, g4⟩ : Lat)).length) (hitsC (opnH (listC l.length mkHit (hitsC l)) (⟨⟨g0, g1, g2⟩, g3, g4⟩ : Lat))), .v (.int .i64 ((opnX (listC l.length mkHit (hitsC l)) (⟨⟨g0, g1, g2⟩, g3, g4⟩ : Lat)).o.x)), .v (.int .i64 ((opnX (listC l.length mkHit (hitsC l)) (⟨⟨g0, g1, g2⟩, g3, g4⟩ : Lat)).o.y)), .v (.int .i64 ((opnX (listC l.length mkHit (hitsC l)) (⟨⟨g0, g1, g2⟩, g3, g4⟩ : Lat)).o.z)), .v (.int .i64 ((opnX (listC l.length mkHit (hitsC l)) (⟨⟨g0, g1, g2⟩, g3, g4⟩ : Lat)).st)), .v (.int .i64 ((opnX (listC l.length mkHit (hitsC l)) (⟨⟨g0, g1, g2⟩, g3, g4⟩ : Lat)).n)), .sl 1 ((opnS (listC l.length mkHit (hitsC l)) (⟨⟨g0, g1, g2⟩, g3, g4⟩ : Lat)).length) (rlsC (opnS (listC l.length mkHit (hitsC l)) (⟨⟨g0, g1, g2⟩, g3, g4⟩ : Lat)))]) 6) ∧ rlP ((opnS (listC l.length mkHit (hitsC l)) (⟨⟨g0, g1, g2⟩, g3, g4⟩ : Lat)).length) (rlsC (opnS (listC l.length mkHit (hitsC l)) (⟨⟨g0, g1, g2⟩, g3, g4⟩ : Lat))) ∧ cnOk ((l.length : Nat) : Int) (rlOf ((opnS (listC l.length mkHit (hitsC l)) (⟨⟨g0, g1, g2⟩, g3, g4⟩ : Lat)).length) (rlsC (opnS (listC l.length mkHit (hitsC l)) (⟨⟨g0, g1, g2⟩, g3, g4⟩ : Lat))))) ∧ (post (.tu [.c (.sl 1 (((foldS (contB (rlOf ((opnS (listC l.length mkHit (hitsC l)) (⟨⟨g0, g1, g2⟩, g3, g4⟩ : Lat)).length) (rlsC (opnS (listC l.length mkHit (hitsC l)) (⟨⟨g0, g1, g2⟩, g3, g4⟩ : Lat))))) (2 ^ (((l.length : Nat) : Int)).toNat)).getD []).length) (numsC .i64 ((foldS (contB (rlOf ((opnS (listC l.length mkHit (hitsC l)) (⟨⟨g0, g1, g2⟩, g3, g4⟩ : Lat)).length) (rlsC (opnS (listC l.length mkHit (hitsC l)) (⟨⟨g0, g1, g2⟩, g3, g4⟩ : Lat))))) (2 ^ (((l.length : Nat) : Int)).toNat)).getD []))), .c (.v (.int .i64 (unl ((foldS (contB (rlOf ((opnS (listC l.length mkHit (hitsC l)) (⟨⟨g0, g1, g2⟩, g3, g4⟩ : Lat)).length) (rlsC (opnS (listC l.length mkHit (hitsC l)) (⟨⟨g0, g1, g2⟩, g3, g4⟩ : Lat))))) (2 ^ (((l.length : Nat) : Int)).toNat)).isSome) (12 : Int))))]))))
def ann_flash_Contradicting : Ann := ⟨fun _ => none, fun _ => none, fun _ => [], I1, true, fun _ => none, fun _ => none⟩
theorem ev_flash_Contradicting (J : Inv) (l : List FHit) (g0 g1 g2 g3 g4 : Int) (post : DV → Prop) : evFn Tryd.prog tab Sy131 ann_flash_Contradicting J Tryd.f66 [.t (.c (.sl 7 l.length (hitsC l))), .t (.a [.v (.int .i64 g0), .v (.int .i64 g1), .v (.int .i64 g2), .v (.int .i64 g3), .v (.int .i64 g4)])] post = vc_flash_Contradicting l g0 g1 g2 g3 g4 post := by kernel_rfl
theorem fit_flash_Contradicting : okFn ann_flash_Contradicting Tryd.f66 = true := by kernel_rfl
theorem lp_flash_Contradicting (J : Inv) (post : DV → Prop) : AllG J (loopsFn Tryd.prog tab Sy131 ann_flash_Contradicting J Tryd.f66 post) = (True) := by kernel_rfl
theorem spec_flash_Contradicting (l : List FHit) (g0 g1 g2 g3 g4 : Int) : vc_flash_Contradicting l g0 g1 g2 g3 g4 (fun r => LeD r (.tu [.c (.sl 1 ((cnL l (⟨⟨g0, g1, g2⟩, g3, g4⟩ : Lat)).length) (intsC (cnL l (⟨⟨g0, g1, g2⟩, g3, g4⟩ : Lat)))), .c (.v (.int .i64 (cnE l (⟨⟨g0, g1, g2⟩, g3, g4⟩ : Lat))))])) := by
 unfold vc_flash_Contradicting
 simp only [hits_listC, rls_of]
 refine ⟨numsP_hits l, cond_i (fun h => ?_) (fun h => ?_)⟩
 ·have h : bothE l (⟨⟨g0, g1, g2⟩, g3, g4⟩ : Lat) ≠ 0 := by simpa using h
  rw [show cnL l (⟨⟨g0, g1, g2⟩, g3, g4⟩ : Lat) = [] from if_neg h, show cnE l (⟨⟨g0, g1, g2⟩, g3, g4⟩ : Lat) = bothE l (⟨⟨g0, g1, g2⟩, g3, g4⟩ : Lat) from if_pos h]
  exact le_tu le_nil (LeD.refl _)
 ·have h : bothE l (⟨⟨g0, g1, g2⟩, g3, g4⟩ : Lat) = 0 := by simpa using h
  rw [show cnL l (⟨⟨g0, g1, g2⟩, g3, g4⟩ : Lat) = _ from if_pos h, show cnE l (⟨⟨g0, g1, g2⟩, g3, g4⟩ : Lat) = _ from if_neg (by rw [h]; simp)]
  refine ⟨⟨rfl, rfl, numsP_hits _, rfl, rlP_rls _, cnOk_opn h⟩, ?_⟩
  rw [opnS_all h]
  exact LeD.refl _
def con_flash_Contradicting : Con := fun args => match args with
 | [.t (.c (.sl 7 n_l c_l)), .t (.a [.v (.int .i64 g0), .v (.int .i64 g1), .v (.int .i64 g2), .v (.int .i64 g3), .v (.int .i64 g4)])] => some (.tu [.c (.sl 1 ((cnL (listC n_l mkHit c_l) (⟨⟨g0, g1, g2⟩, g3, g4⟩ : Lat)).length) (intsC (cnL (listC n_l mkHit c_l) (⟨⟨g0, g1, g2⟩, g3, g4⟩ : Lat)))), .c (.v (.int .i64 (cnE (listC n_l mkHit c_l) (⟨⟨g0, g1, g2⟩, g3, g4⟩ : Lat))))], some (numsP 7 n_l c_l), true)
 | _ => none
theorem ok_flash_Contradicting : Ok Tryd.prog 66 con_flash_Contradicting := by
 refine Ok.fnFr (ann := ann_flash_Contradicting) mixed tabOK VSy131 VI1 rfl (fn := Tryd.f66) (by kernel_rfl) (by kernel_rfl) fit_flash_Contradicting fun args r pre fresh h hp => ?_
 unfold con_flash_Contradicting at h
 split at h
 ·rename_i n_l c_l g0 g1 g2 g3 g4
  cases h
  have hp0 := hp
  refine ⟨rfl, (by intro x hx; simp only [List.mem_cons, List.not_mem_nil, or_false] at hx; rcases hx with rfl | rfl; exact (fun i j _ hj => plain_int _ i j); exact trivial), fun _ _ _ => False, [.t (.c (.sl 7 ((listC n_l mkHit c_l).length) (hitsC (listC n_l mkHit c_l)))), .t (.a [.v (.int .i64 g0), .v (.int .i64 g1), .v (.int .i64 g2), .v (.int .i64 g3), .v (.int .i64 g4)])], ?_, Nat.le_of_ble_eq_true (by kernel_rfl), ?_, ?_⟩
  ·exact (LeA_cons (leT_c ((leL_FHit hp0))) (LeA_cons (LeD.refl _) LeA_nil))
  ·rw [ev_flash_Contradicting]; exact spec_flash_Contradicting (listC n_l mkHit c_l) g0 g1 g2 g3 g4
  ·rw [lp_flash_Contradicting]; trivial
 ·cases h
noncomputable def Sy132 : Sum := addS Sy131 66 con_flash_Contradicting
theorem VSy132 : Valid Tryd.prog Sy132 := Valid.add VSy131 ok_flash_Contradicting
end Go.Proofs.YtmhgjlapkhdlmaaDoor
set_option linter.unusedVariables false
set_option linter.unusedSimpArgs false
namespace Go.Proofs.YtmhgjlapkhdlmaaDoor
open Go.RowKit Ev
theorem lt_v {α : Type} {v : α} {k : α → Prop} : lt v k = k v := by unfold lt; rfl
theorem n00 : (((0 : Nat) : Int) == (0 : Int)) = true := rfl
theorem wr00 : IntKind.i64.wrap (((0 : Nat) : Int) + ((0 : Nat) : Int)) = 0 := rfl
def vc_ref06_BothErr (l : List FHit) (g0 g1 g2 g3 g4 : Int) (post : DV → Prop) : Prop := (numsP 7 l.length (hitsC l)) ∧ (cond ((hitsE (listC l.length mkHit (hitsC l))) != (0 : Int)) (post (.t (.c (.v (.int .i64 (hitsE (listC l.length mkHit (hitsC l)))))))) (post (.t (.c (.v (.int .i64 (latE (⟨⟨g0, g1, g2⟩, g3, g4⟩ : Lat))))))))
def ann_ref06_BothErr : Ann := ⟨fun _ => none, fun _ => none, fun _ => [], I1, false, fun _ => none, fun _ => none⟩
theorem ev_ref06_BothErr (J : Inv) (l : List FHit) (g0 g1 g2 g3 g4 : Int) (post : DV → Prop) : evFn Tryd.prog tab Sy132 ann_ref06_BothErr J Tryd.f65 [.t (.c (.sl 7 l.length (hitsC l))), .t (.a [.v (.int .i64 g0), .v (.int .i64 g1), .v (.int .i64 g2), .v (.int .i64 g3), .v (.int .i64 g4)])] post = vc_ref06_BothErr l g0 g1 g2 g3 g4 post := by kernel_rfl
theorem fit_ref06_BothErr : okFn ann_ref06_BothErr Tryd.f65 = true := by kernel_rfl
theorem lp_ref06_BothErr (J : Inv) (post : DV → Prop) : AllG J (loopsFn Tryd.prog tab Sy132 ann_ref06_BothErr J Tryd.f65 post) = (True) := by kernel_rfl
theorem spec_ref06_BothErr (l : List FHit) (g0 g1 g2 g3 g4 : Int) : vc_ref06_BothErr l g0 g1 g2 g3 g4 (fun r => LeD r (.t (.c (.v (.int .i64 (bothE l (⟨⟨g0, g1, g2⟩, g3, g4⟩ : Lat))))))) := by
 unfold vc_ref06_BothErr
 simp only [hits_listC]
 refine ⟨numsP_hits l, cond_i (fun h => leI ?_) (fun h => leI ?_)⟩
 ·have h : hitsE l ≠ 0 := by simpa using h
  simp [bothE, firstNZ, h]
 ·have h : hitsE l = 0 := by simpa using h
  unfold bothE
  rw [h]
  by_cases e : latE (⟨⟨g0, g1, g2⟩, g3, g4⟩ : Lat) = 0
  ·rw [e]; rfl
  ·simp [firstNZ, e]
def con_ref06_BothErr : Con := fun args => match args with
 | [.t (.c (.sl 7 n_l c_l)), .t (.a [.v (.int .i64 g0), .v (.int .i64 g1), .v (.int .i64 g2), .v (.int .i64 g3), .v (.int .i64 g4)])] => some (.t (.c (.v (.int .i64 (bothE (listC n_l mkHit c_l) (⟨⟨g0, g1, g2⟩, g3, g4⟩ : Lat))))), some (numsP 7 n_l c_l), false)
 | _ => none
theorem ok_ref06_BothErr : Ok Tryd.prog 65 con_ref06_BothErr := by
 refine Ok.fn (ann := ann_ref06_BothErr) mixed tabOK VSy132 VI1 (fn := Tryd.f65) (by kernel_rfl) (by kernel_rfl) fit_ref06_BothErr fun args r pre fresh h hp => ?_
 unfold con_ref06_BothErr at h
 split at h
 ·rename_i n_l c_l g0 g1 g2 g3 g4
  cases h
  have hp0 := hp
  refine ⟨rfl, fun _ _ _ => False, [.t (.c (.sl 7 ((listC n_l mkHit c_l).length) (hitsC (listC n_l mkHit c_l)))), .t (.a [.v (.int .i64 g0), .v (.int .i64 g1), .v (.int .i64 g2), .v (.int .i64 g3), .v (.int .i64 g4)])], ?_, Nat.le_of_ble_eq_true (by kernel_rfl), ?_, ?_⟩
  ·exact (LeA_cons (leT_c ((leL_FHit hp0))) (LeA_cons (LeD.refl _) LeA_nil))
  ·rw [ev_ref06_BothErr]; exact spec_ref06_BothErr (listC n_l mkHit c_l) g0 g1 g2 g3 g4
  ·rw [lp_ref06_BothErr]; trivial
 ·cases h
noncomputable def Sz133 : Sum := addS Sy132 65 con_ref06_BothErr
theorem VSz133 : Valid Tryd.prog Sz133 := Valid.add VSy132 ok_ref06_BothErr
noncomputable def Sz134 : Sum := Sz133
theorem VSz134 : Valid Tryd.prog Sz134 := VSz133
noncomputable def Sz135 : Sum := Sz134
theorem VSz135 : Valid Tryd.prog Sz135 := VSz134
noncomputable def Sz136 : Sum := Sz135
theorem VSz136 : Valid Tryd.prog Sz136 := VSz135
noncomputable def Sz137 : Sum := Sz136
theorem VSz137 : Valid Tryd.prog Sz137 := VSz136
noncomputable def Sz138 : Sum := Sz137
theorem VSz138 : Valid Tryd.prog Sz138 := VSz137
noncomputable def Sz139 : Sum := Sz138
theorem VSz139 : Valid Tryd.prog Sz139 := VSz138
noncomputable def Sz140 : Sum := Sz139
theorem VSz140 : Valid Tryd.prog Sz140 := VSz139
end Go.Proofs.YtmhgjlapkhdlmaaDoor
set_option linter.unusedVariables false
set_option linter.unusedSimpArgs false
namespace Go.Proofs.YtmhgjlapkhdlmaaDoor
open Go.RowKit Ev
def woK (s : List Int) (j : Int) (k : Nat) : List Int := ((List.range k).filter fun i : Nat => decide ((i : Int) ≠ j)).map fun i : Nat => s.getD i 0
theorem woK_all (s : List Int) (j : Int) : woK s j s.length = wo s j := rfl
theorem woK_succ (s : List Int) (j : Int) (k : Nat) : woK s j (k + 1) = woK s j k ++ (if (k : Int) ≠ j then [s.getD k 0] else []) := by
 unfold woK
 rw [List.range_succ, List.filter_append, List.map_append]
 congr 1
 rw [List.filter_cons]
 by_cases h : (k : Int) = j <;> simp [h]
theorem woK_len (s : List Int) (j : Int) (k : Nat) : (woK s j k).length ≤ k := by
 unfold woK
 rw [List.length_map]
 have := List.length_filter_le (fun i : Nat => decide ((i : Int) ≠ j)) (List.range k)
 rwa [List.length_range] at this
def fewP (l : List FHit) (x : Lat) : Prop := bothE l x = 0 ∧ (2 ≤ (cnL l x).length ∧ (cnL l x).length ≤ l.length) ∧ (∀ i ∈ cnL l x, 0 ≤ i ∧ i < l.length) ∧ (cnL l x).Pairwise (· < ·) ∧ okH (subH l (cnL l x)) ∧ vtxR (subH l (cnL l x)) x = [] ∧ ∀ j : Nat, j < (cnL l x).length → okH (subH l (wo (cnL l x) j)) ∧ vtxR (subH l (wo (cnL l x) j)) x ≠ []
def mk_law06_FlashFewest_0 (l : List FHit) (g0 g1 g2 g3 g4 : Int) (v0_0 : Int) : DS := ⟨[some (.t (.c (.sl 7 l.length (hitsC l)))), none, none, some (.t (.c (.p 3 0))), none, some (.t (.c (.sl 1 ((cnL (listC ((listC l.length mkHit (hitsC l)).length) mkHit (hitsC (listC l.length mkHit (hitsC l)))) (⟨⟨g0, g1, g2⟩, g3, g4⟩ : Lat)).length) (intsC (cnL (listC ((listC l.length mkHit (hitsC l)).length) mkHit (hitsC (listC l.length mkHit (hitsC l)))) (⟨⟨g0, g1, g2⟩, g3, g4⟩ : Lat)))))), none, none, none, none, some (.t (.c (.v (.int .i64 v0_0)))), none, none, none, none, none, none, none, none, none, none, none, none, none, none, none, none, none, none, none, none, none, none, none, none, none, none, none, none, none, none, none, none, none, none, none, none, none, none, none, none, none, none, none, none, none, none, none, none, none, none, none, none, none, none, none, none, none, none, none, none, none, none, none, none, none, none, none, none, none, none, none, none, none, none, none, none, none, none, none, none, none, none, none, none, none, none, none, none, none, none, none, none, none, none, none, none, none, none, none, none, none, none, none, none, none, none, none, none, none, none, none, none, none, none, none, none, none, none, none, none, none, none, none, none, none, none, none, none], [none, none, none, some (.box 26 [.v (.int .i64 g0), .v (.int .i64 g1), .v (.int .i64 g2), .v (.int .i64 g3), .v (.int .i64 g4)]), none, none, none, none, none, none, none, none, none, none, none, none, none, none, none, none, none, none, none, none, none, none, none, none, none, none, none, none, none, none, none, none, none, none, none, none, none, none, none, none, none, none, none, none, none, none, none, none, none, none, none, none, none, none, none, none, none, none, none, none, none, none, none, none, none, none, none, none, none, none, none, none, none, none, none, none, none, none, none, none, none, none, none, none, none, none, none, none, none, none, none, none, none, none, none, none, none, none, none, none, none, none, none, none, none, none, none, none, none, none, none, none, none, none, none, none, none, none, none, none, none, none, none, none, none, none, none, none, none, none, none, none, none, none, none]⟩
def mk_law06_FlashFewest_2 (l : List FHit) (g0 g1 g2 g3 g4 : Int) (v2_0 : List (List CV)) (v2_1 : Int) (v2_2 : Int) : DS := ⟨[some (.t (.c (.sl 7 l.length (hitsC l)))), none, none, some (.t (.c (.p 3 0))), none, some (.t (.c (.sl 1 ((cnL (listC ((listC l.length mkHit (hitsC l)).length) mkHit (hitsC (listC l.length mkHit (hitsC l)))) (⟨⟨g0, g1, g2⟩, g3, g4⟩ : Lat)).length) (intsC (cnL (listC ((listC l.length mkHit (hitsC l)).length) mkHit (hitsC (listC l.length mkHit (hitsC l)))) (⟨⟨g0, g1, g2⟩, g3, g4⟩ : Lat)))))), none, none, none, none, some (.t (.c (.v (.int .i64 v2_1)))), some (.t (.c (.os 11))), some (.t (.c (.v (.int .i64 v2_2)))), none, none, none, none, none, none, none, none, none, none, none, none, none, none, none, none, none, none, none, none, none, none, none, none, none, none, none, none, none, none, none, none, none, none, none, none, none, none, none, none, none, none, none, none, none, none, none, none, none, none, none, none, none, none, none, none, none, none, none, none, none, none, none, none, none, none, none, none, none, none, none, none, none, none, none, none, none, none, none, none, none, none, none, none, none, none, none, none, none, none, none, none, none, none, none, none, none, none, none, none, none, none, none, none, none, none, none, none, none, none, none, none, none, none, none, none, none, none, none, none, none, none, none, none, none, none], [none, none, none, some (.box 26 [.v (.int .i64 g0), .v (.int .i64 g1), .v (.int .i64 g2), .v (.int .i64 g3), .v (.int .i64 g4)]), none, none, none, none, none, none, none, some (.gen 107 7 v2_0), none, none, none, none, none, none, none, none, none, none, none, none, none, none, none, none, none, none, none, none, none, none, none, none, none, none, none, none, none, none, none, none, none, none, none, none, none, none, none, none, none, none, none, none, none, none, none, none, none, none, none, none, none, none, none, none, none, none, none, none, none, none, none, none, none, none, none, none, none, none, none, none, none, none, none, none, none, none, none, none, none, none, none, none, none, none, none, none, none, none, none, none, none, none, none, none, none, none, none, none, none, none, none, none, none, none, none, none, none, none, none, none, none, none, none, none, none, none, none, none, none, none, none, none, none, none, none]⟩
def vc_law06_FlashFewest (J : Inv) (l : List FHit) (g0 g1 g2 g3 g4 : Int) (post : DV → Prop) : Prop := (numsP 7 l.length (hitsC l)) ∧ (cond (!(decide (((listC l.length mkHit (hitsC l))).length ≤ 10))) ((true = true) ∧ (post (.t (.c (.v (.bool true)))))) ((numsP 7 l.length (hitsC l)) ∧ (cond ((bothE (listC l.length mkHit (hitsC l)) (⟨⟨g0, g1, g2⟩, g3, g4⟩ : Lat)) != (0 : Int)) (post (.t (.c (.v (.bool true))))) ((numsP 7 l.length (hitsC l) ∧ ((listC l.length mkHit (hitsC l))).length ≤ 1000) ∧ ((numsP 7 ((listC l.length mkHit (hitsC l)).length) (hitsC (listC l.length mkHit (hitsC l)))) ∧ ((numsP 7 l.length (hitsC l) ∧ ((listC l.length mkHit (hitsC l))).length ≤ 1000) ∧ ((numsP 7 ((listC l.length mkHit (hitsC l)).length) (hitsC (listC l.length mkHit (hitsC l)))) ∧ (cond ((bothE (listC ((listC l.length mkHit (hitsC l)).length) mkHit (hitsC (listC l.length mkHit (hitsC l)))) (⟨⟨g0, g1, g2⟩, g3, g4⟩ : Lat)) != (0 : Int)) ((true = true) ∧ ((true = true) ∧ (post (.t (.c (.v (.bool false))))))) (cond (decide ((clsM (listC ((listC l.length mkHit (hitsC l)).length) mkHit (hitsC (listC l.length mkHit (hitsC l)))) (⟨⟨g0, g1, g2⟩, g3, g4⟩ : Lat)) < (0 : Int))) ((true = true) ∧ (post (.t (.c (.v (.bool false)))))) (cond (((cnE (listC ((listC l.length mkHit (hitsC l)).length) mkHit (hitsC (listC l.length mkHit (hitsC l)))) (⟨⟨g0, g1, g2⟩, g3, g4⟩ : Lat)) == (0 : Int)) != (decide ((clsM (listC ((listC l.length mkHit (hitsC l)).length) mkHit (hitsC (listC l.length mkHit (hitsC l)))) (⟨⟨g0, g1, g2⟩, g3, g4⟩ : Lat)) > (0 : Int)))) (post (.t (.c (.v (.bool false))))) (cond ((cnE (listC ((listC l.length mkHit (hitsC l)).length) mkHit (hitsC (listC l.length mkHit (hitsC l)))) (⟨⟨g0, g1, g2⟩, g3, g4⟩ : Lat)) != (0 : Int)) (cond ((cnE (listC ((listC l.length mkHit (hitsC l)).length) mkHit (hitsC (listC l.length mkHit (hitsC l)))) (⟨⟨g0, g1, g2⟩, g3, g4⟩ : Lat)) == (12 : Int)) (post (.t (.c (.v (.bool ((((cnL (listC ((listC l.length mkHit (hitsC l)).length) mkHit (hitsC (listC l.length mkHit (hitsC l)))) (⟨⟨g0, g1, g2⟩, g3, g4⟩ : Lat)).length : Nat) : Int) == (0 : Int))))))) ((false = false) ∧ (post (.t (.c (.v (.bool false))))))) (cond (decide ((((cnL (listC ((listC l.length mkHit (hitsC l)).length) mkHit (hitsC (listC l.length mkHit (hitsC l)))) (⟨⟨g0, g1, g2⟩, g3, g4⟩ : Lat)).length : Nat) : Int) < (2 : Int))) ((true = true) ∧ (post (.t (.c (.v (.bool false)))))) (cond (decide ((((cnL (listC ((listC l.length mkHit (hitsC l)).length) mkHit (hitsC (listC l.length mkHit (hitsC l)))) (⟨⟨g0, g1, g2⟩, g3, g4⟩ : Lat)).length : Nat) : Int) > ((l.length : Nat) : Int))) (post (.t (.c (.v (.bool false))))) (∃ n, J 0 (n :: []) (mk_law06_FlashFewest_0 l g0 g1 g2 g3 g4 (-1))))))))))))))))
def ann_law06_FlashFewest : Ann := ⟨fun r => lookA r [(5, ([[], [0], [], [0, 1, 2], [0, 1, 2, 3], [0, 1, 2, 3, 4], [0, 1, 2, 3, 4], [0, 1, 2, 3, 4, 5], [0, 1, 2, 3, 4, 5, 6, 7]], [[28, 30], [30], [28, 30], [], [], [], [], [], []])), (6, ([[], [0], [], [0, 1, 2], [0, 1, 2, 3], [0, 1, 2, 3, 4], [0, 1, 2, 3, 4], [0, 1, 2, 3, 4], [0, 1, 2, 3, 4, 5], [0, 1, 2, 3, 4, 5, 6, 8], [0, 1, 2, 3, 4, 5, 6, 7, 8, 9]], [[35, 37], [37], [35, 37], [], [], [], [], [], [], [], []])), (20, ([[], [], [0, 1], [0, 1, 2], [], [4], [4, 5], [0, 1, 2, 3, 4, 5, 6], [0, 1, 2, 3, 4, 5, 6, 7], [0, 1, 2, 3, 4, 5, 6, 7, 8], [0, 1, 2, 3, 4, 5, 6, 7, 8, 9], [0, 1, 2, 3, 4, 5, 6, 7, 8, 9, 10], [0, 1, 2, 3, 4, 5, 6, 7, 8, 9, 10, 11], [0, 1, 2, 3, 4, 5, 6, 7, 8, 9, 10, 11, 12], [0, 1, 2, 3, 4, 5, 6, 7, 8, 9, 10, 11, 12], [0, 1, 2, 3, 4, 5, 6, 7, 8, 9, 10, 11, 12, 13, 14], [0, 1, 2, 3, 4, 5, 6, 7, 8, 9, 10, 11, 12, 13, 14, 15], [0, 1, 2, 3, 4, 5, 6, 7, 8, 9, 10, 11, 12], [0, 1, 2, 3, 4, 5, 6, 7, 8, 9, 10, 11, 12], [0, 1, 2, 3, 4, 5, 6, 7, 8, 9, 10, 11, 12, 18], [0, 1, 2, 3, 4, 5, 6, 7, 8, 9, 10, 11, 12, 17, 18, 19], [0, 1, 2, 3, 4, 5, 6, 7, 8, 9, 10, 11, 12, 17, 18, 19, 20], [0, 1, 2, 3, 4, 5, 6, 7, 8, 9, 10, 11, 12, 13, 14, 15, 16, 17, 18, 19, 20, 21], [0, 1, 2, 3, 4, 5, 6, 7, 8, 9, 10, 11, 12, 13, 14, 15, 16, 17, 18, 19, 20, 21, 22], [0, 1, 2, 3, 4, 5, 6, 7, 8, 9, 10, 11, 12, 13, 14, 15, 16, 17, 18, 19, 20, 21, 22, 23]], [[92], [92], [92], [92], [92], [92], [92], [], [], [], [], [], [], [], [], [], [], [], [], [], [], [], [], [], []]))], fun b => lookA b [(0, (none, some ⟨[0, 3, 5, 10], [3], []⟩)), (2, (none, some ⟨[0, 3, 5, 10, 12], [3], [(11, .gen 107 7 [])]⟩))], fun _ => [], I1, false, fun _ => none, fun _ => none⟩
theorem ev_law06_FlashFewest (J : Inv) (l : List FHit) (g0 g1 g2 g3 g4 : Int) (post : DV → Prop) : evFn Tryd.prog tab Sz140 ann_law06_FlashFewest J Tryd.f9 [.t (.c (.sl 7 l.length (hitsC l))), .t (.a [.v (.int .i64 g0), .v (.int .i64 g1), .v (.int .i64 g2), .v (.int .i64 g3), .v (.int .i64 g4)])] post = vc_law06_FlashFewest J l g0 g1 g2 g3 g4 post := by kernel_rfl
theorem fit_law06_FlashFewest : okFn ann_law06_FlashFewest Tryd.f9 = true := by kernel_rfl
def rd_law06_FlashFewest_0 (J : Inv) (l : List FHit) (g0 g1 g2 g3 g4 : Int) (v0_0 : Int) (nn0 : Nat) (post : DV → Prop) : Prop := cond (decide (v0_0 < (((cnL (listC ((listC l.length mkHit (hitsC l)).length) mkHit (hitsC (listC l.length mkHit (hitsC l)))) (⟨⟨g0, g1, g2⟩, g3, g4⟩ : Lat)).length : Nat) : Int))) (∃ n, J 2 (n :: nn0 :: []) (mk_law06_FlashFewest_2 l g0 g1 g2 g3 g4 ([]) v0_0 0)) (post (.t (.c (.v (.bool true)))))
theorem er_law06_FlashFewest_0 (J : Inv) (l : List FHit) (g0 g1 g2 g3 g4 : Int) (v0_0 : Int) (nn0 : Nat) (post : DV → Prop) : round Tryd.prog tab Sz140 ann_law06_FlashFewest J Tryd.f9 post 0 (nn0 :: []) (mk_law06_FlashFewest_0 l g0 g1 g2 g3 g4 v0_0) = rd_law06_FlashFewest_0 J l g0 g1 g2 g3 g4 v0_0 nn0 post := by kernel_rfl
def rd_law06_FlashFewest_2 (J : Inv) (l : List FHit) (g0 g1 g2 g3 g4 : Int) (v2_0 : List (List CV)) (v2_1 : Int) (v2_2 : Int) (nn2 nn0 : Nat) (post : DV → Prop) : Prop := cond (decide (v2_2 < (((cnL (listC ((listC l.length mkHit (hitsC l)).length) mkHit (hitsC (listC l.length mkHit (hitsC l)))) (⟨⟨g0, g1, g2⟩, g3, g4⟩ : Lat)).length : Nat) : Int))) ((0 ≤ v2_2 ∧ v2_2 < (((cnL (listC ((listC l.length mkHit (hitsC l)).length) mkHit (hitsC (listC l.length mkHit (hitsC l)))) (⟨⟨g0, g1, g2⟩, g3, g4⟩ : Lat)).length : Nat) : Int)) ∧ (lt (IntKind.i64.wrap (((l.length : Nat) : Int) - (1 : Int))) fun x1 => cond (!(inB ((cnL (listC ((listC l.length mkHit (hitsC l)).length) mkHit (hitsC (listC l.length mkHit (hitsC l)))) (⟨⟨g0, g1, g2⟩, g3, g4⟩ : Lat)).getD v2_2.toNat 0) (0 : Int) x1)) ((true = true) ∧ (post (.t (.c (.v (.bool false)))))) (cond (decide (v2_2 > (0 : Int))) ((0 ≤ v2_2 ∧ v2_2 < (((cnL (listC ((listC l.length mkHit (hitsC l)).length) mkHit (hitsC (listC l.length mkHit (hitsC l)))) (⟨⟨g0, g1, g2⟩, g3, g4⟩ : Lat)).length : Nat) : Int)) ∧ (lt (IntKind.i64.wrap (v2_2 - (1 : Int))) fun x2 => (0 ≤ x2 ∧ x2 < (((cnL (listC ((listC l.length mkHit (hitsC l)).length) mkHit (hitsC (listC l.length mkHit (hitsC l)))) (⟨⟨g0, g1, g2⟩, g3, g4⟩ : Lat)).length : Nat) : Int)) ∧ (cond (decide (((cnL (listC ((listC l.length mkHit (hitsC l)).length) mkHit (hitsC (listC l.length mkHit (hitsC l)))) (⟨⟨g0, g1, g2⟩, g3, g4⟩ : Lat)).getD v2_2.toNat 0) ≤ ((cnL (listC ((listC l.length mkHit (hitsC l)).length) mkHit (hitsC (listC l.length mkHit (hitsC l)))) (⟨⟨g0, g1, g2⟩, g3, g4⟩ : Lat)).getD x2.toNat 0))) (post (.t (.c (.v (.bool false))))) (cond (v2_2 != v2_1) ((0 ≤ v2_2 ∧ v2_2 < (((cnL (listC ((listC l.length mkHit (hitsC l)).length) mkHit (hitsC (listC l.length mkHit (hitsC l)))) (⟨⟨g0, g1, g2⟩, g3, g4⟩ : Lat)).length : Nat) : Int)) ∧ ((0 ≤ ((cnL (listC ((listC l.length mkHit (hitsC l)).length) mkHit (hitsC (listC l.length mkHit (hitsC l)))) (⟨⟨g0, g1, g2⟩, g3, g4⟩ : Lat)).getD v2_2.toNat 0) ∧ ((cnL (listC ((listC l.length mkHit (hitsC l)).length) mkHit (hitsC (listC l.length mkHit (hitsC l)))) (⟨⟨g0, g1, g2⟩, g3, g4⟩ : Lat)).getD v2_2.toNat 0) < ((l.length : Nat) : Int)) ∧ ((roomP 56 (v2_0.length + ([[.v (.int .i64 ((hitAt l (((cnL (listC ((listC l.length mkHit (hitsC l)).length) mkHit (hitsC (listC l.length mkHit (hitsC l)))) (⟨⟨g0, g1, g2⟩, g3, g4⟩ : Lat)).getD v2_2.toNat 0).toNat)).p.x)), .v (.int .i64 ((hitAt l (((cnL (listC ((listC l.length mkHit (hitsC l)).length) mkHit (hitsC (listC l.length mkHit (hitsC l)))) (⟨⟨g0, g1, g2⟩, g3, g4⟩ : Lat)).getD v2_2.toNat 0).toNat)).p.y)), .v (.int .i64 ((hitAt l (((cnL (listC ((listC l.length mkHit (hitsC l)).length) mkHit (hitsC (listC l.length mkHit (hitsC l)))) (⟨⟨g0, g1, g2⟩, g3, g4⟩ : Lat)).getD v2_2.toNat 0).toNat)).p.z)), .v (.int .i64 ((hitAt l (((cnL (listC ((listC l.length mkHit (hitsC l)).length) mkHit (hitsC (listC l.length mkHit (hitsC l)))) (⟨⟨g0, g1, g2⟩, g3, g4⟩ : Lat)).getD v2_2.toNat 0).toNat)).t.lo)), .v (.int .i64 ((hitAt l (((cnL (listC ((listC l.length mkHit (hitsC l)).length) mkHit (hitsC (listC l.length mkHit (hitsC l)))) (⟨⟨g0, g1, g2⟩, g3, g4⟩ : Lat)).getD v2_2.toNat 0).toNat)).t.hi)), .v (.int .i64 ((hitAt l (((cnL (listC ((listC l.length mkHit (hitsC l)).length) mkHit (hitsC (listC l.length mkHit (hitsC l)))) (⟨⟨g0, g1, g2⟩, g3, g4⟩ : Lat)).getD v2_2.toNat 0).toNat)).c.lo)), .v (.int .i64 ((hitAt l (((cnL (listC ((listC l.length mkHit (hitsC l)).length) mkHit (hitsC (listC l.length mkHit (hitsC l)))) (⟨⟨g0, g1, g2⟩, g3, g4⟩ : Lat)).getD v2_2.toNat 0).toNat)).c.hi))]] : List (List CV)).length)) ∧ (lt (IntKind.i64.wrap (v2_2 + (1 : Int))) fun x3 => J 2 (nn2 :: nn0 :: []) (mk_law06_FlashFewest_2 l g0 g1 g2 g3 g4 (v2_0 ++ ([[.v (.int .i64 ((hitAt l (((cnL (listC ((listC l.length mkHit (hitsC l)).length) mkHit (hitsC (listC l.length mkHit (hitsC l)))) (⟨⟨g0, g1, g2⟩, g3, g4⟩ : Lat)).getD v2_2.toNat 0).toNat)).p.x)), .v (.int .i64 ((hitAt l (((cnL (listC ((listC l.length mkHit (hitsC l)).length) mkHit (hitsC (listC l.length mkHit (hitsC l)))) (⟨⟨g0, g1, g2⟩, g3, g4⟩ : Lat)).getD v2_2.toNat 0).toNat)).p.y)), .v (.int .i64 ((hitAt l (((cnL (listC ((listC l.length mkHit (hitsC l)).length) mkHit (hitsC (listC l.length mkHit (hitsC l)))) (⟨⟨g0, g1, g2⟩, g3, g4⟩ : Lat)).getD v2_2.toNat 0).toNat)).p.z)), .v (.int .i64 ((hitAt l (((cnL (listC ((listC l.length mkHit (hitsC l)).length) mkHit (hitsC (listC l.length mkHit (hitsC l)))) (⟨⟨g0, g1, g2⟩, g3, g4⟩ : Lat)).getD v2_2.toNat 0).toNat)).t.lo)), .v (.int .i64 ((hitAt l (((cnL (listC ((listC l.length mkHit (hitsC l)).length) mkHit (hitsC (listC l.length mkHit (hitsC l)))) (⟨⟨g0, g1, g2⟩, g3, g4⟩ : Lat)).getD v2_2.toNat 0).toNat)).t.hi)), .v (.int .i64 ((hitAt l (((cnL (listC ((listC l.length mkHit (hitsC l)).length) mkHit (hitsC (listC l.length mkHit (hitsC l)))) (⟨⟨g0, g1, g2⟩, g3, g4⟩ : Lat)).getD v2_2.toNat 0).toNat)).c.lo)), .v (.int .i64 ((hitAt l (((cnL (listC ((listC l.length mkHit (hitsC l)).length) mkHit (hitsC (listC l.length mkHit (hitsC l)))) (⟨⟨g0, g1, g2⟩, g3, g4⟩ : Lat)).getD v2_2.toNat 0).toNat)).c.hi))]] : List (List CV))) v2_1 x3))))) (lt (IntKind.i64.wrap (v2_2 + (1 : Int))) fun x4 => J 2 (nn2 :: nn0 :: []) (mk_law06_FlashFewest_2 l g0 g1 g2 g3 g4 v2_0 v2_1 x4)))))) ((false = false) ∧ (cond (v2_2 != v2_1) ((0 ≤ v2_2 ∧ v2_2 < (((cnL (listC ((listC l.length mkHit (hitsC l)).length) mkHit (hitsC (listC l.length mkHit (hitsC l)))) (⟨⟨g0, g1, g2⟩, g3, g4⟩ : Lat)).length : Nat) : Int)) ∧ ((0 ≤ ((cnL (listC ((listC l.length mkHit (hitsC l)).length) mkHit (hitsC (listC l.length mkHit (hitsC l)))) (⟨⟨g0, g1, g2⟩, g3, g4⟩ : Lat)).getD v2_2.toNat 0) ∧ ((cnL (listC ((listC l.length mkHit (hitsC l)).length) mkHit (hitsC (listC l.length mkHit (hitsC l)))) (⟨⟨g0, g1, g2⟩, g3, g4⟩ : Lat)).getD v2_2.toNat 0) < ((l.length : Nat) : Int)) ∧ ((roomP 56 (v2_0.length + ([[.v (.int .i64 ((hitAt l (((cnL (listC ((listC l.length mkHit (hitsC l)).length) mkHit (hitsC (listC l.length mkHit (hitsC l)))) (⟨⟨g0, g1, g2⟩, g3, g4⟩ : Lat)).getD v2_2.toNat 0).toNat)).p.x)), .v (.int .i64 ((hitAt l (((cnL (listC ((listC l.length mkHit (hitsC l)).length) mkHit (hitsC (listC l.length mkHit (hitsC l)))) (⟨⟨g0, g1, g2⟩, g3, g4⟩ : Lat)).getD v2_2.toNat 0).toNat)).p.y)), .v (.int .i64 ((hitAt l (((cnL (listC ((listC l.length mkHit (hitsC l)).length) mkHit (hitsC (listC l.length mkHit (hitsC l)))) (⟨⟨g0, g1, g2⟩, g3, g4⟩ : Lat)).getD v2_2.toNat 0).toNat)).p.z)), .v (.int .i64 ((hitAt l (((cnL (listC ((listC l.length mkHit (hitsC l)).length) mkHit (hitsC (listC l.length mkHit (hitsC l)))) (⟨⟨g0, g1, g2⟩, g3, g4⟩ : Lat)).getD v2_2.toNat 0).toNat)).t.lo)), .v (.int .i64 ((hitAt l (((cnL (listC ((listC l.length mkHit (hitsC l)).length) mkHit (hitsC (listC l.length mkHit (hitsC l)))) (⟨⟨g0, g1, g2⟩, g3, g4⟩ : Lat)).getD v2_2.toNat 0).toNat)).t.hi)), .v (.int .i64 ((hitAt l (((cnL (listC ((listC l.length mkHit (hitsC l)).length) mkHit (hitsC (listC l.length mkHit (hitsC l)))) (⟨⟨g0, g1, g2⟩, g3, g4⟩ : Lat)).getD v2_2.toNat 0).toNat)).c.lo)), .v (.int .i64 ((hitAt l (((cnL (listC ((listC l.length mkHit (hitsC l)).length) mkHit (hitsC (listC l.length mkHit (hitsC l)))) (⟨⟨g0, g1, g2⟩, g3, g4⟩ : Lat)).getD v2_2.toNat 0).toNat)).c.hi))]] : List (List CV)).length)) ∧ (lt (IntKind.i64.wrap (v2_2 + (1 : Int))) fun x5 => J 2 (nn2 :: nn0 :: []) (mk_law06_FlashFewest_2 l g0 g1 g2 g3 g4 (v2_0 ++ ([[.v (.int .i64 ((hitAt l (((cnL (listC ((listC l.length mkHit (hitsC l)).length) mkHit (hitsC (listC l.length mkHit (hitsC l)))) (⟨⟨g0, g1, g2⟩, g3, g4⟩ : Lat)).getD v2_2.toNat 0).toNat)).p.x)), .v (.int .i64 ((hitAt l (((cnL (listC ((listC l.length mkHit (hitsC l)).length) mkHit (hitsC (listC l.length mkHit (hitsC l)))) (⟨⟨g0, g1, g2⟩, g3, g4⟩ : Lat)).getD v2_2.toNat 0).toNat)).p.y)), .v (.int .i64 ((hitAt l (((cnL (listC ((listC l.length mkHit (hitsC l)).length) mkHit (hitsC (listC l.length mkHit (hitsC l)))) (⟨⟨g0, g1, g2⟩, g3, g4⟩ : Lat)).getD v2_2.toNat 0).toNat)).p.z)), .v (.int .i64 ((hitAt l (((cnL (listC ((listC l.length mkHit (hitsC l)).length) mkHit (hitsC (listC l.length mkHit (hitsC l)))) (⟨⟨g0, g1, g2⟩, g3, g4⟩ : Lat)).getD v2_2.toNat 0).toNat)).t.lo)), .v (.int .i64 ((hitAt l (((cnL (listC ((listC l.length mkHit (hitsC l)).length) mkHit (hitsC (listC l.length mkHit (hitsC l)))) (⟨⟨g0, g1, g2⟩, g3, g4⟩ : Lat)).getD v2_2.toNat 0).toNat)).t.hi)), .v (.int .i64 ((hitAt l (((cnL (listC ((listC l.length mkHit (hitsC l)).length) mkHit (hitsC (listC l.length mkHit (hitsC l)))) (⟨⟨g0, g1, g2⟩, g3, g4⟩ : Lat)).getD v2_2.toNat 0).toNat)).c.lo)), .v (.int .i64 ((hitAt l (((cnL (listC ((listC l.length mkHit (hitsC l)).length) mkHit (hitsC (listC l.length mkHit (hitsC l)))) (⟨⟨g0, g1, g2⟩, g3, g4⟩ : Lat)).getD v2_2.toNat 0).toNat)).c.hi))]] : List (List CV))) v2_1 x5))))) (lt (IntKind.i64.wrap (v2_2 + (1 : Int))) fun x6 => J 2 (nn2 :: nn0 :: []) (mk_law06_FlashFewest_2 l g0 g1 g2 g3 g4 v2_0 v2_1 x6))))))) ((numsP 7 v2_0.length (genC v2_0)) ∧ (cond ((bothE (listC v2_0.length mkHit (genC v2_0)) (⟨⟨g0, g1, g2⟩, g3, g4⟩ : Lat)) != (0 : Int)) ((true = true) ∧ (post (.t (.c (.v (.bool false)))))) (cond (((((vtxO (listC v2_0.length mkHit (genC v2_0)) (⟨⟨g0, g1, g2⟩, g3, g4⟩ : Lat)).length : Nat) : Int) == (0 : Int)) != (decide (v2_1 < (0 : Int)))) (post (.t (.c (.v (.bool false))))) (lt (IntKind.i64.wrap (v2_1 + (1 : Int))) fun x7 => J 0 (nn0 :: []) (mk_law06_FlashFewest_0 l g0 g1 g2 g3 g4 x7)))))
theorem er_law06_FlashFewest_2 (J : Inv) (l : List FHit) (g0 g1 g2 g3 g4 : Int) (v2_0 : List (List CV)) (v2_1 : Int) (v2_2 : Int) (nn2 nn0 : Nat) (post : DV → Prop) : round Tryd.prog tab Sz140 ann_law06_FlashFewest J Tryd.f9 post 1 (nn2 :: nn0 :: []) (mk_law06_FlashFewest_2 l g0 g1 g2 g3 g4 v2_0 v2_1 v2_2) = rd_law06_FlashFewest_2 J l g0 g1 g2 g3 g4 v2_0 v2_1 v2_2 nn2 nn0 post := by kernel_rfl
theorem lp_law06_FlashFewest (J : Inv) (post : DV → Prop) : AllG J (loopsFn Tryd.prog tab Sz140 ann_law06_FlashFewest J Tryd.f9 post) = (((∀ F s, ¬ J 0 (0 :: F) s) ∧ ∀ n F s, J 0 ((n + 1) :: F) s → round Tryd.prog tab Sz140 ann_law06_FlashFewest J Tryd.f9 post 0 (n :: F) s) ∧ ((∀ F s, ¬ J 2 (0 :: F) s) ∧ ∀ n F s, J 2 ((n + 1) :: F) s → round Tryd.prog tab Sz140 ann_law06_FlashFewest J Tryd.f9 post 1 (n :: F) s) ∧ True) := by kernel_rfl
def J_law06_FlashFewest (l : List FHit) (g0 g1 g2 g3 g4 : Int) : Inv := fun b F s => match b, F with
 | 0, [nn0] => ∃ (v0_0 : Int), s = mk_law06_FlashFewest_0 l g0 g1 g2 g3 g4 v0_0 ∧ (fewP l (⟨⟨g0, g1, g2⟩, g3, g4⟩ : Lat) ∧ -1 ≤ v0_0 ∧ v0_0 ≤ (cnL l (⟨⟨g0, g1, g2⟩, g3, g4⟩ : Lat)).length ∧ (nn0 : Int) + v0_0 = (cnL l (⟨⟨g0, g1, g2⟩, g3, g4⟩ : Lat)).length + 1)
 | 2, [nn2, nn0] => ∃ (v2_0 : List (List CV)) (v2_1 : Int) (v2_2 : Int), s = mk_law06_FlashFewest_2 l g0 g1 g2 g3 g4 v2_0 v2_1 v2_2 ∧ (fewP l (⟨⟨g0, g1, g2⟩, g3, g4⟩ : Lat) ∧ (-1 ≤ v2_1 ∧ v2_1 < (cnL l (⟨⟨g0, g1, g2⟩, g3, g4⟩ : Lat)).length ∧ (nn0 : Int) + v2_1 = (cnL l (⟨⟨g0, g1, g2⟩, g3, g4⟩ : Lat)).length) ∧ (0 ≤ v2_2 ∧ v2_2 ≤ (cnL l (⟨⟨g0, g1, g2⟩, g3, g4⟩ : Lat)).length ∧ (nn2 : Int) + v2_2 = (cnL l (⟨⟨g0, g1, g2⟩, g3, g4⟩ : Lat)).length + 1) ∧ v2_0 = (subH l (woK (cnL l (⟨⟨g0, g1, g2⟩, g3, g4⟩ : Lat)) v2_1 v2_2.toNat)).map hitCv)
 | _, _ => False
set_option maxHeartbeats 8000000 in
set_option maxRecDepth 100000 in
theorem rnd_law06_FlashFewest_0 (l : List FHit) (g0 g1 g2 g3 g4 : Int) (v0_0 : Int) (nn0 : Nat) (hi : fewP l (⟨⟨g0, g1, g2⟩, g3, g4⟩ : Lat) ∧ -1 ≤ v0_0 ∧ v0_0 ≤ (cnL l (⟨⟨g0, g1, g2⟩, g3, g4⟩ : Lat)).length ∧ ((nn0 + 1) : Int) + v0_0 = (cnL l (⟨⟨g0, g1, g2⟩, g3, g4⟩ : Lat)).length + 1) : rd_law06_FlashFewest_0 (J_law06_FlashFewest l g0 g1 g2 g3 g4) l g0 g1 g2 g3 g4 v0_0 nn0 (fun r => LeD r (.t (.c (.v (.bool true))))) := by
 obtain ⟨i0, i1, i2, i3⟩ := hi
 unfold rd_law06_FlashFewest_0
 simp only [hits_listC]
 refine cond_i (fun h => ?_) (fun h => LeD.refl _)
 have h := of_decide_eq_true h
 exact ⟨(cnL l (⟨⟨g0, g1, g2⟩, g3, g4⟩ : Lat)).length + 1, _, _, 0, rfl, i0, by omega, by omega, rfl⟩
theorem zero_law06_FlashFewest_0 (l : List FHit) (g0 g1 g2 g3 g4 : Int) (v0_0 : Int)  (hi : fewP l (⟨⟨g0, g1, g2⟩, g3, g4⟩ : Lat) ∧ -1 ≤ v0_0 ∧ v0_0 ≤ (cnL l (⟨⟨g0, g1, g2⟩, g3, g4⟩ : Lat)).length ∧ (0 : Int) + v0_0 = (cnL l (⟨⟨g0, g1, g2⟩, g3, g4⟩ : Lat)).length + 1) : False := by
 omega
set_option maxHeartbeats 8000000 in
set_option maxRecDepth 100000 in
theorem rnd_law06_FlashFewest_2 (l : List FHit) (g0 g1 g2 g3 g4 : Int) (v2_0 : List (List CV)) (v2_1 : Int) (v2_2 : Int) (nn2 nn0 : Nat) (hi : fewP l (⟨⟨g0, g1, g2⟩, g3, g4⟩ : Lat) ∧ (-1 ≤ v2_1 ∧ v2_1 < (cnL l (⟨⟨g0, g1, g2⟩, g3, g4⟩ : Lat)).length ∧ (nn0 : Int) + v2_1 = (cnL l (⟨⟨g0, g1, g2⟩, g3, g4⟩ : Lat)).length) ∧ (0 ≤ v2_2 ∧ v2_2 ≤ (cnL l (⟨⟨g0, g1, g2⟩, g3, g4⟩ : Lat)).length ∧ ((nn2 + 1) : Int) + v2_2 = (cnL l (⟨⟨g0, g1, g2⟩, g3, g4⟩ : Lat)).length + 1) ∧ v2_0 = (subH l (woK (cnL l (⟨⟨g0, g1, g2⟩, g3, g4⟩ : Lat)) v2_1 v2_2.toNat)).map hitCv) : rd_law06_FlashFewest_2 (J_law06_FlashFewest l g0 g1 g2 g3 g4) l g0 g1 g2 g3 g4 v2_0 v2_1 v2_2 nn2 nn0 (fun r => LeD r (.t (.c (.v (.bool true))))) := by
 obtain ⟨i0, i1, i2, i3⟩ := hi
 obtain ⟨k, rfl⟩ : ∃ k : Nat, v2_2 = k := ⟨v2_2.toNat, by omega⟩
 have hk : (k : Int).toNat = k := rfl
 rw [hk] at i3
 obtain ⟨hb, ⟨f1, f2⟩, f3, f4, f5, f6, f7⟩ := id i0
 obtain ⟨h1, h2⟩ := fn2 (show firstNZ [hitsE l, latE (⟨⟨g0, g1, g2⟩, g3, g4⟩ : Lat)] = 0 from hb)
 have l8 := (okH_iff.1 h1).2.1
 unfold rd_law06_FlashFewest_2
 simp only [hits_listC, ints_listC, hk]
 refine cond_i (fun h => ?_) (fun h => ?_)
 ·have h := of_decide_eq_true h
  have hlt : k < (cnL l (⟨⟨g0, g1, g2⟩, g3, g4⟩ : Lat)).length := by omega
  have hr := f3 _ (getD_mem hlt)
  have eS := woK_succ (cnL l (⟨⟨g0, g1, g2⟩, g3, g4⟩ : Lat)) v2_1 k
  have step : ∀ x, IntKind.i64.wrap ((k : Int) + 1) = x → ∀ L, L = (subH l (woK (cnL l (⟨⟨g0, g1, g2⟩, g3, g4⟩ : Lat)) v2_1 (k + 1))).map hitCv → J_law06_FlashFewest l g0 g1 g2 g3 g4 2 [nn2, nn0] (mk_law06_FlashFewest_2 l g0 g1 g2 g3 g4 L v2_1 x) := fun x hx L hL => by
   rw [wi (by omega)] at hx
   subst hx
   exact ⟨_, _, _, rfl, i0, i1, by omega, by rw [show ((k : Int) + 1).toNat = k + 1 by omega]; exact hL⟩
  have room : roomP 56 (v2_0.length + ([hitCv (hitAt l ((cnL l (⟨⟨g0, g1, g2⟩, g3, g4⟩ : Lat)).getD k 0).toNat)] : List (List CV)).length) := by
   have := woK_len (cnL l (⟨⟨g0, g1, g2⟩, g3, g4⟩ : Lat)) v2_1 k
   rw [i3]; unfold roomP maxLen subH; simp; omega
  have pos : ((k : Int) != v2_1) = true → v2_0 ++ [hitCv (hitAt l ((cnL l (⟨⟨g0, g1, g2⟩, g3, g4⟩ : Lat)).getD k 0).toNat)] = (subH l (woK (cnL l (⟨⟨g0, g1, g2⟩, g3, g4⟩ : Lat)) v2_1 (k + 1))).map hitCv := fun e => by
   rw [eS, if_pos (by simpa using e), i3]
   unfold subH
   rw [List.map_append, List.map_append]; rfl
  have neg : ((k : Int) != v2_1) = false → v2_0 = (subH l (woK (cnL l (⟨⟨g0, g1, g2⟩, g3, g4⟩ : Lat)) v2_1 (k + 1))).map hitCv := fun e => by
   rw [eS, if_neg (by simpa using e), List.append_nil, i3]
  refine ⟨by omega, lt_i fun x1 h1 => ?_⟩
  rw [wi (by omega)] at h1
  subst h1
  rw [show inB ((cnL l (⟨⟨g0, g1, g2⟩, g3, g4⟩ : Lat)).getD k 0) 0 ((l.length : Int) - 1) = true from inB_true.2 (by omega)]
  simp only [Bool.not_true, _root_.cond_false]
  refine cond_i (fun g => ⟨by omega, lt_i fun x2 h2 => ?_⟩) (fun g => ⟨by trivial, cond_i (fun e => ⟨by omega, hr, room, lt_i fun x hx => step x hx _ (pos e)⟩) (fun e => lt_i fun x hx => step x hx _ (neg e))⟩)
  have g := of_decide_eq_true g
  rw [wi (by omega)] at h2
  subst h2
  refine ⟨by omega, cond_i (fun gg => ?_) (fun gg => cond_i (fun e => ⟨by omega, hr, room, lt_i fun x hx => step x hx _ (pos e)⟩) (fun e => lt_i fun x hx => step x hx _ (neg e)))⟩
  exfalso
  have gg := of_decide_eq_true gg
  rw [List.pairwise_iff_getElem] at f4
  have := f4 (k - 1) k (by omega) hlt (by omega)
  rw [show ((k : Int) - 1).toNat = k - 1 by omega] at gg
  simp only [List.getD, List.getElem?_eq_getElem hlt, List.getElem?_eq_getElem (show k - 1 < (cnL l (⟨⟨g0, g1, g2⟩, g3, g4⟩ : Lat)).length by omega), Option.getD_some] at gg
  omega
 ·have h := of_decide_eq_false h
  have e : k = (cnL l (⟨⟨g0, g1, g2⟩, g3, g4⟩ : Lat)).length := by omega
  subst i3
  simp only [hitg_listC]
  have hw : okH (subH l (woK (cnL l (⟨⟨g0, g1, g2⟩, g3, g4⟩ : Lat)) v2_1 k)) ∧ ((((vtxR (subH l (woK (cnL l (⟨⟨g0, g1, g2⟩, g3, g4⟩ : Lat)) v2_1 k)) (⟨⟨g0, g1, g2⟩, g3, g4⟩ : Lat)).length : Nat) : Int) == 0) = decide (v2_1 < 0) := by
   rw [e]
   by_cases e1 : v2_1 = -1
   ·rw [e1, woK_all, wo_none, f6]
    exact ⟨f5, rfl⟩
   ·obtain ⟨j, e1⟩ : ∃ j : Nat, v2_1 = j := ⟨v2_1.toNat, by omega⟩
    obtain ⟨u1, u2⟩ := f7 j (by omega)
    rw [e1, woK_all]
    refine ⟨u1, ?_⟩
    have := List.length_pos_iff.2 u2
    rw [decide_eq_false (by omega)]
    simp; omega
  have hb2 : bothE (subH l (woK (cnL l (⟨⟨g0, g1, g2⟩, g3, g4⟩ : Lat)) v2_1 k)) (⟨⟨g0, g1, g2⟩, g3, g4⟩ : Lat) = 0 := by unfold bothE; rw [okH_iff.2 hw.1, h2]; rfl
  rw [hb2, vtxO_R hb2, hw.2]
  simp only [bne_self_eq_false, _root_.cond_false]
  refine ⟨numsP_hitg _, lt_i fun x hx => ?_⟩
  rw [wi (by omega)] at hx
  subst hx
  exact ⟨_, rfl, i0, by omega, by omega, by omega⟩
theorem zero_law06_FlashFewest_2 (l : List FHit) (g0 g1 g2 g3 g4 : Int) (v2_0 : List (List CV)) (v2_1 : Int) (v2_2 : Int) (nn0 : Nat) (hi : fewP l (⟨⟨g0, g1, g2⟩, g3, g4⟩ : Lat) ∧ (-1 ≤ v2_1 ∧ v2_1 < (cnL l (⟨⟨g0, g1, g2⟩, g3, g4⟩ : Lat)).length ∧ (nn0 : Int) + v2_1 = (cnL l (⟨⟨g0, g1, g2⟩, g3, g4⟩ : Lat)).length) ∧ (0 ≤ v2_2 ∧ v2_2 ≤ (cnL l (⟨⟨g0, g1, g2⟩, g3, g4⟩ : Lat)).length ∧ (0 : Int) + v2_2 = (cnL l (⟨⟨g0, g1, g2⟩, g3, g4⟩ : Lat)).length + 1) ∧ v2_0 = (subH l (woK (cnL l (⟨⟨g0, g1, g2⟩, g3, g4⟩ : Lat)) v2_1 v2_2.toNat)).map hitCv) : False := by
 omega
set_option maxHeartbeats 8000000 in
set_option maxRecDepth 100000 in
theorem spec_law06_FlashFewest (l : List FHit) (g0 g1 g2 g3 g4 : Int) : vc_law06_FlashFewest (J_law06_FlashFewest l g0 g1 g2 g3 g4) l g0 g1 g2 g3 g4 (fun r => LeD r (.t (.c (.v (.bool true))))) := by
  unfold vc_law06_FlashFewest
  simp only [nums_ints, hd_eq, hits_listC, ints_listC]
  have d1 := numsP_hits l
  refine ⟨d1, cond_i (fun _ => (by (repeat' first | exact LeD.refl _ | trivial | (refine And.intro ?_ ?_)))) (fun e1 => ⟨d1, cond_i (fun _ => LeD.refl _) (fun e2 => ?_)⟩)⟩
  have hl : l.length ≤ 1000 := by have : l.length ≤ 10 := by simpa using e1
                                  omega
  have hb : bothE l (⟨⟨g0, g1, g2⟩, g3, g4⟩ : Lat) = 0 := by simpa using e2
  obtain ⟨h1, h2⟩ := fn2 (show firstNZ [hitsE l, latE (⟨⟨g0, g1, g2⟩, g3, g4⟩ : Lat)] = 0 from hb)
  obtain ⟨c0, c1⟩ := cls_0 hb
  have eE : cnE l (⟨⟨g0, g1, g2⟩, g3, g4⟩ : Lat) = unl (cnF l (⟨⟨g0, g1, g2⟩, g3, g4⟩ : Lat)).isSome 12 := if_neg (by rw [hb]; simp)
  have eL : cnL l (⟨⟨g0, g1, g2⟩, g3, g4⟩ : Lat) = (cnF l (⟨⟨g0, g1, g2⟩, g3, g4⟩ : Lat)).getD [] := if_pos hb
  have w0 : decide (clsM l (⟨⟨g0, g1, g2⟩, g3, g4⟩ : Lat) < 0) = false := decide_eq_false (by omega)
  rcases cn_ok (x := (⟨⟨g0, g1, g2⟩, g3, g4⟩ : Lat)) (okH_iff.1 h1) with ⟨q1, q2⟩ | ⟨q1, k, k1, k2, k3, k4, k5⟩
  · rw [q2] at eE eL
    have eE : cnE l (⟨⟨g0, g1, g2⟩, g3, g4⟩ : Lat) = 12 := eE
    have eL : cnL l (⟨⟨g0, g1, g2⟩, g3, g4⟩ : Lat) = [] := eL
    have w1 : ((cnE l (⟨⟨g0, g1, g2⟩, g3, g4⟩ : Lat) == 0) != decide (clsM l (⟨⟨g0, g1, g2⟩, g3, g4⟩ : Lat) > 0)) = false := by rw [eE, c1.2 q1]; rfl
    have w2 : (cnE l (⟨⟨g0, g1, g2⟩, g3, g4⟩ : Lat) != 0) = true := by rw [eE]; rfl
    have w3 : (cnE l (⟨⟨g0, g1, g2⟩, g3, g4⟩ : Lat) == 12) = true := by rw [eE]; rfl
    simp only [hb, w0, w1, w2, w3, eL, beq_self_eq_true, bne_self_eq_false, Bool.not_true, Bool.not_false, _root_.cond_true, _root_.cond_false, Option.isSome_none, Option.isSome_some, Option.getD_some, decide_true, eq_self_iff_true, List.length_nil, wr00, n00, lt_v]
    (repeat' with_reducible first | assumption | trivial | (refine And.intro ?_ ?_))
    all_goals first | omega | exact LeD.refl _ | exact leB rfl | exact numsP_ints _
  · rw [k3] at eE eL
    have eE : cnE l (⟨⟨g0, g1, g2⟩, g3, g4⟩ : Lat) = 0 := eE
    have eL : cnL l (⟨⟨g0, g1, g2⟩, g3, g4⟩ : Lat) = membs 8 k := eL
    have hM : clsM l (⟨⟨g0, g1, g2⟩, g3, g4⟩ : Lat) > 0 := by
      rcases (by omega : clsM l (⟨⟨g0, g1, g2⟩, g3, g4⟩ : Lat) = 0 ∨ clsM l (⟨⟨g0, g1, g2⟩, g3, g4⟩ : Lat) > 0) with h | h
      · exact (c1.1 h q1).elim
      · exact h
    have w1 : ((cnE l (⟨⟨g0, g1, g2⟩, g3, g4⟩ : Lat) == 0) != decide (clsM l (⟨⟨g0, g1, g2⟩, g3, g4⟩ : Lat) > 0)) = false := by rw [eE, decide_eq_true hM]; rfl
    have w2 : (cnE l (⟨⟨g0, g1, g2⟩, g3, g4⟩ : Lat) != 0) = false := by rw [eE]; rfl
    obtain ⟨⟨f1, f2⟩, f3, f4, f5⟩ := few_ok (okH_iff.1 h1) h2 k1 k2 k4 k5
    have hP : fewP l (⟨⟨g0, g1, g2⟩, g3, g4⟩ : Lat) := ⟨hb, by rw [eL]; exact ⟨⟨f1, f2⟩, cn_rg (okH_iff.1 h1) k1, membs_sorted 8 k, f3, f4, f5⟩⟩
    have w3 : decide ((((cnL l (⟨⟨g0, g1, g2⟩, g3, g4⟩ : Lat)).length : Nat) : Int) < 2) = false := decide_eq_false (by rw [eL]; omega)
    have w4 : decide ((((cnL l (⟨⟨g0, g1, g2⟩, g3, g4⟩ : Lat)).length : Nat) : Int) > ((l.length : Nat) : Int)) = false := decide_eq_false (by rw [eL]; omega)
    simp only [hb, w0, w1, w2, w3, w4, beq_self_eq_true, bne_self_eq_false, Bool.not_true, Bool.not_false, _root_.cond_true, _root_.cond_false, Option.isSome_none, Option.isSome_some, Option.getD_some, decide_true, eq_self_iff_true, List.length_nil, wr00, n00, lt_v]
    (repeat' with_reducible first | assumption | trivial | (refine And.intro ?_ ?_))
    exact ⟨(cnL l (⟨⟨g0, g1, g2⟩, g3, g4⟩ : Lat)).length + 2, -1, rfl, hP, by omega, by omega, by omega⟩
theorem all_law06_FlashFewest (l : List FHit) (g0 g1 g2 g3 g4 : Int) : AllG (J_law06_FlashFewest l g0 g1 g2 g3 g4) (loopsFn Tryd.prog tab Sz140 ann_law06_FlashFewest (J_law06_FlashFewest l g0 g1 g2 g3 g4) Tryd.f9 (fun r => LeD r (.t (.c (.v (.bool true)))))) := by
 rw [lp_law06_FlashFewest]
 refine ⟨⟨?_, ?_⟩, ⟨?_, ?_⟩, trivial⟩
 ·intro F s h
  obtain _ | ⟨g, F⟩ := F
  case cons => exact h.elim
  obtain ⟨w0, rfl, hi⟩ := h
  exact zero_law06_FlashFewest_0 l g0 g1 g2 g3 g4 w0 hi
 ·intro n F s h
  obtain _ | ⟨g, F⟩ := F
  case cons => exact h.elim
  obtain ⟨w0, rfl, hi⟩ := h
  rw [er_law06_FlashFewest_0]
  exact rnd_law06_FlashFewest_0 l g0 g1 g2 g3 g4 _ _ hi
 ·intro F s h
  obtain _ | ⟨f0, F⟩ := F
  ·exact h.elim
  obtain _ | ⟨g, F⟩ := F
  case cons => exact h.elim
  obtain ⟨w0, w1, w2, rfl, hi⟩ := h
  exact zero_law06_FlashFewest_2 l g0 g1 g2 g3 g4 w0 w1 w2 _ hi
 ·intro n F s h
  obtain _ | ⟨f0, F⟩ := F
  ·exact h.elim
  obtain _ | ⟨g, F⟩ := F
  case cons => exact h.elim
  obtain ⟨w0, w1, w2, rfl, hi⟩ := h
  rw [er_law06_FlashFewest_2]
  exact rnd_law06_FlashFewest_2 l g0 g1 g2 g3 g4 _ _ _ _ _ hi
theorem law_law06_FlashFewest (l : List FHit) (g0 g1 g2 g3 g4 : Int) (W : World) (N : Nat → Prop) (vs : List Value) (hG : Gd W) (h : All2 (RelD (RelF W N)) [.t (.c (.sl 7 l.length (hitsC l))), .t (.a [.v (.int .i64 g0), .v (.int .i64 g1), .v (.int .i64 g2), .v (.int .i64 g3), .v (.int .i64 g4)])] vs) : Calls Tryd.prog 9 vs.toArray W fun e w' => e = .returned (.bool true) ∧ Below W.heap.size W w' :=
 law_end (fn_sound mixed tabOK VSz140 (ann := ann_law06_FlashFewest) VI1 (fn := Tryd.f9) (J := J_law06_FlashFewest l g0 g1 g2 g3 g4) (by kernel_rfl) fit_law06_FlashFewest (args := [.t (.c (.sl 7 l.length (hitsC l))), .t (.a [.v (.int .i64 g0), .v (.int .i64 g1), .v (.int .i64 g2), .v (.int .i64 g3), .v (.int .i64 g4)])]) (post := (fun r => LeD r (.t (.c (.v (.bool true)))))) (by rw [ev_law06_FlashFewest]; exact spec_law06_FlashFewest l g0 g1 g2 g3 g4) (all_law06_FlashFewest l g0 g1 g2 g3 g4) (Nat.le_of_ble_eq_true (by kernel_rfl)) W N vs hG h)
end Go.Proofs.YtmhgjlapkhdlmaaDoor