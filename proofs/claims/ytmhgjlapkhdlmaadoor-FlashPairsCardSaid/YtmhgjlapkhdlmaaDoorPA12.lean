/- Texts of this claim, together. -/
import Derived.Test.YtmhgjlapkhdlmaaDoorPA11

set_option linter.unusedVariables false
set_option linter.unusedSimpArgs false
namespace Go.Proofs.YtmhgjlapkhdlmaaDoor
open Go.RowKit Ev
def loOk (c : List Rg) : Prop := 0 < c.length ∧ c.length ≤ 1000000 ∧ ∀ g ∈ c, -2000000000 ≤ g.lo ∧ g.lo ≤ 2000000000
def tmOk (a c : List Rg) : Prop := a.length = c.length ∧ 0 < a.length ∧ a.length ≤ 1000 ∧ loOk c
theorem minR_succ {b : List Rg} {k : Nat} (hk : k + 1 < b.length) : minR b (k + 1) = if (rgAt b (k + 1)).lo - (minR b k).lo < 0 then rgAt b (k + 1) else minR b k := by
 have hd : k < (b.drop 1).length := by rw [List.length_drop]; omega
 unfold minR
 rw [List.take_succ_eq_append_getElem hd, List.foldl_append]
 simp [rgAt, List.getD, Nat.add_comm 1 k, hk]
def restK (a b : List Rg) (s : Int) (k : Nat) : List Rg := ((List.range k).filter fun i => !hasB (rgAt a i) s).map fun i => rgAt b i
theorem restK_succ (a b : List Rg) (s : Int) (k : Nat) : restK a b s (k + 1) = restK a b s k ++ (if (!hasB (rgAt a k) s) = true then [rgAt b k] else []) := by
 unfold restK
 rw [List.range_succ, List.filter_append, List.map_append]
 congr 1
 rw [List.filter_cons]
 cases hasB (rgAt a k) s <;> rfl
theorem restK_len (a b : List Rg) (s : Int) (k : Nat) : (restK a b s k).length ≤ k := by
 unfold restK
 rw [List.length_map]
 have := List.length_filter_le (fun i => !hasB (rgAt a i) s) (List.range k)
 rwa [List.length_range] at this
def prOk (sp : List (List Rg)) : Prop := spOk sp ∧ ∀ i j, i < sp.length → j < sp.length → (rlAt sp i).length = (rlAt sp j).length
theorem prOk_tm {sp : List (List Rg)} {i j : Nat} (h : prOk sp) (hi : i < sp.length) (hj : j < sp.length) : tmOk (rlAt sp i) (rlAt sp j) := by
 obtain ⟨⟨h1, h2⟩, h3⟩ := h
 obtain ⟨a1, a2, a3⟩ := h2 i hi
 obtain ⟨b1, b2, b3⟩ := h2 j hj
 exact ⟨h3 i j hi hj, a1, by omega, b1, by omega, fun g hg => ⟨(b3 g hg).1, (b3 g hg).2.1⟩⟩
def prO (l : List FHit) (x : Lat) : Pr4 := if bothE l x = 0 then prV (allS l x) else ⟨0, 0, 0, 0⟩
def pairE (l : List FHit) (x : Lat) : Int := if bothE l x ≠ 0 then bothE l x else unl (hasP (allS l x)) 12
def dblB (l : List FHit) (x : Lat) : Bool := decide (bothE l x = 0) && (decide ((vtxR l x).length = 0) && hasP (allS l x))
theorem prOk_opn {l : List FHit} {x : Lat} (h : bothE l x = 0) : prOk (opnS l x) := by
 refine ⟨spOk_opn h, fun i j hi hj => ?_⟩
 rw [opnS_all h, allS_len] at hi hj
 rw [opnS_all h, rlAt_all hi, rlAt_all hj, sts_len, sts_len]
def vc_flash_times_1 (a0 a1 : Int) (b0 b1 : Int) (post : DV → Prop) : Prop := lt (IntKind.i64.wrap (a0 - b0)) fun x1 => post (.t (.c (.v (.int .i64 x1))))
def ann_flash_times_1 : Ann := ⟨fun _ => none, fun _ => none, fun _ => [], I1, false, fun _ => none, fun _ => none⟩
theorem ev_flash_times_1 (J : Inv) (a0 a1 : Int) (b0 b1 : Int) (post : DV → Prop) : evFn Tryd.prog tab Sz140 ann_flash_times_1 J Tryd.f162 [.t (.a [.v (.int .i64 a0), .v (.int .i64 a1)]), .t (.a [.v (.int .i64 b0), .v (.int .i64 b1)])] post = vc_flash_times_1 a0 a1 b0 b1 post := by kernel_rfl
theorem fit_flash_times_1 : okFn ann_flash_times_1 Tryd.f162 = true := by kernel_rfl
theorem lp_flash_times_1 (J : Inv) (post : DV → Prop) : AllG J (loopsFn Tryd.prog tab Sz140 ann_flash_times_1 J Tryd.f162 post) = (True) := by kernel_rfl
theorem spec_flash_times_1 (a0 a1 : Int) (b0 b1 : Int) (hp : (-2000000000 ≤ a0 ∧ a0 ≤ 2000000000) ∧ -2000000000 ≤ b0 ∧ b0 ≤ 2000000000) : vc_flash_times_1 a0 a1 b0 b1 (fun r => LeD r (.t (.c (.v (.int .i64 (a0 - b0)))))) := by
 unfold vc_flash_times_1
 exact lt_i fun x h => leI (by rw [wi (by omega)] at h; exact h.symm)
def con_flash_times_1 : Con := fun args => match args with
 | [.t (.a [.v (.int .i64 a0), .v (.int .i64 a1)]), .t (.a [.v (.int .i64 b0), .v (.int .i64 b1)])] => some (.t (.c (.v (.int .i64 (a0 - b0)))), some ((-2000000000 ≤ a0 ∧ a0 ≤ 2000000000) ∧ -2000000000 ≤ b0 ∧ b0 ≤ 2000000000), false)
 | _ => none
theorem ok_flash_times_1 : Ok Tryd.prog 162 con_flash_times_1 := by
 refine Ok.fn (ann := ann_flash_times_1) mixed tabOK VSz140 VI1 (fn := Tryd.f162) (by kernel_rfl) (by kernel_rfl) fit_flash_times_1 fun args r pre fresh h hp => ?_
 unfold con_flash_times_1 at h
 split at h
 ·rename_i a0 a1 b0 b1
  cases h
  refine ⟨rfl, fun _ _ _ => False, _, LeA.refl _, Nat.le_of_ble_eq_true (by kernel_rfl), ?_, ?_⟩
  ·rw [ev_flash_times_1]; exact spec_flash_times_1 a0 a1 b0 b1 hp
  ·rw [lp_flash_times_1]; trivial
 ·cases h
noncomputable def Sf141 : Sum := addS Sz140 162 con_flash_times_1
theorem VSf141 : Valid Tryd.prog Sf141 := Valid.add VSz140 ok_flash_times_1
def mk_slices_MinFunc_cherenkov_api_Range_cherenkov_api_Range_0 (a : List Rg) (v0_0 : Int) (v0_1 : Int) (v0_2 : Int) : DS := ⟨[some (.t (.c (.sl 2 a.length (rgsC a)))), some (.t (.fn 162 [])), none, none, some (.t (.c (.p 4 0))), some (.t (.c (.p 5 0))), some (.t (.c (.v (.int .i64 v0_2)))), none, none, none, none, none, none, none, none, none, none, none, none, none, none, none, none, none, none, none, none, none, none, none, none, none, none], [none, none, none, none, some (.box 94 [.v (.int .i64 0), .v (.int .i64 0)]), some (.box 94 [.v (.int .i64 v0_0), .v (.int .i64 v0_1)]), none, none, none, none, none, none, none, none, none, none, none, none, none, none, none, none, none, none, none, none, none, none, none, none, none, none, none]⟩
def vc_slices_MinFunc_cherenkov_api_Range_cherenkov_api_Range (J : Inv) (a : List Rg) (post : DV → Prop) : Prop := cond (decide (((a.length : Nat) : Int) < (1 : Int))) (False) ((0 ≤ (0 : Int) ∧ (0 : Int) < ((a.length : Nat) : Int)) ∧ (∃ n, J 0 (n :: []) (mk_slices_MinFunc_cherenkov_api_Range_cherenkov_api_Range_0 a ((rgAt a 0).lo) ((rgAt a 0).hi) 1)))
def ann_slices_MinFunc_cherenkov_api_Range_cherenkov_api_Range : Ann := ⟨fun r => lookA r [(7, ([[], [], [], [1, 2], [1, 2, 3], [], [0, 1, 2, 3, 4, 5], [0, 1, 2, 3, 4, 5, 6]], [[26], [26], [26], [26], [26], [26], [], []]))], fun b => lookA b [(0, (none, some ⟨[0, 1, 4, 5, 6], [4, 5], []⟩))], fun _ => [], I1, false, fun _ => none, fun _ => none⟩
theorem ev_slices_MinFunc_cherenkov_api_Range_cherenkov_api_Range (J : Inv) (a : List Rg) (post : DV → Prop) : evFn Tryd.prog tab Sf141 ann_slices_MinFunc_cherenkov_api_Range_cherenkov_api_Range J Tryd.f161 [.t (.c (.sl 2 a.length (rgsC a))), .t (.fn 162 [])] post = vc_slices_MinFunc_cherenkov_api_Range_cherenkov_api_Range J a post := by kernel_rfl
theorem fit_slices_MinFunc_cherenkov_api_Range_cherenkov_api_Range : okFn ann_slices_MinFunc_cherenkov_api_Range_cherenkov_api_Range Tryd.f161 = true := by kernel_rfl
def rd_slices_MinFunc_cherenkov_api_Range_cherenkov_api_Range_0 (J : Inv) (a : List Rg) (v0_0 : Int) (v0_1 : Int) (v0_2 : Int) (nn0 : Nat) (post : DV → Prop) : Prop := cond (decide (v0_2 < ((a.length : Nat) : Int))) ((0 ≤ v0_2 ∧ v0_2 < ((a.length : Nat) : Int)) ∧ (((-2000000000 ≤ ((rgAt a v0_2.toNat).lo) ∧ ((rgAt a v0_2.toNat).lo) ≤ 2000000000) ∧ -2000000000 ≤ v0_0 ∧ v0_0 ≤ 2000000000) ∧ (cond (decide ((((rgAt a v0_2.toNat).lo) - v0_0) < (0 : Int))) ((0 ≤ v0_2 ∧ v0_2 < ((a.length : Nat) : Int)) ∧ (lt (IntKind.i64.wrap (v0_2 + (1 : Int))) fun x1 => J 0 (nn0 :: []) (mk_slices_MinFunc_cherenkov_api_Range_cherenkov_api_Range_0 a ((rgAt a v0_2.toNat).lo) ((rgAt a v0_2.toNat).hi) x1))) (lt (IntKind.i64.wrap (v0_2 + (1 : Int))) fun x2 => J 0 (nn0 :: []) (mk_slices_MinFunc_cherenkov_api_Range_cherenkov_api_Range_0 a v0_0 v0_1 x2))))) (post (.t (.a [.v (.int .i64 v0_0), .v (.int .i64 v0_1)])))
theorem er_slices_MinFunc_cherenkov_api_Range_cherenkov_api_Range_0 (J : Inv) (a : List Rg) (v0_0 : Int) (v0_1 : Int) (v0_2 : Int) (nn0 : Nat) (post : DV → Prop) : round Tryd.prog tab Sf141 ann_slices_MinFunc_cherenkov_api_Range_cherenkov_api_Range J Tryd.f161 post 0 (nn0 :: []) (mk_slices_MinFunc_cherenkov_api_Range_cherenkov_api_Range_0 a v0_0 v0_1 v0_2) = rd_slices_MinFunc_cherenkov_api_Range_cherenkov_api_Range_0 J a v0_0 v0_1 v0_2 nn0 post := by kernel_rfl
theorem lp_slices_MinFunc_cherenkov_api_Range_cherenkov_api_Range (J : Inv) (post : DV → Prop) : AllG J (loopsFn Tryd.prog tab Sf141 ann_slices_MinFunc_cherenkov_api_Range_cherenkov_api_Range J Tryd.f161 post) = (((∀ F s, ¬ J 0 (0 :: F) s) ∧ ∀ n F s, J 0 ((n + 1) :: F) s → round Tryd.prog tab Sf141 ann_slices_MinFunc_cherenkov_api_Range_cherenkov_api_Range J Tryd.f161 post 0 (n :: F) s) ∧ True) := by kernel_rfl
def J_slices_MinFunc_cherenkov_api_Range_cherenkov_api_Range (a : List Rg) : Inv := fun b F s => match b, F with
 | 0, [nn0] => ∃ (v0_0 : Int) (v0_1 : Int) (v0_2 : Int), s = mk_slices_MinFunc_cherenkov_api_Range_cherenkov_api_Range_0 a v0_0 v0_1 v0_2 ∧ (loOk a ∧ 1 ≤ v0_2 ∧ v0_2 ≤ a.length ∧ (nn0 : Int) + v0_2 = a.length + 1 ∧ (⟨v0_0, v0_1⟩ : Rg) = minR a (v0_2.toNat - 1))
 | _, _ => False
theorem rnd_slices_MinFunc_cherenkov_api_Range_cherenkov_api_Range_0 (a : List Rg) (v0_0 : Int) (v0_1 : Int) (v0_2 : Int) (nn0 : Nat) (hp : loOk a) (hi : loOk a ∧ 1 ≤ v0_2 ∧ v0_2 ≤ a.length ∧ ((nn0 + 1) : Int) + v0_2 = a.length + 1 ∧ (⟨v0_0, v0_1⟩ : Rg) = minR a (v0_2.toNat - 1)) : rd_slices_MinFunc_cherenkov_api_Range_cherenkov_api_Range_0 (J_slices_MinFunc_cherenkov_api_Range_cherenkov_api_Range a) a v0_0 v0_1 v0_2 nn0 (fun r => LeD r (.t (.a [.v (.int .i64 ((minR a (a).length).lo)), .v (.int .i64 ((minR a (a).length).hi))]))) := by
 obtain ⟨i0, i1, i2, i3, i4⟩ := hi
 obtain ⟨k, rfl⟩ : ∃ k : Nat, v0_2 = k := ⟨v0_2.toNat, by omega⟩
 have hk : (k : Int).toNat = k := rfl
 rw [hk] at i4
 have h0 := i0.1
 have h1 := i0.2.1
 unfold rd_slices_MinFunc_cherenkov_api_Range_cherenkov_api_Range_0
 rw [hk]
 refine cond_i (fun h => ?_) (fun h => ?_)
 ·have hlt : k < a.length := by have := of_decide_eq_true h; omega
  have eS := minR_succ (b := a) (k := k - 1) (by omega)
  rw [show k - 1 + 1 = k by omega, ← i4] at eS
  have b1 := i0.2.2 _ (rgAt_in hlt)
  obtain ⟨j, j1, j2, _⟩ := minR_ok (b := a) (k - 1) (by omega)
  have b2 := i0.2.2 _ (rgAt_in (l := a) (k := j) (by omega))
  rw [← j2, ← i4] at b2
  refine ⟨by omega, ⟨b1, b2⟩, cond_i (fun e => ⟨by omega, lt_i fun x hx => ?_⟩) (fun e => lt_i fun x hx => ?_)⟩
  all_goals
   rw [wi (by omega)] at hx
   subst hx
   refine ⟨_, _, _, rfl, i0, by omega, by omega, by omega, ?_⟩
   rw [show ((k : Int) + 1).toNat - 1 = k by omega, eS]
  ·rw [if_pos (of_decide_eq_true e)]
  ·rw [if_neg (of_decide_eq_false e)]
 ·have hge : k = a.length := by have := of_decide_eq_false h; omega
  rw [minR_end (by omega), ← hge, ← i4]
  exact LeD.refl _
theorem zero_slices_MinFunc_cherenkov_api_Range_cherenkov_api_Range_0 (a : List Rg) (v0_0 : Int) (v0_1 : Int) (v0_2 : Int)  (hi : loOk a ∧ 1 ≤ v0_2 ∧ v0_2 ≤ a.length ∧ (0 : Int) + v0_2 = a.length + 1 ∧ (⟨v0_0, v0_1⟩ : Rg) = minR a (v0_2.toNat - 1)) : False := by
 omega
theorem spec_slices_MinFunc_cherenkov_api_Range_cherenkov_api_Range (a : List Rg) (hp : loOk a) : vc_slices_MinFunc_cherenkov_api_Range_cherenkov_api_Range (J_slices_MinFunc_cherenkov_api_Range_cherenkov_api_Range a) a (fun r => LeD r (.t (.a [.v (.int .i64 ((minR a (a).length).lo)), .v (.int .i64 ((minR a (a).length).hi))]))) := by
 unfold vc_slices_MinFunc_cherenkov_api_Range_cherenkov_api_Range
 have h0 := hp.1
 exact cond_i (fun h => by have := of_decide_eq_true h; omega) (fun h => ⟨by omega, a.length, _, _, 1, rfl, hp, by omega, by omega, by omega, rfl⟩)
theorem all_slices_MinFunc_cherenkov_api_Range_cherenkov_api_Range (a : List Rg) (hp : loOk a) : AllG (J_slices_MinFunc_cherenkov_api_Range_cherenkov_api_Range a) (loopsFn Tryd.prog tab Sf141 ann_slices_MinFunc_cherenkov_api_Range_cherenkov_api_Range (J_slices_MinFunc_cherenkov_api_Range_cherenkov_api_Range a) Tryd.f161 (fun r => LeD r (.t (.a [.v (.int .i64 ((minR a (a).length).lo)), .v (.int .i64 ((minR a (a).length).hi))])))) := by
 rw [lp_slices_MinFunc_cherenkov_api_Range_cherenkov_api_Range]
 refine ⟨⟨?_, ?_⟩, trivial⟩
 ·intro F s h
  obtain _ | ⟨g, F⟩ := F
  case cons => exact h.elim
  obtain ⟨w0, w1, w2, rfl, hi⟩ := h
  exact zero_slices_MinFunc_cherenkov_api_Range_cherenkov_api_Range_0 a w0 w1 w2 hi
 ·intro n F s h
  obtain _ | ⟨g, F⟩ := F
  case cons => exact h.elim
  obtain ⟨w0, w1, w2, rfl, hi⟩ := h
  rw [er_slices_MinFunc_cherenkov_api_Range_cherenkov_api_Range_0]
  exact rnd_slices_MinFunc_cherenkov_api_Range_cherenkov_api_Range_0 a _ _ _ _ hp hi
def con_slices_MinFunc_cherenkov_api_Range_cherenkov_api_Range : Con := fun args => match args with
 | [.t (.c (.sl 2 n_a c_a)), .t (.fn 162 [])] => some (.t (.a [.v (.int .i64 ((minR (listC n_a mkRg c_a) ((listC n_a mkRg c_a)).length).lo)), .v (.int .i64 ((minR (listC n_a mkRg c_a) ((listC n_a mkRg c_a)).length).hi))]), some (numsP 2 n_a c_a ∧ loOk (listC n_a mkRg c_a)), false)
 | _ => none
theorem ok_slices_MinFunc_cherenkov_api_Range_cherenkov_api_Range : Ok Tryd.prog 161 con_slices_MinFunc_cherenkov_api_Range_cherenkov_api_Range := by
 refine Ok.fn (ann := ann_slices_MinFunc_cherenkov_api_Range_cherenkov_api_Range) mixed tabOK VSf141 VI1 (fn := Tryd.f161) (by kernel_rfl) (by kernel_rfl) fit_slices_MinFunc_cherenkov_api_Range_cherenkov_api_Range fun args r pre fresh h hp => ?_
 unfold con_slices_MinFunc_cherenkov_api_Range_cherenkov_api_Range at h
 split at h
 ·rename_i n_a c_a
  cases h
  obtain ⟨hp0, hp⟩ := hp
  refine ⟨rfl, J_slices_MinFunc_cherenkov_api_Range_cherenkov_api_Range (listC n_a mkRg c_a), [.t (.c (.sl 2 ((listC n_a mkRg c_a).length) (rgsC (listC n_a mkRg c_a)))), .t (.fn 162 [])], ?_, Nat.le_of_ble_eq_true (by kernel_rfl), ?_, ?_⟩
  ·exact (LeA_cons (leT_c ((leL_Rg hp0))) (LeA_cons (leT_f LeCs.nil) LeA_nil))
  ·rw [ev_slices_MinFunc_cherenkov_api_Range_cherenkov_api_Range]; exact spec_slices_MinFunc_cherenkov_api_Range_cherenkov_api_Range (listC n_a mkRg c_a) hp
  ·exact all_slices_MinFunc_cherenkov_api_Range_cherenkov_api_Range (listC n_a mkRg c_a) hp
 ·cases h
noncomputable def Sf142 : Sum := addS Sf141 161 con_slices_MinFunc_cherenkov_api_Range_cherenkov_api_Range
theorem VSf142 : Valid Tryd.prog Sf142 := Valid.add VSf141 ok_slices_MinFunc_cherenkov_api_Range_cherenkov_api_Range
def mk_flash_times_0 (a : List Rg) (c : List Rg) (v0_0 : Int) (v0_1 : Int) (v0_2 : Int) (v0_3 : Bool) : DS := ⟨[some (.t (.c (.sl 2 a.length (rgsC a)))), some (.t (.c (.sl 2 c.length (rgsC c)))), none, none, some (.t (.c (.v (.int .i64 v0_1)))), some (.t (.c (.v (.int .i64 v0_2)))), some (.t (.c (.v (.bool v0_3)))), none, none, none, none, none, none, none, some (.t (.c (.sl 2 a.length (rgsC a)))), some (.t (.c (.v (.int .i64 ((a.length : Nat) : Int))))), some (.t (.c (.v (.int .i64 v0_0)))), none, none, none, none, none, none, none, none, none, none, none, none, none, none, none, none, none, none, none, none, none, none, none, none, none, none, none, none, none, none, none, none, none, none, none, none, none, none, none, none, none, none, none, none, none, none, none, none, none, none, none, none], [none, none, none, none, none, none, none, none, none, none, none, none, none, none, none, none, none, none, none, none, none, none, none, none, none, none, none, none, none, none, none, none, none, none, none, none, none, none, none, none, none, none, none, none, none, none, none, none, none, none, none, none, none, none, none, none, none, none, none, none, none, none, none, none, none, none, none, none, none]⟩
def mk_flash_times_2 (a : List Rg) (c : List Rg) (v2_0 : Int) (v2_1 : Int) (v2_2 : List (List CV)) (v2_3 : Int) (v2_4 : Int) (v2_5 : Int) (v2_6 : Int) (v2_7 : Bool) : DS := ⟨[some (.t (.c (.sl 2 a.length (rgsC a)))), some (.t (.c (.sl 2 c.length (rgsC c)))), none, none, some (.t (.c (.v (.int .i64 v2_5)))), some (.t (.c (.v (.int .i64 v2_6)))), some (.t (.c (.v (.bool v2_7)))), none, some (.t (.c (.p 8 0))), some (.t (.c (.os 9))), none, none, none, none, some (.t (.c (.sl 2 a.length (rgsC a)))), some (.t (.c (.v (.int .i64 ((a.length : Nat) : Int))))), some (.t (.c (.v (.int .i64 v2_3)))), none, none, none, none, none, none, none, none, none, none, some (.t (.c (.sl 2 a.length (rgsC a)))), some (.t (.c (.v (.int .i64 ((a.length : Nat) : Int))))), some (.t (.c (.v (.int .i64 v2_4)))), none, none, none, none, none, none, none, none, none, none, none, none, none, none, none, none, none, none, none, none, none, none, none, none, none, none, none, none, none, none, none, none, none, none, none, none, none, none, none], [none, none, none, none, none, none, none, none, some (.box 94 [.v (.int .i64 v2_0), .v (.int .i64 v2_1)]), some (.gen 94 2 v2_2), none, none, none, none, none, none, none, none, none, none, none, none, none, none, none, none, none, none, none, none, none, none, none, none, none, none, none, none, none, none, none, none, none, none, none, none, none, none, none, none, none, none, none, none, none, none, none, none, none, none, none, none, none, none, none, none, none, none, none]⟩
def vc_flash_times (J : Inv) (a : List Rg) (c : List Rg) (post : DV → Prop) : Prop := ∃ n, J 0 (n :: []) (mk_flash_times_0 a c 0 0 0 false)
def ann_flash_times : Ann := ⟨fun _ => none, fun b => lookA b [(0, (none, some ⟨[0, 1, 4, 5, 6, 14, 15, 16], [], []⟩)), (2, (none, some ⟨[0, 1, 4, 5, 6, 8, 14, 15, 16, 27, 28, 29], [8], [(9, .gen 94 2 [])]⟩))], fun _ => [], I1, false, fun r => lookA r [(4, (2, [26]))], fun _ => none⟩
theorem ev_flash_times (J : Inv) (a : List Rg) (c : List Rg) (post : DV → Prop) : evFn Tryd.prog tab Sf142 ann_flash_times J Tryd.f155 [.t (.c (.sl 2 a.length (rgsC a))), .t (.c (.sl 2 c.length (rgsC c)))] post = vc_flash_times J a c post := by kernel_rfl
theorem fit_flash_times : okFn ann_flash_times Tryd.f155 = true := by kernel_rfl
def rd_flash_times_0 (J : Inv) (a : List Rg) (c : List Rg) (v0_0 : Int) (v0_1 : Int) (v0_2 : Int) (v0_3 : Bool) (nn0 : Nat) (post : DV → Prop) : Prop := cond (decide (v0_0 < ((a.length : Nat) : Int))) ((0 ≤ v0_0 ∧ v0_0 < ((a.length : Nat) : Int)) ∧ ((cond v0_3 (True) ((false = false) ∧ (True))) ∧ (lt ((bif v0_3 then decide (((rgAt a v0_0.toNat).lo) ≥ v0_1) else false)) fun x1 => cond x1 (lt (IntKind.i64.wrap (v0_0 + (1 : Int))) fun x2 => J 0 (nn0 :: []) (mk_flash_times_0 a c x2 v0_1 v0_2 v0_3)) (∃ n, J 2 (n :: nn0 :: []) (mk_flash_times_2 a c ((rgAt a v0_0.toNat).lo) ((rgAt a v0_0.toNat).hi) ([]) v0_0 0 v0_1 v0_2 v0_3))))) (post (.tu [.c (.v (.int .i64 v0_1)), .c (.v (.int .i64 v0_2)), .c (.v (.bool v0_3))]))
theorem er_flash_times_0 (J : Inv) (a : List Rg) (c : List Rg) (v0_0 : Int) (v0_1 : Int) (v0_2 : Int) (v0_3 : Bool) (nn0 : Nat) (post : DV → Prop) : round Tryd.prog tab Sf142 ann_flash_times J Tryd.f155 post 0 (nn0 :: []) (mk_flash_times_0 a c v0_0 v0_1 v0_2 v0_3) = rd_flash_times_0 J a c v0_0 v0_1 v0_2 v0_3 nn0 post := by kernel_rfl
def rd_flash_times_2 (J : Inv) (a : List Rg) (c : List Rg) (v2_0 : Int) (v2_1 : Int) (v2_2 : List (List CV)) (v2_3 : Int) (v2_4 : Int) (v2_5 : Int) (v2_6 : Int) (v2_7 : Bool) (nn2 nn0 : Nat) (post : DV → Prop) : Prop := cond (decide (v2_4 < ((a.length : Nat) : Int))) ((0 ≤ v2_4 ∧ v2_4 < ((a.length : Nat) : Int)) ∧ (cond (!(inB v2_0 ((rgAt a v2_4.toNat).lo) ((rgAt a v2_4.toNat).hi))) ((0 ≤ v2_4 ∧ v2_4 < ((c.length : Nat) : Int)) ∧ ((roomP 16 (v2_2.length + ([[.v (.int .i64 ((rgAt c v2_4.toNat).lo)), .v (.int .i64 ((rgAt c v2_4.toNat).hi))]] : List (List CV)).length)) ∧ (lt (IntKind.i64.wrap (v2_4 + (1 : Int))) fun x1 => J 2 (nn2 :: nn0 :: []) (mk_flash_times_2 a c v2_0 v2_1 (v2_2 ++ ([[.v (.int .i64 ((rgAt c v2_4.toNat).lo)), .v (.int .i64 ((rgAt c v2_4.toNat).hi))]] : List (List CV))) v2_3 x1 v2_5 v2_6 v2_7)))) (lt (IntKind.i64.wrap (v2_4 + (1 : Int))) fun x2 => J 2 (nn2 :: nn0 :: []) (mk_flash_times_2 a c v2_0 v2_1 v2_2 v2_3 x2 v2_5 v2_6 v2_7)))) (cond (decide (((v2_2.length : Nat) : Int) > (0 : Int))) ((numsP 2 v2_2.length (genC v2_2) ∧ 0 < ((listC v2_2.length mkRg (genC v2_2))).length ∧ ((listC v2_2.length mkRg (genC v2_2))).length ≤ 1000000) ∧ (cond (decide (((comm (listC v2_2.length mkRg (genC v2_2))).lo) > ((comm (listC v2_2.length mkRg (genC v2_2))).hi))) (lt (IntKind.i64.wrap (v2_3 + (1 : Int))) fun x3 => J 0 (nn0 :: []) (mk_flash_times_0 a c x3 v2_5 v2_6 v2_7)) (lt (IntKind.i64.wrap (v2_3 + (1 : Int))) fun x4 => J 0 (nn0 :: []) (mk_flash_times_0 a c x4 v2_0 ((comm (listC v2_2.length mkRg (genC v2_2))).lo) true)))) ((numsP 2 c.length (rgsC c) ∧ loOk (listC c.length mkRg (rgsC c))) ∧ (lt (IntKind.i64.wrap (v2_3 + (1 : Int))) fun x5 => J 0 (nn0 :: []) (mk_flash_times_0 a c x5 v2_0 ((minR (listC c.length mkRg (rgsC c)) ((listC c.length mkRg (rgsC c))).length).lo) true))))
theorem er_flash_times_2 (J : Inv) (a : List Rg) (c : List Rg) (v2_0 : Int) (v2_1 : Int) (v2_2 : List (List CV)) (v2_3 : Int) (v2_4 : Int) (v2_5 : Int) (v2_6 : Int) (v2_7 : Bool) (nn2 nn0 : Nat) (post : DV → Prop) : round Tryd.prog tab Sf142 ann_flash_times J Tryd.f155 post 1 (nn2 :: nn0 :: []) (mk_flash_times_2 a c v2_0 v2_1 v2_2 v2_3 v2_4 v2_5 v2_6 v2_7) = rd_flash_times_2 J a c v2_0 v2_1 v2_2 v2_3 v2_4 v2_5 v2_6 v2_7 nn2 nn0 post := by kernel_rfl
theorem lp_flash_times (J : Inv) (post : DV → Prop) : AllG J (loopsFn Tryd.prog tab Sf142 ann_flash_times J Tryd.f155 post) = (((∀ F s, ¬ J 0 (0 :: F) s) ∧ ∀ n F s, J 0 ((n + 1) :: F) s → round Tryd.prog tab Sf142 ann_flash_times J Tryd.f155 post 0 (n :: F) s) ∧ ((∀ F s, ¬ J 2 (0 :: F) s) ∧ ∀ n F s, J 2 ((n + 1) :: F) s → round Tryd.prog tab Sf142 ann_flash_times J Tryd.f155 post 1 (n :: F) s) ∧ True) := by kernel_rfl
def J_flash_times (a : List Rg) (c : List Rg) : Inv := fun b F s => match b, F with
 | 0, [nn0] => ∃ (v0_0 : Int) (v0_1 : Int) (v0_2 : Int) (v0_3 : Bool), s = mk_flash_times_0 a c v0_0 v0_1 v0_2 v0_3 ∧ (tmOk a c ∧ 0 ≤ v0_0 ∧ v0_0 ≤ a.length ∧ (nn0 : Int) + v0_0 = a.length + 1 ∧ v0_3 = (timK a c v0_0.toNat).isSome ∧ (v0_1, v0_2) = (timK a c v0_0.toNat).getD (0, 0))
 | 2, [nn2, nn0] => ∃ (v2_0 : Int) (v2_1 : Int) (v2_2 : List (List CV)) (v2_3 : Int) (v2_4 : Int) (v2_5 : Int) (v2_6 : Int) (v2_7 : Bool), s = mk_flash_times_2 a c v2_0 v2_1 v2_2 v2_3 v2_4 v2_5 v2_6 v2_7 ∧ (tmOk a c ∧ (0 ≤ v2_3 ∧ v2_3 < a.length ∧ (nn0 : Int) + v2_3 = a.length) ∧ (0 ≤ v2_4 ∧ v2_4 ≤ a.length ∧ (nn2 : Int) + v2_4 = a.length + 1) ∧ v2_7 = (timK a c v2_3.toNat).isSome ∧ (v2_5, v2_6) = (timK a c v2_3.toNat).getD (0, 0) ∧ (v2_0 = (rgAt a v2_3.toNat).lo ∧ ((timK a c v2_3.toNat).isSome && decide (v2_0 ≥ ((timK a c v2_3.toNat).getD (0, 0)).1)) = false) ∧ v2_2 = (restK a c v2_0 v2_4.toNat).map rgCv)
 | _, _ => False
set_option maxHeartbeats 8000000 in
set_option maxRecDepth 100000 in
theorem rnd_flash_times_0 (a : List Rg) (c : List Rg) (v0_0 : Int) (v0_1 : Int) (v0_2 : Int) (v0_3 : Bool) (nn0 : Nat) (hp : tmOk a c) (hi : tmOk a c ∧ 0 ≤ v0_0 ∧ v0_0 ≤ a.length ∧ ((nn0 + 1) : Int) + v0_0 = a.length + 1 ∧ v0_3 = (timK a c v0_0.toNat).isSome ∧ (v0_1, v0_2) = (timK a c v0_0.toNat).getD (0, 0)) : rd_flash_times_0 (J_flash_times a c) a c v0_0 v0_1 v0_2 v0_3 nn0 (fun r => LeD r (.tu [.c (.v (.int .i64 (((timF a c).getD (0, 0)).1))), .c (.v (.int .i64 (((timF a c).getD (0, 0)).2))), .c (.v (.bool ((timF a c).isSome)))])) := by
 obtain ⟨i0, i1, i2, i3, i4, i5⟩ := hi
 obtain ⟨k, rfl⟩ : ∃ k : Nat, v0_0 = k := ⟨v0_0.toNat, by omega⟩
 have hk : (k : Int).toNat = k := rfl
 rw [hk] at i4 i5
 have h0 := i0
 obtain ⟨p1, p2, p3, p4⟩ := h0
 have e1 : v0_1 = ((timK a c k).getD (0, 0)).1 := by rw [← i5]
 unfold rd_flash_times_0
 rw [hk]
 refine cond_i (fun h => ?_) (fun h => ?_)
 ·have hlt : k < a.length := by have := of_decide_eq_true h; omega
  have eS := timK_succ (b := c) hlt
  refine ⟨by omega, cond_i (fun _ => trivial) (fun _ => ⟨by trivial, trivial⟩), lt_i fun x1 h1 => cond_i (fun g => lt_i fun x hx => ?_) (fun g => ?_)⟩
  ·rw [wi (by omega)] at hx
   subst hx
   have hg : ((timK a c k).isSome && decide ((rgAt a k).lo ≥ ((timK a c k).getD (0, 0)).1)) = true := by
    rw [← i4, ← e1, ← g, ← h1]; cases v0_3 <;> rfl
   rw [show tmStep a c (timK a c k) (rgAt a k) = timK a c k from if_pos hg] at eS
   exact ⟨_, _, _, _, rfl, i0, by omega, by omega, by omega, by rw [show ((k : Int) + 1).toNat = k + 1 by omega, eS]; exact i4, by rw [show ((k : Int) + 1).toNat = k + 1 by omega, eS]; exact i5⟩
  ·refine ⟨a.length + 1, _, _, _, _, 0, _, _, _, rfl, i0, by omega, by omega, i4, i5, ⟨rfl, ?_⟩, rfl⟩
   rw [hk, ← i4, ← e1, ← g, ← h1]; cases v0_3 <;> rfl
 ·have hge : k = a.length := by have := of_decide_eq_false h; omega
  have eF : timF a c = timK a c k := by rw [hge]; rfl
  rw [eF, ← i5, ← i4]
  exact LeD.refl _
theorem zero_flash_times_0 (a : List Rg) (c : List Rg) (v0_0 : Int) (v0_1 : Int) (v0_2 : Int) (v0_3 : Bool)  (hi : tmOk a c ∧ 0 ≤ v0_0 ∧ v0_0 ≤ a.length ∧ (0 : Int) + v0_0 = a.length + 1 ∧ v0_3 = (timK a c v0_0.toNat).isSome ∧ (v0_1, v0_2) = (timK a c v0_0.toNat).getD (0, 0)) : False := by
 omega
set_option maxHeartbeats 8000000 in
set_option maxRecDepth 100000 in
theorem rnd_flash_times_2 (a : List Rg) (c : List Rg) (v2_0 : Int) (v2_1 : Int) (v2_2 : List (List CV)) (v2_3 : Int) (v2_4 : Int) (v2_5 : Int) (v2_6 : Int) (v2_7 : Bool) (nn2 nn0 : Nat) (hp : tmOk a c) (hi : tmOk a c ∧ (0 ≤ v2_3 ∧ v2_3 < a.length ∧ (nn0 : Int) + v2_3 = a.length) ∧ (0 ≤ v2_4 ∧ v2_4 ≤ a.length ∧ ((nn2 + 1) : Int) + v2_4 = a.length + 1) ∧ v2_7 = (timK a c v2_3.toNat).isSome ∧ (v2_5, v2_6) = (timK a c v2_3.toNat).getD (0, 0) ∧ (v2_0 = (rgAt a v2_3.toNat).lo ∧ ((timK a c v2_3.toNat).isSome && decide (v2_0 ≥ ((timK a c v2_3.toNat).getD (0, 0)).1)) = false) ∧ v2_2 = (restK a c v2_0 v2_4.toNat).map rgCv) : rd_flash_times_2 (J_flash_times a c) a c v2_0 v2_1 v2_2 v2_3 v2_4 v2_5 v2_6 v2_7 nn2 nn0 (fun r => LeD r (.tu [.c (.v (.int .i64 (((timF a c).getD (0, 0)).1))), .c (.v (.int .i64 (((timF a c).getD (0, 0)).2))), .c (.v (.bool ((timF a c).isSome)))])) := by
 obtain ⟨i0, i1, i2, i3, i4, ⟨i5, i6⟩, i7⟩ := hi
 obtain ⟨k, rfl⟩ : ∃ k : Nat, v2_3 = k := ⟨v2_3.toNat, by omega⟩
 have hk : (k : Int).toNat = k := rfl
 obtain ⟨j, rfl⟩ : ∃ j : Nat, v2_4 = j := ⟨v2_4.toNat, by omega⟩
 have hj : (j : Int).toNat = j := rfl
 rw [hk] at i3 i4 i5 i6
 rw [hj] at i7
 have h0 := i0
 obtain ⟨p1, p2, p3, p4⟩ := h0
 have hl := restK_len a c v2_0 j
 have hlen : v2_2.length = (restK a c v2_0 j).length := by rw [i7, List.length_map]
 unfold rd_flash_times_2
 rw [hj]
 simp only [rgs_listC]
 refine cond_i (fun h => ?_) (fun h => ?_)
 ·have hlt : j < a.length := by have := of_decide_eq_true h; omega
  have eS := restK_succ a c v2_0 j
  refine ⟨by omega, cond_i (fun e => ⟨by omega, ?_, lt_i fun x hx => ?_⟩) (fun e => lt_i fun x hx => ?_)⟩
  ·unfold roomP maxLen; simp; omega
  all_goals
   rw [wi (by omega)] at hx
   subst hx
   refine ⟨_, _, _, _, _, _, _, _, rfl, i0, i1, by omega, i3, i4, ⟨i5, i6⟩, ?_⟩
   rw [show ((j : Int) + 1).toNat = j + 1 by omega, eS, i7]
  ·have e : (!hasB (rgAt a j) v2_0) = true := e
   rw [if_pos e, List.map_append]; rfl
  ·have e : (!hasB (rgAt a j) v2_0) = false := e
   rw [if_neg (by rw [e]; simp), List.append_nil]
 ·have hge : j = a.length := by have := of_decide_eq_false h; omega
  subst hge
  have eS := timK_succ (a := a) (b := c) (k := k) (by omega)
  unfold tmStep at eS
  rw [← i5, if_neg (by rw [i6]; simp)] at eS
  have eR : restK a c v2_0 a.length = restR a c v2_0 := rfl
  rw [eR] at i7 hlen hl
  subst i7
  simp only [rgg_listC]
  have fin : ∀ s t x, IntKind.i64.wrap ((k : Int) + 1) = x → ∀ f, f = (timK a c (k + 1)).isSome → (s, t) = (timK a c (k + 1)).getD (0, 0) → J_flash_times a c 0 [nn0] (mk_flash_times_0 a c x s t f) := fun s t x hx f hf hst => by
   rw [wi (by omega)] at hx
   subst hx
   exact ⟨_, _, _, _, rfl, i0, by omega, by omega, by omega, by rw [show ((k : Int) + 1).toNat = k + 1 by omega]; exact hf, by rw [show ((k : Int) + 1).toNat = k + 1 by omega]; exact hst⟩
  refine cond_i (fun g => ⟨⟨numsP_rgg _, by have := of_decide_eq_true g; omega, by omega⟩, cond_i (fun g2 => lt_i fun x hx => ?_) (fun g2 => lt_i fun x hx => ?_)⟩) (fun g => ⟨⟨numsP_rgs c, p4⟩, lt_i fun x hx => ?_⟩)
  ·have g := of_decide_eq_true g
   have eT : secT a c v2_0 = none := by unfold secT; rw [if_neg (by omega), if_neg (by have := of_decide_eq_true g2; omega)]
   rw [eT] at eS
   exact fin _ _ x hx _ (by rw [eS]; exact i3) (by rw [eS]; exact i4)
  ·have g := of_decide_eq_true g
   have eT : secT a c v2_0 = some (comm (restR a c v2_0)).lo := by unfold secT; rw [if_neg (by omega), if_pos (by have := of_decide_eq_false g2; omega)]
   rw [eT] at eS
   exact fin _ _ x hx _ (by rw [eS]; rfl) (by rw [eS]; rfl)
  ·have g := of_decide_eq_false g
   have eT : secT a c v2_0 = some (minR c c.length).lo := by unfold secT; rw [if_pos (by omega)]
   rw [eT] at eS
   exact fin _ _ x hx _ (by rw [eS]; rfl) (by rw [eS]; rfl)
theorem zero_flash_times_2 (a : List Rg) (c : List Rg) (v2_0 : Int) (v2_1 : Int) (v2_2 : List (List CV)) (v2_3 : Int) (v2_4 : Int) (v2_5 : Int) (v2_6 : Int) (v2_7 : Bool) (nn0 : Nat) (hi : tmOk a c ∧ (0 ≤ v2_3 ∧ v2_3 < a.length ∧ (nn0 : Int) + v2_3 = a.length) ∧ (0 ≤ v2_4 ∧ v2_4 ≤ a.length ∧ (0 : Int) + v2_4 = a.length + 1) ∧ v2_7 = (timK a c v2_3.toNat).isSome ∧ (v2_5, v2_6) = (timK a c v2_3.toNat).getD (0, 0) ∧ (v2_0 = (rgAt a v2_3.toNat).lo ∧ ((timK a c v2_3.toNat).isSome && decide (v2_0 ≥ ((timK a c v2_3.toNat).getD (0, 0)).1)) = false) ∧ v2_2 = (restK a c v2_0 v2_4.toNat).map rgCv) : False := by
 omega
set_option maxHeartbeats 8000000 in
set_option maxRecDepth 100000 in
theorem spec_flash_times (a : List Rg) (c : List Rg) (hp : tmOk a c) : vc_flash_times (J_flash_times a c) a c (fun r => LeD r (.tu [.c (.v (.int .i64 (((timF a c).getD (0, 0)).1))), .c (.v (.int .i64 (((timF a c).getD (0, 0)).2))), .c (.v (.bool ((timF a c).isSome)))])) := by
 unfold vc_flash_times
 exact ⟨a.length + 1, 0, 0, 0, false, rfl, hp, by omega, by omega, by omega, rfl, rfl⟩
theorem all_flash_times (a : List Rg) (c : List Rg) (hp : tmOk a c) : AllG (J_flash_times a c) (loopsFn Tryd.prog tab Sf142 ann_flash_times (J_flash_times a c) Tryd.f155 (fun r => LeD r (.tu [.c (.v (.int .i64 (((timF a c).getD (0, 0)).1))), .c (.v (.int .i64 (((timF a c).getD (0, 0)).2))), .c (.v (.bool ((timF a c).isSome)))]))) := by
 rw [lp_flash_times]
 refine ⟨⟨?_, ?_⟩, ⟨?_, ?_⟩, trivial⟩
 ·intro F s h
  obtain _ | ⟨g, F⟩ := F
  case cons => exact h.elim
  obtain ⟨w0, w1, w2, w3, rfl, hi⟩ := h
  exact zero_flash_times_0 a c w0 w1 w2 w3 hi
 ·intro n F s h
  obtain _ | ⟨g, F⟩ := F
  case cons => exact h.elim
  obtain ⟨w0, w1, w2, w3, rfl, hi⟩ := h
  rw [er_flash_times_0]
  exact rnd_flash_times_0 a c _ _ _ _ _ hp hi
 ·intro F s h
  obtain _ | ⟨f0, F⟩ := F
  ·exact h.elim
  obtain _ | ⟨g, F⟩ := F
  case cons => exact h.elim
  obtain ⟨w0, w1, w2, w3, w4, w5, w6, w7, rfl, hi⟩ := h
  exact zero_flash_times_2 a c w0 w1 w2 w3 w4 w5 w6 w7 _ hi
 ·intro n F s h
  obtain _ | ⟨f0, F⟩ := F
  ·exact h.elim
  obtain _ | ⟨g, F⟩ := F
  case cons => exact h.elim
  obtain ⟨w0, w1, w2, w3, w4, w5, w6, w7, rfl, hi⟩ := h
  rw [er_flash_times_2]
  exact rnd_flash_times_2 a c _ _ _ _ _ _ _ _ _ _ hp hi
def con_flash_times : Con := fun args => match args with
 | [.t (.c (.sl 2 n_a c_a)), .t (.c (.sl 2 n_c c_c))] => some (.tu [.c (.v (.int .i64 (((timF (listC n_a mkRg c_a) (listC n_c mkRg c_c)).getD (0, 0)).1))), .c (.v (.int .i64 (((timF (listC n_a mkRg c_a) (listC n_c mkRg c_c)).getD (0, 0)).2))), .c (.v (.bool ((timF (listC n_a mkRg c_a) (listC n_c mkRg c_c)).isSome)))], some (numsP 2 n_a c_a ∧ numsP 2 n_c c_c ∧ tmOk (listC n_a mkRg c_a) (listC n_c mkRg c_c)), false)
 | _ => none
theorem ok_flash_times : Ok Tryd.prog 155 con_flash_times := by
 refine Ok.fn (ann := ann_flash_times) mixed tabOK VSf142 VI1 (fn := Tryd.f155) (by kernel_rfl) (by kernel_rfl) fit_flash_times fun args r pre fresh h hp => ?_
 unfold con_flash_times at h
 split at h
 ·rename_i n_a c_a n_c c_c
  cases h
  obtain ⟨hp0, hp1, hp⟩ := hp
  refine ⟨rfl, J_flash_times (listC n_a mkRg c_a) (listC n_c mkRg c_c), [.t (.c (.sl 2 ((listC n_a mkRg c_a).length) (rgsC (listC n_a mkRg c_a)))), .t (.c (.sl 2 ((listC n_c mkRg c_c).length) (rgsC (listC n_c mkRg c_c))))], ?_, Nat.le_of_ble_eq_true (by kernel_rfl), ?_, ?_⟩
  ·exact (LeA_cons (leT_c ((leL_Rg hp0))) (LeA_cons (leT_c ((leL_Rg hp1))) LeA_nil))
  ·rw [ev_flash_times]; exact spec_flash_times (listC n_a mkRg c_a) (listC n_c mkRg c_c) hp
  ·exact all_flash_times (listC n_a mkRg c_a) (listC n_c mkRg c_c) hp
 ·cases h
noncomputable def Sf143 : Sum := addS Sf142 155 con_flash_times
theorem VSf143 : Valid Tryd.prog Sf143 := Valid.add VSf142 ok_flash_times
def mk_cherenkov_flash_search_pair_0 (l : List FHit) (g0 g1 g2 g3 g4 : Int) (sp : List (List Rg)) (v0_0 : Int) : DS := ⟨[none, some (.t (.c (.p 1 0))), some (.t (.c (.p 2 0))), none, none, none, none, none, none, none, none, some (.t (.c (.sl 1 sp.length (rlsC sp)))), some (.t (.c (.v (.int .i64 ((sp.length : Nat) : Int))))), some (.t (.c (.v (.int .i64 v0_0)))), none, none, none, none, none, none, none, none, none, none, none, none, none, none, none, none, none, none, none, none, none, none, none, none, none, none, none, none, none, none, none], [none, some (.box 183 [.sl 7 l.length (hitsC l), .v (.int .i64 g0), .v (.int .i64 g1), .v (.int .i64 g2), .v (.int .i64 g3), .v (.int .i64 g4), .sl 1 sp.length (rlsC sp)]), some (.box 129 [.v (.int .i64 0), .v (.int .i64 0), .v (.int .i64 0), .v (.int .i64 0)]), none, none, none, none, none, none, none, none, none, none, none, none, none, none, none, none, none, none, none, none, none, none, none, none, none, none, none, none, none, none, none, none, none, none, none, none, none, none, none, none, none, none]⟩
def mk_cherenkov_flash_search_pair_2 (l : List FHit) (g0 g1 g2 g3 g4 : Int) (sp : List (List Rg)) (v2_0 : Int) (v2_1 : Int) (v2_2 : (List Rg)) (v2_3 : Int) : DS := ⟨[none, some (.t (.c (.p 1 0))), some (.t (.c (.p 2 0))), none, some (.t (.c (.v (.int .i64 v2_1)))), some (.t (.c (.sl 2 v2_2.length (rgsC v2_2)))), some (.t (.c (.v (.int .i64 v2_3)))), none, none, none, none, some (.t (.c (.sl 1 sp.length (rlsC sp)))), some (.t (.c (.v (.int .i64 ((sp.length : Nat) : Int))))), some (.t (.c (.v (.int .i64 v2_0)))), none, none, none, none, none, none, none, none, none, none, none, none, none, none, none, none, none, none, none, none, none, none, none, none, none, none, none, none, none, none, none], [none, some (.box 183 [.sl 7 l.length (hitsC l), .v (.int .i64 g0), .v (.int .i64 g1), .v (.int .i64 g2), .v (.int .i64 g3), .v (.int .i64 g4), .sl 1 sp.length (rlsC sp)]), some (.box 129 [.v (.int .i64 0), .v (.int .i64 0), .v (.int .i64 0), .v (.int .i64 0)]), none, none, none, none, none, none, none, none, none, none, none, none, none, none, none, none, none, none, none, none, none, none, none, none, none, none, none, none, none, none, none, none, none, none, none, none, none, none, none, none, none, none]⟩
def vc_cherenkov_flash_search_pair (J : Inv) (l : List FHit) (g0 g1 g2 g3 g4 : Int) (sp : List (List Rg)) (post : DV → Prop) : Prop := ∃ n, J 0 (n :: []) (mk_cherenkov_flash_search_pair_0 l g0 g1 g2 g3 g4 sp 0)
def ann_cherenkov_flash_search_pair : Ann := ⟨fun _ => none, fun b => lookA b [(0, (none, some ⟨[1, 2, 11, 12, 13], [1, 2], []⟩)), (2, (none, some ⟨[1, 2, 4, 5, 6, 11, 12, 13], [1, 2], []⟩))], fun _ => [], I1, false, fun _ => none, fun _ => none⟩
theorem ev_cherenkov_flash_search_pair (J : Inv) (l : List FHit) (g0 g1 g2 g3 g4 : Int) (sp : List (List Rg)) (post : DV → Prop) : evFn Tryd.prog tab Sf143 ann_cherenkov_flash_search_pair J Tryd.f136 [.t (.a [.sl 7 l.length (hitsC l), .v (.int .i64 g0), .v (.int .i64 g1), .v (.int .i64 g2), .v (.int .i64 g3), .v (.int .i64 g4), .sl 1 sp.length (rlsC sp)])] post = vc_cherenkov_flash_search_pair J l g0 g1 g2 g3 g4 sp post := by kernel_rfl
theorem fit_cherenkov_flash_search_pair : okFn ann_cherenkov_flash_search_pair Tryd.f136 = true := by kernel_rfl
def rd_cherenkov_flash_search_pair_0 (J : Inv) (l : List FHit) (g0 g1 g2 g3 g4 : Int) (sp : List (List Rg)) (v0_0 : Int) (nn0 : Nat) (post : DV → Prop) : Prop := cond (decide (v0_0 < ((sp.length : Nat) : Int))) ((0 ≤ v0_0 ∧ v0_0 < ((sp.length : Nat) : Int)) ∧ (∃ n, J 2 (n :: nn0 :: []) (mk_cherenkov_flash_search_pair_2 l g0 g1 g2 g3 g4 sp v0_0 v0_0 (rlAt sp v0_0.toNat) v0_0))) (post (.tu [.a [.v (.int .i64 0), .v (.int .i64 0), .v (.int .i64 0), .v (.int .i64 0)], .c (.v (.bool false))]))
theorem er_cherenkov_flash_search_pair_0 (J : Inv) (l : List FHit) (g0 g1 g2 g3 g4 : Int) (sp : List (List Rg)) (v0_0 : Int) (nn0 : Nat) (post : DV → Prop) : round Tryd.prog tab Sf143 ann_cherenkov_flash_search_pair J Tryd.f136 post 0 (nn0 :: []) (mk_cherenkov_flash_search_pair_0 l g0 g1 g2 g3 g4 sp v0_0) = rd_cherenkov_flash_search_pair_0 J l g0 g1 g2 g3 g4 sp v0_0 nn0 post := by kernel_rfl
def rd_cherenkov_flash_search_pair_2 (J : Inv) (l : List FHit) (g0 g1 g2 g3 g4 : Int) (sp : List (List Rg)) (v2_0 : Int) (v2_1 : Int) (v2_2 : (List Rg)) (v2_3 : Int) (nn2 nn0 : Nat) (post : DV → Prop) : Prop := cond (decide (v2_3 < ((sp.length : Nat) : Int))) ((0 ≤ v2_3 ∧ v2_3 < ((sp.length : Nat) : Int)) ∧ ((numsP 2 v2_2.length (rgsC v2_2) ∧ numsP 2 ((rlAt sp v2_3.toNat).length) (rgsC (rlAt sp v2_3.toNat)) ∧ tmOk (listC v2_2.length mkRg (rgsC v2_2)) (listC ((rlAt sp v2_3.toNat).length) mkRg (rgsC (rlAt sp v2_3.toNat)))) ∧ (cond ((timF (listC v2_2.length mkRg (rgsC v2_2)) (listC ((rlAt sp v2_3.toNat).length) mkRg (rgsC (rlAt sp v2_3.toNat)))).isSome) (post (.tu [.a [.v (.int .i64 v2_1), .v (.int .i64 v2_3), .v (.int .i64 (((timF (listC v2_2.length mkRg (rgsC v2_2)) (listC ((rlAt sp v2_3.toNat).length) mkRg (rgsC (rlAt sp v2_3.toNat)))).getD (0, 0)).1)), .v (.int .i64 (((timF (listC v2_2.length mkRg (rgsC v2_2)) (listC ((rlAt sp v2_3.toNat).length) mkRg (rgsC (rlAt sp v2_3.toNat)))).getD (0, 0)).2))], .c (.v (.bool true))])) (lt (IntKind.i64.wrap (v2_3 + (1 : Int))) fun x1 => J 2 (nn2 :: nn0 :: []) (mk_cherenkov_flash_search_pair_2 l g0 g1 g2 g3 g4 sp v2_0 v2_1 v2_2 x1))))) (lt (IntKind.i64.wrap (v2_0 + (1 : Int))) fun x2 => J 0 (nn0 :: []) (mk_cherenkov_flash_search_pair_0 l g0 g1 g2 g3 g4 sp x2))
theorem er_cherenkov_flash_search_pair_2 (J : Inv) (l : List FHit) (g0 g1 g2 g3 g4 : Int) (sp : List (List Rg)) (v2_0 : Int) (v2_1 : Int) (v2_2 : (List Rg)) (v2_3 : Int) (nn2 nn0 : Nat) (post : DV → Prop) : round Tryd.prog tab Sf143 ann_cherenkov_flash_search_pair J Tryd.f136 post 1 (nn2 :: nn0 :: []) (mk_cherenkov_flash_search_pair_2 l g0 g1 g2 g3 g4 sp v2_0 v2_1 v2_2 v2_3) = rd_cherenkov_flash_search_pair_2 J l g0 g1 g2 g3 g4 sp v2_0 v2_1 v2_2 v2_3 nn2 nn0 post := by kernel_rfl
theorem lp_cherenkov_flash_search_pair (J : Inv) (post : DV → Prop) : AllG J (loopsFn Tryd.prog tab Sf143 ann_cherenkov_flash_search_pair J Tryd.f136 post) = (((∀ F s, ¬ J 0 (0 :: F) s) ∧ ∀ n F s, J 0 ((n + 1) :: F) s → round Tryd.prog tab Sf143 ann_cherenkov_flash_search_pair J Tryd.f136 post 0 (n :: F) s) ∧ ((∀ F s, ¬ J 2 (0 :: F) s) ∧ ∀ n F s, J 2 ((n + 1) :: F) s → round Tryd.prog tab Sf143 ann_cherenkov_flash_search_pair J Tryd.f136 post 1 (n :: F) s) ∧ True) := by kernel_rfl
def J_cherenkov_flash_search_pair (l : List FHit) (g0 g1 g2 g3 g4 : Int) (sp : List (List Rg)) : Inv := fun b F s => match b, F with
 | 0, [nn0] => ∃ (v0_0 : Int), s = mk_cherenkov_flash_search_pair_0 l g0 g1 g2 g3 g4 sp v0_0 ∧ (prOk sp ∧ 0 ≤ v0_0 ∧ v0_0 ≤ sp.length ∧ (nn0 : Int) + v0_0 = sp.length + 1 ∧ ∀ j, j < v0_0.toNat * sp.length + v0_0.toNat → j < sp.length * sp.length → prB sp j = false)
 | 2, [nn2, nn0] => ∃ (v2_0 : Int) (v2_1 : Int) (v2_2 : (List Rg)) (v2_3 : Int), s = mk_cherenkov_flash_search_pair_2 l g0 g1 g2 g3 g4 sp v2_0 v2_1 v2_2 v2_3 ∧ (prOk sp ∧ v2_1 = v2_0 ∧ v2_2 = rlAt sp v2_0.toNat ∧ (0 ≤ v2_0 ∧ v2_0 < sp.length ∧ (nn0 : Int) + v2_0 = sp.length) ∧ (v2_0 ≤ v2_3 ∧ v2_3 ≤ sp.length ∧ (nn2 : Int) + v2_3 = sp.length + 1) ∧ ∀ j, j < v2_0.toNat * sp.length + v2_3.toNat → prB sp j = false)
 | _, _ => False
theorem rnd_cherenkov_flash_search_pair_0 (l : List FHit) (g0 g1 g2 g3 g4 : Int) (sp : List (List Rg)) (v0_0 : Int) (nn0 : Nat) (hp : prOk sp) (hi : prOk sp ∧ 0 ≤ v0_0 ∧ v0_0 ≤ sp.length ∧ ((nn0 + 1) : Int) + v0_0 = sp.length + 1 ∧ ∀ j, j < v0_0.toNat * sp.length + v0_0.toNat → j < sp.length * sp.length → prB sp j = false) : rd_cherenkov_flash_search_pair_0 (J_cherenkov_flash_search_pair l g0 g1 g2 g3 g4 sp) l g0 g1 g2 g3 g4 sp v0_0 nn0 (fun r => LeD r (.tu [.a [.v (.int .i64 ((prV sp).a)), .v (.int .i64 ((prV sp).b)), .v (.int .i64 ((prV sp).s)), .v (.int .i64 ((prV sp).t))], .c (.v (.bool (hasP sp)))])) := by
 obtain ⟨i0, i1, i2, i3, i4⟩ := hi
 obtain ⟨k, rfl⟩ : ∃ k : Nat, v0_0 = k := ⟨v0_0.toNat, by omega⟩
 have hk : (k : Int).toNat = k := rfl
 rw [hk] at i4
 unfold rd_cherenkov_flash_search_pair_0
 rw [hk]
 refine cond_i (fun h => ?_) (fun h => ?_)
 ·have h := of_decide_eq_true h
  refine ⟨by omega, sp.length + 1 - k, _, _, _, _, rfl, i0, rfl, by rw [hk], by omega, by omega, fun j hj => i4 j (by rw [hk] at hj; exact hj) ?_⟩
  rw [hk] at hj
  have := pr_lt (n := sp.length) (i := k) (k := k) (by omega) (by omega)
  omega
 ·have h := of_decide_eq_false h
  have e : k = sp.length := by omega
  obtain ⟨u1, u2⟩ := prV_none (sp := sp) fun j hj => i4 j (by rw [e]; omega) hj
  rw [u1, u2]
  exact LeD.refl _
theorem zero_cherenkov_flash_search_pair_0 (l : List FHit) (g0 g1 g2 g3 g4 : Int) (sp : List (List Rg)) (v0_0 : Int)  (hi : prOk sp ∧ 0 ≤ v0_0 ∧ v0_0 ≤ sp.length ∧ (0 : Int) + v0_0 = sp.length + 1 ∧ ∀ j, j < v0_0.toNat * sp.length + v0_0.toNat → j < sp.length * sp.length → prB sp j = false) : False := by
 omega
theorem rnd_cherenkov_flash_search_pair_2 (l : List FHit) (g0 g1 g2 g3 g4 : Int) (sp : List (List Rg)) (v2_0 : Int) (v2_1 : Int) (v2_2 : (List Rg)) (v2_3 : Int) (nn2 nn0 : Nat) (hp : prOk sp) (hi : prOk sp ∧ v2_1 = v2_0 ∧ v2_2 = rlAt sp v2_0.toNat ∧ (0 ≤ v2_0 ∧ v2_0 < sp.length ∧ (nn0 : Int) + v2_0 = sp.length) ∧ (v2_0 ≤ v2_3 ∧ v2_3 ≤ sp.length ∧ ((nn2 + 1) : Int) + v2_3 = sp.length + 1) ∧ ∀ j, j < v2_0.toNat * sp.length + v2_3.toNat → prB sp j = false) : rd_cherenkov_flash_search_pair_2 (J_cherenkov_flash_search_pair l g0 g1 g2 g3 g4 sp) l g0 g1 g2 g3 g4 sp v2_0 v2_1 v2_2 v2_3 nn2 nn0 (fun r => LeD r (.tu [.a [.v (.int .i64 ((prV sp).a)), .v (.int .i64 ((prV sp).b)), .v (.int .i64 ((prV sp).s)), .v (.int .i64 ((prV sp).t))], .c (.v (.bool (hasP sp)))])) := by
 obtain ⟨i0, e1, e2, i1, i2, i3⟩ := hi
 obtain ⟨k, rfl⟩ : ∃ k : Nat, v2_0 = k := ⟨v2_0.toNat, by omega⟩
 have hk : (k : Int).toNat = k := rfl
 subst e1
 subst e2
 obtain ⟨j, rfl⟩ : ∃ j : Nat, v2_3 = j := ⟨v2_3.toNat, by omega⟩
 have hj : (j : Int).toNat = j := rfl
 rw [hk, hj] at i3
 have hz := i0.1.1
 unfold rd_cherenkov_flash_search_pair_2
 simp only [rgs_listC, hk, hj]
 refine cond_i (fun h => ?_) (fun h => lt_i fun x hx => ?_)
 ·have hlt : j < sp.length := by have := of_decide_eq_true h; omega
  refine ⟨by omega, ⟨numsP_rgs _, numsP_rgs _, prOk_tm i0 (by omega) hlt⟩, cond_i (fun e => ?_) (fun e => lt_i fun x hx => ?_)⟩
  ·obtain ⟨⟨s, t⟩, ho⟩ := Option.isSome_iff_exists.1 e
   obtain ⟨u1, u2⟩ := prV_at (i := k) (k := j) (by omega) hlt (by omega) ho i3
   rw [u1, u2, ho]
   exact LeD.refl _
  ·rw [wi (by omega)] at hx
   subst hx
   have ho : timF (rlAt sp k) (rlAt sp j) = none := by
    cases q : timF (rlAt sp k) (rlAt sp j) with
    | none => rfl
    | some _ => rw [q] at e; cases e
   refine ⟨_, _, _, _, rfl, i0, rfl, rfl, i1, by omega, fun q hq => ?_⟩
   rw [hk, show ((j : Int) + 1).toNat = j + 1 by omega] at hq
   by_cases c : q = k * sp.length + j
   ·rw [c]; exact prB_none hlt ho
   ·exact i3 q (by omega)
 ·have h := of_decide_eq_false h
  have e : j = sp.length := by omega
  rw [wi (by omega)] at hx
  subst hx
  rw [e] at i3
  refine ⟨_, rfl, i0, by omega, by omega, by omega, ?_⟩
  rw [show ((k : Int) + 1).toNat = k + 1 by omega]
  exact prB_row (by omega) i3
theorem zero_cherenkov_flash_search_pair_2 (l : List FHit) (g0 g1 g2 g3 g4 : Int) (sp : List (List Rg)) (v2_0 : Int) (v2_1 : Int) (v2_2 : (List Rg)) (v2_3 : Int) (nn0 : Nat) (hi : prOk sp ∧ v2_1 = v2_0 ∧ v2_2 = rlAt sp v2_0.toNat ∧ (0 ≤ v2_0 ∧ v2_0 < sp.length ∧ (nn0 : Int) + v2_0 = sp.length) ∧ (v2_0 ≤ v2_3 ∧ v2_3 ≤ sp.length ∧ (0 : Int) + v2_3 = sp.length + 1) ∧ ∀ j, j < v2_0.toNat * sp.length + v2_3.toNat → prB sp j = false) : False := by
 omega
theorem spec_cherenkov_flash_search_pair (l : List FHit) (g0 g1 g2 g3 g4 : Int) (sp : List (List Rg)) (hp : prOk sp) : vc_cherenkov_flash_search_pair (J_cherenkov_flash_search_pair l g0 g1 g2 g3 g4 sp) l g0 g1 g2 g3 g4 sp (fun r => LeD r (.tu [.a [.v (.int .i64 ((prV sp).a)), .v (.int .i64 ((prV sp).b)), .v (.int .i64 ((prV sp).s)), .v (.int .i64 ((prV sp).t))], .c (.v (.bool (hasP sp)))])) := by
 unfold vc_cherenkov_flash_search_pair
 exact ⟨sp.length + 1, 0, rfl, hp, by omega, by omega, by omega, fun j hj _ => by simp at hj⟩
theorem all_cherenkov_flash_search_pair (l : List FHit) (g0 g1 g2 g3 g4 : Int) (sp : List (List Rg)) (hp : prOk sp) : AllG (J_cherenkov_flash_search_pair l g0 g1 g2 g3 g4 sp) (loopsFn Tryd.prog tab Sf143 ann_cherenkov_flash_search_pair (J_cherenkov_flash_search_pair l g0 g1 g2 g3 g4 sp) Tryd.f136 (fun r => LeD r (.tu [.a [.v (.int .i64 ((prV sp).a)), .v (.int .i64 ((prV sp).b)), .v (.int .i64 ((prV sp).s)), .v (.int .i64 ((prV sp).t))], .c (.v (.bool (hasP sp)))]))) := by
 rw [lp_cherenkov_flash_search_pair]
 refine ⟨⟨?_, ?_⟩, ⟨?_, ?_⟩, trivial⟩
 ·intro F s h
  obtain _ | ⟨g, F⟩ := F
  case cons => exact h.elim
  obtain ⟨w0, rfl, hi⟩ := h
  exact zero_cherenkov_flash_search_pair_0 l g0 g1 g2 g3 g4 sp w0 hi
 ·intro n F s h
  obtain _ | ⟨g, F⟩ := F
  case cons => exact h.elim
  obtain ⟨w0, rfl, hi⟩ := h
  rw [er_cherenkov_flash_search_pair_0]
  exact rnd_cherenkov_flash_search_pair_0 l g0 g1 g2 g3 g4 sp _ _ hp hi
 ·intro F s h
  obtain _ | ⟨f0, F⟩ := F
  ·exact h.elim
  obtain _ | ⟨g, F⟩ := F
  case cons => exact h.elim
  obtain ⟨w0, w1, w2, w3, rfl, hi⟩ := h
  exact zero_cherenkov_flash_search_pair_2 l g0 g1 g2 g3 g4 sp w0 w1 w2 w3 _ hi
 ·intro n F s h
  obtain _ | ⟨f0, F⟩ := F
  ·exact h.elim
  obtain _ | ⟨g, F⟩ := F
  case cons => exact h.elim
  obtain ⟨w0, w1, w2, w3, rfl, hi⟩ := h
  rw [er_cherenkov_flash_search_pair_2]
  exact rnd_cherenkov_flash_search_pair_2 l g0 g1 g2 g3 g4 sp _ _ _ _ _ _ hp hi
def con_cherenkov_flash_search_pair : Con := fun args => match args with
 | [.t (.a [.sl 7 n_l c_l, .v (.int .i64 g0), .v (.int .i64 g1), .v (.int .i64 g2), .v (.int .i64 g3), .v (.int .i64 g4), .sl 1 n_sp c_sp])] => some (.tu [.a [.v (.int .i64 ((prV (rlOf n_sp c_sp)).a)), .v (.int .i64 ((prV (rlOf n_sp c_sp)).b)), .v (.int .i64 ((prV (rlOf n_sp c_sp)).s)), .v (.int .i64 ((prV (rlOf n_sp c_sp)).t))], .c (.v (.bool (hasP (rlOf n_sp c_sp))))], some (numsP 7 n_l c_l ∧ rlP n_sp c_sp ∧ prOk (rlOf n_sp c_sp)), false)
 | _ => none
theorem ok_cherenkov_flash_search_pair : Ok Tryd.prog 136 con_cherenkov_flash_search_pair := by
 refine Ok.fn (ann := ann_cherenkov_flash_search_pair) mixed tabOK VSf143 VI1 (fn := Tryd.f136) (by kernel_rfl) (by kernel_rfl) fit_cherenkov_flash_search_pair fun args r pre fresh h hp => ?_
 unfold con_cherenkov_flash_search_pair at h
 split at h
 ·rename_i n_l c_l g0 g1 g2 g3 g4 n_sp c_sp
  cases h
  obtain ⟨hp0, hp1, hp⟩ := hp
  refine ⟨rfl, J_cherenkov_flash_search_pair (listC n_l mkHit c_l) g0 g1 g2 g3 g4 (rlOf n_sp c_sp), [.t (.a [.sl 7 ((listC n_l mkHit c_l).length) (hitsC (listC n_l mkHit c_l)), .v (.int .i64 g0), .v (.int .i64 g1), .v (.int .i64 g2), .v (.int .i64 g3), .v (.int .i64 g4), .sl 1 ((rlOf n_sp c_sp).length) (rlsC (rlOf n_sp c_sp))])], ?_, Nat.le_of_ble_eq_true (by kernel_rfl), ?_, ?_⟩
  ·exact (LeA_cons (leT_a (LeCs.cons ((leL_FHit hp0)) (LeCs.cons (LeC1.refl _) (LeCs.cons (LeC1.refl _) (LeCs.cons (LeC1.refl _) (LeCs.cons (LeC1.refl _) (LeCs.cons (LeC1.refl _) (LeCs.cons ((leL_LRg hp1)) LeCs.nil)))))))) LeA_nil)
  ·rw [ev_cherenkov_flash_search_pair]; exact spec_cherenkov_flash_search_pair (listC n_l mkHit c_l) g0 g1 g2 g3 g4 (rlOf n_sp c_sp) hp
  ·exact all_cherenkov_flash_search_pair (listC n_l mkHit c_l) g0 g1 g2 g3 g4 (rlOf n_sp c_sp) hp
 ·cases h
noncomputable def Sf144 : Sum := addS Sf143 136 con_cherenkov_flash_search_pair
theorem VSf144 : Valid Tryd.prog Sf144 := Valid.add VSf143 ok_cherenkov_flash_search_pair
def vc_flash_PairOf (l : List FHit) (g0 g1 g2 g3 g4 : Int) (post : DV → Prop) : Prop := (numsP 7 l.length (hitsC l)) ∧ (cond ((bothE (listC l.length mkHit (hitsC l)) (⟨⟨g0, g1, g2⟩, g3, g4⟩ : Lat)) != (0 : Int)) (post (.tu [.a [.v (.int .i64 0), .v (.int .i64 0), .v (.int .i64 0), .v (.int .i64 0)], .c (.v (.int .i64 (bothE (listC l.length mkHit (hitsC l)) (⟨⟨g0, g1, g2⟩, g3, g4⟩ : Lat))))])) ((numsP 7 ((opnH (listC l.length mkHit (hitsC l)) (⟨⟨g0, g1, g2⟩, g3, g4⟩ : Lat)).length) (hitsC (opnH (listC l.length mkHit (hitsC l)) (⟨⟨g0, g1, g2⟩, g3, g4⟩ : Lat))) ∧ rlP ((opnS (listC l.length mkHit (hitsC l)) (⟨⟨g0, g1, g2⟩, g3, g4⟩ : Lat)).length) (rlsC (opnS (listC l.length mkHit (hitsC l)) (⟨⟨g0, g1, g2⟩, g3, g4⟩ : Lat))) ∧ prOk (rlOf ((opnS (listC l.length mkHit (hitsC l)) (⟨⟨g0, g1, g2⟩, g3, g4⟩ : Lat)).length) (rlsC (opnS (listC l.length mkHit (hitsC l)) (⟨⟨g0, g1, g2⟩, g3, g4⟩ : Lat))))) ∧ (post (.tu [.a [.v (.int .i64 ((prV (rlOf ((opnS (listC l.length mkHit (hitsC l)) (⟨⟨g0, g1, g2⟩, g3, g4⟩ : Lat)).length) (rlsC (opnS (listC l.length mkHit (hitsC l)) (⟨⟨g0, g1, g2⟩, g3, g4⟩ : Lat))))).a)), .v (.int .i64 ((prV (rlOf ((opnS (listC l.length mkHit (hitsC l)) (⟨⟨g0, g1, g2⟩, g3, g4⟩ : Lat)).length) (rlsC (opnS (listC l.length mkHit (hitsC l)) (⟨⟨g0, g1, g2⟩, g3, g4⟩ : Lat))))).b)), .v (.int .i64 ((prV (rlOf ((opnS (listC l.length mkHit (hitsC l)) (⟨⟨g0, g1, g2⟩, g3, g4⟩ : Lat)).length) (rlsC (opnS (listC l.length mkHit (hitsC l)) (⟨⟨g0, g1, g2⟩, g3, g4⟩ : Lat))))).s)), .v (.int .i64 ((prV (rlOf ((opnS (listC l.length mkHit (hitsC l)) (⟨⟨g0, g1, g2⟩, g3, g4⟩ : Lat)).length) (rlsC (opnS (listC l.length mkHit (hitsC l)) (⟨⟨g0, g1, g2⟩, g3, g4⟩ : Lat))))).t))], .c (.v (.int .i64 (unl (hasP (rlOf ((opnS (listC l.length mkHit (hitsC l)) (⟨⟨g0, g1, g2⟩, g3, g4⟩ : Lat)).length) (rlsC (opnS (listC l.length mkHit (hitsC l)) (⟨⟨g0, g1, g2⟩, g3, g4⟩ : Lat))))) (12 : Int))))]))))
def ann_flash_PairOf : Ann := ⟨fun r => lookA r [(5, ([[], [], [1], [0, 1, 2], [0, 1, 2, 3]], [[27], [27], [], [], []]))], fun _ => none, fun _ => [], I1, false, fun _ => none, fun _ => none⟩
theorem ev_flash_PairOf (J : Inv) (l : List FHit) (g0 g1 g2 g3 g4 : Int) (post : DV → Prop) : evFn Tryd.prog tab Sf144 ann_flash_PairOf J Tryd.f76 [.t (.c (.sl 7 l.length (hitsC l))), .t (.a [.v (.int .i64 g0), .v (.int .i64 g1), .v (.int .i64 g2), .v (.int .i64 g3), .v (.int .i64 g4)])] post = vc_flash_PairOf l g0 g1 g2 g3 g4 post := by kernel_rfl
theorem fit_flash_PairOf : okFn ann_flash_PairOf Tryd.f76 = true := by kernel_rfl
theorem lp_flash_PairOf (J : Inv) (post : DV → Prop) : AllG J (loopsFn Tryd.prog tab Sf144 ann_flash_PairOf J Tryd.f76 post) = (True) := by kernel_rfl
theorem spec_flash_PairOf (l : List FHit) (g0 g1 g2 g3 g4 : Int) : vc_flash_PairOf l g0 g1 g2 g3 g4 (fun r => LeD r (.tu [.a [.v (.int .i64 ((prO l (⟨⟨g0, g1, g2⟩, g3, g4⟩ : Lat)).a)), .v (.int .i64 ((prO l (⟨⟨g0, g1, g2⟩, g3, g4⟩ : Lat)).b)), .v (.int .i64 ((prO l (⟨⟨g0, g1, g2⟩, g3, g4⟩ : Lat)).s)), .v (.int .i64 ((prO l (⟨⟨g0, g1, g2⟩, g3, g4⟩ : Lat)).t))], .c (.v (.int .i64 (pairE l (⟨⟨g0, g1, g2⟩, g3, g4⟩ : Lat))))])) := by
 unfold vc_flash_PairOf
 simp only [hits_listC, rls_of]
 refine ⟨numsP_hits l, cond_i (fun h => ?_) (fun h => ?_)⟩
 ·have h : bothE l (⟨⟨g0, g1, g2⟩, g3, g4⟩ : Lat) ≠ 0 := by simpa using h
  rw [show prO l (⟨⟨g0, g1, g2⟩, g3, g4⟩ : Lat) = ⟨0, 0, 0, 0⟩ from if_neg h, show pairE l (⟨⟨g0, g1, g2⟩, g3, g4⟩ : Lat) = bothE l (⟨⟨g0, g1, g2⟩, g3, g4⟩ : Lat) from if_pos h]
  exact LeD.refl _
 ·have h : bothE l (⟨⟨g0, g1, g2⟩, g3, g4⟩ : Lat) = 0 := by simpa using h
  rw [show prO l (⟨⟨g0, g1, g2⟩, g3, g4⟩ : Lat) = prV (allS l (⟨⟨g0, g1, g2⟩, g3, g4⟩ : Lat)) from if_pos h, show pairE l (⟨⟨g0, g1, g2⟩, g3, g4⟩ : Lat) = unl (hasP (allS l (⟨⟨g0, g1, g2⟩, g3, g4⟩ : Lat))) 12 from if_neg (by rw [h]; simp)]
  refine ⟨⟨numsP_hits _, rlP_rls _, prOk_opn h⟩, ?_⟩
  rw [opnS_all h]
  exact LeD.refl _
def con_flash_PairOf : Con := fun args => match args with
 | [.t (.c (.sl 7 n_l c_l)), .t (.a [.v (.int .i64 g0), .v (.int .i64 g1), .v (.int .i64 g2), .v (.int .i64 g3), .v (.int .i64 g4)])] => some (.tu [.a [.v (.int .i64 ((prO (listC n_l mkHit c_l) (⟨⟨g0, g1, g2⟩, g3, g4⟩ : Lat)).a)), .v (.int .i64 ((prO (listC n_l mkHit c_l) (⟨⟨g0, g1, g2⟩, g3, g4⟩ : Lat)).b)), .v (.int .i64 ((prO (listC n_l mkHit c_l) (⟨⟨g0, g1, g2⟩, g3, g4⟩ : Lat)).s)), .v (.int .i64 ((prO (listC n_l mkHit c_l) (⟨⟨g0, g1, g2⟩, g3, g4⟩ : Lat)).t))], .c (.v (.int .i64 (pairE (listC n_l mkHit c_l) (⟨⟨g0, g1, g2⟩, g3, g4⟩ : Lat))))], some (numsP 7 n_l c_l), false)
 | _ => none
theorem ok_flash_PairOf : Ok Tryd.prog 76 con_flash_PairOf := by
 refine Ok.fn (ann := ann_flash_PairOf) mixed tabOK VSf144 VI1 (fn := Tryd.f76) (by kernel_rfl) (by kernel_rfl) fit_flash_PairOf fun args r pre fresh h hp => ?_
 unfold con_flash_PairOf at h
 split at h
 ·rename_i n_l c_l g0 g1 g2 g3 g4
  cases h
  have hp0 := hp
  refine ⟨rfl, fun _ _ _ => False, [.t (.c (.sl 7 ((listC n_l mkHit c_l).length) (hitsC (listC n_l mkHit c_l)))), .t (.a [.v (.int .i64 g0), .v (.int .i64 g1), .v (.int .i64 g2), .v (.int .i64 g3), .v (.int .i64 g4)])], ?_, Nat.le_of_ble_eq_true (by kernel_rfl), ?_, ?_⟩
  ·exact (LeA_cons (leT_c ((leL_FHit hp0))) (LeA_cons (LeD.refl _) LeA_nil))
  ·rw [ev_flash_PairOf]; exact spec_flash_PairOf (listC n_l mkHit c_l) g0 g1 g2 g3 g4
  ·rw [lp_flash_PairOf]; trivial
 ·cases h
noncomputable def Sf145 : Sum := addS Sf144 76 con_flash_PairOf
theorem VSf145 : Valid Tryd.prog Sf145 := Valid.add VSf144 ok_flash_PairOf
def vc_flash_IsDouble (l : List FHit) (g0 g1 g2 g3 g4 : Int) (post : DV → Prop) : Prop := (numsP 7 l.length (hitsC l)) ∧ (cond ((bothE (listC l.length mkHit (hitsC l)) (⟨⟨g0, g1, g2⟩, g3, g4⟩ : Lat)) != (0 : Int)) ((true = true) ∧ (post (.tu [.c (.v (.bool false)), .c (.v (.int .i64 (bothE (listC l.length mkHit (hitsC l)) (⟨⟨g0, g1, g2⟩, g3, g4⟩ : Lat))))]))) ((numsP 7 ((opnH (listC l.length mkHit (hitsC l)) (⟨⟨g0, g1, g2⟩, g3, g4⟩ : Lat)).length) (hitsC (opnH (listC l.length mkHit (hitsC l)) (⟨⟨g0, g1, g2⟩, g3, g4⟩ : Lat))) ∧ rlP ((opnS (listC l.length mkHit (hitsC l)) (⟨⟨g0, g1, g2⟩, g3, g4⟩ : Lat)).length) (rlsC (opnS (listC l.length mkHit (hitsC l)) (⟨⟨g0, g1, g2⟩, g3, g4⟩ : Lat))) ∧ spOk (rlOf ((opnS (listC l.length mkHit (hitsC l)) (⟨⟨g0, g1, g2⟩, g3, g4⟩ : Lat)).length) (rlsC (opnS (listC l.length mkHit (hitsC l)) (⟨⟨g0, g1, g2⟩, g3, g4⟩ : Lat))))) ∧ (cond (decide ((((vtxL (rlOf ((opnS (listC l.length mkHit (hitsC l)) (⟨⟨g0, g1, g2⟩, g3, g4⟩ : Lat)).length) (rlsC (opnS (listC l.length mkHit (hitsC l)) (⟨⟨g0, g1, g2⟩, g3, g4⟩ : Lat))))).length : Nat) : Int) > (0 : Int))) (post (.tu [.c (.v (.bool false)), .c (.v (.int .i64 (bothE (listC l.length mkHit (hitsC l)) (⟨⟨g0, g1, g2⟩, g3, g4⟩ : Lat))))])) ((numsP 7 ((opnH (listC l.length mkHit (hitsC l)) (⟨⟨g0, g1, g2⟩, g3, g4⟩ : Lat)).length) (hitsC (opnH (listC l.length mkHit (hitsC l)) (⟨⟨g0, g1, g2⟩, g3, g4⟩ : Lat))) ∧ rlP ((opnS (listC l.length mkHit (hitsC l)) (⟨⟨g0, g1, g2⟩, g3, g4⟩ : Lat)).length) (rlsC (opnS (listC l.length mkHit (hitsC l)) (⟨⟨g0, g1, g2⟩, g3, g4⟩ : Lat))) ∧ prOk (rlOf ((opnS (listC l.length mkHit (hitsC l)) (⟨⟨g0, g1, g2⟩, g3, g4⟩ : Lat)).length) (rlsC (opnS (listC l.length mkHit (hitsC l)) (⟨⟨g0, g1, g2⟩, g3, g4⟩ : Lat))))) ∧ (post (.tu [.c (.v (.bool (hasP (rlOf ((opnS (listC l.length mkHit (hitsC l)) (⟨⟨g0, g1, g2⟩, g3, g4⟩ : Lat)).length) (rlsC (opnS (listC l.length mkHit (hitsC l)) (⟨⟨g0, g1, g2⟩, g3, g4⟩ : Lat))))))), .c (.v (.int .i64 0))]))))))
def ann_flash_IsDouble : Ann := ⟨fun _ => none, fun _ => none, fun _ => [], I1, false, fun _ => none, fun _ => none⟩
theorem ev_flash_IsDouble (J : Inv) (l : List FHit) (g0 g1 g2 g3 g4 : Int) (post : DV → Prop) : evFn Tryd.prog tab Sf145 ann_flash_IsDouble J Tryd.f78 [.t (.c (.sl 7 l.length (hitsC l))), .t (.a [.v (.int .i64 g0), .v (.int .i64 g1), .v (.int .i64 g2), .v (.int .i64 g3), .v (.int .i64 g4)])] post = vc_flash_IsDouble l g0 g1 g2 g3 g4 post := by kernel_rfl
theorem fit_flash_IsDouble : okFn ann_flash_IsDouble Tryd.f78 = true := by kernel_rfl
theorem lp_flash_IsDouble (J : Inv) (post : DV → Prop) : AllG J (loopsFn Tryd.prog tab Sf145 ann_flash_IsDouble J Tryd.f78 post) = (True) := by kernel_rfl
theorem spec_flash_IsDouble (l : List FHit) (g0 g1 g2 g3 g4 : Int) : vc_flash_IsDouble l g0 g1 g2 g3 g4 (fun r => LeD r (.tu [.c (.v (.bool (dblB l (⟨⟨g0, g1, g2⟩, g3, g4⟩ : Lat)))), .c (.v (.int .i64 (bothE l (⟨⟨g0, g1, g2⟩, g3, g4⟩ : Lat))))])) := by
 unfold vc_flash_IsDouble
 simp only [hits_listC, rls_of]
 refine ⟨numsP_hits l, cond_i (fun h => ⟨by trivial, ?_⟩) (fun h => ?_)⟩
 ·have h : bothE l (⟨⟨g0, g1, g2⟩, g3, g4⟩ : Lat) ≠ 0 := by simpa using h
  rw [show dblB l (⟨⟨g0, g1, g2⟩, g3, g4⟩ : Lat) = false by unfold dblB; rw [decide_eq_false h]; rfl]
  exact LeD.refl _
 ·have h : bothE l (⟨⟨g0, g1, g2⟩, g3, g4⟩ : Lat) = 0 := by simpa using h
  have eV : vtxL (opnS l (⟨⟨g0, g1, g2⟩, g3, g4⟩ : Lat)) = vtxR l (⟨⟨g0, g1, g2⟩, g3, g4⟩ : Lat) := by rw [opnS_all h]; rfl
  rw [eV]
  refine ⟨⟨numsP_hits _, rlP_rls _, spOk_opn h⟩, cond_i (fun e => ?_) (fun e => ⟨⟨numsP_hits _, rlP_rls _, prOk_opn h⟩, ?_⟩)⟩
  ·have e := of_decide_eq_true e
   rw [show dblB l (⟨⟨g0, g1, g2⟩, g3, g4⟩ : Lat) = false by unfold dblB; rw [decide_eq_true h, decide_eq_false (show ¬ (vtxR l (⟨⟨g0, g1, g2⟩, g3, g4⟩ : Lat)).length = 0 by omega)]; rfl]
   exact LeD.refl _
  ·have e := of_decide_eq_false e
   rw [show dblB l (⟨⟨g0, g1, g2⟩, g3, g4⟩ : Lat) = hasP (allS l (⟨⟨g0, g1, g2⟩, g3, g4⟩ : Lat)) by unfold dblB; rw [decide_eq_true h, decide_eq_true (show (vtxR l (⟨⟨g0, g1, g2⟩, g3, g4⟩ : Lat)).length = 0 by omega)]; rfl, opnS_all h, h]
   exact LeD.refl _
def con_flash_IsDouble : Con := fun args => match args with
 | [.t (.c (.sl 7 n_l c_l)), .t (.a [.v (.int .i64 g0), .v (.int .i64 g1), .v (.int .i64 g2), .v (.int .i64 g3), .v (.int .i64 g4)])] => some (.tu [.c (.v (.bool (dblB (listC n_l mkHit c_l) (⟨⟨g0, g1, g2⟩, g3, g4⟩ : Lat)))), .c (.v (.int .i64 (bothE (listC n_l mkHit c_l) (⟨⟨g0, g1, g2⟩, g3, g4⟩ : Lat))))], some (numsP 7 n_l c_l), false)
 | _ => none
theorem ok_flash_IsDouble : Ok Tryd.prog 78 con_flash_IsDouble := by
 refine Ok.fn (ann := ann_flash_IsDouble) mixed tabOK VSf145 VI1 (fn := Tryd.f78) (by kernel_rfl) (by kernel_rfl) fit_flash_IsDouble fun args r pre fresh h hp => ?_
 unfold con_flash_IsDouble at h
 split at h
 ·rename_i n_l c_l g0 g1 g2 g3 g4
  cases h
  have hp0 := hp
  refine ⟨rfl, fun _ _ _ => False, [.t (.c (.sl 7 ((listC n_l mkHit c_l).length) (hitsC (listC n_l mkHit c_l)))), .t (.a [.v (.int .i64 g0), .v (.int .i64 g1), .v (.int .i64 g2), .v (.int .i64 g3), .v (.int .i64 g4)])], ?_, Nat.le_of_ble_eq_true (by kernel_rfl), ?_, ?_⟩
  ·exact (LeA_cons (leT_c ((leL_FHit hp0))) (LeA_cons (LeD.refl _) LeA_nil))
  ·rw [ev_flash_IsDouble]; exact spec_flash_IsDouble (listC n_l mkHit c_l) g0 g1 g2 g3 g4
  ·rw [lp_flash_IsDouble]; trivial
 ·cases h
noncomputable def Sf146 : Sum := addS Sf145 78 con_flash_IsDouble
theorem VSf146 : Valid Tryd.prog Sf146 := Valid.add VSf145 ok_flash_IsDouble
end Go.Proofs.YtmhgjlapkhdlmaaDoor
set_option linter.unusedVariables false
set_option linter.unusedSimpArgs false
namespace Go.Proofs.YtmhgjlapkhdlmaaDoor
open Go.RowKit Ev
theorem rg_bd {l : List FHit} {x : Lat} {k : Nat} (hb : bothE l x = 0) (hk : k < x.sz.toNat) {s : Int} (h : losP (rlAt (allS l x) k) s) : -2000000000 ≤ s ∧ s ≤ 2000000000 := by
 obtain ⟨j, j1, j2⟩ := h
 have := (spOk_opn hb).2 k (by rw [opnS_all hb, allS_len]; exact hk)
 rw [opnS_all hb] at this
 have := this.2.2 (rgAt (rlAt (allS l x) k) j) (by rw [show rgAt (rlAt (allS l x) k) j = (rlAt (allS l x) k)[j] by simp [rgAt, List.getD, j1]]; exact List.getElem_mem j1)
 omega
end Go.Proofs.YtmhgjlapkhdlmaaDoor