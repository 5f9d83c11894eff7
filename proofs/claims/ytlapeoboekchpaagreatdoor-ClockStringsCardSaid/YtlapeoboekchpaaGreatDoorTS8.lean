/- Texts of this claim, together. -/
import Derived.Test.YtlapeoboekchpaaGreatDoorTS7
import Derived.Test.YtlapeoboekchpaaGreatDoorTS4
import Derived.RangeFuncLeaves
import Derived.OwnWalkIn
import Derived.TacticsInMore
import Derived.LoopNIn
import Derived.LoopIn
import Derived.RegionIn
import Derived.Test.YtlapeoboekchpaaGreatDoorTS5
import Derived.Deep.OwnRows

set_option linter.unusedVariables false
set_option linter.unusedSimpArgs false
namespace Go.Proofs.YtlapeoboekchpaaGreatDoor
open Go.RowKit Ev
theorem ints_fwd (l : List Int) : ((List.range l.length).map fun i => fwd ((intsC l) i) 0 1) = l.map fun n => [CV.v (.int .i64 n)] := by
 apply List.ext_getElem?
 intro i
 by_cases hi : i < l.length
 ·simp only [List.getElem?_map, List.getElem?_range hi, Option.map_some, List.getElem?_eq_getElem hi]
  simp [fwd, intsC, List.getD, hi]
 ·rw [List.getElem?_eq_none (by simpa using hi), List.getElem?_eq_none (by simpa using hi)]
theorem le_ints (l : List Int) : LeD (.t (.c (.sl 1 (l.map fun n => [CV.v (.int .i64 n)]).length (genC (l.map fun n => [CV.v (.int .i64 n)]))))) (.t (.c (.sl 1 l.length (intsC l)))) := by
 rw [List.length_map]
 refine leSl fun i j hi hj => ?_
 unfold genC intsC
 rw [show j = 0 by omega]
 simp [List.getD, hi]
theorem plain_int (l : List Int) (i j : Nat) : ∃ y, intsC l i j = .v y := ⟨_, rfl⟩
theorem getD_mem' {l : List Int} {k : Nat} (h : k < l.length) : l.getD k 0 ∈ l := by
 rw [show l.getD k 0 = l[k] by simp [List.getD, h]]; exact List.getElem_mem h
theorem leC_pngs (l : List Png) : LeC1 (.sl 4 (l.map pngCv).length (genC (l.map pngCv))) (.sl 4 l.length (pngsC l)) := fun w N v h => le_pngs l w N v h
def vc_base_CopyInts (l : List Int) (post : DV → Prop) : Prop := (roomP 8 (([] : List (List CV)).length + ((List.range l.length).map fun i => fwd ((intsC l) i) 0 1).length)) ∧ (post (.t (.c (.sl 1 ((([] : List (List CV)) ++ ((List.range l.length).map fun i => fwd ((intsC l) i) 0 1)).length) (genC (([] : List (List CV)) ++ ((List.range l.length).map fun i => fwd ((intsC l) i) 0 1)))))))
def ann_base_CopyInts : Ann := ⟨fun _ => none, fun _ => none, fun _ => [], noIt, true, fun _ => none, fun _ => none⟩
theorem ev_base_CopyInts (J : Inv) (l : List Int) (post : DV → Prop) : evFn Tryz.prog tab Sc31 ann_base_CopyInts J Tryz.f27 [.t (.c (.sl 1 l.length (intsC l)))] post = vc_base_CopyInts l post := by kernel_rfl
theorem fit_base_CopyInts : okFn ann_base_CopyInts Tryz.f27 = true := by kernel_rfl
theorem lp_base_CopyInts (J : Inv) (post : DV → Prop) : AllG J (loopsFn Tryz.prog tab Sc31 ann_base_CopyInts J Tryz.f27 post) = (True) := by kernel_rfl
theorem spec_base_CopyInts (l : List Int) (hp : (l).length ≤ 1000) : vc_base_CopyInts l (fun r => LeD r (.t (.c (.sl 1 l.length (intsC l))))) := by
 unfold vc_base_CopyInts
 rw [ints_fwd, List.nil_append]
 refine ⟨?_, le_ints l⟩
 unfold roomP maxLen
 simp
 omega
def con_base_CopyInts : Con := fun args => match args with
 | [.t (.c (.sl 1 n_l c_l))] => some (.t (.c (.sl 1 ((listC n_l mkInt c_l).length) (intsC (listC n_l mkInt c_l)))), some (numsP 1 n_l c_l ∧ ((listC n_l mkInt c_l)).length ≤ 1000), true)
 | _ => none
theorem ok_base_CopyInts : Ok Tryz.prog 27 con_base_CopyInts := by
 refine Ok.fnFr (ann := ann_base_CopyInts) mixed tabOK VSc31 ValidIt.no rfl (fn := Tryz.f27) (by kernel_rfl) (by kernel_rfl) fit_base_CopyInts fun args r pre fresh h hp => ?_
 unfold con_base_CopyInts at h
 split at h
 ·rename_i n_l c_l
  cases h
  obtain ⟨hp0, hp⟩ := hp
  refine ⟨rfl, (fun i j _ hj => plain_int _ i j), fun _ _ _ => False, [.t (.c (.sl 1 ((listC n_l mkInt c_l).length) (intsC (listC n_l mkInt c_l))))], ?_, Nat.le_of_ble_eq_true (by kernel_rfl), ?_, ?_⟩
  ·exact (LeA_cons (leT_c ((leL_int hp0))) LeA_nil)
  ·rw [ev_base_CopyInts]; exact spec_base_CopyInts (listC n_l mkInt c_l) hp
  ·rw [lp_base_CopyInts]; trivial
 ·cases h
def Sd32 : Sum := addS Sc31 27 con_base_CopyInts
theorem VSd32 : Valid Tryz.prog Sd32 := Valid.add VSc31 ok_base_CopyInts
def vc_ref01_CopyTrack (c0 : Int) (c1 : Int) (l : List Png) (post : DV → Prop) : Prop := (roomP 32 (([] : List (List CV)).length + ((List.range l.length).map fun i => fwd ((pngsC l) i) 0 4).length)) ∧ (post (.t (.a [.v (.int .i64 c0), .v (.int .i64 c1), .sl 4 ((([] : List (List CV)) ++ ((List.range l.length).map fun i => fwd ((pngsC l) i) 0 4)).length) (genC (([] : List (List CV)) ++ ((List.range l.length).map fun i => fwd ((pngsC l) i) 0 4)))])))
def ann_ref01_CopyTrack : Ann := ⟨fun r => lookA r [(1, ([[], [0], [], [], [3], [2, 3, 4], [0, 1, 2, 3, 4, 5], [0, 1, 2, 3, 4, 5, 6]], [[5], [5, 8], [], [5], [5], [9999, 5, 8], [], []]))], fun _ => none, fun _ => [], noIt, true, fun _ => none, fun _ => none⟩
theorem ev_ref01_CopyTrack (J : Inv) (c0 : Int) (c1 : Int) (l : List Png) (post : DV → Prop) : evFn Tryz.prog tab Sd32 ann_ref01_CopyTrack J Tryz.f34 [.t (.a [.v (.int .i64 c0), .v (.int .i64 c1), .sl 4 l.length (pngsC l)])] post = vc_ref01_CopyTrack c0 c1 l post := by kernel_rfl
theorem fit_ref01_CopyTrack : okFn ann_ref01_CopyTrack Tryz.f34 = true := by kernel_rfl
theorem lp_ref01_CopyTrack (J : Inv) (post : DV → Prop) : AllG J (loopsFn Tryz.prog tab Sd32 ann_ref01_CopyTrack J Tryz.f34 post) = (True) := by kernel_rfl
theorem spec_ref01_CopyTrack (c0 : Int) (c1 : Int) (l : List Png) (hp : (l).length ≤ 1000) : vc_ref01_CopyTrack c0 c1 l (fun r => LeD r (.t (.a [.v (.int .i64 c0), .v (.int .i64 c1), .sl 4 l.length (pngsC l)]))) := by
 unfold vc_ref01_CopyTrack
 rw [pngs_fwd, List.nil_append]
 refine ⟨?_, leT_a (LeCs.cons (LeC1.refl _) (LeCs.cons (LeC1.refl _) (LeCs.cons (leC_pngs l) LeCs.nil)))⟩
 unfold roomP maxLen
 simp
 omega
def con_ref01_CopyTrack : Con := fun args => match args with
 | [.t (.a [.v (.int .i64 c0), .v (.int .i64 c1), .sl 4 n_l c_l])] => some (.t (.a [.v (.int .i64 c0), .v (.int .i64 c1), .sl 4 ((listC n_l mkPng c_l).length) (pngsC (listC n_l mkPng c_l))]), some (numsP 4 n_l c_l ∧ ((listC n_l mkPng c_l)).length ≤ 1000), true)
 | _ => none
theorem ok_ref01_CopyTrack : Ok Tryz.prog 34 con_ref01_CopyTrack := by
 refine Ok.fnFr (ann := ann_ref01_CopyTrack) mixed tabOK VSd32 ValidIt.no rfl (fn := Tryz.f34) (by kernel_rfl) (by kernel_rfl) fit_ref01_CopyTrack fun args r pre fresh h hp => ?_
 unfold con_ref01_CopyTrack at h
 split at h
 ·rename_i c0 c1 n_l c_l
  cases h
  obtain ⟨hp0, hp⟩ := hp
  refine ⟨rfl, (by intro x hx; simp only [List.mem_cons, List.not_mem_nil, or_false] at hx; rcases hx with rfl | rfl | rfl <;> first | trivial | exact (fun i j _ hj => plain_Png _ i j)), fun _ _ _ => False, [.t (.a [.v (.int .i64 c0), .v (.int .i64 c1), .sl 4 ((listC n_l mkPng c_l).length) (pngsC (listC n_l mkPng c_l))])], ?_, Nat.le_of_ble_eq_true (by kernel_rfl), ?_, ?_⟩
  ·exact (LeA_cons (leT_a (LeCs.cons (LeC1.refl _) (LeCs.cons (LeC1.refl _) (LeCs.cons ((leL_Png hp0)) LeCs.nil)))) LeA_nil)
  ·rw [ev_ref01_CopyTrack]; exact spec_ref01_CopyTrack c0 c1 (listC n_l mkPng c_l) hp
  ·rw [lp_ref01_CopyTrack]; trivial
 ·cases h
def Sd33 : Sum := addS Sd32 34 con_ref01_CopyTrack
theorem VSd33 : Valid Tryz.prog Sd33 := Valid.add VSd32 ok_ref01_CopyTrack
def vc_clock_samplesErr_1 (m : Int) (post : DV → Prop) : Prop := post (.t (.c (.v (.bool (!(inB m (-10000 : Int) (10000 : Int)))))))
def ann_clock_samplesErr_1 : Ann := ⟨fun _ => none, fun _ => none, fun _ => [], noIt, false, fun _ => none, fun _ => none⟩
theorem ev_clock_samplesErr_1 (J : Inv) (m : Int) (post : DV → Prop) : evFn Tryz.prog tab Sd33 ann_clock_samplesErr_1 J Tryz.f112 [.t (.c (.v (.int .i64 m)))] post = vc_clock_samplesErr_1 m post := by kernel_rfl
theorem fit_clock_samplesErr_1 : okFn ann_clock_samplesErr_1 Tryz.f112 = true := by kernel_rfl
theorem lp_clock_samplesErr_1 (J : Inv) (post : DV → Prop) : AllG J (loopsFn Tryz.prog tab Sd33 ann_clock_samplesErr_1 J Tryz.f112 post) = (True) := by kernel_rfl
theorem spec_clock_samplesErr_1 (m : Int) : vc_clock_samplesErr_1 m (fun r => LeD r (.t (.c (.v (.bool (!inB m (-10000) 10000)))))) := by
 exact LeD.refl _
def con_clock_samplesErr_1 : Con := fun args => match args with
 | [.t (.c (.v (.int .i64 m)))] => some (.t (.c (.v (.bool (!inB m (-10000) 10000)))), none, false)
 | _ => none
theorem ok_clock_samplesErr_1 : Ok Tryz.prog 112 con_clock_samplesErr_1 := by
 refine Ok.fn (ann := ann_clock_samplesErr_1) mixed tabOK VSd33 ValidIt.no (fn := Tryz.f112) (by kernel_rfl) (by kernel_rfl) fit_clock_samplesErr_1 fun args r pre fresh h hp => ?_
 unfold con_clock_samplesErr_1 at h
 split at h
 ·rename_i m
  cases h
  refine ⟨rfl, fun _ _ _ => False, _, LeA.refl _, Nat.le_of_ble_eq_true (by kernel_rfl), ?_, ?_⟩
  ·rw [ev_clock_samplesErr_1]; exact spec_clock_samplesErr_1 m
  ·rw [lp_clock_samplesErr_1]; trivial
 ·cases h
def Sd34 : Sum := addS Sd33 112 con_clock_samplesErr_1
theorem VSd34 : Valid Tryz.prog Sd34 := Valid.add VSd33 ok_clock_samplesErr_1
def vc_clock_Unrolled_1 (m : Int) (per : Int) (post : DV → Prop) : Prop := lt (IntKind.i64.wrap (per - (1 : Int))) fun x1 => post (.t (.c (.v (.bool (!(inB m (0 : Int) x1))))))
def ann_clock_Unrolled_1 : Ann := ⟨fun _ => none, fun _ => none, fun _ => [], noIt, false, fun _ => none, fun _ => none⟩
theorem ev_clock_Unrolled_1 (J : Inv) (m : Int) (per : Int) (post : DV → Prop) : evFn Tryz.prog tab Sd34 ann_clock_Unrolled_1 J Tryz.f81 [.t (.c (.v (.int .i64 m))), .t (.c (.px 1 0 (boxC [.v (.int .i64 per)])))] post = vc_clock_Unrolled_1 m per post := by kernel_rfl
theorem fit_clock_Unrolled_1 : okFn ann_clock_Unrolled_1 Tryz.f81 = true := by kernel_rfl
theorem lp_clock_Unrolled_1 (J : Inv) (post : DV → Prop) : AllG J (loopsFn Tryz.prog tab Sd34 ann_clock_Unrolled_1 J Tryz.f81 post) = (True) := by kernel_rfl
theorem spec_clock_Unrolled_1 (m : Int) (per : Int) (hp : 1 ≤ per ∧ per ≤ 1000000000000) : vc_clock_Unrolled_1 m per (fun r => LeD r (.t (.c (.v (.bool (!inB m 0 (per - 1))))))) := by
 unfold vc_clock_Unrolled_1
 refine lt_i fun x hx => leB ?_
 rw [wi (by omega)] at hx
 rw [← hx]
def con_clock_Unrolled_1 : Con := fun args => match args with
 | [.t (.c (.v (.int .i64 m))), .t (.c (.px 1 0 c_q))] => some (.t (.c (.v (.bool (!inB m 0 ((cvInt (c_q 0)) - 1))))), some (intsB [0] c_q = true ∧ 1 ≤ (cvInt (c_q 0)) ∧ (cvInt (c_q 0)) ≤ 1000000000000), false)
 | _ => none
theorem ok_clock_Unrolled_1 : Ok Tryz.prog 81 con_clock_Unrolled_1 := by
 refine Ok.fn (ann := ann_clock_Unrolled_1) mixed tabOK VSd34 ValidIt.no (fn := Tryz.f81) (by kernel_rfl) (by kernel_rfl) fit_clock_Unrolled_1 fun args r pre fresh h hp => ?_
 unfold con_clock_Unrolled_1 at h
 split at h
 ·rename_i m c_q
  cases h
  obtain ⟨hp0, hp⟩ := hp
  refine ⟨rfl, fun _ _ _ => False, [.t (.c (.v (.int .i64 m))), .t (.c (.px 1 0 (boxC [.v (.int .i64 (cvInt (c_q 0)))])))], ?_, Nat.le_of_ble_eq_true (by kernel_rfl), ?_, ?_⟩
  ·exact (LeA_cons (LeD.refl _) (LeA_cons (leT_c (leC_p (LeCs.cons (leC_i (intsB_get hp0 0 (by decide))) LeCs.nil))) LeA_nil))
  ·rw [ev_clock_Unrolled_1]; exact spec_clock_Unrolled_1 m (cvInt (c_q 0)) hp
  ·rw [lp_clock_Unrolled_1]; trivial
 ·cases h
def Sd35 : Sum := addS Sd34 81 con_clock_Unrolled_1
theorem VSd35 : Valid Tryz.prog Sd35 := Valid.add VSd34 ok_clock_Unrolled_1
def mk_slices_IndexFunc_int_int_a_0 (l : List Int) (v0_0 : Int) : DS := ⟨[some (.t (.c (.sl 1 l.length (intsC l)))), some (.t (.fn 112 [])), none, none, none, none, none, some (.t (.c (.v (.int .i64 ((l.length : Nat) : Int))))), some (.t (.c (.v (.int .i64 v0_0)))), none, none, none, none, none, none, none, none, none, none], [none, none, none, none, none, none, none, none, none, none, none, none, none, none, none, none, none, none, none]⟩
def vc_slices_IndexFunc_int_int_a (J : Inv) (l : List Int) (post : DV → Prop) : Prop := ∃ n, J 0 (n :: []) (mk_slices_IndexFunc_int_int_a_0 l 0)
def ann_slices_IndexFunc_int_int_a : Ann := ⟨fun _ => none, fun b => lookA b [(0, (none, some ⟨[0, 1, 7, 8], [], []⟩))], fun _ => [], noIt, false, fun _ => none, fun _ => none⟩
theorem ev_slices_IndexFunc_int_int_a (J : Inv) (l : List Int) (post : DV → Prop) : evFn Tryz.prog tab Sd35 ann_slices_IndexFunc_int_int_a J Tryz.f102 [.t (.c (.sl 1 l.length (intsC l))), .t (.fn 112 [])] post = vc_slices_IndexFunc_int_int_a J l post := by kernel_rfl
theorem fit_slices_IndexFunc_int_int_a : okFn ann_slices_IndexFunc_int_int_a Tryz.f102 = true := by kernel_rfl
def rd_slices_IndexFunc_int_int_a_0 (J : Inv) (l : List Int) (v0_0 : Int) (nn0 : Nat) (post : DV → Prop) : Prop := cond (decide (v0_0 < ((l.length : Nat) : Int))) ((0 ≤ v0_0 ∧ v0_0 < ((l.length : Nat) : Int)) ∧ (cond (!inB (l.getD v0_0.toNat 0) (-10000) 10000) (post (.t (.c (.v (.int .i64 v0_0))))) (lt (IntKind.i64.wrap (v0_0 + (1 : Int))) fun x1 => J 0 (nn0 :: []) (mk_slices_IndexFunc_int_int_a_0 l x1)))) (post (.t (.c (.v (.int .i64 (-1))))))
theorem er_slices_IndexFunc_int_int_a_0 (J : Inv) (l : List Int) (v0_0 : Int) (nn0 : Nat) (post : DV → Prop) : round Tryz.prog tab Sd35 ann_slices_IndexFunc_int_int_a J Tryz.f102 post 0 (nn0 :: []) (mk_slices_IndexFunc_int_int_a_0 l v0_0) = rd_slices_IndexFunc_int_int_a_0 J l v0_0 nn0 post := by kernel_rfl
theorem lp_slices_IndexFunc_int_int_a (J : Inv) (post : DV → Prop) : AllG J (loopsFn Tryz.prog tab Sd35 ann_slices_IndexFunc_int_int_a J Tryz.f102 post) = (((∀ F s, ¬ J 0 (0 :: F) s) ∧ ∀ n F s, J 0 ((n + 1) :: F) s → round Tryz.prog tab Sd35 ann_slices_IndexFunc_int_int_a J Tryz.f102 post 0 (n :: F) s) ∧ True) := by kernel_rfl
def J_slices_IndexFunc_int_int_a (l : List Int) : Inv := fun b F s => match b, F with
 | 0, [nn0] => ∃ (v0_0 : Int), s = mk_slices_IndexFunc_int_int_a_0 l v0_0 ∧ ((l.length ≤ 1000000) ∧ 0 ≤ v0_0 ∧ v0_0 ≤ l.length ∧ (nn0 : Int) + v0_0 = l.length + 1 ∧ ∀ k : Nat, (k : Int) < v0_0 → (!inB (l.getD k 0) (-10000) 10000) = false)
 | _, _ => False
theorem rnd_slices_IndexFunc_int_int_a_0 (l : List Int) (v0_0 : Int) (nn0 : Nat) (hp : (l).length ≤ 1000000) (hi : (l.length ≤ 1000000) ∧ 0 ≤ v0_0 ∧ v0_0 ≤ l.length ∧ ((nn0 + 1) : Int) + v0_0 = l.length + 1 ∧ ∀ k : Nat, (k : Int) < v0_0 → (!inB (l.getD k 0) (-10000) 10000) = false) : rd_slices_IndexFunc_int_int_a_0 (J_slices_IndexFunc_int_int_a l) l v0_0 nn0 (fun r => LeD r (.t (.c (.v (.int .i64 (idxP (fun n => !inB n (-10000) 10000) l)))))) := by
 obtain ⟨i0, i1, i2, i3, i4⟩ := hi
 obtain ⟨k, rfl⟩ : ∃ k : Nat, v0_0 = k := ⟨v0_0.toNat, by omega⟩
 have hk : (k : Int).toNat = k := rfl
 unfold rd_slices_IndexFunc_int_int_a_0
 rw [hk]
 refine cond_i (fun h => ?_) (fun h => leI ?_)
 ·have hlt : k < l.length := by have := of_decide_eq_true h; omega
  refine ⟨by omega, cond_i (fun e => leI ?_) (fun e => lt_i fun x hx => ?_)⟩
  ·exact (idxP_at (d := (0 : Int)) hlt (fun j hj => i4 j (by omega)) (by simpa using e)).symm
  ·rw [wi (by omega)] at hx
   subst hx
   exact ⟨_, rfl, i0, by omega, by omega, by omega, fun j hj => by
    by_cases q : j = k
    ·rw [q]; simpa using e
    ·exact i4 j (by omega)⟩
 ·have hge : k = l.length := by have := of_decide_eq_false h; omega
  subst hge
  exact (idxP_none (d := (0 : Int)) fun j hj => i4 j (by omega)).symm
theorem zero_slices_IndexFunc_int_int_a_0 (l : List Int) (v0_0 : Int)  (hi : (l.length ≤ 1000000) ∧ 0 ≤ v0_0 ∧ v0_0 ≤ l.length ∧ (0 : Int) + v0_0 = l.length + 1 ∧ ∀ k : Nat, (k : Int) < v0_0 → (!inB (l.getD k 0) (-10000) 10000) = false) : False := by
 omega
theorem spec_slices_IndexFunc_int_int_a (l : List Int) (hp : (l).length ≤ 1000000) : vc_slices_IndexFunc_int_int_a (J_slices_IndexFunc_int_int_a l) l (fun r => LeD r (.t (.c (.v (.int .i64 (idxP (fun n => !inB n (-10000) 10000) l)))))) := by
 unfold vc_slices_IndexFunc_int_int_a
 exact ⟨l.length + 1, 0, rfl, hp, by omega, by omega, by omega, fun j hj => by omega⟩
theorem all_slices_IndexFunc_int_int_a (l : List Int) (hp : (l).length ≤ 1000000) : AllG (J_slices_IndexFunc_int_int_a l) (loopsFn Tryz.prog tab Sd35 ann_slices_IndexFunc_int_int_a (J_slices_IndexFunc_int_int_a l) Tryz.f102 (fun r => LeD r (.t (.c (.v (.int .i64 (idxP (fun n => !inB n (-10000) 10000) l))))))) := by
 rw [lp_slices_IndexFunc_int_int_a]
 refine ⟨⟨?_, ?_⟩, trivial⟩
 ·intro F s h
  obtain _ | ⟨g, F⟩ := F
  case cons => exact h.elim
  obtain ⟨w0, rfl, hi⟩ := h
  exact zero_slices_IndexFunc_int_int_a_0 l w0 hi
 ·intro n F s h
  obtain _ | ⟨g, F⟩ := F
  case cons => exact h.elim
  obtain ⟨w0, rfl, hi⟩ := h
  rw [er_slices_IndexFunc_int_int_a_0]
  exact rnd_slices_IndexFunc_int_int_a_0 l _ _ hp hi
def con_slices_IndexFunc_int_int_a : Con := fun args => match args with
 | [.t (.c (.sl 1 n_l c_l)), .t (.fn 112 [])] => some (.t (.c (.v (.int .i64 (idxP (fun n => !inB n (-10000) 10000) (listC n_l mkInt c_l))))), some (numsP 1 n_l c_l ∧ ((listC n_l mkInt c_l)).length ≤ 1000000), false)
 | _ => none
theorem ok_slices_IndexFunc_int_int_a : Ok Tryz.prog 102 con_slices_IndexFunc_int_int_a := by
 refine Ok.fn (ann := ann_slices_IndexFunc_int_int_a) mixed tabOK VSd35 ValidIt.no (fn := Tryz.f102) (by kernel_rfl) (by kernel_rfl) fit_slices_IndexFunc_int_int_a fun args r pre fresh h hp => ?_
 unfold con_slices_IndexFunc_int_int_a at h
 split at h
 ·rename_i n_l c_l
  cases h
  obtain ⟨hp0, hp⟩ := hp
  refine ⟨rfl, J_slices_IndexFunc_int_int_a (listC n_l mkInt c_l), [.t (.c (.sl 1 ((listC n_l mkInt c_l).length) (intsC (listC n_l mkInt c_l)))), .t (.fn 112 [])], ?_, Nat.le_of_ble_eq_true (by kernel_rfl), ?_, ?_⟩
  ·exact (LeA_cons (leT_c ((leL_int hp0))) (LeA_cons (leT_f LeCs.nil) LeA_nil))
  ·rw [ev_slices_IndexFunc_int_int_a]; exact spec_slices_IndexFunc_int_int_a (listC n_l mkInt c_l) hp
  ·exact all_slices_IndexFunc_int_int_a (listC n_l mkInt c_l) hp
 ·cases h
def Sd36 : Sum := addF Sd35 102 con_slices_IndexFunc_int_int_a
theorem VSd36 : Valid Tryz.prog Sd36 := Valid.addF VSd35 ok_slices_IndexFunc_int_int_a
def mk_slices_IndexFunc_int_int_b_0 (l : List Int) (per : Int) (v0_0 : Int) : DS := ⟨[some (.t (.c (.sl 1 l.length (intsC l)))), some (.t (.fn 81 [.px 1 0 (boxC [.v (.int .i64 per)])])), none, none, none, none, none, some (.t (.c (.v (.int .i64 ((l.length : Nat) : Int))))), some (.t (.c (.v (.int .i64 v0_0)))), none, none, none, none, none, none, none, none, none, none], [none, none, none, none, none, none, none, none, none, none, none, none, none, none, none, none, none, none, none]⟩
def vc_slices_IndexFunc_int_int_b (J : Inv) (l : List Int) (per : Int) (post : DV → Prop) : Prop := ∃ n, J 0 (n :: []) (mk_slices_IndexFunc_int_int_b_0 l per 0)
def ann_slices_IndexFunc_int_int_b : Ann := ⟨fun _ => none, fun b => lookA b [(0, (none, some ⟨[0, 1, 7, 8], [], []⟩))], fun _ => [], noIt, false, fun _ => none, fun _ => none⟩
theorem ev_slices_IndexFunc_int_int_b (J : Inv) (l : List Int) (per : Int) (post : DV → Prop) : evFn Tryz.prog tab Sd36 ann_slices_IndexFunc_int_int_b J Tryz.f102 [.t (.c (.sl 1 l.length (intsC l))), .t (.fn 81 [.px 1 0 (boxC [.v (.int .i64 per)])])] post = vc_slices_IndexFunc_int_int_b J l per post := by kernel_rfl
theorem fit_slices_IndexFunc_int_int_b : okFn ann_slices_IndexFunc_int_int_b Tryz.f102 = true := by kernel_rfl
def rd_slices_IndexFunc_int_int_b_0 (J : Inv) (l : List Int) (per : Int) (v0_0 : Int) (nn0 : Nat) (post : DV → Prop) : Prop := cond (decide (v0_0 < ((l.length : Nat) : Int))) ((0 ≤ v0_0 ∧ v0_0 < ((l.length : Nat) : Int)) ∧ ((intsB [0] (boxC [.v (.int .i64 per)]) = true ∧ 1 ≤ per ∧ per ≤ 1000000000000) ∧ (cond (!inB (l.getD v0_0.toNat 0) 0 (per - 1)) (post (.t (.c (.v (.int .i64 v0_0))))) (lt (IntKind.i64.wrap (v0_0 + (1 : Int))) fun x1 => J 0 (nn0 :: []) (mk_slices_IndexFunc_int_int_b_0 l per x1))))) (post (.t (.c (.v (.int .i64 (-1))))))
theorem er_slices_IndexFunc_int_int_b_0 (J : Inv) (l : List Int) (per : Int) (v0_0 : Int) (nn0 : Nat) (post : DV → Prop) : round Tryz.prog tab Sd36 ann_slices_IndexFunc_int_int_b J Tryz.f102 post 0 (nn0 :: []) (mk_slices_IndexFunc_int_int_b_0 l per v0_0) = rd_slices_IndexFunc_int_int_b_0 J l per v0_0 nn0 post := by kernel_rfl
theorem lp_slices_IndexFunc_int_int_b (J : Inv) (post : DV → Prop) : AllG J (loopsFn Tryz.prog tab Sd36 ann_slices_IndexFunc_int_int_b J Tryz.f102 post) = (((∀ F s, ¬ J 0 (0 :: F) s) ∧ ∀ n F s, J 0 ((n + 1) :: F) s → round Tryz.prog tab Sd36 ann_slices_IndexFunc_int_int_b J Tryz.f102 post 0 (n :: F) s) ∧ True) := by kernel_rfl
def J_slices_IndexFunc_int_int_b (l : List Int) (per : Int) : Inv := fun b F s => match b, F with
 | 0, [nn0] => ∃ (v0_0 : Int), s = mk_slices_IndexFunc_int_int_b_0 l per v0_0 ∧ ((l.length ≤ 1000000 ∧ 1 ≤ per ∧ per ≤ 1000000000000) ∧ 0 ≤ v0_0 ∧ v0_0 ≤ l.length ∧ (nn0 : Int) + v0_0 = l.length + 1 ∧ ∀ k : Nat, (k : Int) < v0_0 → (!inB (l.getD k 0) 0 (per - 1)) = false)
 | _, _ => False
theorem rnd_slices_IndexFunc_int_int_b_0 (l : List Int) (per : Int) (v0_0 : Int) (nn0 : Nat) (hp : (l).length ≤ 1000000 ∧ 1 ≤ per ∧ per ≤ 1000000000000) (hi : (l.length ≤ 1000000 ∧ 1 ≤ per ∧ per ≤ 1000000000000) ∧ 0 ≤ v0_0 ∧ v0_0 ≤ l.length ∧ ((nn0 + 1) : Int) + v0_0 = l.length + 1 ∧ ∀ k : Nat, (k : Int) < v0_0 → (!inB (l.getD k 0) 0 (per - 1)) = false) : rd_slices_IndexFunc_int_int_b_0 (J_slices_IndexFunc_int_int_b l per) l per v0_0 nn0 (fun r => LeD r (.t (.c (.v (.int .i64 (idxP (fun n => !inB n 0 (per - 1)) l)))))) := by
 obtain ⟨i0, i1, i2, i3, i4⟩ := hi
 obtain ⟨k, rfl⟩ : ∃ k : Nat, v0_0 = k := ⟨v0_0.toNat, by omega⟩
 have hk : (k : Int).toNat = k := rfl
 unfold rd_slices_IndexFunc_int_int_b_0
 rw [hk]
 refine cond_i (fun h => ?_) (fun h => leI ?_)
 ·have hlt : k < l.length := by have := of_decide_eq_true h; omega
  refine ⟨by omega, ⟨rfl, i0.2⟩, cond_i (fun e => leI ?_) (fun e => lt_i fun x hx => ?_)⟩
  ·exact (idxP_at (d := (0 : Int)) hlt (fun j hj => i4 j (by omega)) (by simpa using e)).symm
  ·rw [wi (by omega)] at hx
   subst hx
   exact ⟨_, rfl, i0, by omega, by omega, by omega, fun j hj => by
    by_cases q : j = k
    ·rw [q]; simpa using e
    ·exact i4 j (by omega)⟩
 ·have hge : k = l.length := by have := of_decide_eq_false h; omega
  subst hge
  exact (idxP_none (d := (0 : Int)) fun j hj => i4 j (by omega)).symm
theorem zero_slices_IndexFunc_int_int_b_0 (l : List Int) (per : Int) (v0_0 : Int)  (hi : (l.length ≤ 1000000 ∧ 1 ≤ per ∧ per ≤ 1000000000000) ∧ 0 ≤ v0_0 ∧ v0_0 ≤ l.length ∧ (0 : Int) + v0_0 = l.length + 1 ∧ ∀ k : Nat, (k : Int) < v0_0 → (!inB (l.getD k 0) 0 (per - 1)) = false) : False := by
 omega
theorem spec_slices_IndexFunc_int_int_b (l : List Int) (per : Int) (hp : (l).length ≤ 1000000 ∧ 1 ≤ per ∧ per ≤ 1000000000000) : vc_slices_IndexFunc_int_int_b (J_slices_IndexFunc_int_int_b l per) l per (fun r => LeD r (.t (.c (.v (.int .i64 (idxP (fun n => !inB n 0 (per - 1)) l)))))) := by
 unfold vc_slices_IndexFunc_int_int_b
 exact ⟨l.length + 1, 0, rfl, hp, by omega, by omega, by omega, fun j hj => by omega⟩
theorem all_slices_IndexFunc_int_int_b (l : List Int) (per : Int) (hp : (l).length ≤ 1000000 ∧ 1 ≤ per ∧ per ≤ 1000000000000) : AllG (J_slices_IndexFunc_int_int_b l per) (loopsFn Tryz.prog tab Sd36 ann_slices_IndexFunc_int_int_b (J_slices_IndexFunc_int_int_b l per) Tryz.f102 (fun r => LeD r (.t (.c (.v (.int .i64 (idxP (fun n => !inB n 0 (per - 1)) l))))))) := by
 rw [lp_slices_IndexFunc_int_int_b]
 refine ⟨⟨?_, ?_⟩, trivial⟩
 ·intro F s h
  obtain _ | ⟨g, F⟩ := F
  case cons => exact h.elim
  obtain ⟨w0, rfl, hi⟩ := h
  exact zero_slices_IndexFunc_int_int_b_0 l per w0 hi
 ·intro n F s h
  obtain _ | ⟨g, F⟩ := F
  case cons => exact h.elim
  obtain ⟨w0, rfl, hi⟩ := h
  rw [er_slices_IndexFunc_int_int_b_0]
  exact rnd_slices_IndexFunc_int_int_b_0 l per _ _ hp hi
def con_slices_IndexFunc_int_int_b : Con := fun args => match args with
 | [.t (.c (.sl 1 n_l c_l)), .t (.fn 81 [.px 1 0 c_q])] => some (.t (.c (.v (.int .i64 (idxP (fun n => !inB n 0 ((cvInt (c_q 0)) - 1)) (listC n_l mkInt c_l))))), some (numsP 1 n_l c_l ∧ intsB [0] c_q = true ∧ ((listC n_l mkInt c_l)).length ≤ 1000000 ∧ 1 ≤ (cvInt (c_q 0)) ∧ (cvInt (c_q 0)) ≤ 1000000000000), false)
 | _ => none
theorem ok_slices_IndexFunc_int_int_b : Ok Tryz.prog 102 con_slices_IndexFunc_int_int_b := by
 refine Ok.fn (ann := ann_slices_IndexFunc_int_int_b) mixed tabOK VSd36 ValidIt.no (fn := Tryz.f102) (by kernel_rfl) (by kernel_rfl) fit_slices_IndexFunc_int_int_b fun args r pre fresh h hp => ?_
 unfold con_slices_IndexFunc_int_int_b at h
 split at h
 ·rename_i n_l c_l c_q
  cases h
  obtain ⟨hp0, hp1, hp⟩ := hp
  refine ⟨rfl, J_slices_IndexFunc_int_int_b (listC n_l mkInt c_l) (cvInt (c_q 0)), [.t (.c (.sl 1 ((listC n_l mkInt c_l).length) (intsC (listC n_l mkInt c_l)))), .t (.fn 81 [.px 1 0 (boxC [.v (.int .i64 (cvInt (c_q 0)))])])], ?_, Nat.le_of_ble_eq_true (by kernel_rfl), ?_, ?_⟩
  ·exact (LeA_cons (leT_c ((leL_int hp0))) (LeA_cons (leT_f (LeCs.cons (leC_p (LeCs.cons (leC_i (intsB_get hp1 0 (by decide))) LeCs.nil)) LeCs.nil)) LeA_nil))
  ·rw [ev_slices_IndexFunc_int_int_b]; exact spec_slices_IndexFunc_int_int_b (listC n_l mkInt c_l) (cvInt (c_q 0)) hp
  ·exact all_slices_IndexFunc_int_int_b (listC n_l mkInt c_l) (cvInt (c_q 0)) hp
 ·cases h
def Sd37 : Sum := addF Sd36 102 con_slices_IndexFunc_int_int_b
theorem VSd37 : Valid Tryz.prog Sd37 := Valid.addF VSd36 ok_slices_IndexFunc_int_int_b
def vc_slices_ContainsFunc_int_int_a (l : List Int) (post : DV → Prop) : Prop := (numsP 1 l.length (intsC l) ∧ ((listC l.length mkInt (intsC l))).length ≤ 1000000) ∧ (post (.t (.c (.v (.bool (decide ((idxP (fun n => !inB n (-10000) 10000) (listC l.length mkInt (intsC l))) ≥ (0 : Int))))))))
def ann_slices_ContainsFunc_int_int_a : Ann := ⟨fun _ => none, fun _ => none, fun _ => [], noIt, false, fun _ => none, fun _ => none⟩
theorem ev_slices_ContainsFunc_int_int_a (J : Inv) (l : List Int) (post : DV → Prop) : evFn Tryz.prog tab Sd37 ann_slices_ContainsFunc_int_int_a J Tryz.f65 [.t (.c (.sl 1 l.length (intsC l))), .t (.fn 112 [])] post = vc_slices_ContainsFunc_int_int_a l post := by kernel_rfl
theorem fit_slices_ContainsFunc_int_int_a : okFn ann_slices_ContainsFunc_int_int_a Tryz.f65 = true := by kernel_rfl
theorem lp_slices_ContainsFunc_int_int_a (J : Inv) (post : DV → Prop) : AllG J (loopsFn Tryz.prog tab Sd37 ann_slices_ContainsFunc_int_int_a J Tryz.f65 post) = (True) := by kernel_rfl
theorem spec_slices_ContainsFunc_int_int_a (l : List Int) (hp : (l).length ≤ 1000000) : vc_slices_ContainsFunc_int_int_a l (fun r => LeD r (.t (.c (.v (.bool ((l).any fun n => !inB n (-10000) 10000)))))) := by
 unfold vc_slices_ContainsFunc_int_int_a
 rw [ints_listC]
 refine ⟨⟨numsP_ints l, hp⟩, leB ?_⟩
 rw [idxP_any]
def con_slices_ContainsFunc_int_int_a : Con := fun args => match args with
 | [.t (.c (.sl 1 n_l c_l)), .t (.fn 112 [])] => some (.t (.c (.v (.bool (((listC n_l mkInt c_l)).any fun n => !inB n (-10000) 10000)))), some (numsP 1 n_l c_l ∧ ((listC n_l mkInt c_l)).length ≤ 1000000), false)
 | _ => none
theorem ok_slices_ContainsFunc_int_int_a : Ok Tryz.prog 65 con_slices_ContainsFunc_int_int_a := by
 refine Ok.fn (ann := ann_slices_ContainsFunc_int_int_a) mixed tabOK VSd37 ValidIt.no (fn := Tryz.f65) (by kernel_rfl) (by kernel_rfl) fit_slices_ContainsFunc_int_int_a fun args r pre fresh h hp => ?_
 unfold con_slices_ContainsFunc_int_int_a at h
 split at h
 ·rename_i n_l c_l
  cases h
  obtain ⟨hp0, hp⟩ := hp
  refine ⟨rfl, fun _ _ _ => False, [.t (.c (.sl 1 ((listC n_l mkInt c_l).length) (intsC (listC n_l mkInt c_l)))), .t (.fn 112 [])], ?_, Nat.le_of_ble_eq_true (by kernel_rfl), ?_, ?_⟩
  ·exact (LeA_cons (leT_c ((leL_int hp0))) (LeA_cons (leT_f LeCs.nil) LeA_nil))
  ·rw [ev_slices_ContainsFunc_int_int_a]; exact spec_slices_ContainsFunc_int_int_a (listC n_l mkInt c_l) hp
  ·rw [lp_slices_ContainsFunc_int_int_a]; trivial
 ·cases h
def Sd38 : Sum := addF Sd37 65 con_slices_ContainsFunc_int_int_a
theorem VSd38 : Valid Tryz.prog Sd38 := Valid.addF VSd37 ok_slices_ContainsFunc_int_int_a
def vc_slices_ContainsFunc_int_int_b (l : List Int) (per : Int) (post : DV → Prop) : Prop := (numsP 1 l.length (intsC l) ∧ intsB [0] (boxC [.v (.int .i64 per)]) = true ∧ ((listC l.length mkInt (intsC l))).length ≤ 1000000 ∧ 1 ≤ per ∧ per ≤ 1000000000000) ∧ (post (.t (.c (.v (.bool (decide ((idxP (fun n => !inB n 0 (per - 1)) (listC l.length mkInt (intsC l))) ≥ (0 : Int))))))))
def ann_slices_ContainsFunc_int_int_b : Ann := ⟨fun _ => none, fun _ => none, fun _ => [], noIt, false, fun _ => none, fun _ => none⟩
theorem ev_slices_ContainsFunc_int_int_b (J : Inv) (l : List Int) (per : Int) (post : DV → Prop) : evFn Tryz.prog tab Sd38 ann_slices_ContainsFunc_int_int_b J Tryz.f65 [.t (.c (.sl 1 l.length (intsC l))), .t (.fn 81 [.px 1 0 (boxC [.v (.int .i64 per)])])] post = vc_slices_ContainsFunc_int_int_b l per post := by kernel_rfl
theorem fit_slices_ContainsFunc_int_int_b : okFn ann_slices_ContainsFunc_int_int_b Tryz.f65 = true := by kernel_rfl
theorem lp_slices_ContainsFunc_int_int_b (J : Inv) (post : DV → Prop) : AllG J (loopsFn Tryz.prog tab Sd38 ann_slices_ContainsFunc_int_int_b J Tryz.f65 post) = (True) := by kernel_rfl
theorem spec_slices_ContainsFunc_int_int_b (l : List Int) (per : Int) (hp : (l).length ≤ 1000000 ∧ 1 ≤ per ∧ per ≤ 1000000000000) : vc_slices_ContainsFunc_int_int_b l per (fun r => LeD r (.t (.c (.v (.bool ((l).any fun n => !inB n 0 (per - 1))))))) := by
 unfold vc_slices_ContainsFunc_int_int_b
 rw [ints_listC]
 refine ⟨⟨numsP_ints l, rfl, hp⟩, leB ?_⟩
 rw [idxP_any]
def con_slices_ContainsFunc_int_int_b : Con := fun args => match args with
 | [.t (.c (.sl 1 n_l c_l)), .t (.fn 81 [.px 1 0 c_q])] => some (.t (.c (.v (.bool (((listC n_l mkInt c_l)).any fun n => !inB n 0 ((cvInt (c_q 0)) - 1))))), some (numsP 1 n_l c_l ∧ intsB [0] c_q = true ∧ ((listC n_l mkInt c_l)).length ≤ 1000000 ∧ 1 ≤ (cvInt (c_q 0)) ∧ (cvInt (c_q 0)) ≤ 1000000000000), false)
 | _ => none
theorem ok_slices_ContainsFunc_int_int_b : Ok Tryz.prog 65 con_slices_ContainsFunc_int_int_b := by
 refine Ok.fn (ann := ann_slices_ContainsFunc_int_int_b) mixed tabOK VSd38 ValidIt.no (fn := Tryz.f65) (by kernel_rfl) (by kernel_rfl) fit_slices_ContainsFunc_int_int_b fun args r pre fresh h hp => ?_
 unfold con_slices_ContainsFunc_int_int_b at h
 split at h
 ·rename_i n_l c_l c_q
  cases h
  obtain ⟨hp0, hp1, hp⟩ := hp
  refine ⟨rfl, fun _ _ _ => False, [.t (.c (.sl 1 ((listC n_l mkInt c_l).length) (intsC (listC n_l mkInt c_l)))), .t (.fn 81 [.px 1 0 (boxC [.v (.int .i64 (cvInt (c_q 0)))])])], ?_, Nat.le_of_ble_eq_true (by kernel_rfl), ?_, ?_⟩
  ·exact (LeA_cons (leT_c ((leL_int hp0))) (LeA_cons (leT_f (LeCs.cons (leC_p (LeCs.cons (leC_i (intsB_get hp1 0 (by decide))) LeCs.nil)) LeCs.nil)) LeA_nil))
  ·rw [ev_slices_ContainsFunc_int_int_b]; exact spec_slices_ContainsFunc_int_int_b (listC n_l mkInt c_l) (cvInt (c_q 0)) hp
  ·rw [lp_slices_ContainsFunc_int_int_b]; trivial
 ·cases h
def Sd39 : Sum := addF Sd38 65 con_slices_ContainsFunc_int_int_b
theorem VSd39 : Valid Tryz.prog Sd39 := Valid.addF VSd38 ok_slices_ContainsFunc_int_int_b
def vc_clock_samplesErr (l : List Int) (post : DV → Prop) : Prop := (numsP 1 l.length (intsC l) ∧ ((listC l.length mkInt (intsC l))).length ≤ 1000000) ∧ ((numsP 1 3 (genC [[.v (.int .i64 (unl (decide (((l.length : Nat) : Int) > (0 : Int))) (10 : Int)))], [.v (.int .i64 (unl (decide (((l.length : Nat) : Int) ≤ (24 : Int))) (8 : Int)))], [.v (.int .i64 (unl (!(((listC l.length mkInt (intsC l))).any fun n => !inB n (-10000) 10000)) (2 : Int)))]]) ∧ (([(unl (decide (((l.length : Nat) : Int) > (0 : Int))) (10 : Int)), (unl (decide (((l.length : Nat) : Int) ≤ (24 : Int))) (8 : Int)), (unl (!(((listC l.length mkInt (intsC l))).any fun n => !inB n (-10000) 10000)) (2 : Int))] : List Int)).length ≤ 100) ∧ (post (.t (.c (.v (.int .i64 (firstNZ ([(unl (decide (((l.length : Nat) : Int) > (0 : Int))) (10 : Int)), (unl (decide (((l.length : Nat) : Int) ≤ (24 : Int))) (8 : Int)), (unl (!(((listC l.length mkInt (intsC l))).any fun n => !inB n (-10000) 10000)) (2 : Int))] : List Int))))))))
def ann_clock_samplesErr : Ann := ⟨fun _ => none, fun _ => none, fun _ => [], noIt, false, fun _ => none, fun _ => none⟩
theorem ev_clock_samplesErr (J : Inv) (l : List Int) (post : DV → Prop) : evFn Tryz.prog tab Sd39 ann_clock_samplesErr J Tryz.f84 [.t (.c (.sl 1 l.length (intsC l)))] post = vc_clock_samplesErr l post := by kernel_rfl
theorem fit_clock_samplesErr : okFn ann_clock_samplesErr Tryz.f84 = true := by kernel_rfl
theorem lp_clock_samplesErr (J : Inv) (post : DV → Prop) : AllG J (loopsFn Tryz.prog tab Sd39 ann_clock_samplesErr J Tryz.f84 post) = (True) := by kernel_rfl
theorem spec_clock_samplesErr (l : List Int) (hp : (l).length ≤ 1000000) : vc_clock_samplesErr l (fun r => LeD r (.t (.c (.v (.int .i64 (smE l)))))) := by
 unfold vc_clock_samplesErr
 simp only [ints_listC, List.not_any_eq_all_not, Bool.not_not]
 exact ⟨⟨numsP_ints l, hp⟩, ⟨numsP_gen [_, _, _], Nat.le_of_ble_eq_true rfl⟩, LeD.refl _⟩
def con_clock_samplesErr : Con := fun args => match args with
 | [.t (.c (.sl 1 n_l c_l))] => some (.t (.c (.v (.int .i64 (smE (listC n_l mkInt c_l))))), some (numsP 1 n_l c_l ∧ ((listC n_l mkInt c_l)).length ≤ 1000000), false)
 | _ => none
theorem ok_clock_samplesErr : Ok Tryz.prog 84 con_clock_samplesErr := by
 refine Ok.fn (ann := ann_clock_samplesErr) mixed tabOK VSd39 ValidIt.no (fn := Tryz.f84) (by kernel_rfl) (by kernel_rfl) fit_clock_samplesErr fun args r pre fresh h hp => ?_
 unfold con_clock_samplesErr at h
 split at h
 ·rename_i n_l c_l
  cases h
  obtain ⟨hp0, hp⟩ := hp
  refine ⟨rfl, fun _ _ _ => False, [.t (.c (.sl 1 ((listC n_l mkInt c_l).length) (intsC (listC n_l mkInt c_l))))], ?_, Nat.le_of_ble_eq_true (by kernel_rfl), ?_, ?_⟩
  ·exact (LeA_cons (leT_c ((leL_int hp0))) LeA_nil)
  ·rw [ev_clock_samplesErr]; exact spec_clock_samplesErr (listC n_l mkInt c_l) hp
  ·rw [lp_clock_samplesErr]; trivial
 ·cases h
def Sd40 : Sum := addS Sd39 84 con_clock_samplesErr
theorem VSd40 : Valid Tryz.prog Sd40 := Valid.add VSd39 ok_clock_samplesErr
def mk_base_Ints_0 (a : List Int) (c : List Int) (v0_0 : Int) : DS := ⟨[some (.t (.c (.sl 1 a.length (intsC a)))), some (.t (.c (.sl 1 c.length (intsC c)))), none, none, none, some (.t (.c (.v (.int .i64 v0_0)))), none, none, none, none, none, none, none, none, none, none, none, none, none, none, none, none, none, none, none, none], [none, none, none, none, none, none, none, none, none, none, none, none, none, none, none, none, none, none, none, none, none, none, none, none, none, none]⟩
def vc_base_Ints (J : Inv) (a : List Int) (c : List Int) (post : DV → Prop) : Prop := cond (((a.length : Nat) : Int) != ((c.length : Nat) : Int)) (post (.t (.c (.v (.bool false))))) (∃ n, J 0 (n :: []) (mk_base_Ints_0 a c 0))
def ann_base_Ints : Ann := ⟨fun r => lookA r [(6, ([[], [], [0, 1], [0, 1, 2], [], [], [4, 5], [4, 5, 6], [0, 1, 2, 3, 4, 5, 6, 7]], [[], [], [], [], [], [], [], [], []]))], fun b => lookA b [(0, (none, some ⟨[0, 1, 5], [], []⟩))], fun _ => [], noIt, false, fun _ => none, fun _ => none⟩
theorem ev_base_Ints (J : Inv) (a : List Int) (c : List Int) (post : DV → Prop) : evFn Tryz.prog tab Sd40 ann_base_Ints J Tryz.f46 [.t (.c (.sl 1 a.length (intsC a))), .t (.c (.sl 1 c.length (intsC c)))] post = vc_base_Ints J a c post := by kernel_rfl
theorem fit_base_Ints : okFn ann_base_Ints Tryz.f46 = true := by kernel_rfl
def rd_base_Ints_0 (J : Inv) (a : List Int) (c : List Int) (v0_0 : Int) (nn0 : Nat) (post : DV → Prop) : Prop := cond (decide (v0_0 < ((a.length : Nat) : Int))) ((0 ≤ v0_0 ∧ v0_0 < ((a.length : Nat) : Int)) ∧ ((0 ≤ v0_0 ∧ v0_0 < ((c.length : Nat) : Int)) ∧ (cond ((a.getD v0_0.toNat 0) != (c.getD v0_0.toNat 0)) (post (.t (.c (.v (.bool false))))) (lt (IntKind.i64.wrap (v0_0 + (1 : Int))) fun x1 => J 0 (nn0 :: []) (mk_base_Ints_0 a c x1))))) (post (.t (.c (.v (.bool true)))))
theorem er_base_Ints_0 (J : Inv) (a : List Int) (c : List Int) (v0_0 : Int) (nn0 : Nat) (post : DV → Prop) : round Tryz.prog tab Sd40 ann_base_Ints J Tryz.f46 post 0 (nn0 :: []) (mk_base_Ints_0 a c v0_0) = rd_base_Ints_0 J a c v0_0 nn0 post := by kernel_rfl
theorem lp_base_Ints (J : Inv) (post : DV → Prop) : AllG J (loopsFn Tryz.prog tab Sd40 ann_base_Ints J Tryz.f46 post) = (((∀ F s, ¬ J 0 (0 :: F) s) ∧ ∀ n F s, J 0 ((n + 1) :: F) s → round Tryz.prog tab Sd40 ann_base_Ints J Tryz.f46 post 0 (n :: F) s) ∧ True) := by kernel_rfl
def J_base_Ints (a : List Int) (c : List Int) : Inv := fun b F s => match b, F with
 | 0, [nn0] => ∃ (v0_0 : Int), s = mk_base_Ints_0 a c v0_0 ∧ (a.length ≤ 1000000 ∧ 0 ≤ v0_0 ∧ v0_0 ≤ a.length ∧ (nn0 : Int) + v0_0 = a.length + 1 ∧ a.length = c.length ∧ ∀ j : Nat, (j : Int) < v0_0 → a.getD j 0 = c.getD j 0)
 | _, _ => False
theorem rnd_base_Ints_0 (a : List Int) (c : List Int) (v0_0 : Int) (nn0 : Nat) (hp : (a).length ≤ 1000000) (hi : a.length ≤ 1000000 ∧ 0 ≤ v0_0 ∧ v0_0 ≤ a.length ∧ ((nn0 + 1) : Int) + v0_0 = a.length + 1 ∧ a.length = c.length ∧ ∀ j : Nat, (j : Int) < v0_0 → a.getD j 0 = c.getD j 0) : rd_base_Ints_0 (J_base_Ints a c) a c v0_0 nn0 (fun r => LeD r (.t (.c (.v (.bool (decide (a = c))))))) := by
 obtain ⟨i0, i1, i2, i3, i4, i5⟩ := hi
 obtain ⟨k, rfl⟩ : ∃ k : Nat, v0_0 = k := ⟨v0_0.toNat, by omega⟩
 have hk : (k : Int).toNat = k := rfl
 unfold rd_base_Ints_0
 rw [hk]
 refine cond_i (fun h => ?_) (fun h => leB ?_)
 ·have hlt : k < a.length := by have := of_decide_eq_true h; omega
  refine ⟨by omega, by omega, cond_i (fun e => leB ?_) (fun e => lt_i fun x hx => ?_)⟩
  ·refine (decide_eq_false fun q => ?_).symm
   rw [q] at e
   simp at e
  ·have e : a.getD k 0 = c.getD k 0 := by simpa using e
   rw [wi (by omega)] at hx
   subst hx
   exact ⟨_, rfl, i0, by omega, by omega, by omega, i4, fun j hj => by
    by_cases q : j = k
    ·rw [q]; exact e
    ·exact i5 j (by omega)⟩
 ·have hge : k = a.length := by have := of_decide_eq_false h; omega
  refine (decide_eq_true (List.ext_getElem? fun i => ?_)).symm
  by_cases hi : i < a.length
  ·have := i5 i (by omega)
   have h2 : i < c.length := by omega
   simpa [rgAt, List.getD, hi, h2] using this
  ·rw [List.getElem?_eq_none (by omega), List.getElem?_eq_none (by omega)]
theorem zero_base_Ints_0 (a : List Int) (c : List Int) (v0_0 : Int)  (hi : a.length ≤ 1000000 ∧ 0 ≤ v0_0 ∧ v0_0 ≤ a.length ∧ (0 : Int) + v0_0 = a.length + 1 ∧ a.length = c.length ∧ ∀ j : Nat, (j : Int) < v0_0 → a.getD j 0 = c.getD j 0) : False := by
 omega
theorem spec_base_Ints (a : List Int) (c : List Int) (hp : (a).length ≤ 1000000) : vc_base_Ints (J_base_Ints a c) a c (fun r => LeD r (.t (.c (.v (.bool (decide (a = c))))))) := by
  unfold vc_base_Ints
  refine cond_i (fun h => leB ?_) (fun h => ?_)
  · have h : a.length ≠ c.length := by intro e; rw [e] at h; simp at h
    exact (decide_eq_false fun e => h (by rw [e])).symm
  · have h : a.length = c.length := by have h : (a.length : Int) = c.length := by simpa using h
                                       omega
    exact ⟨a.length + 1, 0, rfl, hp, by omega, by omega, by omega, h, fun j hj => by omega⟩
theorem all_base_Ints (a : List Int) (c : List Int) (hp : (a).length ≤ 1000000) : AllG (J_base_Ints a c) (loopsFn Tryz.prog tab Sd40 ann_base_Ints (J_base_Ints a c) Tryz.f46 (fun r => LeD r (.t (.c (.v (.bool (decide (a = c)))))))) := by
 rw [lp_base_Ints]
 refine ⟨⟨?_, ?_⟩, trivial⟩
 ·intro F s h
  obtain _ | ⟨g, F⟩ := F
  case cons => exact h.elim
  obtain ⟨w0, rfl, hi⟩ := h
  exact zero_base_Ints_0 a c w0 hi
 ·intro n F s h
  obtain _ | ⟨g, F⟩ := F
  case cons => exact h.elim
  obtain ⟨w0, rfl, hi⟩ := h
  rw [er_base_Ints_0]
  exact rnd_base_Ints_0 a c _ _ hp hi
def con_base_Ints : Con := fun args => match args with
 | [.t (.c (.sl 1 n_a c_a)), .t (.c (.sl 1 n_c c_c))] => some (.t (.c (.v (.bool (decide ((listC n_a mkInt c_a) = (listC n_c mkInt c_c)))))), some (numsP 1 n_a c_a ∧ numsP 1 n_c c_c ∧ ((listC n_a mkInt c_a)).length ≤ 1000000), false)
 | _ => none
theorem ok_base_Ints : Ok Tryz.prog 46 con_base_Ints := by
 refine Ok.fn (ann := ann_base_Ints) mixed tabOK VSd40 ValidIt.no (fn := Tryz.f46) (by kernel_rfl) (by kernel_rfl) fit_base_Ints fun args r pre fresh h hp => ?_
 unfold con_base_Ints at h
 split at h
 ·rename_i n_a c_a n_c c_c
  cases h
  obtain ⟨hp0, hp1, hp⟩ := hp
  refine ⟨rfl, J_base_Ints (listC n_a mkInt c_a) (listC n_c mkInt c_c), [.t (.c (.sl 1 ((listC n_a mkInt c_a).length) (intsC (listC n_a mkInt c_a)))), .t (.c (.sl 1 ((listC n_c mkInt c_c).length) (intsC (listC n_c mkInt c_c))))], ?_, Nat.le_of_ble_eq_true (by kernel_rfl), ?_, ?_⟩
  ·exact (LeA_cons (leT_c ((leL_int hp0))) (LeA_cons (leT_c ((leL_int hp1))) LeA_nil))
  ·rw [ev_base_Ints]; exact spec_base_Ints (listC n_a mkInt c_a) (listC n_c mkInt c_c) hp
  ·exact all_base_Ints (listC n_a mkInt c_a) (listC n_c mkInt c_c) hp
 ·cases h
def Sd41 : Sum := addS Sd40 46 con_base_Ints
theorem VSd41 : Valid Tryz.prog Sd41 := Valid.add VSd40 ok_base_Ints
def mk_base_Ranges_0 (a : List Rg) (c : List Rg) (v0_0 : Int) : DS := ⟨[some (.t (.c (.sl 2 a.length (rgsC a)))), some (.t (.c (.sl 2 c.length (rgsC c)))), none, none, none, some (.t (.c (.v (.int .i64 v0_0)))), none, none, none, none, none, none, none, none, none, none, none, none, none, none, none, none, none, none, none, none], [none, none, none, none, none, none, none, none, none, none, none, none, none, none, none, none, none, none, none, none, none, none, none, none, none, none]⟩
def vc_base_Ranges (J : Inv) (a : List Rg) (c : List Rg) (post : DV → Prop) : Prop := cond (((a.length : Nat) : Int) != ((c.length : Nat) : Int)) (post (.t (.c (.v (.bool false))))) (∃ n, J 0 (n :: []) (mk_base_Ranges_0 a c 0))
def ann_base_Ranges : Ann := ⟨fun r => lookA r [(6, ([[], [], [0, 1], [0, 1, 2], [], [], [4, 5], [4, 5, 6], [0, 1, 2, 3, 4, 5, 6, 7]], [[], [], [], [], [], [], [], [], []]))], fun b => lookA b [(0, (none, some ⟨[0, 1, 5], [], []⟩))], fun _ => [], noIt, false, fun _ => none, fun _ => none⟩
theorem ev_base_Ranges (J : Inv) (a : List Rg) (c : List Rg) (post : DV → Prop) : evFn Tryz.prog tab Sd41 ann_base_Ranges J Tryz.f45 [.t (.c (.sl 2 a.length (rgsC a))), .t (.c (.sl 2 c.length (rgsC c)))] post = vc_base_Ranges J a c post := by kernel_rfl
theorem fit_base_Ranges : okFn ann_base_Ranges Tryz.f45 = true := by kernel_rfl
def rd_base_Ranges_0 (J : Inv) (a : List Rg) (c : List Rg) (v0_0 : Int) (nn0 : Nat) (post : DV → Prop) : Prop := cond (decide (v0_0 < ((a.length : Nat) : Int))) ((0 ≤ v0_0 ∧ v0_0 < ((a.length : Nat) : Int)) ∧ ((0 ≤ v0_0 ∧ v0_0 < ((c.length : Nat) : Int)) ∧ (cond (!(bif (((rgAt a v0_0.toNat).lo) == ((rgAt c v0_0.toNat).lo)) then (bif (((rgAt a v0_0.toNat).hi) == ((rgAt c v0_0.toNat).hi)) then true else false) else false)) (post (.t (.c (.v (.bool false))))) (lt (IntKind.i64.wrap (v0_0 + (1 : Int))) fun x1 => J 0 (nn0 :: []) (mk_base_Ranges_0 a c x1))))) (post (.t (.c (.v (.bool true)))))
theorem er_base_Ranges_0 (J : Inv) (a : List Rg) (c : List Rg) (v0_0 : Int) (nn0 : Nat) (post : DV → Prop) : round Tryz.prog tab Sd41 ann_base_Ranges J Tryz.f45 post 0 (nn0 :: []) (mk_base_Ranges_0 a c v0_0) = rd_base_Ranges_0 J a c v0_0 nn0 post := by kernel_rfl
theorem lp_base_Ranges (J : Inv) (post : DV → Prop) : AllG J (loopsFn Tryz.prog tab Sd41 ann_base_Ranges J Tryz.f45 post) = (((∀ F s, ¬ J 0 (0 :: F) s) ∧ ∀ n F s, J 0 ((n + 1) :: F) s → round Tryz.prog tab Sd41 ann_base_Ranges J Tryz.f45 post 0 (n :: F) s) ∧ True) := by kernel_rfl
def J_base_Ranges (a : List Rg) (c : List Rg) : Inv := fun b F s => match b, F with
 | 0, [nn0] => ∃ (v0_0 : Int), s = mk_base_Ranges_0 a c v0_0 ∧ (a.length ≤ 1000000 ∧ 0 ≤ v0_0 ∧ v0_0 ≤ a.length ∧ (nn0 : Int) + v0_0 = a.length + 1 ∧ a.length = c.length ∧ ∀ j : Nat, (j : Int) < v0_0 → rgAt a j = rgAt c j)
 | _, _ => False
theorem rnd_base_Ranges_0 (a : List Rg) (c : List Rg) (v0_0 : Int) (nn0 : Nat) (hp : (a).length ≤ 1000000) (hi : a.length ≤ 1000000 ∧ 0 ≤ v0_0 ∧ v0_0 ≤ a.length ∧ ((nn0 + 1) : Int) + v0_0 = a.length + 1 ∧ a.length = c.length ∧ ∀ j : Nat, (j : Int) < v0_0 → rgAt a j = rgAt c j) : rd_base_Ranges_0 (J_base_Ranges a c) a c v0_0 nn0 (fun r => LeD r (.t (.c (.v (.bool (decide (a = c))))))) := by
 obtain ⟨i0, i1, i2, i3, i4, i5⟩ := hi
 obtain ⟨k, rfl⟩ : ∃ k : Nat, v0_0 = k := ⟨v0_0.toNat, by omega⟩
 have hk : (k : Int).toNat = k := rfl
 unfold rd_base_Ranges_0
 rw [hk]
 refine cond_i (fun h => ?_) (fun h => leB ?_)
 ·have hlt : k < a.length := by have := of_decide_eq_true h; omega
  refine ⟨by omega, by omega, cond_i (fun e => leB ?_) (fun e => lt_i fun x hx => ?_)⟩
  ·refine (decide_eq_false fun q => ?_).symm
   rw [q] at e
   simp at e
  ·have e : rgAt a k = rgAt c k := by 
    rw [rg_ext]
    cases e1 : ((rgAt a k).lo == (rgAt c k).lo) <;> cases e2 : ((rgAt a k).hi == (rgAt c k).hi) <;> simp_all
   rw [wi (by omega)] at hx
   subst hx
   exact ⟨_, rfl, i0, by omega, by omega, by omega, i4, fun j hj => by
    by_cases q : j = k
    ·rw [q]; exact e
    ·exact i5 j (by omega)⟩
 ·have hge : k = a.length := by have := of_decide_eq_false h; omega
  refine (decide_eq_true (List.ext_getElem? fun i => ?_)).symm
  by_cases hi : i < a.length
  ·have := i5 i (by omega)
   have h2 : i < c.length := by omega
   simpa [rgAt, List.getD, hi, h2] using this
  ·rw [List.getElem?_eq_none (by omega), List.getElem?_eq_none (by omega)]
theorem zero_base_Ranges_0 (a : List Rg) (c : List Rg) (v0_0 : Int)  (hi : a.length ≤ 1000000 ∧ 0 ≤ v0_0 ∧ v0_0 ≤ a.length ∧ (0 : Int) + v0_0 = a.length + 1 ∧ a.length = c.length ∧ ∀ j : Nat, (j : Int) < v0_0 → rgAt a j = rgAt c j) : False := by
 omega
theorem spec_base_Ranges (a : List Rg) (c : List Rg) (hp : (a).length ≤ 1000000) : vc_base_Ranges (J_base_Ranges a c) a c (fun r => LeD r (.t (.c (.v (.bool (decide (a = c))))))) := by
  unfold vc_base_Ranges
  refine cond_i (fun h => leB ?_) (fun h => ?_)
  · have h : a.length ≠ c.length := by intro e; rw [e] at h; simp at h
    exact (decide_eq_false fun e => h (by rw [e])).symm
  · have h : a.length = c.length := by have h : (a.length : Int) = c.length := by simpa using h
                                       omega
    exact ⟨a.length + 1, 0, rfl, hp, by omega, by omega, by omega, h, fun j hj => by omega⟩
theorem all_base_Ranges (a : List Rg) (c : List Rg) (hp : (a).length ≤ 1000000) : AllG (J_base_Ranges a c) (loopsFn Tryz.prog tab Sd41 ann_base_Ranges (J_base_Ranges a c) Tryz.f45 (fun r => LeD r (.t (.c (.v (.bool (decide (a = c)))))))) := by
 rw [lp_base_Ranges]
 refine ⟨⟨?_, ?_⟩, trivial⟩
 ·intro F s h
  obtain _ | ⟨g, F⟩ := F
  case cons => exact h.elim
  obtain ⟨w0, rfl, hi⟩ := h
  exact zero_base_Ranges_0 a c w0 hi
 ·intro n F s h
  obtain _ | ⟨g, F⟩ := F
  case cons => exact h.elim
  obtain ⟨w0, rfl, hi⟩ := h
  rw [er_base_Ranges_0]
  exact rnd_base_Ranges_0 a c _ _ hp hi
def con_base_Ranges : Con := fun args => match args with
 | [.t (.c (.sl 2 n_a c_a)), .t (.c (.sl 2 n_c c_c))] => some (.t (.c (.v (.bool (decide ((listC n_a mkRg c_a) = (listC n_c mkRg c_c)))))), some (numsP 2 n_a c_a ∧ numsP 2 n_c c_c ∧ ((listC n_a mkRg c_a)).length ≤ 1000000), false)
 | _ => none
theorem ok_base_Ranges : Ok Tryz.prog 45 con_base_Ranges := by
 refine Ok.fn (ann := ann_base_Ranges) mixed tabOK VSd41 ValidIt.no (fn := Tryz.f45) (by kernel_rfl) (by kernel_rfl) fit_base_Ranges fun args r pre fresh h hp => ?_
 unfold con_base_Ranges at h
 split at h
 ·rename_i n_a c_a n_c c_c
  cases h
  obtain ⟨hp0, hp1, hp⟩ := hp
  refine ⟨rfl, J_base_Ranges (listC n_a mkRg c_a) (listC n_c mkRg c_c), [.t (.c (.sl 2 ((listC n_a mkRg c_a).length) (rgsC (listC n_a mkRg c_a)))), .t (.c (.sl 2 ((listC n_c mkRg c_c).length) (rgsC (listC n_c mkRg c_c))))], ?_, Nat.le_of_ble_eq_true (by kernel_rfl), ?_, ?_⟩
  ·exact (LeA_cons (leT_c ((leL_Rg hp0))) (LeA_cons (leT_c ((leL_Rg hp1))) LeA_nil))
  ·rw [ev_base_Ranges]; exact spec_base_Ranges (listC n_a mkRg c_a) (listC n_c mkRg c_c) hp
  ·exact all_base_Ranges (listC n_a mkRg c_a) (listC n_c mkRg c_c) hp
 ·cases h
def Sd42 : Sum := addS Sd41 45 con_base_Ranges
theorem VSd42 : Valid Tryz.prog Sd42 := Valid.add VSd41 ok_base_Ranges
def mk_clock_leapsErr_0 (l : List Lp) (v0_0 : Int) : DS := ⟨[some (.t (.c (.sl 2 l.length (lppsC l)))), none, none, none, none, none, none, none, none, none, some (.t (.c (.sl 2 l.length (lppsC l)))), some (.t (.c (.v (.int .i64 ((l.length : Nat) : Int))))), some (.t (.c (.v (.int .i64 v0_0)))), none, none, none, none, none, none, none, none, none, none, none, none, none, none, none, none, none, none, none, none, none, none, none, none, none, none, none, none, none, none, none, none, none, none, none, none, none, none, none], [none, none, none, none, none, none, none, none, none, none, none, none, none, none, none, none, none, none, none, none, none, none, none, none, none, none, none, none, none, none, none, none, none, none, none, none, none, none, none, none, none, none, none, none, none, none, none, none, none, none, none, none]⟩
def vc_clock_leapsErr (J : Inv) (l : List Lp) (post : DV → Prop) : Prop := cond (decide (((l.length : Nat) : Int) > (10 : Int))) (post (.t (.c (.v (.int .i64 8))))) (∃ n, J 0 (n :: []) (mk_clock_leapsErr_0 l 0))
def ann_clock_leapsErr : Ann := ⟨fun r => lookA r [(7, ([[], [0], [], [2], [2, 3], [0, 1, 2, 3, 4], [], [6], [0, 1, 2, 3, 4, 5, 6, 7], [0, 1, 2, 3, 4, 5, 6, 7, 8], [0, 1, 2, 3, 4, 5, 6, 7, 8, 9], [0, 1, 2, 3, 4, 5, 6, 7, 8], [0, 1, 2, 3, 4, 5, 6, 7, 8], [0, 1, 2, 3, 4, 5, 6, 7, 8, 12], [0, 1, 2, 3, 4, 5, 6, 7, 8, 12, 13], [0, 1, 2, 3, 4, 5, 6, 7, 8, 11, 12, 13, 14], [0, 1, 2, 3, 4, 5, 6, 7, 8, 11, 12, 13, 14, 15], [0, 1, 2, 3, 4, 5, 6, 7, 8, 11, 12, 13, 14, 15, 16], [0, 1, 2, 3, 4, 5, 6, 7, 8, 9, 10, 11, 12, 13, 14, 15, 16, 17], [0, 1, 2, 3, 4, 5, 6, 7, 8, 9, 10, 11, 12, 13, 14, 15, 16, 17, 18], [0, 1, 2, 3, 4, 5, 6, 7, 8, 9, 10, 11, 12, 13, 14, 15, 16, 17, 18, 19], [0, 1, 2, 3, 4, 5, 6, 7, 8, 9, 10, 11, 12, 13, 14, 15, 16, 17, 18, 19, 20], [0, 1, 2, 3, 4, 5, 6, 7, 8, 9, 10, 11, 12, 13, 14, 15, 16, 17, 18, 19, 20, 21], [0, 1, 2, 3, 4, 5, 6, 7, 8, 9, 10, 11, 12, 13, 14, 15, 16, 17, 18, 19, 20, 21, 22]], [[26, 30, 45, 46, 47], [30, 45, 46, 47], [26, 30, 45, 46, 47], [26, 30, 45, 46, 47], [26, 30, 45, 46, 47], [45, 46, 47], [26, 30, 45, 46, 47], [26, 30, 45, 46, 47], [45, 46, 47], [45, 46, 47], [45, 46, 47], [45, 46, 47], [45, 46, 47], [45, 46, 47], [45, 46, 47], [45, 46, 47], [45, 46, 47], [45, 46, 47], [45, 46, 47], [45, 46, 47], [46, 47], [47], [], []]))], fun b => lookA b [(0, (none, some ⟨[0, 10, 11, 12], [], []⟩))], fun _ => [], noIt, false, fun r => lookA r [(6, (4, [5]))], fun _ => none⟩
theorem ev_clock_leapsErr (J : Inv) (l : List Lp) (post : DV → Prop) : evFn Tryz.prog tab Sd42 ann_clock_leapsErr J Tryz.f82 [.t (.c (.sl 2 l.length (lppsC l)))] post = vc_clock_leapsErr J l post := by kernel_rfl
theorem fit_clock_leapsErr : okFn ann_clock_leapsErr Tryz.f82 = true := by kernel_rfl
def rd_clock_leapsErr_0 (J : Inv) (l : List Lp) (v0_0 : Int) (nn0 : Nat) (post : DV → Prop) : Prop := cond (decide (v0_0 < ((l.length : Nat) : Int))) ((0 ≤ v0_0 ∧ v0_0 < ((l.length : Nat) : Int)) ∧ ((cond (tkB ((lppAt l v0_0.toNat).tick)) (True) ((false = false) ∧ (True))) ∧ (lt ((bif tkB ((lppAt l v0_0.toNat).tick) then inB ((lppAt l v0_0.toNat).step) (-1000000 : Int) (1000000 : Int) else false)) fun x1 => cond (v0_0 == (0 : Int)) ((true = true) ∧ ((numsP 1 3 (genC [[.v (.int .i64 (unl x1 (2 : Int)))], [.v (.int .i64 (unl (((lppAt l v0_0.toNat).step) != (0 : Int)) (11 : Int)))], [.v (.int .i64 (unl true (9 : Int)))]]) ∧ (([(unl x1 (2 : Int)), (unl (((lppAt l v0_0.toNat).step) != (0 : Int)) (11 : Int)), (unl true (9 : Int))] : List Int)).length ≤ 100) ∧ (cond ((firstNZ ([(unl x1 (2 : Int)), (unl (((lppAt l v0_0.toNat).step) != (0 : Int)) (11 : Int)), (unl true (9 : Int))] : List Int)) != (0 : Int)) (post (.t (.c (.v (.int .i64 (firstNZ ([(unl x1 (2 : Int)), (unl (((lppAt l v0_0.toNat).step) != (0 : Int)) (11 : Int)), (unl true (9 : Int))] : List Int))))))) (lt (IntKind.i64.wrap (v0_0 + (1 : Int))) fun x2 => J 0 (nn0 :: []) (mk_clock_leapsErr_0 l x2))))) (lt (IntKind.i64.wrap (v0_0 - (1 : Int))) fun x3 => lt ((if x3 > (0 : Int) then x3 else (0 : Int))) fun x4 => (0 ≤ x4 ∧ x4 < ((l.length : Nat) : Int)) ∧ ((numsP 1 3 (genC [[.v (.int .i64 (unl x1 (2 : Int)))], [.v (.int .i64 (unl (((lppAt l v0_0.toNat).step) != (0 : Int)) (11 : Int)))], [.v (.int .i64 (unl (decide (((lppAt l v0_0.toNat).tick) > ((lppAt l x4.toNat).tick))) (9 : Int)))]]) ∧ (([(unl x1 (2 : Int)), (unl (((lppAt l v0_0.toNat).step) != (0 : Int)) (11 : Int)), (unl (decide (((lppAt l v0_0.toNat).tick) > ((lppAt l x4.toNat).tick))) (9 : Int))] : List Int)).length ≤ 100) ∧ (cond ((firstNZ ([(unl x1 (2 : Int)), (unl (((lppAt l v0_0.toNat).step) != (0 : Int)) (11 : Int)), (unl (decide (((lppAt l v0_0.toNat).tick) > ((lppAt l x4.toNat).tick))) (9 : Int))] : List Int)) != (0 : Int)) (post (.t (.c (.v (.int .i64 (firstNZ ([(unl x1 (2 : Int)), (unl (((lppAt l v0_0.toNat).step) != (0 : Int)) (11 : Int)), (unl (decide (((lppAt l v0_0.toNat).tick) > ((lppAt l x4.toNat).tick))) (9 : Int))] : List Int))))))) (lt (IntKind.i64.wrap (v0_0 + (1 : Int))) fun x5 => J 0 (nn0 :: []) (mk_clock_leapsErr_0 l x5)))))))) (post (.t (.c (.v (.int .i64 0)))))
theorem er_clock_leapsErr_0 (J : Inv) (l : List Lp) (v0_0 : Int) (nn0 : Nat) (post : DV → Prop) : round Tryz.prog tab Sd42 ann_clock_leapsErr J Tryz.f82 post 0 (nn0 :: []) (mk_clock_leapsErr_0 l v0_0) = rd_clock_leapsErr_0 J l v0_0 nn0 post := by kernel_rfl
theorem lp_clock_leapsErr (J : Inv) (post : DV → Prop) : AllG J (loopsFn Tryz.prog tab Sd42 ann_clock_leapsErr J Tryz.f82 post) = (((∀ F s, ¬ J 0 (0 :: F) s) ∧ ∀ n F s, J 0 ((n + 1) :: F) s → round Tryz.prog tab Sd42 ann_clock_leapsErr J Tryz.f82 post 0 (n :: F) s) ∧ True) := by kernel_rfl
def J_clock_leapsErr (l : List Lp) : Inv := fun b F s => match b, F with
 | 0, [nn0] => ∃ (v0_0 : Int), s = mk_clock_leapsErr_0 l v0_0 ∧ ((¬ (l.length : Int) > 10) ∧ 0 ≤ v0_0 ∧ v0_0 ≤ l.length ∧ (nn0 : Int) + v0_0 = l.length + 1 ∧ ∀ j : Nat, (j : Int) < v0_0 → lpS1 l j = 0)
 | _, _ => False
theorem rnd_clock_leapsErr_0 (l : List Lp) (v0_0 : Int) (nn0 : Nat) (hi : (¬ (l.length : Int) > 10) ∧ 0 ≤ v0_0 ∧ v0_0 ≤ l.length ∧ ((nn0 + 1) : Int) + v0_0 = l.length + 1 ∧ ∀ j : Nat, (j : Int) < v0_0 → lpS1 l j = 0) : rd_clock_leapsErr_0 (J_clock_leapsErr l) l v0_0 nn0 (fun r => LeD r (.t (.c (.v (.int .i64 (lpE l)))))) := by
 obtain ⟨i0, i1, i2, i3, i4⟩ := hi
 obtain ⟨k, rfl⟩ : ∃ k : Nat, v0_0 = k := ⟨v0_0.toNat, by omega⟩
 have hk : (k : Int).toNat = k := rfl
 unfold rd_clock_leapsErr_0
 rw [hk]
 refine cond_i (fun h => ?_) (fun h => leI ?_)
 ·have hlt : k < l.length := by have := of_decide_eq_true h; omega
  have fin : ∀ e9 : Int, e9 = lpS1 l k → cond (e9 != 0) (LeD (.t (.c (.v (.int .i64 e9)))) (.t (.c (.v (.int .i64 (lpE l)))))) (lt (IntKind.i64.wrap ((k : Int) + 1)) fun x2 => J_clock_leapsErr l 0 (nn0 :: []) (mk_clock_leapsErr_0 l x2)) := by
   intro e9 he
   refine cond_i (fun g => leI ?_) (fun g => lt_i fun x hx => ?_)
   ·have g : lpS1 l k ≠ 0 := by rw [← he]; simpa using g
    rw [he]
    exact ((if_neg i0).trans (scan_at (fun j hj => i4 j (by omega)) hlt g)).symm
   ·have g : lpS1 l k = 0 := by rw [← he]; simpa using g
    rw [wi (by omega)] at hx
    subst hx
    refine ⟨_, rfl, i0, by omega, by omega, by omega, fun j hj => ?_⟩
    by_cases c : j = k
    ·rw [c]; exact g
    ·exact i4 j (by omega)
  refine ⟨by omega, cond_i (fun _ => trivial) (fun _ => ⟨rfl, trivial⟩), lt_i fun x1 h1 => cond_i (fun g => ⟨rfl, ⟨numsP_gen [_, _, _], Nat.le_of_ble_eq_true rfl⟩, fin _ ?_⟩) (fun g => lt_i fun x3 h3 => lt_i fun x4 h4 => ?_)⟩
  ·have g : (k : Int) = 0 := by simpa using g
   unfold lpS1
   rw [← h1, decide_eq_true g, show ((lppAt l k).step != 0) = decide ((lppAt l k).step ≠ 0) by rw [decide_not]; rfl]
   cases tkB (lppAt l k).tick <;> rfl
  ·have g : ¬ (k : Int) = 0 := by simpa using g
   rw [wi (by omega)] at h3
   obtain ⟨m, hm⟩ : ∃ m : Nat, x4 = m := ⟨x4.toNat, by split at h4 <;> omega⟩
   have hm2 : m = k - 1 := by split at h4 <;> omega
   subst hm
   subst hm2
   have hm3 : ((k - 1 : Nat) : Int).toNat = k - 1 := rfl
   rw [hm3]
   refine ⟨by omega, ⟨numsP_gen [_, _, _], Nat.le_of_ble_eq_true rfl⟩, fin _ ?_⟩
   unfold lpS1
   rw [← h1, decide_eq_false g, show ((lppAt l k).step != 0) = decide ((lppAt l k).step ≠ 0) by rw [decide_not]; rfl]
   cases tkB (lppAt l k).tick <;> rfl
 ·have h := of_decide_eq_false h
  exact ((if_neg i0).trans (scan_end fun j hj => i4 j (by omega))).symm
theorem zero_clock_leapsErr_0 (l : List Lp) (v0_0 : Int)  (hi : (¬ (l.length : Int) > 10) ∧ 0 ≤ v0_0 ∧ v0_0 ≤ l.length ∧ (0 : Int) + v0_0 = l.length + 1 ∧ ∀ j : Nat, (j : Int) < v0_0 → lpS1 l j = 0) : False := by
 omega
theorem spec_clock_leapsErr (l : List Lp) : vc_clock_leapsErr (J_clock_leapsErr l) l (fun r => LeD r (.t (.c (.v (.int .i64 (lpE l)))))) := by
 unfold vc_clock_leapsErr
 refine cond_i (fun h => leI ?_) (fun h => ?_)
 ·exact (if_pos (of_decide_eq_true h)).symm
 ·have h := of_decide_eq_false h
  exact ⟨l.length + 1, 0, rfl, h, by omega, by omega, by omega, fun j hj => by omega⟩
theorem all_clock_leapsErr (l : List Lp) : AllG (J_clock_leapsErr l) (loopsFn Tryz.prog tab Sd42 ann_clock_leapsErr (J_clock_leapsErr l) Tryz.f82 (fun r => LeD r (.t (.c (.v (.int .i64 (lpE l))))))) := by
 rw [lp_clock_leapsErr]
 refine ⟨⟨?_, ?_⟩, trivial⟩
 ·intro F s h
  obtain _ | ⟨g, F⟩ := F
  case cons => exact h.elim
  obtain ⟨w0, rfl, hi⟩ := h
  exact zero_clock_leapsErr_0 l w0 hi
 ·intro n F s h
  obtain _ | ⟨g, F⟩ := F
  case cons => exact h.elim
  obtain ⟨w0, rfl, hi⟩ := h
  rw [er_clock_leapsErr_0]
  exact rnd_clock_leapsErr_0 l _ _ hi
def con_clock_leapsErr : Con := fun args => match args with
 | [.t (.c (.sl 2 n_l c_l))] => some (.t (.c (.v (.int .i64 (lpE (listC n_l mkLpp c_l))))), some (numsP 2 n_l c_l), false)
 | _ => none
theorem ok_clock_leapsErr : Ok Tryz.prog 82 con_clock_leapsErr := by
 refine Ok.fn (ann := ann_clock_leapsErr) mixed tabOK VSd42 ValidIt.no (fn := Tryz.f82) (by kernel_rfl) (by kernel_rfl) fit_clock_leapsErr fun args r pre fresh h hp => ?_
 unfold con_clock_leapsErr at h
 split at h
 ·rename_i n_l c_l
  cases h
  have hp0 := hp
  refine ⟨rfl, J_clock_leapsErr (listC n_l mkLpp c_l), [.t (.c (.sl 2 ((listC n_l mkLpp c_l).length) (lppsC (listC n_l mkLpp c_l))))], ?_, Nat.le_of_ble_eq_true (by kernel_rfl), ?_, ?_⟩
  ·exact (LeA_cons (leT_c ((leL_Lp hp0))) LeA_nil)
  ·rw [ev_clock_leapsErr]; exact spec_clock_leapsErr (listC n_l mkLpp c_l)
  ·exact all_clock_leapsErr (listC n_l mkLpp c_l)
 ·cases h
def Sd43 : Sum := addS Sd42 82 con_clock_leapsErr
theorem VSd43 : Valid Tryz.prog Sd43 := Valid.add VSd42 ok_clock_leapsErr
end Go.Proofs.YtlapeoboekchpaaGreatDoor
set_option linter.unusedVariables false
set_option linter.unusedSimpArgs false
namespace Go.Proofs.YtlapeoboekchpaaGreatDoor
theorem sq_nn' (a : Int) : 0 ≤ a * a := by have h : ((a.natAbs * a.natAbs : Nat) : Int) = a * a := Int.natAbs_mul_self; omega
end Go.Proofs.YtlapeoboekchpaaGreatDoor
set_option linter.unusedVariables false
set_option linter.unusedSimpArgs false
namespace Go.Proofs.YtlapeoboekchpaaGreatDoor
open Go.RowKit Ev
def urR (l : List Int) (p : Int) : List Int := if urE l p = 0 then urV l p else []
theorem all_at {f : Int → Bool} {l : List Int} (h : l.all f = true) {i : Nat} (hi : i < l.length) : f (l.getD i 0) = true := List.all_eq_true.1 h _ (getD_mem' hi)
theorem urE_ok {l : List Int} {p : Int} (h : urE l p = 0) : (1 ≤ p ∧ p ≤ 1000000000000) ∧ l.length ≤ 40 ∧ ∀ i, i < l.length → 0 ≤ l.getD i 0 ∧ l.getD i 0 ≤ p - 1 := by
 unfold urE at h
 split at h
 ·rename_i q
  obtain ⟨h1, h2⟩ := fn2 h
  rw [unl_0 (by decide)] at h1 h2
  have h1 := of_decide_eq_true h1
  exact ⟨inB_true.1 q, by omega, fun i hi => inB_true.1 (all_at h2 hi)⟩
 ·cases h
theorem lpE_ok {l : List Lp} (h : lpE l = 0) : l.length ≤ 10 ∧ ∀ i, i < l.length → (0 ≤ (lppAt l i).tick ∧ (lppAt l i).tick ≤ 1000000000000) ∧ (-1000000 ≤ (lppAt l i).step ∧ (lppAt l i).step ≤ 1000000) ∧ (0 < i → (lppAt l (i - 1)).tick < (lppAt l i).tick) := by
 unfold lpE at h
 split at h
 ·cases h
 ·rename_i q
  refine ⟨by omega, fun i hi => ?_⟩
  have z := scan_zero h i hi
  unfold lpS1 at z
  obtain ⟨z1, z2, z3⟩ := fn3 z
  rw [unl_0 (by decide)] at z1 z3
  rw [Bool.and_eq_true, tkB_iff, inB_true] at z1
  refine ⟨z1.1, z1.2, fun h0 => ?_⟩
  rw [decide_eq_false (by omega), Bool.false_or, decide_eq_true_eq] at z3
  exact z3
theorem smE_ok {l : List Int} (h : smE l = 0) : (0 < l.length ∧ l.length ≤ 24) ∧ ∀ i, i < l.length → -10000 ≤ l.getD i 0 ∧ l.getD i 0 ≤ 10000 := by
 obtain ⟨h1, h2, h3⟩ := fn3 (show firstNZ [_, _, _] = 0 from h)
 rw [unl_0 (by decide)] at h1 h2 h3
 have h1 := of_decide_eq_true h1
 have h2 := of_decide_eq_true h2
 exact ⟨⟨by omega, by omega⟩, fun i hi => inB_true.1 (all_at h3 hi)⟩
theorem avE_ok {a c : List Int} (h : avE a c = 0) : smE a = 0 ∧ smE c = 0 ∧ c.length ≤ a.length := by
 obtain ⟨h1, h2, h3⟩ := fn3 (show firstNZ [_, _, _] = 0 from h)
 rw [unl_0 (by decide)] at h3
 have h3 := of_decide_eq_true h3
 exact ⟨h1, h2, by omega⟩
theorem avE_of {a c : List Int} (h : smE a = 0 ∧ smE c = 0 ∧ c.length ≤ a.length) : avE a c = 0 := by
 unfold avE
 rw [h.1, h.2.1, decide_eq_true (by have := h.2.2; omega)]
 rfl
theorem sqK_rg {a c : List Int} (q : smE a = 0 ∧ smE c = 0 ∧ c.length ≤ a.length) (k : Nat) : ∀ m, m ≤ c.length → 0 ≤ sqK a c k m ∧ sqK a c k m ≤ 1600000000 * m := by
 intro m
 induction m with
 | zero => intro _; simp [sqK]
 | succ m ih =>
  intro hm
  have i := ih (by omega)
  have c2 := (smE_ok q.2.1).2 m hm
  have a2 : -10000 ≤ a.getD (k + m) 0 ∧ a.getD (k + m) 0 ≤ 10000 := by
   by_cases h : k + m < a.length
   ·exact (smE_ok q.1).2 _ h
   ·rw [List.getD_eq_getElem?_getD, List.getElem?_eq_none (by omega)]; simp
  have p := mul_rg (x := a.getD (k + m) 0 - c.getD m 0) (y := a.getD (k + m) 0 - c.getD m 0) (A := 20000) (B := 20000) (C := 400000000) (by omega) (by omega) (by decide)
  have p0 := sq_nn' (a.getD (k + m) 0 - c.getD m 0)
  unfold sqK
  push_cast
  omega
def mk_clock_Unrolled_0 (l : List Int) (per : Int) (v0_0 : List Int) (v0_1 : Int) (v0_2 : Int) : DS := ⟨[some (.t (.c (.sl 1 l.length (intsC l)))), none, none, some (.t (.c (.p 3 0))), none, none, none, none, some (.t (.c (.os 8))), some (.t (.c (.v (.int .i64 v0_2)))), none, none, none, none, none, none, none, none, none, none, none, none, none, none, none, none, none, none, none, none, some (.t (.c (.sl 1 l.length (intsC l)))), some (.t (.c (.v (.int .i64 ((l.length : Nat) : Int))))), some (.t (.c (.v (.int .i64 v0_1)))), none, none, none, none, none, none, none, none, none, none, none, none, none, none, none, none, none, none, none, none, none, none, none, none, none, none, none], [none, none, none, some (.box 3 [.v (.int .i64 per)]), none, none, none, none, some (.num 3 .i64 v0_0), none, none, none, none, none, none, none, none, none, none, none, none, none, none, none, none, none, none, none, none, none, none, none, none, none, none, none, none, none, none, none, none, none, none, none, none, none, none, none, none, none, none, none, none, none, none, none, none, none, none, none]⟩
def vc_clock_Unrolled (J : Inv) (l : List Int) (per : Int) (post : DV → Prop) : Prop := cond (!(inB per (1 : Int) (1000000000000 : Int))) (post (.tu [.c (.v (.slice none 0 0)), .c (.v (.int .i64 2))])) ((numsP 1 l.length (intsC l) ∧ intsB [0] (boxC [.v (.int .i64 per)]) = true ∧ ((listC l.length mkInt (intsC l))).length ≤ 1000000 ∧ 1 ≤ per ∧ per ≤ 1000000000000) ∧ ((numsP 1 2 (genC [[.v (.int .i64 (unl (decide (((l.length : Nat) : Int) ≤ (40 : Int))) (8 : Int)))], [.v (.int .i64 (unl (!(((listC l.length mkInt (intsC l))).any fun n => !inB n 0 (per - 1))) (2 : Int)))]]) ∧ (([(unl (decide (((l.length : Nat) : Int) ≤ (40 : Int))) (8 : Int)), (unl (!(((listC l.length mkInt (intsC l))).any fun n => !inB n 0 (per - 1))) (2 : Int))] : List Int)).length ≤ 100) ∧ (cond ((firstNZ ([(unl (decide (((l.length : Nat) : Int) ≤ (40 : Int))) (8 : Int)), (unl (!(((listC l.length mkInt (intsC l))).any fun n => !inB n 0 (per - 1))) (2 : Int))] : List Int)) != (0 : Int)) (post (.tu [.c (.v (.slice none 0 0)), .c (.v (.int .i64 (firstNZ ([(unl (decide (((l.length : Nat) : Int) ≤ (40 : Int))) (8 : Int)), (unl (!(((listC l.length mkInt (intsC l))).any fun n => !inB n 0 (per - 1))) (2 : Int))] : List Int))))])) (∃ n, J 0 (n :: []) (mk_clock_Unrolled_0 l per ([]) 0 0)))))
def ann_clock_Unrolled : Ann := ⟨fun _ => none, fun b => lookA b [(0, (none, some ⟨[0, 3, 9, 30, 31, 32], [3], [(8, .num 3 .i64 ([]))]⟩))], fun _ => [], noIt, true, fun r => lookA r [(12, (3, [47]))], fun r => lookA r [(13, [9])]⟩
theorem ev_clock_Unrolled (J : Inv) (l : List Int) (per : Int) (post : DV → Prop) : evFn Tryz.prog tab Sd43 ann_clock_Unrolled J Tryz.f42 [.t (.c (.sl 1 l.length (intsC l))), .t (.c (.v (.int .i64 per)))] post = vc_clock_Unrolled J l per post := by kernel_rfl
theorem fit_clock_Unrolled : okFn ann_clock_Unrolled Tryz.f42 = true := by kernel_rfl
def rd_clock_Unrolled_0 (J : Inv) (l : List Int) (per : Int) (v0_0 : List Int) (v0_1 : Int) (v0_2 : Int) (nn0 : Nat) (post : DV → Prop) : Prop := cond (decide (v0_1 < ((l.length : Nat) : Int))) ((0 ≤ v0_1 ∧ v0_1 < ((l.length : Nat) : Int)) ∧ ((cond (decide (v0_1 > (0 : Int))) (lt (IntKind.i64.wrap (v0_1 - (1 : Int))) fun x2 => (0 ≤ x2 ∧ x2 < ((l.length : Nat) : Int)) ∧ (True)) ((false = false) ∧ (True))) ∧ (lt ((bif decide (v0_1 > (0 : Int)) then decide ((l.getD v0_1.toNat 0) < (l.getD ((IntKind.i64.wrap (v0_1 - (1 : Int))).toNat) 0)) else false)) fun x3 => (cond x3 (lt (IntKind.i64.wrap (v0_2 + (1 : Int))) fun x5 => True) (True)) ∧ (lt ((bif x3 then (IntKind.i64.wrap (v0_2 + (1 : Int))) else v0_2)) fun x6 => lt (IntKind.i64.wrap (x6 * per)) fun x7 => lt (IntKind.i64.wrap (x7 + (l.getD v0_1.toNat 0))) fun x8 => ((IntKind.i64 = IntKind.i64 ∧ True) ∧ roomP 8 (v0_0.length + ([x8] : List Int).length)) ∧ (lt (IntKind.i64.wrap (v0_1 + (1 : Int))) fun x9 => J 0 (nn0 :: []) (mk_clock_Unrolled_0 l per (v0_0 ++ ([x8])) x9 x6)))))) (post (.tu [.c (.sl 1 v0_0.length (numsC .i64 v0_0)), .c (.v (.int .i64 0))]))
theorem er_clock_Unrolled_0 (J : Inv) (l : List Int) (per : Int) (v0_0 : List Int) (v0_1 : Int) (v0_2 : Int) (nn0 : Nat) (post : DV → Prop) : round Tryz.prog tab Sd43 ann_clock_Unrolled J Tryz.f42 post 0 (nn0 :: []) (mk_clock_Unrolled_0 l per v0_0 v0_1 v0_2) = rd_clock_Unrolled_0 J l per v0_0 v0_1 v0_2 nn0 post := by kernel_rfl
theorem lp_clock_Unrolled (J : Inv) (post : DV → Prop) : AllG J (loopsFn Tryz.prog tab Sd43 ann_clock_Unrolled J Tryz.f42 post) = (((∀ F s, ¬ J 0 (0 :: F) s) ∧ ∀ n F s, J 0 ((n + 1) :: F) s → round Tryz.prog tab Sd43 ann_clock_Unrolled J Tryz.f42 post 0 (n :: F) s) ∧ True) := by kernel_rfl
def J_clock_Unrolled (l : List Int) (per : Int) : Inv := fun b F s => match b, F with
 | 0, [nn0] => ∃ (v0_0 : List Int) (v0_1 : Int) (v0_2 : Int), s = mk_clock_Unrolled_0 l per v0_0 v0_1 v0_2 ∧ (urE l per = 0 ∧ 0 ≤ v0_1 ∧ v0_1 ≤ l.length ∧ (nn0 : Int) + v0_1 = l.length + 1 ∧ v0_0 = urK l per v0_1.toNat ∧ v0_2 = urT l v0_1.toNat)
 | _, _ => False
theorem rnd_clock_Unrolled_0 (l : List Int) (per : Int) (v0_0 : List Int) (v0_1 : Int) (v0_2 : Int) (nn0 : Nat) (hp : (l).length ≤ 1000000) (hi : urE l per = 0 ∧ 0 ≤ v0_1 ∧ v0_1 ≤ l.length ∧ ((nn0 + 1) : Int) + v0_1 = l.length + 1 ∧ v0_0 = urK l per v0_1.toNat ∧ v0_2 = urT l v0_1.toNat) : rd_clock_Unrolled_0 (J_clock_Unrolled l per) l per v0_0 v0_1 v0_2 nn0 (fun r => LeD r (.tu [.c (.sl 1 ((urR l per).length) (intsC (urR l per))), .c (.v (.int .i64 (urE l per)))])) := by
 obtain ⟨q, i1, i2, i3, i4, i5⟩ := hi
 obtain ⟨k, rfl⟩ : ∃ k : Nat, v0_1 = k := ⟨v0_1.toNat, by omega⟩
 have hk : (k : Int).toNat = k := rfl
 have hw : (IntKind.i64.wrap ((k : Int) - 1)).toNat = k - 1 := by rw [wi (by omega)]; omega
 rw [hk] at i4 i5
 obtain ⟨z1, z2, z3⟩ := urE_ok q
 unfold rd_clock_Unrolled_0
 rw [hk, hw]
 refine cond_i (fun h => ?_) (fun h => ?_)
 ·have hlt : k < l.length := by have := of_decide_eq_true h; omega
  have b := z3 k hlt
  have r := urT_rg l (k + 1)
  have r0 := urT_rg l k
  have m := mul_rg (x := urT l (k + 1)) (y := per) (A := 40) (B := 1000000000000) (C := 40000000000000) (by omega) (by omega) (by decide)
  refine ⟨by omega, cond_i (fun g => lt_i fun x2 h2 => ⟨?_, trivial⟩) (fun _ => ⟨rfl, trivial⟩), lt_i fun x3 h3 => ⟨cond_i (fun _ => lt_i fun _ _ => trivial) (fun _ => trivial), lt_i fun x6 h6 => lt_i fun x7 h7 => lt_i fun x8 h8 => ⟨⟨by trivial, ?_⟩, lt_i fun x9 h9 => ?_⟩⟩⟩
  ·have g := of_decide_eq_true g
   rw [wi (by omega)] at h2
   omega
  all_goals
   rw [i4]
  ·unfold roomP maxLen urK; simp; omega
  ·have e6 : x6 = urT l (k + 1) := by
    have ec : x3 = decide (0 < k ∧ l.getD k 0 < l.getD (k - 1) 0) := by
     rw [← h3]
     rcases Nat.eq_zero_or_pos k with c | c
     ·subst c; rfl
     ·rw [decide_eq_true (show (k : Int) > 0 by omega)]
      by_cases a : l.getD k 0 < l.getD (k - 1) 0
      ·rw [decide_eq_true a, decide_eq_true ⟨c, a⟩]; rfl
      ·rw [decide_eq_false a, decide_eq_false (fun q => a q.2)]; rfl
    rw [← h6, ec, i5, wi (by omega)]
    show (bif decide (0 < k ∧ l.getD k 0 < l.getD (k - 1) 0) then urT l k + 1 else urT l k) = urT l k + if 0 < k ∧ l.getD k 0 < l.getD (k - 1) 0 then 1 else 0
    by_cases a : 0 < k ∧ l.getD k 0 < l.getD (k - 1) 0
    ·rw [decide_eq_true a, if_pos a]; rfl
    ·rw [decide_eq_false a, if_neg a, Int.add_zero]; rfl
   rw [e6, wi (by omega)] at h7
   rw [← h7, wi (by omega)] at h8
   rw [wi (by omega)] at h9
   subst h9
   refine ⟨_, _, _, rfl, q, by omega, by omega, by omega, ?_, ?_⟩
   ·rw [show ((k : Int) + 1).toNat = k + 1 by omega, urK_succ, ← h8]
   ·rw [show ((k : Int) + 1).toNat = k + 1 by omega]; exact e6
 ·have h := of_decide_eq_false h
  have e : k = l.length := by omega
  rw [show urR l per = urV l per from if_pos q, q, i4, e]
  exact LeD.refl _
theorem zero_clock_Unrolled_0 (l : List Int) (per : Int) (v0_0 : List Int) (v0_1 : Int) (v0_2 : Int)  (hi : urE l per = 0 ∧ 0 ≤ v0_1 ∧ v0_1 ≤ l.length ∧ (0 : Int) + v0_1 = l.length + 1 ∧ v0_0 = urK l per v0_1.toNat ∧ v0_2 = urT l v0_1.toNat) : False := by
 omega
theorem spec_clock_Unrolled (l : List Int) (per : Int) (hp : (l).length ≤ 1000000) : vc_clock_Unrolled (J_clock_Unrolled l per) l per (fun r => LeD r (.tu [.c (.sl 1 ((urR l per).length) (intsC (urR l per))), .c (.v (.int .i64 (urE l per)))])) := by
 unfold vc_clock_Unrolled
 simp only [ints_listC, List.not_any_eq_all_not, Bool.not_not]
 refine cond_i (fun h => ?_) (fun h => ?_)
 ·have h : inB per 1 1000000000000 = false := by simpa using h
  have e : urE l per = 2 := by unfold urE; rw [h]; rfl
  rw [show urR l per = [] from if_neg (by rw [e]; decide), e]
  exact le_tu le_nil (LeD.refl _)
 ·have h : inB per 1 1000000000000 = true := by simpa using h
  have h2 := h
  rw [inB_true] at h2
  have e : urE l per = firstNZ [unl (decide ((l.length : Int) ≤ 40)) 8, unl (l.all fun n => inB n 0 (per - 1)) 2] := if_pos h
  refine ⟨⟨numsP_ints l, rfl, hp, h2⟩, ⟨numsP_gen [_, _], Nat.le_of_ble_eq_true rfl⟩, cond_i (fun g => ?_) (fun g => ?_)⟩
  ·have g : urE l per ≠ 0 := by rw [e]; simpa using g
   rw [show urR l per = [] from if_neg g, e]
   exact le_tu le_nil (LeD.refl _)
  ·have g : urE l per = 0 := by rw [e]; simpa using g
   exact ⟨l.length + 1, [], 0, 0, rfl, g, by omega, by omega, by omega, rfl, rfl⟩
theorem all_clock_Unrolled (l : List Int) (per : Int) (hp : (l).length ≤ 1000000) : AllG (J_clock_Unrolled l per) (loopsFn Tryz.prog tab Sd43 ann_clock_Unrolled (J_clock_Unrolled l per) Tryz.f42 (fun r => LeD r (.tu [.c (.sl 1 ((urR l per).length) (intsC (urR l per))), .c (.v (.int .i64 (urE l per)))]))) := by
 rw [lp_clock_Unrolled]
 refine ⟨⟨?_, ?_⟩, trivial⟩
 ·intro F s h
  obtain _ | ⟨g, F⟩ := F
  case cons => exact h.elim
  obtain ⟨w0, w1, w2, rfl, hi⟩ := h
  exact zero_clock_Unrolled_0 l per w0 w1 w2 hi
 ·intro n F s h
  obtain _ | ⟨g, F⟩ := F
  case cons => exact h.elim
  obtain ⟨w0, w1, w2, rfl, hi⟩ := h
  rw [er_clock_Unrolled_0]
  exact rnd_clock_Unrolled_0 l per _ _ _ _ hp hi
def con_clock_Unrolled : Con := fun args => match args with
 | [.t (.c (.sl 1 n_l c_l)), .t (.c (.v (.int .i64 per)))] => some (.tu [.c (.sl 1 ((urR (listC n_l mkInt c_l) per).length) (intsC (urR (listC n_l mkInt c_l) per))), .c (.v (.int .i64 (urE (listC n_l mkInt c_l) per)))], some (numsP 1 n_l c_l ∧ ((listC n_l mkInt c_l)).length ≤ 1000000), true)
 | _ => none
theorem ok_clock_Unrolled : Ok Tryz.prog 42 con_clock_Unrolled := by
 refine Ok.fnFr (ann := ann_clock_Unrolled) mixed tabOK VSd43 ValidIt.no rfl (fn := Tryz.f42) (by kernel_rfl) (by kernel_rfl) fit_clock_Unrolled fun args r pre fresh h hp => ?_
 unfold con_clock_Unrolled at h
 split at h
 ·rename_i n_l c_l per
  cases h
  obtain ⟨hp0, hp⟩ := hp
  refine ⟨rfl, (by intro x hx; simp only [List.mem_cons, List.not_mem_nil, or_false] at hx; rcases hx with rfl | rfl; exact (fun i j _ hj => plain_int _ i j); exact trivial), J_clock_Unrolled (listC n_l mkInt c_l) per, [.t (.c (.sl 1 ((listC n_l mkInt c_l).length) (intsC (listC n_l mkInt c_l)))), .t (.c (.v (.int .i64 per)))], ?_, Nat.le_of_ble_eq_true (by kernel_rfl), ?_, ?_⟩
  ·exact (LeA_cons (leT_c ((leL_int hp0))) (LeA_cons (LeD.refl _) LeA_nil))
  ·rw [ev_clock_Unrolled]; exact spec_clock_Unrolled (listC n_l mkInt c_l) per hp
  ·exact all_clock_Unrolled (listC n_l mkInt c_l) per hp
 ·cases h
def Se44 : Sum := addS Sd43 42 con_clock_Unrolled
theorem VSe44 : Valid Tryz.prog Se44 := Valid.add VSd43 ok_clock_Unrolled
def mk_clock_ArrivalOf_0 (a : List Int) (c : List Int) (v0_0 : Int) (v0_1 : Int) (v0_2 : Int) (v0_3 : Int) : DS := ⟨[some (.t (.c (.sl 1 a.length (intsC a)))), some (.t (.c (.sl 1 c.length (intsC c)))), none, none, none, none, none, some (.t (.c (.v (.int .i64 v0_2)))), some (.t (.c (.v (.int .i64 v0_3)))), none, none, none, none, none, none, none, none, none, none, none, none, none, none, none, none, none, none, none, none, none, none, none, none, some (.t (.c (.v (.int .i64 v0_0)))), some (.t (.c (.v (.int .i64 v0_1)))), none, none, none, none, none, none, none, none, none, none, none, none, none, none, none, none, none, none, none, none, none, none, none, none, none, none, none, none, none, none, none, none, none, none, none, none, none, none, none, none], [none, none, none, none, none, none, none, none, none, none, none, none, none, none, none, none, none, none, none, none, none, none, none, none, none, none, none, none, none, none, none, none, none, none, none, none, none, none, none, none, none, none, none, none, none, none, none, none, none, none, none, none, none, none, none, none, none, none, none, none, none, none, none, none, none, none, none, none, none, none, none, none, none, none, none]⟩
def mk_clock_ArrivalOf_2 (a : List Int) (c : List Int) (v2_0 : Int) (v2_1 : Int) (v2_2 : Int) (v2_3 : Int) (v2_4 : Int) (v2_5 : Int) (v2_6 : Int) : DS := ⟨[some (.t (.c (.sl 1 a.length (intsC a)))), some (.t (.c (.sl 1 c.length (intsC c)))), none, none, none, none, none, some (.t (.c (.v (.int .i64 v2_4)))), some (.t (.c (.v (.int .i64 v2_5)))), some (.t (.c (.v (.int .i64 v2_6)))), some (.t (.c (.v (.int .i64 v2_0)))), none, none, none, none, none, none, none, none, none, none, none, none, none, none, none, none, none, none, none, none, none, none, some (.t (.c (.v (.int .i64 v2_1)))), some (.t (.c (.v (.int .i64 v2_2)))), none, none, some (.t (.c (.sl 1 c.length (intsC c)))), some (.t (.c (.v (.int .i64 ((c.length : Nat) : Int))))), some (.t (.c (.v (.int .i64 v2_3)))), none, none, none, none, none, none, none, none, none, none, none, none, none, none, none, none, none, none, none, none, none, none, none, none, none, none, none, none, none, none, none, none, none, none, none], [none, none, none, none, none, none, none, none, none, none, none, none, none, none, none, none, none, none, none, none, none, none, none, none, none, none, none, none, none, none, none, none, none, none, none, none, none, none, none, none, none, none, none, none, none, none, none, none, none, none, none, none, none, none, none, none, none, none, none, none, none, none, none, none, none, none, none, none, none, none, none, none, none, none, none]⟩
def vc_clock_ArrivalOf (J : Inv) (a : List Int) (c : List Int) (post : DV → Prop) : Prop := (numsP 1 a.length (intsC a) ∧ ((listC a.length mkInt (intsC a))).length ≤ 1000000) ∧ ((numsP 1 c.length (intsC c) ∧ ((listC c.length mkInt (intsC c))).length ≤ 1000000) ∧ ((numsP 1 3 (genC [[.v (.int .i64 (smE (listC a.length mkInt (intsC a))))], [.v (.int .i64 (smE (listC c.length mkInt (intsC c))))], [.v (.int .i64 (unl (decide (((c.length : Nat) : Int) ≤ ((a.length : Nat) : Int))) (12 : Int)))]]) ∧ (([(smE (listC a.length mkInt (intsC a))), (smE (listC c.length mkInt (intsC c))), (unl (decide (((c.length : Nat) : Int) ≤ ((a.length : Nat) : Int))) (12 : Int))] : List Int)).length ≤ 100) ∧ (cond ((firstNZ ([(smE (listC a.length mkInt (intsC a))), (smE (listC c.length mkInt (intsC c))), (unl (decide (((c.length : Nat) : Int) ≤ ((a.length : Nat) : Int))) (12 : Int))] : List Int)) != (0 : Int)) (post (.tu [.c (.v (.int .i64 0)), .c (.v (.int .i64 (firstNZ ([(smE (listC a.length mkInt (intsC a))), (smE (listC c.length mkInt (intsC c))), (unl (decide (((c.length : Nat) : Int) ≤ ((a.length : Nat) : Int))) (12 : Int))] : List Int))))])) (lt (IntKind.i64.wrap (((a.length : Nat) : Int) - ((c.length : Nat) : Int))) fun x1 => lt (IntKind.i64.wrap (x1 + (1 : Int))) fun x2 => ∃ n, J 0 (n :: []) (mk_clock_ArrivalOf_0 a c x2 0 0 (-1))))))
def ann_clock_ArrivalOf : Ann := ⟨fun r => lookA r [(12, ([[], [], [], [], [2, 3], [1, 2, 3, 4], [1, 2, 3, 4, 5], [], [1, 2, 3, 4, 5, 6, 7], [], [], [], [10, 11], [9, 10, 11, 12], [9, 10, 11, 12, 13], [], [9, 10, 11, 12, 13, 14, 15], [1, 2, 3, 4, 5, 6, 7, 8, 9, 10, 11, 12, 13, 14, 15, 16], [0, 1, 2, 3, 4, 5, 6, 7, 8, 9, 10, 11, 12, 13, 14, 15, 16, 17], [0, 1, 2, 3, 4, 5, 6, 7, 8, 9, 10, 11, 12, 13, 14, 15, 16, 17, 18]], [[], [], [], [], [], [], [], [], [], [], [], [], [], [], [], [], [], [], [], []]))], fun b => lookA b [(0, (none, some ⟨[0, 1, 7, 8, 33, 34], [], []⟩)), (2, (none, some ⟨[0, 1, 7, 8, 9, 10, 33, 34, 37, 38, 39], [], []⟩))], fun _ => [], noIt, false, fun r => lookA r [(14, (3, [70]))], fun r => lookA r [(15, [7, 8])]⟩
theorem ev_clock_ArrivalOf (J : Inv) (a : List Int) (c : List Int) (post : DV → Prop) : evFn Tryz.prog tab Se44 ann_clock_ArrivalOf J Tryz.f44 [.t (.c (.sl 1 a.length (intsC a))), .t (.c (.sl 1 c.length (intsC c)))] post = vc_clock_ArrivalOf J a c post := by kernel_rfl
theorem fit_clock_ArrivalOf : okFn ann_clock_ArrivalOf Tryz.f44 = true := by kernel_rfl
def rd_clock_ArrivalOf_0 (J : Inv) (a : List Int) (c : List Int) (v0_0 : Int) (v0_1 : Int) (v0_2 : Int) (v0_3 : Int) (nn0 : Nat) (post : DV → Prop) : Prop := cond (decide (v0_1 < v0_0)) (∃ n, J 2 (n :: nn0 :: []) (mk_clock_ArrivalOf_2 a c 0 v0_0 v0_1 0 v0_2 v0_3 v0_1)) (post (.tu [.c (.v (.int .i64 v0_2)), .c (.v (.int .i64 0))]))
theorem er_clock_ArrivalOf_0 (J : Inv) (a : List Int) (c : List Int) (v0_0 : Int) (v0_1 : Int) (v0_2 : Int) (v0_3 : Int) (nn0 : Nat) (post : DV → Prop) : round Tryz.prog tab Se44 ann_clock_ArrivalOf J Tryz.f44 post 0 (nn0 :: []) (mk_clock_ArrivalOf_0 a c v0_0 v0_1 v0_2 v0_3) = rd_clock_ArrivalOf_0 J a c v0_0 v0_1 v0_2 v0_3 nn0 post := by kernel_rfl
def rd_clock_ArrivalOf_2 (J : Inv) (a : List Int) (c : List Int) (v2_0 : Int) (v2_1 : Int) (v2_2 : Int) (v2_3 : Int) (v2_4 : Int) (v2_5 : Int) (v2_6 : Int) (nn2 nn0 : Nat) (post : DV → Prop) : Prop := cond (decide (v2_3 < ((c.length : Nat) : Int))) ((0 ≤ v2_3 ∧ v2_3 < ((c.length : Nat) : Int)) ∧ (lt (IntKind.i64.wrap (v2_6 + v2_3)) fun x1 => (0 ≤ x1 ∧ x1 < ((a.length : Nat) : Int)) ∧ (lt (IntKind.i64.wrap ((a.getD x1.toNat 0) - (c.getD v2_3.toNat 0))) fun x2 => lt (IntKind.i64.wrap (v2_6 + v2_3)) fun x3 => (0 ≤ x3 ∧ x3 < ((a.length : Nat) : Int)) ∧ (lt (IntKind.i64.wrap ((a.getD x3.toNat 0) - (c.getD v2_3.toNat 0))) fun x4 => lt (IntKind.i64.wrap (x2 * x4)) fun x5 => lt (IntKind.i64.wrap (v2_0 + x5)) fun x6 => lt (IntKind.i64.wrap (v2_3 + (1 : Int))) fun x7 => J 2 (nn2 :: nn0 :: []) (mk_clock_ArrivalOf_2 a c x6 v2_1 v2_2 x7 v2_4 v2_5 v2_6))))) ((cond (decide (v2_5 < (0 : Int))) ((true = true) ∧ (True)) (True)) ∧ (lt ((bif decide (v2_5 < (0 : Int)) then true else decide (v2_0 < v2_5))) fun x8 => (cond x8 (True) (True)) ∧ (lt ((bif x8 then v2_6 else v2_4)) fun x9 => lt ((bif x8 then v2_0 else v2_5)) fun x10 => lt (IntKind.i64.wrap (v2_2 + (1 : Int))) fun x11 => J 0 (nn0 :: []) (mk_clock_ArrivalOf_0 a c v2_1 x11 x9 x10))))
theorem er_clock_ArrivalOf_2 (J : Inv) (a : List Int) (c : List Int) (v2_0 : Int) (v2_1 : Int) (v2_2 : Int) (v2_3 : Int) (v2_4 : Int) (v2_5 : Int) (v2_6 : Int) (nn2 nn0 : Nat) (post : DV → Prop) : round Tryz.prog tab Se44 ann_clock_ArrivalOf J Tryz.f44 post 1 (nn2 :: nn0 :: []) (mk_clock_ArrivalOf_2 a c v2_0 v2_1 v2_2 v2_3 v2_4 v2_5 v2_6) = rd_clock_ArrivalOf_2 J a c v2_0 v2_1 v2_2 v2_3 v2_4 v2_5 v2_6 nn2 nn0 post := by kernel_rfl
theorem lp_clock_ArrivalOf (J : Inv) (post : DV → Prop) : AllG J (loopsFn Tryz.prog tab Se44 ann_clock_ArrivalOf J Tryz.f44 post) = (((∀ F s, ¬ J 0 (0 :: F) s) ∧ ∀ n F s, J 0 ((n + 1) :: F) s → round Tryz.prog tab Se44 ann_clock_ArrivalOf J Tryz.f44 post 0 (n :: F) s) ∧ ((∀ F s, ¬ J 2 (0 :: F) s) ∧ ∀ n F s, J 2 ((n + 1) :: F) s → round Tryz.prog tab Se44 ann_clock_ArrivalOf J Tryz.f44 post 1 (n :: F) s) ∧ True) := by kernel_rfl
def J_clock_ArrivalOf (a : List Int) (c : List Int) : Inv := fun b F s => match b, F with
 | 0, [nn0] => ∃ (v0_0 : Int) (v0_1 : Int) (v0_2 : Int) (v0_3 : Int), s = mk_clock_ArrivalOf_0 a c v0_0 v0_1 v0_2 v0_3 ∧ ((smE a = 0 ∧ smE c = 0 ∧ c.length ≤ a.length) ∧ v0_0 = a.length - c.length + 1 ∧ 0 ≤ v0_1 ∧ v0_1 ≤ v0_0 ∧ v0_0 < (nn0 : Int) + v0_1 ∧ (v0_2, v0_3) = arK a c v0_1.toNat)
 | 2, [nn2, nn0] => ∃ (v2_0 : Int) (v2_1 : Int) (v2_2 : Int) (v2_3 : Int) (v2_4 : Int) (v2_5 : Int) (v2_6 : Int), s = mk_clock_ArrivalOf_2 a c v2_0 v2_1 v2_2 v2_3 v2_4 v2_5 v2_6 ∧ ((smE a = 0 ∧ smE c = 0 ∧ c.length ≤ a.length) ∧ (v2_1 = a.length - c.length + 1 ∧ 0 ≤ v2_2 ∧ v2_2 < v2_1 ∧ v2_1 < (nn0 : Int) + 1 + v2_2 ∧ v2_6 = v2_2) ∧ (0 ≤ v2_3 ∧ v2_3 ≤ c.length ∧ (nn2 : Int) + v2_3 = c.length + 1) ∧ (v2_4, v2_5) = arK a c v2_2.toNat ∧ v2_0 = sqK a c v2_2.toNat v2_3.toNat)
 | _, _ => False
set_option maxHeartbeats 8000000 in
set_option maxRecDepth 100000 in
theorem rnd_clock_ArrivalOf_0 (a : List Int) (c : List Int) (v0_0 : Int) (v0_1 : Int) (v0_2 : Int) (v0_3 : Int) (nn0 : Nat) (hp : (a).length ≤ 1000000 ∧ (c).length ≤ 1000000) (hi : (smE a = 0 ∧ smE c = 0 ∧ c.length ≤ a.length) ∧ v0_0 = a.length - c.length + 1 ∧ 0 ≤ v0_1 ∧ v0_1 ≤ v0_0 ∧ v0_0 < ((nn0 + 1) : Int) + v0_1 ∧ (v0_2, v0_3) = arK a c v0_1.toNat) : rd_clock_ArrivalOf_0 (J_clock_ArrivalOf a c) a c v0_0 v0_1 v0_2 v0_3 nn0 (fun r => LeD r (.tu [.c (.v (.int .i64 (avV a c))), .c (.v (.int .i64 (avE a c)))])) := by
 obtain ⟨q, e0, i1, i2, i3, i4⟩ := hi
 obtain ⟨k, rfl⟩ : ∃ k : Nat, v0_1 = k := ⟨v0_1.toNat, by omega⟩
 have hk : (k : Int).toNat = k := rfl
 rw [hk] at i4
 unfold rd_clock_ArrivalOf_0
 refine cond_i (fun h => ?_) (fun h => ?_)
 ·have h := of_decide_eq_true h
  exact ⟨c.length + 1, 0, _, _, 0, _, _, _, rfl, q, ⟨e0, by omega, by omega, by omega, rfl⟩, ⟨by omega, by omega, by omega⟩, by rw [hk]; exact i4, rfl⟩
 ·have h := of_decide_eq_false h
  have e : avE a c = 0 := avE_of q
  refine le2 ?_ e.symm
  rw [show avV a c = (arK a c (a.length - c.length + 1)).1 from if_pos e, show a.length - c.length + 1 = k by omega, ← i4]
theorem zero_clock_ArrivalOf_0 (a : List Int) (c : List Int) (v0_0 : Int) (v0_1 : Int) (v0_2 : Int) (v0_3 : Int)  (hi : (smE a = 0 ∧ smE c = 0 ∧ c.length ≤ a.length) ∧ v0_0 = a.length - c.length + 1 ∧ 0 ≤ v0_1 ∧ v0_1 ≤ v0_0 ∧ v0_0 < (0 : Int) + v0_1 ∧ (v0_2, v0_3) = arK a c v0_1.toNat) : False := by
 omega
set_option maxHeartbeats 8000000 in
set_option maxRecDepth 100000 in
theorem rnd_clock_ArrivalOf_2 (a : List Int) (c : List Int) (v2_0 : Int) (v2_1 : Int) (v2_2 : Int) (v2_3 : Int) (v2_4 : Int) (v2_5 : Int) (v2_6 : Int) (nn2 nn0 : Nat) (hp : (a).length ≤ 1000000 ∧ (c).length ≤ 1000000) (hi : (smE a = 0 ∧ smE c = 0 ∧ c.length ≤ a.length) ∧ (v2_1 = a.length - c.length + 1 ∧ 0 ≤ v2_2 ∧ v2_2 < v2_1 ∧ v2_1 < (nn0 : Int) + 1 + v2_2 ∧ v2_6 = v2_2) ∧ (0 ≤ v2_3 ∧ v2_3 ≤ c.length ∧ ((nn2 + 1) : Int) + v2_3 = c.length + 1) ∧ (v2_4, v2_5) = arK a c v2_2.toNat ∧ v2_0 = sqK a c v2_2.toNat v2_3.toNat) : rd_clock_ArrivalOf_2 (J_clock_ArrivalOf a c) a c v2_0 v2_1 v2_2 v2_3 v2_4 v2_5 v2_6 nn2 nn0 (fun r => LeD r (.tu [.c (.v (.int .i64 (avV a c))), .c (.v (.int .i64 (avE a c)))])) := by
 obtain ⟨q, ⟨e0, i1, i2, i3, e6⟩, i4, i5, i6⟩ := hi
 obtain ⟨k, rfl⟩ : ∃ k : Nat, v2_2 = k := ⟨v2_2.toNat, by omega⟩
 have hk : (k : Int).toNat = k := rfl
 obtain ⟨m, rfl⟩ : ∃ m : Nat, v2_3 = m := ⟨v2_3.toNat, by omega⟩
 have hm : (m : Int).toNat = m := rfl
 rw [hk] at i5
 rw [hk, hm] at i6
 subst e6
 obtain ⟨a1, a2⟩ := smE_ok q.1
 obtain ⟨c1, c2⟩ := smE_ok q.2.1
 have q2 := q.2.2
 unfold rd_clock_ArrivalOf_2
 rw [hm]
 refine cond_i (fun h => ?_) (fun h => ?_)
 ·have hlt : m < c.length := by have := of_decide_eq_true h; omega
  have b1 := a2 (k + m) (by omega)
  have b2 := c2 m hlt
  have p := mul_rg (x := a.getD (k + m) 0 - c.getD m 0) (y := a.getD (k + m) 0 - c.getD m 0) (A := 20000) (B := 20000) (C := 400000000) (by omega) (by omega) (by decide)
  have r := sqK_rg q k m (by omega)
  refine ⟨by omega, lt_i fun x1 h1 => ?_⟩
  rw [wi (by omega)] at h1
  subst h1
  rw [show ((k : Int) + (m : Int)).toNat = k + m by omega]
  refine ⟨by omega, lt_i fun x2 h2 => lt_i fun x3 h3 => ?_⟩
  rw [wi (by omega)] at h2 h3
  subst h2 h3
  rw [show ((k : Int) + (m : Int)).toNat = k + m by omega]
  refine ⟨by omega, lt_i fun x4 h4 => lt_i fun x5 h5 => lt_i fun x6 h6 => lt_i fun x7 h7 => ?_⟩
  rw [wi (by omega)] at h4
  subst h4
  rw [wi (by omega)] at h5
  subst h5
  rw [i6, wi (by omega)] at h6
  rw [wi (by omega)] at h7
  subst h7
  refine ⟨_, _, _, _, _, _, _, rfl, q, ⟨e0, i1, i2, i3, rfl⟩, by omega, by rw [hk]; exact i5, ?_⟩
  rw [show ((m : Int) + 1).toNat = m + 1 by omega, hk, ← h6]
  rfl
 ·have h := of_decide_eq_false h
  have em : m = c.length := by omega
  rw [em] at i6
  refine ⟨cond_i (fun _ => ⟨rfl, trivial⟩) (fun _ => trivial), lt_i fun x8 h8 => ⟨cond_i (fun _ => trivial) (fun _ => trivial), lt_i fun x9 h9 => lt_i fun x10 h10 => lt_i fun x11 h11 => ?_⟩⟩
  rw [wi (by omega)] at h11
  subst h11
  refine ⟨_, _, _, _, rfl, q, e0, by omega, by omega, by omega, ?_⟩
  rw [show ((k : Int) + 1).toNat = k + 1 by omega]
  show _ = if (arK a c k).2 < 0 ∨ sqK a c k c.length < (arK a c k).2 then ((k : Int), sqK a c k c.length) else arK a c k
  rw [← i5, ← i6, ← h9, ← h10, ← h8]
  by_cases g1 : v2_5 < 0
  ·rw [decide_eq_true g1, if_pos (Or.inl g1)]; rfl
  ·rw [decide_eq_false g1]
   by_cases g2 : v2_0 < v2_5
   ·rw [decide_eq_true g2, if_pos (Or.inr g2)]; rfl
   ·rw [decide_eq_false g2, if_neg (fun q => q.elim g1 g2)]; rfl
theorem zero_clock_ArrivalOf_2 (a : List Int) (c : List Int) (v2_0 : Int) (v2_1 : Int) (v2_2 : Int) (v2_3 : Int) (v2_4 : Int) (v2_5 : Int) (v2_6 : Int) (nn0 : Nat) (hi : (smE a = 0 ∧ smE c = 0 ∧ c.length ≤ a.length) ∧ (v2_1 = a.length - c.length + 1 ∧ 0 ≤ v2_2 ∧ v2_2 < v2_1 ∧ v2_1 < (nn0 : Int) + 1 + v2_2 ∧ v2_6 = v2_2) ∧ (0 ≤ v2_3 ∧ v2_3 ≤ c.length ∧ (0 : Int) + v2_3 = c.length + 1) ∧ (v2_4, v2_5) = arK a c v2_2.toNat ∧ v2_0 = sqK a c v2_2.toNat v2_3.toNat) : False := by
 omega
set_option maxHeartbeats 8000000 in
set_option maxRecDepth 100000 in
theorem spec_clock_ArrivalOf (a : List Int) (c : List Int) (hp : (a).length ≤ 1000000 ∧ (c).length ≤ 1000000) : vc_clock_ArrivalOf (J_clock_ArrivalOf a c) a c (fun r => LeD r (.tu [.c (.v (.int .i64 (avV a c))), .c (.v (.int .i64 (avE a c)))])) := by
 unfold vc_clock_ArrivalOf
 simp only [ints_listC]
 refine ⟨⟨numsP_ints a, hp.1⟩, ⟨numsP_ints c, hp.2⟩, ⟨numsP_gen [_, _, _], Nat.le_of_ble_eq_true rfl⟩, cond_i (fun h => ?_) (fun h => lt_i fun x1 h1 => lt_i fun x2 h2 => ?_)⟩
 ·have h : avE a c ≠ 0 := by unfold avE; simpa using h
  exact le2 (if_neg h).symm rfl
 ·have h : avE a c = 0 := by unfold avE; simpa using h
  have h0 := avE_ok h
  obtain ⟨a1, a2⟩ := smE_ok h0.1
  obtain ⟨c1, c2⟩ := smE_ok h0.2.1
  rw [wi (by omega)] at h1
  subst h1
  rw [wi (by omega)] at h2
  subst h2
  exact ⟨a.length + 2, _, 0, _, _, rfl, h0, rfl, by omega, by omega, by omega, rfl⟩
theorem all_clock_ArrivalOf (a : List Int) (c : List Int) (hp : (a).length ≤ 1000000 ∧ (c).length ≤ 1000000) : AllG (J_clock_ArrivalOf a c) (loopsFn Tryz.prog tab Se44 ann_clock_ArrivalOf (J_clock_ArrivalOf a c) Tryz.f44 (fun r => LeD r (.tu [.c (.v (.int .i64 (avV a c))), .c (.v (.int .i64 (avE a c)))]))) := by
 rw [lp_clock_ArrivalOf]
 refine ⟨⟨?_, ?_⟩, ⟨?_, ?_⟩, trivial⟩
 ·intro F s h
  obtain _ | ⟨g, F⟩ := F
  case cons => exact h.elim
  obtain ⟨w0, w1, w2, w3, rfl, hi⟩ := h
  exact zero_clock_ArrivalOf_0 a c w0 w1 w2 w3 hi
 ·intro n F s h
  obtain _ | ⟨g, F⟩ := F
  case cons => exact h.elim
  obtain ⟨w0, w1, w2, w3, rfl, hi⟩ := h
  rw [er_clock_ArrivalOf_0]
  exact rnd_clock_ArrivalOf_0 a c _ _ _ _ _ hp hi
 ·intro F s h
  obtain _ | ⟨f0, F⟩ := F
  ·exact h.elim
  obtain _ | ⟨g, F⟩ := F
  case cons => exact h.elim
  obtain ⟨w0, w1, w2, w3, w4, w5, w6, rfl, hi⟩ := h
  exact zero_clock_ArrivalOf_2 a c w0 w1 w2 w3 w4 w5 w6 _ hi
 ·intro n F s h
  obtain _ | ⟨f0, F⟩ := F
  ·exact h.elim
  obtain _ | ⟨g, F⟩ := F
  case cons => exact h.elim
  obtain ⟨w0, w1, w2, w3, w4, w5, w6, rfl, hi⟩ := h
  rw [er_clock_ArrivalOf_2]
  exact rnd_clock_ArrivalOf_2 a c _ _ _ _ _ _ _ _ _ hp hi
def con_clock_ArrivalOf : Con := fun args => match args with
 | [.t (.c (.sl 1 n_a c_a)), .t (.c (.sl 1 n_c c_c))] => some (.tu [.c (.v (.int .i64 (avV (listC n_a mkInt c_a) (listC n_c mkInt c_c)))), .c (.v (.int .i64 (avE (listC n_a mkInt c_a) (listC n_c mkInt c_c))))], some (numsP 1 n_a c_a ∧ numsP 1 n_c c_c ∧ ((listC n_a mkInt c_a)).length ≤ 1000000 ∧ ((listC n_c mkInt c_c)).length ≤ 1000000), false)
 | _ => none
theorem ok_clock_ArrivalOf : Ok Tryz.prog 44 con_clock_ArrivalOf := by
 refine Ok.fn (ann := ann_clock_ArrivalOf) mixed tabOK VSe44 ValidIt.no (fn := Tryz.f44) (by kernel_rfl) (by kernel_rfl) fit_clock_ArrivalOf fun args r pre fresh h hp => ?_
 unfold con_clock_ArrivalOf at h
 split at h
 ·rename_i n_a c_a n_c c_c
  cases h
  obtain ⟨hp0, hp1, hp⟩ := hp
  refine ⟨rfl, J_clock_ArrivalOf (listC n_a mkInt c_a) (listC n_c mkInt c_c), [.t (.c (.sl 1 ((listC n_a mkInt c_a).length) (intsC (listC n_a mkInt c_a)))), .t (.c (.sl 1 ((listC n_c mkInt c_c).length) (intsC (listC n_c mkInt c_c))))], ?_, Nat.le_of_ble_eq_true (by kernel_rfl), ?_, ?_⟩
  ·exact (LeA_cons (leT_c ((leL_int hp0))) (LeA_cons (leT_c ((leL_int hp1))) LeA_nil))
  ·rw [ev_clock_ArrivalOf]; exact spec_clock_ArrivalOf (listC n_a mkInt c_a) (listC n_c mkInt c_c) hp
  ·exact all_clock_ArrivalOf (listC n_a mkInt c_a) (listC n_c mkInt c_c) hp
 ·cases h
def Se45 : Sum := addS Se44 44 con_clock_ArrivalOf
theorem VSe45 : Valid Tryz.prog Se45 := Valid.add VSe44 ok_clock_ArrivalOf
end Go.Proofs.YtlapeoboekchpaaGreatDoor
set_option linter.unusedVariables false
set_option linter.unusedSimpArgs false
namespace Go.Proofs.YtlapeoboekchpaaGreatDoor
open Go.RowKit Ev
def erY (l : List Lp) (i : Nat) : List TV := [.a [.v (.int .i64 (erF l i)), .v (.int .i64 (erT l i))], .c (.v (.int .i64 (erS l i)))]
def lpsOk (l : List Lp) : Prop := l.length ≤ 10 ∧ ∀ k, k < l.length → (0 ≤ (lppAt l k).tick ∧ (lppAt l k).tick ≤ 1000000000000) ∧ -1000000 ≤ (lppAt l k).step ∧ (lppAt l k).step ≤ 1000000
theorem lpAll_snoc (l : List Lp) (x : Lp) : lpAll (l ++ [x]) = lpAll l + x.step := by
 induction l with
 | nil => simp [lpAll]
 | cons y l ih => simp only [List.cons_append, lpAll, ih]; omega
theorem erS_succ {l : List Lp} {k : Nat} (h : k < l.length) : erS l (k + 1) = erS l k + (lppAt l k).step := by
 unfold erS; rw [lppAt_take h, lpAll_snoc]
theorem erS_rg {l : List Lp} (h : lpsOk l) : ∀ k, k ≤ l.length → -(1000000 * (k : Int)) ≤ erS l k ∧ erS l k ≤ 1000000 * k := by
 intro k
 induction k with
 | zero => intro _; simp [erS, lpAll]
 | succ k ih =>
  intro hk
  have h1 := ih (by omega)
  have h2 := (h.2 k (by omega)).2
  rw [erS_succ (by omega)]
  omega
set_option maxRecDepth 100000 in
set_option maxHeartbeats 2000000 in
theorem seq_eras (w : World) (N : Nat → Prop) (vs : List Value) (l : List Lp) (hl : lpsOk l)
  (hv : All2 (RelF w N) [.px 1 0 (boxC [.sl 2 l.length (lppsC l)])] vs) :
  SeqIt Tryz.prog 111 #[] vs.toArray (l.length + 1) (fun i => ((erY l i).map tvVal).toArray) (KpI w N (some 103)) w := by
 intro ly J Jx W hb hJ hJx hgJ hgX hY h0
 refine callsIn_of_wp Tryz.func111 rfl trivial ?_ rfl
 obtain ⟨v0, us0, rfl, r0, hv0⟩ := hv.cons_inv
 obtain rfl := hv0.nil_inv
 obtain ⟨b0, o0, rfl, hb0, hN0, hc0⟩ := r0
 obtain ⟨x, hx, hx2⟩ := hc0 0 (by omega)
 obtain ⟨ao, cap, rfl, hcap, hmx, hnil, hcells⟩ := hx2
 rw [Nat.add_zero] at hx ⊢
 have hxW : W.cell? ⟨b0, o0, none⟩ = some (.slice ao l.length cap) := (World.cell?_of_block (w := w) (a := ⟨b0, o0, none⟩) (hb.block b0 hb0)).trans hx
 simp only [Tryz.ntmps111, List.size_toArray, List.length_cons, List.length_nil, Nat.reduceAdd, Nat.reduceSub, Array.replicate_succ, Array.replicate_zero, List.push_toArray, List.append_toArray, List.nil_append, List.cons_append]
 have hW := hb.size
 have hcells : ∀ k, k < l.length → ∃ b off, ao = some ⟨b, off, none⟩ ∧ b < w.heap.size ∧ N b ∧ w.cell? ⟨b, off + k * 2, none⟩ = some (.int .i64 (lppAt l k).tick) ∧ w.cell? ⟨b, off + k * 2 + 1, none⟩ = some (.int .i64 (lppAt l k).step) := by
  intro k hk
  obtain ⟨b, off, e1, e2, e3, e4⟩ := hcells (by omega)
  obtain ⟨x, x1, x2⟩ := e4 k 0 hk (by omega)
  obtain ⟨y, y1, y2⟩ := e4 k 1 hk (by omega)
  obtain ⟨rfl, _⟩ := x2
  obtain ⟨rfl, _⟩ := y2
  exact ⟨b, off, e1, e2, e3, x1, y1⟩
 have HC := hid hcells
 have HY := hid hY
 have HL := hid hl
 have HJ := hid hJ
 have HG := hid hgJ
 clear hcells hY hJ hgJ hgX hJx hc0 hv0 hcap hmx hnil hv hl hx
 gi_wp2
 gi_loopw [3, 4, 9] (fun f s i wr => ∃ k : Nat, k ≤ l.length ∧ i = .int .i64 k ∧ f = .int .i64 (erF l k) ∧ s = .int .i64 (erS l k) ∧ J k wr ∧ W.heap.size ≤ wr.heap.size ∧ Hid (∀ b, b < w.heap.size → N b → wr.heap[b]? = W.heap[b]?)) (fun _ _ i _ => l.length - (intOf i).toNat)
 case atStart => exact ⟨0, Nat.zero_le _, rfl, rfl, rfl, h0, Nat.le_refl _, hid fun b hb0 _ => rfl⟩
 case round =>
  obtain ⟨k, hk, rfl, rfl, rfl, hJs, hsz, HK⟩ := hrel
  by_cases hlt : k < l.length
  ·obtain ⟨b, off, rfl, hb1, hN1, hc, hd⟩ := HC.out k hlt
   have hcx : wr.cell? ⟨b, off + k * 2, none⟩ = some (.int .i64 (lppAt l k).tick) := (World.cell?_of_block (w := w) (a := ⟨b, off + k * 2, none⟩) ((HK.out b hb1 hN1).trans (hb.block b hb1))).trans hc
   have hdx : wr.cell? ⟨b, off + k * 2 + 1, none⟩ = some (.int .i64 (lppAt l k).step) := (World.cell?_of_block (w := w) (a := ⟨b, off + k * 2 + 1, none⟩) ((HK.out b hb1 hN1).trans (hb.block b hb1))).trans hd
   clear hc hd
   obtain ⟨⟨s1, s2⟩, s3, s4⟩ := HL.out.2 k hlt
   obtain ⟨t, et⟩ : ∃ t, t = (lppAt l k).tick := ⟨_, rfl⟩
   obtain ⟨s, es⟩ : ∃ s, s = (lppAt l k).step := ⟨_, rfl⟩
   rw [← et] at hcx s1 s2
   rw [← es] at hdx s3 s4
   have het := hid et
   have hes := hid es
   clear et es
   have hT1 : erT l k = t - 1 := by unfold erT; rw [if_pos hlt, het.out]
   have hF1 : erF l (k + 1) = t := by unfold erF; rw [if_neg (by omega), het.out]; rfl
   have hS1 : erS l (k + 1) = erS l k + s := by rw [erS_succ hlt, hes.out]
   have hSr := erS_rg HL.out k hk
   obtain ⟨W2, hW2⟩ : ∃ W2, wr.alloc (Obj.cells #[Value.int IntKind.i64 t, Value.int IntKind.i64 s] 103) = W2 := ⟨_, rfl⟩
   have hJ1 : J k W2 := by rw [← hW2]; exact HJ.out k wr _ none hJs (below_grown ((Below.refl _ _).alloc (Nat.le_refl _) _)) (fun r e => by cases e)
   have hnew : W2.heap[wr.heap.size]? = some (Obj.cells #[Value.int IntKind.i64 t, Value.int IntKind.i64 s] 103) := by rw [← hW2]; exact World.alloc_heap_new wr _
   have hsz2 : W2.heap.size = wr.heap.size + 1 := by rw [← hW2]; simp
   have hkp2 : ∀ b, b < w.heap.size → N b → W2.heap[b]? = W.heap[b]? := fun b hb0 hN0 => by rw [← hW2, Below.heap_alloc _ _ _ (by omega)]; exact HK.out b hb0 hN0
   obtain ⟨fn, tmps, assign, body, hy, hR⟩ := HY.out k W2 (by omega) hJ1
   have hk10 := HL.out.1
   have HWK : Hid (wrap64 ((k : Int) + 1) = (k : Int) + 1) := hid (IntWalk.wrap64_in _ (by omega))
   have HMS : Hid (l.length - (intOf (Value.int .i64 ((k : Int) + 1))).toNat < l.length - (intOf (Value.int .i64 (k : Int))).toNat) := hid (by simp only [intOf]; omega)
   have HSZ : Hid (∀ W3 : World, W2.heap.size ≤ W3.heap.size → W.heap.size ≤ W3.heap.size) := hid fun W3 h => by omega
   clear hk10
   have HT1 := hid hT1
   have HF1 := hid hF1
   have HS1 := hid hS1
   have HKP := hid hkp2
   have HN := hid hnew
   have hy : (Instr.yield ly #[Value.agg #[Value.int IntKind.i64 (erF l k), Value.int IntKind.i64 (t - 1)], Value.int IntKind.i64 (erS l k)]).run Tryz.prog (wr.alloc (Obj.cells #[Value.int IntKind.i64 t, Value.int IntKind.i64 s] 103)) = .ok (.round ly fn tmps assign body) (wr.alloc (Obj.cells #[Value.int IntKind.i64 t, Value.int IntKind.i64 s] 103)) := by
    rw [← HT1.out, hW2]; exact hy
   have HW2 := hid hW2
   clear hT1 hF1 hS1 hkp2 hnew hW2
   gi_wp2
   rw [HW2.out]
   refine ⟨rfl, hR.mono ?_⟩
   rintro e W3 (⟨rfl, hJ3, ⟨hs3, hk3⟩, hty3⟩ | ⟨rfl, hJx3⟩)
   ·have h3 := (hty3 wr.heap.size _ _ HN.out).trans HN.out
    have c0 : W3.cell? ⟨wr.heap.size, 0, none⟩ = some (.int .i64 t) := by simp [World.cell?, show W3.heap[wr.heap.size]? = _ from h3]
    have c1 : W3.cell? ⟨wr.heap.size, 1, none⟩ = some (.int .i64 s) := by simp [World.cell?, show W3.heap[wr.heap.size]? = _ from h3]
    have hw : wrap64 (erS l k + s) = erS l k + s := IntWalk.wrap64_in _ (by have := HL.out.1; omega)
    have HK3 := hid hk3
    clear h3 hk3 hty3 HN
    gi_wp2
    gi_region
    gi_wp2
    go_roundw
    case rel =>
     refine ⟨k + 1, hlt, by rw [HWK.out]; simp, by rw [HF1.out], by rw [HS1.out, hw], HJ.out (k + 1) W3 _ none hJ3 (below_grown ((Below.refl _ _).drew)) (fun r e => by cases e), ?_, hid fun b0 hb0 hN0 => ?_⟩
     ·exact HSZ.out W3 hs3
     ·show W3.heap[b0]? = W.heap[b0]?
      rw [HK3.out b0 hb0 hN0, HKP.out b0 hb0 hN0]
    case measure =>
     rw [HWK.out]
     exact HMS.out
   ·gi_wp2
    refine bodyPost_ret (results_none rfl _ _ _) rfl ?_
    exact ⟨⟨_, rfl⟩, .inr hJx3⟩
  ·obtain rfl : k = l.length := by omega
   have hT1 : erT l l.length = 1000000000000 := by unfold erT; rw [if_neg (by omega)]
   obtain ⟨fn, tmps, assign, body, hy, hR⟩ := HY.out l.length wr (by omega) hJs
   have HT1 := hid hT1
   have hy : (Instr.yield ly #[Value.agg #[Value.int IntKind.i64 (erF l l.length), Value.int IntKind.i64 1000000000000], Value.int IntKind.i64 (erS l l.length)]).run Tryz.prog wr = .ok (.round ly fn tmps assign body) wr := by
    rw [← HT1.out]; exact hy
   clear hT1
   gi_wp2
   refine ⟨rfl, hR.mono ?_⟩
   rintro e W3 (⟨rfl, hJ3, ⟨hs3, hk3⟩, hty3⟩ | ⟨rfl, hJx3⟩)
   ·gi_wp2
    go_end0
    exact ⟨⟨_, rfl⟩, .inl hJ3⟩
   ·gi_wp2
    go_end0
    exact ⟨⟨_, rfl⟩, .inr hJx3⟩
end Go.Proofs.YtlapeoboekchpaaGreatDoor
set_option linter.unusedVariables false
set_option linter.unusedSimpArgs false
namespace Go.Proofs.YtlapeoboekchpaaGreatDoor
open Go.RowKit
def KeepB (G : List Nat) (W wc : World) : Prop := ∀ g ∈ G, g < wc.heap.size ∧ wc.heap[g]? = W.heap[g]?
theorem KeepB.refl {G : List Nat} {W : World} (h : ∀ g ∈ G, g < W.heap.size) : KeepB G W W := fun g hg => ⟨h g hg, rfl⟩
theorem KeepB.drew {G : List Nat} {W w : World} (h : KeepB G W w) : KeepB G W w.drew := fun g hg => h g hg
theorem KeepB.below {G : List Nat} {W w w' : World} (h : KeepB G W w) (hb : Below w.heap.size w w') : KeepB G W w' := fun g hg => ⟨Nat.lt_of_lt_of_le (h g hg).1 hb.size, (hb.block g (h g hg).1).trans (h g hg).2⟩
theorem KeepB.alloc {G : List Nat} {W w : World} (h : KeepB G W w) (o : Obj) : KeepB G W (w.alloc o) := KeepB.below h ((Below.refl _ _).alloc (Nat.le_refl _) o)
theorem heap_setCell_ne (w : World) (g k off : Nat) (v : Value) (h : g ≠ k) : (w.setCell ⟨k, off, none⟩ v).heap[g]? = w.heap[g]? := heap_setCell_other w ⟨k, off, none⟩ g v h
theorem KeepB.setCell {G : List Nat} {W w : World} {k off : Nat} {v : Value} (h : KeepB G W w) (hk : ∀ g ∈ G, g ≠ k) : KeepB G W (w.setCell ⟨k, off, none⟩ v) := fun g hg => by
 rw [World.size_setCell, heap_setCell_ne _ _ _ _ _ (hk g hg)]; exact h g hg
theorem KeepB.cell {G : List Nat} {W w : World} (h : KeepB G W w) {g off : Nat} (hg : g ∈ G) : w.cell? ⟨g, off, none⟩ = W.cell? ⟨g, off, none⟩ := by
 simp only [World.cell?, (h g hg).2]
section
variable {P : Program} {md : Region.Mode} {ops : Array Oper} {Q : Exit → Act → World → Prop} {C : World → Prop}
end
end Go.Proofs.YtlapeoboekchpaaGreatDoor
set_option linter.unusedVariables false
set_option linter.unusedSimpArgs false
namespace Go.Proofs.YtlapeoboekchpaaGreatDoor
open Go.RowKit
section
variable {P : Program} {md : Region.Mode} {ops : Array Oper} {Q : Exit → Act → World → Prop} {C : World → Prop}
end
end Go.Proofs.YtlapeoboekchpaaGreatDoor
set_option linter.unusedVariables false
set_option linter.unusedSimpArgs false
namespace Go.Proofs.YtlapeoboekchpaaGreatDoor
open Go.RowKit
theorem quiet_min {P : Program} {o : Oper} {a : Act} {C : World → Prop} {K : Act → Prop} {x y : Operand} {ts : Array TypeId} {m n r : Int} (ho : o.op = .call { callee := .builtin .min, args := #[x, y], argTypes := ts }) (hx : a.eval x = .int .i64 m) (hy : a.eval y = .int .i64 n)
  (hr : min m n = r) (hK : K (a.put o.dst (.int .i64 r))) : o.quiet P a C K :=
 quiet_val _ (fun w _ => by
  subst hr
  unfold execOp
  simp only [ho, resolve, invoke, builtin, Sem.run_bind, Sem.run_pure, Result.andThen_ok, List.map_toArray, List.map_cons, List.map_nil, hx, hy]
  simp [Builtin.min_, Builtin.min2, go_sem, Int.min_def]
  try (split <;> simp_all <;> omega)) hK
section
variable {P : Program} {md : Region.Mode} {ops : Array Oper} {Q : Exit → Act → World → Prop} {C : World → Prop}
end
end Go.Proofs.YtlapeoboekchpaaGreatDoor
set_option linter.unusedVariables false
set_option linter.unusedSimpArgs false
namespace Go.Proofs.YtlapeoboekchpaaGreatDoor
open Go.RowKit Ev
set_option maxRecDepth 100000 in
theorem walk_Mul64 (n : Nat) (hn : 1 ≤ n ∧ n ≤ 6) (w : World) :
  Calls Tryz.prog 162 #[.int .u64 1, .int .u64 n] w fun e w' => e = .returned (.tuple #[.int .u64 0, .int .u64 n]) ∧ w' = w := by
 obtain ⟨h1, h2⟩ := hn
 rcases (by omega : n = 1 ∨ n = 2 ∨ n = 3 ∨ n = 4 ∨ n = 5 ∨ n = 6) with rfl | rfl | rfl | rfl | rfl | rfl
 ·go_enter Tryz.func162, Tryz.ntmps162
  go_wp2
  ((try simp only [Exit.inBlock, Exit.then]); refine bodyPost_ret (v := .tuple #[.int .u64 0, .int .u64 1]) ?_ rfl ?_; (next => simp [results, Tryz.results162, go_sem]; first | done | kernel_rfl | (constructor <;> kernel_rfl)))
  exact ⟨rfl, rfl⟩
 ·go_enter Tryz.func162, Tryz.ntmps162
  go_wp2
  ((try simp only [Exit.inBlock, Exit.then]); refine bodyPost_ret (v := .tuple #[.int .u64 0, .int .u64 2]) ?_ rfl ?_; (next => simp [results, Tryz.results162, go_sem]; first | done | kernel_rfl | (constructor <;> kernel_rfl)))
  exact ⟨rfl, rfl⟩
 ·go_enter Tryz.func162, Tryz.ntmps162
  go_wp2
  ((try simp only [Exit.inBlock, Exit.then]); refine bodyPost_ret (v := .tuple #[.int .u64 0, .int .u64 3]) ?_ rfl ?_; (next => simp [results, Tryz.results162, go_sem]; first | done | kernel_rfl | (constructor <;> kernel_rfl)))
  exact ⟨rfl, rfl⟩
 ·go_enter Tryz.func162, Tryz.ntmps162
  go_wp2
  ((try simp only [Exit.inBlock, Exit.then]); refine bodyPost_ret (v := .tuple #[.int .u64 0, .int .u64 4]) ?_ rfl ?_; (next => simp [results, Tryz.results162, go_sem]; first | done | kernel_rfl | (constructor <;> kernel_rfl)))
  exact ⟨rfl, rfl⟩
 ·go_enter Tryz.func162, Tryz.ntmps162
  go_wp2
  ((try simp only [Exit.inBlock, Exit.then]); refine bodyPost_ret (v := .tuple #[.int .u64 0, .int .u64 5]) ?_ rfl ?_; (next => simp [results, Tryz.results162, go_sem]; first | done | kernel_rfl | (constructor <;> kernel_rfl)))
  exact ⟨rfl, rfl⟩
 ·go_enter Tryz.func162, Tryz.ntmps162
  go_wp2
  ((try simp only [Exit.inBlock, Exit.then]); refine bodyPost_ret (v := .tuple #[.int .u64 0, .int .u64 6]) ?_ rfl ?_; (next => simp [results, Tryz.results162, go_sem]; first | done | kernel_rfl | (constructor <;> kernel_rfl)))
  exact ⟨rfl, rfl⟩
set_option maxRecDepth 100000 in
theorem walk_Mul (n : Nat) (hn : 1 ≤ n ∧ n ≤ 6) (w : World) :
  Calls Tryz.prog 128 #[.int .u64 1, .int .u64 n] w fun e w' => e = .returned (.tuple #[.int .u64 0, .int .u64 n]) ∧ w' = w := by
 have HM := hid (walk_Mul64 n hn)
 clear hn
 go_enter Tryz.func128, Tryz.ntmps128
 go_wp2_with (go_at_call 162; refine (HM.out _).mono ?_; rintro _ w3 ⟨rfl, rfl⟩)
 ((try simp only [Exit.inBlock, Exit.then]); refine bodyPost_ret (v := .tuple #[.int .u64 0, .int .u64 n]) ?_ rfl ?_; (next => simp [results, Tryz.results128, go_sem]))
 exact ⟨rfl, rfl⟩
theorem splice_rep (X Z : Value) {n q m : Nat} (hq : q + m ≤ n) : splice (List.replicate q X ++ List.replicate (n - q) Z) q (List.replicate m X) = List.replicate (q + m) X ++ List.replicate (n - (q + m)) Z := by
 unfold splice
 rw [List.take_left' (by simp), List.length_replicate, List.drop_append, List.drop_eq_nil_of_le (by simp), List.nil_append, List.length_replicate, List.drop_replicate, ← List.append_assoc, List.replicate_append_replicate]
 congr 2
 omega
theorem infoInt1 : (Tryz.prog.info? 3).map (·.size) = some 1 := by kernel_rfl
theorem made_list (Z : Value) (n : Nat) : (madeCells #[Z] n).toList = List.replicate n Z := by
 apply List.ext_getElem?
 intro i
 by_cases hi : i < n
 ·simp [madeCells, hi, Nat.mod_one]
 ·simp [madeCells, hi]
def CpAt (w w' : World) (g : Nat) (t : TypeId) (L : List Value) : Prop := w'.heap[g]? = some (.cells L.toArray t (0, 0)) ∧ w'.heap.size = w.heap.size ∧ (∀ b, b ≠ g → w'.heap[b]? = w.heap[b]?) ∧ w'.os = w.os ∧ w'.tape = w.tape ∧ w'.output = w.output
theorem copy_sized {P : Program} {w : World} {ops : Array Oper} {rest : List Oper} {o : Oper} {a : Act} {Q : Exit → Act → World → Prop} (hgd : o.guard = none) (d s : Operand) (dT sT : TypeId)
  (ho : o.op = .call { callee := .builtin .copy, args := #[d, s], argTypes := #[dT, sT] }) (elem : TypeId) (hu : P.underlying dT = some (.slice elem)) (hsz : (P.info? elem).map (·.size) = some 1)
  (g off dLen dCap : Nat) (ad : Addr) (sLen sCap : Nat) (hd : a.eval d = .slice (some ⟨g, off, none⟩) dLen dCap) (hs : a.eval s = .slice (some ad) sLen sCap)
  (L : List Value) (t : TypeId) (hg : w.heap[g]? = some (.cells L.toArray t (0, 0))) (cs : List Value) (hn : cs.length = Nat.min sLen dLen)
  (hsrc : ∀ j v, cs[j]? = some v → w.cell? (ad.add j) = some v) (hfit : off + cs.length ≤ L.length) (h1 : ∀ v ∈ cs, v.oneCell' = true) (k : Nat) (hk : cs.length = k)
  (h : ∀ w', CpAt w w' g t (splice L off cs) → wpList P ops Q rest (a.put o.dst (.int .i64 k)) w') : wpList P ops Q (o :: rest) a w := by
 refine wpList_copy_own hgd d s dT sT ho elem hu hsz g off dLen dCap ad sLen sCap hd hs L.toArray t hg cs hn hsrc (by simpa using hfit) h1 ?_
 have e : goInt (cs.length : Int) = .int .i64 k := by rw [hk]; rfl
 rw [e]
 refine h _ ⟨?_, by simp [World.setRow], fun b hb => setRow_other _ _ _ _ (fun q => hb q), rfl, rfl, rfl⟩
 simpa [splice] using setRow_heap w g _ _ t _ hg
def RepAt (w w' : World) (X Z : Value) (n q : Nat) : Prop := w'.heap[w.heap.size]? = some (.cells (List.replicate q X ++ List.replicate (n - q) Z).toArray 3 (0, 0)) ∧ w'.heap.size = w.heap.size + 1 ∧ Below w.heap.size w w'
theorem CpAt.below {w w' : World} {g B : Nat} {t : TypeId} {L : List Value} (h : CpAt w w' g t L) (hB : B ≤ g) : Below B w w' :=
 ⟨h.2.2.2.1, h.2.2.2.2.1, h.2.2.2.2.2, Nat.le_of_eq h.2.1.symm, fun i hi => h.2.2.1 i (by omega)⟩
theorem RepAt.next {w w1 w2 : World} {X Z : Value} {n q m : Nat} (h : RepAt w w1 X Z n q) (hq : q + m ≤ n) {L CS : List Value} (hL : L = List.replicate q X ++ List.replicate (n - q) Z) (hC : CS = List.replicate m X) (hc : CpAt w1 w2 w.heap.size 3 (splice L q CS)) : RepAt w w2 X Z n (q + m) := by
 subst hL hC
 obtain ⟨h1, h2, h3⟩ := h
 obtain ⟨c1, c2, c3, c4, c5, c6⟩ := hc
 rw [splice_rep _ _ hq] at c1
 exact ⟨c1, c2.trans h2, h3.trans ⟨c4, c5, c6, by omega, fun i hi => c3 i (by omega)⟩⟩
theorem BelowA {h : Nat} {w w' : World} (g : Below h w w' := by (repeat (with_reducible first | exact Below.refl _ _ | assumption | refine Below.drewN _ ?_ | refine Below.drew ?_ | refine Below_alloc ?_ _ | refine Below.alloc ?_ (by first | (simp; done) | (simp; omega) | omega) _ | refine Below.setCell ?_ (by first | (simp; done) | (simp; omega) | omega) _ | refine Below_call ?_ (by assumption) | refine Below.trans ?_ (by assumption)))) : Below h w w' := g
set_option maxRecDepth 100000 in
theorem walk_Repeat (x : Int) (n : Nat) (hn : 1 ≤ n ∧ n ≤ 6) (w : World) (g : Nat) (hg : w.cell? ⟨g, 0, none⟩ = some (.int .i64 x)) :
  Calls Tryz.prog 103 #[.slice (some ⟨g, 0, none⟩) 1 1, .int .i64 n] w fun e w' => e = .returned (.slice (some ⟨w.heap.size, 0, none⟩) n n) ∧ RepAt w w' (.int .i64 x) (.int .i64 0) n n := by
 have HM := hid (walk_Mul n hn)
 have h0 : ¬ (n : Int) < 0 := by omega
 have hwn : IntKind.u64.wrap (n : Int) = n := by
  rcases (by omega : n = 1 ∨ n = 2 ∨ n = 3 ∨ n = 4 ∨ n = 5 ∨ n = 6) with rfl | rfl | rfl | rfl | rfl | rfl <;> rfl
 have hmk := run_make_row' (P := Tryz.prog) 46 3 (.int .i64 0) 8 Tryz.underlying46 infoInt rfl .i64 .i64 n (by omega) (by omega)
 have hk : g < w.heap.size := World.block_lt_of_cell? _ _ hg
 have hwi : IntKind.i64.wrap (n : Int) = n := wi (by omega)
 have h3 : ¬ (9223372036854775807 : Int) < n := by omega
 have HB : Below w.heap.size w (w.alloc (.cells (madeCells #[.int .i64 0] n) 3)) := by exact BelowA
 have HR : RepAt w (w.alloc (.cells (madeCells #[.int .i64 0] n) 3)) (.int .i64 x) (.int .i64 0) n 0 := ⟨by
  rw [World.alloc_heap_new, List.replicate_zero, List.nil_append, Nat.sub_zero, ← made_list], by simp, HB⟩
 have HC : Hid ((w.alloc (.cells (madeCells #[.int .i64 0] n) 3)).cell? ⟨g, 0, none⟩ = some (.int .i64 x)) := hid (by rw [HB.cell hk]; exact hg)
 obtain ⟨L, hL⟩ : ∃ L : List Value, L = List.replicate 0 (.int .i64 x) ++ List.replicate (n - 0) (.int .i64 0) := ⟨_, rfl⟩
 obtain ⟨CS, hCS⟩ : ∃ CS : List Value, CS = List.replicate 1 (.int .i64 x) := ⟨_, rfl⟩
 have HG : Hid ((w.alloc (.cells (madeCells #[.int .i64 0] n) 3)).heap[w.heap.size]? = some (.cells L.toArray 3 (0, 0))) := hid (by rw [hL]; exact HR.1)
 have HN : Hid (∀ w2, CpAt (w.alloc (.cells (madeCells #[.int .i64 0] n) 3)) w2 w.heap.size 3 (splice L 0 CS) → RepAt w w2 (.int .i64 x) (.int .i64 0) n 1) := hid fun w2 h => by
  have := HR.next (m := 1) (by omega) hL hCS h
  simpa using this
 have HCL : CS.length = 1 := by rw [hCS]; rfl
 have HLL : L.length = n := by rw [hL]; simp
 have HCo : Hid (∀ v ∈ CS, v.oneCell' = true) := hid (by rw [hCS]; simp [Value.oneCell'])
 have HSr : Hid (∀ j v, CS[j]? = some v → (w.alloc (.cells (madeCells #[.int .i64 0] n) 3)).cell? ((⟨g, 0, none⟩ : Addr).add j) = some v) := hid fun j v hj => by
  rw [hCS] at hj
  cases j with
  | zero => simp at hj; subst hj; rw [add_plain']; exact HC.out
  | succ j => simp at hj
 have hcn : CS.length = Nat.min 1 n := by rw [HCL]; show 1 = min 1 n; omega
 have hcf : 0 + CS.length ≤ L.length := by omega
 clear hg hL hCS HB HR HC HLL
 go_enter Tryz.func103, Tryz.ntmps103
 go_wp2_with (first | (go_at_call 128; refine (HM.out _).mono ?_; rintro _ w3 ⟨rfl, rfl⟩) | (refine copy_sized rfl _ _ _ _ rfl 3 Tryz.underlying46 infoInt1 _ 0 _ _ _ _ _ rfl rfl L _ HG.out CS hcn HSr.out hcf HCo.out 1 HCL ?_; intro w4 HW4; have HW := hid (HN.out w4 HW4); clear HW4))
 clear HG HN HSr HCo HCL hcn hcf hmk
 go_loopw [8] (fun a wi => ∃ q : Nat, (1 ≤ q ∧ q ≤ n) ∧ a = .int .i64 q ∧ RepAt w3 wi (.int .i64 x) (.int .i64 0) n q) (fun a _ => n - (intOf a).toNat)
 case atStart => exact ⟨1, ⟨Nat.le_refl _, hn.1⟩, rfl, HW.out⟩
 case round =>
  obtain ⟨q, ⟨hq1, hq2⟩, rfl, hR⟩ := hrel
  clear HW
  by_cases hlt : q < n
  ·obtain ⟨m, hm⟩ : ∃ m, m = Nat.min q (n - q) := ⟨_, rfl⟩
   have hm1 : 1 ≤ m ∧ m ≤ q ∧ q + m ≤ n := by rw [hm]; show 1 ≤ min q (n - q) ∧ min q (n - q) ≤ q ∧ q + min q (n - q) ≤ n; omega
   obtain ⟨L, hL⟩ : ∃ L : List Value, L = List.replicate q (.int .i64 x) ++ List.replicate (n - q) (.int .i64 0) := ⟨_, rfl⟩
   obtain ⟨CS, hCS⟩ : ∃ CS : List Value, CS = List.replicate m (.int .i64 x) := ⟨_, rfl⟩
   have HG : Hid (wr.heap[w3.heap.size]? = some (.cells L.toArray 3 (0, 0))) := hid (by rw [hL]; exact hR.1)
   have HN : Hid (∀ w2, CpAt wr w2 w3.heap.size 3 (splice L q CS) → RepAt w3 w2 (.int .i64 x) (.int .i64 0) n (q + m)) := hid fun w2 h => hR.next hm1.2.2 hL hCS h
   have HCL : CS.length = m := by rw [hCS]; simp
   have HLL : L.length = n := by rw [hL]; simp; omega
   have HCo : Hid (∀ v ∈ CS, v.oneCell' = true) := hid (by rw [hCS]; intro v hv; rw [List.eq_of_mem_replicate hv]; rfl)
   have HSr : Hid (∀ j v, CS[j]? = some v → wr.cell? ((⟨w3.heap.size, 0, none⟩ : Addr).add j) = some v) := hid fun j v hj => by
    have hjm : j < m := by rw [hCS, List.getElem?_replicate] at hj; split at hj <;> first | assumption | cases hj
    rw [hCS, List.getElem?_replicate, if_pos hjm] at hj
    rw [add_plain', cell_of_row wr w3.heap.size _ _ _ (0, 0) hR.1]
    simp [List.getElem?_append, show j < q by omega]
    exact Option.some.inj hj
   have hcn : Hid (CS.length = Nat.min q (n - q)) := hid (by rw [HCL, hm])
   have hcf : Hid (q + CS.length ≤ L.length) := hid (by omega)
   have hCL : Hid (CS.length = m) := hid HCL
   have hwq : IntKind.i64.wrap ((q : Int) + (m : Int)) = ((q + m : Nat) : Int) := by rw [wi (by omega)]; omega
   have hnq : ¬ n = q := by omega
   have hnq' : ¬ (n : Int) = (q : Int) := by omega
   clear hL hCS hR HLL hm HCL
   go_wp2_with fail
   refine wp_mixC (fun wc => Below (w3.heap.size) wr wc) 9 [.q [0, 1, 2, 3, 4, 5, 6], .f [7], .q [8]] [.q [9]] (by kernel_rfl) (by kernel_rfl) ((Below.refl _ _).drew) ?_
   intro Q' hQ'
   (rw [wpMixC]; simp only [pick, List.drop_succ_cons, List.drop_zero, List.head?_cons, Option.toList_some, List.cons_append, List.nil_append])
   (repeat (first | go_big_quiet_skip | (go_big_quiet_want; refine quiet_simple rfl ?_; go_big_quiet_op; go_big_quiet_on)))
   (try refine wpQuiet_nil ?_)
   (rw [wpMixC]; simp only [pick, List.drop_succ_cons, List.drop_zero, List.head?_cons, Option.toList_some, List.cons_append, List.nil_append])
   (rw [wpSteps]; go_wp2_with ((refine copy_sized rfl _ _ _ _ rfl 3 Tryz.underlying46 infoInt1 _ q _ _ _ _ _ rfl rfl L _ HG.out CS hcn.out HSr.out hcf.out HCo.out m hCL.out ?_; intro w5 HW5; have HW := hid (HN.out w5 HW5); have hb5 := HW5.below (Nat.le_refl w3.heap.size); clear HW5)); rw [contF]; refine ⟨?_, ?_⟩; (next => exact BelowA))
   (rw [wpSteps])
   (rw [wpMixC]; simp only [pick, List.drop_succ_cons, List.drop_zero, List.head?_cons, Option.toList_some, List.cons_append, List.nil_append])
   (repeat (first | go_big_quiet_skip | (go_big_quiet_want; refine quiet_simple rfl ?_; go_big_quiet_op; go_big_quiet_on)))
   (try refine wpQuiet_nil ?_)
   (rw [wpMixC])
   (rw [wpMix]; simp only [pick, List.drop_succ_cons, List.drop_zero, List.head?_cons, Option.toList_some, List.cons_append, List.nil_append])
   (repeat (first | (go_big_quiet_step (fail)) | (quiet_step (fail))))
   (try refine wpQuiet_nil ?_)
   (rw [wpMix])
   (refine hQ' _ _ ?_)
   (try go_wp2_with fail)
   go_roundw
   case rel => exact ⟨q + m, by omega, by go_num, HW.out⟩
   case measure => simp [intOf]; omega
  ·have e : q = n := by omega
   subst e
   go_wp2_with fail
   go_ret
   exact ⟨rfl, hR⟩
end Go.Proofs.YtlapeoboekchpaaGreatDoor