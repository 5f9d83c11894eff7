/- Texts of this claim, together. -/
import Derived.Test.YtkifmfmenobhnaaCQ6
import Derived.Test.YtkifmfmenobhnaaCQ4

set_option linter.unusedVariables false
set_option linter.unusedSimpArgs false
namespace Go.Proofs.Ytkifmfmenobhnaa
open Go.RowKit Ev
theorem ints_fwd (l : List Int) : ((List.range l.length).map fun i => fwd ((intsC l) i) 0 1) = l.map fun n => [CV.v (.int .i64 n)] := by
 apply List.ext_getElem?
 intro i
 by_cases hi : i < l.length
 ·simp only [List.getElem?_map, List.getElem?_range hi, Option.map_some, List.getElem?_eq_getElem hi]
  simp [fwd, intsC, List.getD, hi]
 ·rw [List.getElem?_eq_none (by simpa using hi), List.getElem?_eq_none (by simpa using hi)]
theorem le_ints (l : List Int) : LeD (.t (.c (.sl 1 (l.map fun n => [CV.v (.int .i64 n)]).length (genC (l.map fun n => [CV.v (.int .i64 n)]))))) (.t (.c (.sl 1 l.length (intsC l)))) := by
 rw [List.length_map]
 refine leSl fun i j hi hj => ?_
 unfold genC intsC
 rw [show j = 0 by omega]
 simp [List.getD, hi]
theorem plain_int (l : List Int) (i j : Nat) : ∃ y, intsC l i j = .v y := ⟨_, rfl⟩
theorem all_false {f : Int → Bool} {l : List Int} {k : Nat} (hk : k < l.length) (h : f (l.getD k 0) = false) : l.all f = false := by
 rw [Bool.eq_false_iff]
 intro q
 rw [List.all_eq_true] at q
 have := q _ (List.getElem_mem hk)
 rw [show l[k] = l.getD k 0 by simp [List.getD, hk], h] at this
 cases this
theorem all_true {f : Int → Bool} {l : List Int} (h : ∀ j, j < l.length → f (l.getD j 0) = true) : l.all f = true := by
 rw [List.all_eq_true]
 intro x hx
 obtain ⟨i, hi, rfl⟩ := List.getElem_of_mem hx
 have := h i hi
 rwa [show l.getD i 0 = l[i] by simp [List.getD, hi]] at this
theorem getD_mem' {l : List Int} {k : Nat} (h : k < l.length) : l.getD k 0 ∈ l := by
 rw [show l.getD k 0 = l[k] by simp [List.getD, h]]; exact List.getElem_mem h
theorem mem_getD' {l : List Int} {x : Int} (h : x ∈ l) : ∃ j, j < l.length ∧ l.getD j 0 = x := by
 obtain ⟨i, hi, rfl⟩ := List.getElem_of_mem h
 exact ⟨i, hi, by simp [List.getD, hi]⟩
theorem leC_pngs (l : List Png) : LeC1 (.sl 4 (l.map pngCv).length (genC (l.map pngCv))) (.sl 4 l.length (pngsC l)) := fun w N v h => le_pngs l w N v h
def vc_base_CopyInts (l : List Int) (post : DV → Prop) : Prop := (roomP 8 (([] : List (List CV)).length + ((List.range l.length).map fun i => fwd ((intsC l) i) 0 1).length)) ∧ (post (.t (.c (.sl 1 ((([] : List (List CV)) ++ ((List.range l.length).map fun i => fwd ((intsC l) i) 0 1)).length) (genC (([] : List (List CV)) ++ ((List.range l.length).map fun i => fwd ((intsC l) i) 0 1)))))))
def ann_base_CopyInts : Ann := ⟨fun _ => none, fun _ => none, fun _ => [], noIt, true, fun _ => none, fun _ => none⟩
theorem ev_base_CopyInts (J : Inv) (l : List Int) (post : DV → Prop) : evFn Try.prog tab Sc51 ann_base_CopyInts J Try.f17 [.t (.c (.sl 1 l.length (intsC l)))] post = vc_base_CopyInts l post := by kernel_rfl
theorem fit_base_CopyInts : okFn ann_base_CopyInts Try.f17 = true := by kernel_rfl
theorem lp_base_CopyInts (J : Inv) (post : DV → Prop) : AllG J (loopsFn Try.prog tab Sc51 ann_base_CopyInts J Try.f17 post) = (True) := by kernel_rfl
theorem spec_base_CopyInts (l : List Int) (hp : (l).length ≤ 1000) : vc_base_CopyInts l (fun r => LeD r (.t (.c (.sl 1 l.length (intsC l))))) := by
 unfold vc_base_CopyInts
 rw [ints_fwd, List.nil_append]
 refine ⟨?_, le_ints l⟩
 unfold roomP maxLen
 simp
 omega
def con_base_CopyInts : Con := fun args => match args with
 | [.t (.c (.sl 1 n_l c_l))] => some (.t (.c (.sl 1 ((listC n_l mkInt c_l).length) (intsC (listC n_l mkInt c_l)))), some (numsP 1 n_l c_l ∧ ((listC n_l mkInt c_l)).length ≤ 1000), true)
 | _ => none
theorem ok_base_CopyInts : Ok Try.prog 17 con_base_CopyInts := by
 refine Ok.fnFr (ann := ann_base_CopyInts) mixed tabOK VSc51 ValidIt.no rfl (fn := Try.f17) (by kernel_rfl) (by kernel_rfl) fit_base_CopyInts fun args r pre fresh h hp => ?_
 unfold con_base_CopyInts at h
 split at h
 ·rename_i n_l c_l
  cases h
  obtain ⟨hp0, hp⟩ := hp
  refine ⟨rfl, (fun i j _ hj => plain_int _ i j), fun _ _ _ => False, [.t (.c (.sl 1 ((listC n_l mkInt c_l).length) (intsC (listC n_l mkInt c_l))))], ?_, Nat.le_of_ble_eq_true (by kernel_rfl), ?_, ?_⟩
  ·exact (LeA_cons (leT_c ((leL_int hp0))) LeA_nil)
  ·rw [ev_base_CopyInts]; exact spec_base_CopyInts (listC n_l mkInt c_l) hp
  ·rw [lp_base_CopyInts]; trivial
 ·cases h
def Sd52 : Sum := addS Sc51 17 con_base_CopyInts
theorem VSd52 : Valid Try.prog Sd52 := Valid.add VSc51 ok_base_CopyInts
def vc_ref01_CopyLeaps (l : List Lp) (post : DV → Prop) : Prop := (roomP 16 (([] : List (List CV)).length + ((List.range l.length).map fun i => fwd ((lppsC l) i) 0 2).length)) ∧ (post (.t (.c (.sl 2 ((([] : List (List CV)) ++ ((List.range l.length).map fun i => fwd ((lppsC l) i) 0 2)).length) (genC (([] : List (List CV)) ++ ((List.range l.length).map fun i => fwd ((lppsC l) i) 0 2)))))))
def ann_ref01_CopyLeaps : Ann := ⟨fun _ => none, fun _ => none, fun _ => [], noIt, true, fun _ => none, fun _ => none⟩
theorem ev_ref01_CopyLeaps (J : Inv) (l : List Lp) (post : DV → Prop) : evFn Try.prog tab Sd52 ann_ref01_CopyLeaps J Try.f19 [.t (.c (.sl 2 l.length (lppsC l)))] post = vc_ref01_CopyLeaps l post := by kernel_rfl
theorem fit_ref01_CopyLeaps : okFn ann_ref01_CopyLeaps Try.f19 = true := by kernel_rfl
theorem lp_ref01_CopyLeaps (J : Inv) (post : DV → Prop) : AllG J (loopsFn Try.prog tab Sd52 ann_ref01_CopyLeaps J Try.f19 post) = (True) := by kernel_rfl
theorem spec_ref01_CopyLeaps (l : List Lp) (hp : (l).length ≤ 1000) : vc_ref01_CopyLeaps l (fun r => LeD r (.t (.c (.sl 2 l.length (lppsC l))))) := by
 unfold vc_ref01_CopyLeaps
 rw [lpps_fwd, List.nil_append]
 refine ⟨?_, le_lpps l⟩
 unfold roomP maxLen
 simp
 omega
def con_ref01_CopyLeaps : Con := fun args => match args with
 | [.t (.c (.sl 2 n_l c_l))] => some (.t (.c (.sl 2 ((listC n_l mkLpp c_l).length) (lppsC (listC n_l mkLpp c_l)))), some (numsP 2 n_l c_l ∧ ((listC n_l mkLpp c_l)).length ≤ 1000), true)
 | _ => none
theorem ok_ref01_CopyLeaps : Ok Try.prog 19 con_ref01_CopyLeaps := by
 refine Ok.fnFr (ann := ann_ref01_CopyLeaps) mixed tabOK VSd52 ValidIt.no rfl (fn := Try.f19) (by kernel_rfl) (by kernel_rfl) fit_ref01_CopyLeaps fun args r pre fresh h hp => ?_
 unfold con_ref01_CopyLeaps at h
 split at h
 ·rename_i n_l c_l
  cases h
  obtain ⟨hp0, hp⟩ := hp
  refine ⟨rfl, (fun i j _ hj => plain_Lp _ i j), fun _ _ _ => False, [.t (.c (.sl 2 ((listC n_l mkLpp c_l).length) (lppsC (listC n_l mkLpp c_l))))], ?_, Nat.le_of_ble_eq_true (by kernel_rfl), ?_, ?_⟩
  ·exact (LeA_cons (leT_c ((leL_Lp hp0))) LeA_nil)
  ·rw [ev_ref01_CopyLeaps]; exact spec_ref01_CopyLeaps (listC n_l mkLpp c_l) hp
  ·rw [lp_ref01_CopyLeaps]; trivial
 ·cases h
def Sd53 : Sum := addS Sd52 19 con_ref01_CopyLeaps
theorem VSd53 : Valid Try.prog Sd53 := Valid.add VSd52 ok_ref01_CopyLeaps
def Sd54 : Sum := Sd53
theorem VSd54 : Valid Try.prog Sd54 := VSd53
def vc_clock_samplesErr_1 (m : Int) (post : DV → Prop) : Prop := post (.t (.c (.v (.bool (!(inB m (-10000 : Int) (10000 : Int)))))))
def ann_clock_samplesErr_1 : Ann := ⟨fun _ => none, fun _ => none, fun _ => [], noIt, false, fun _ => none, fun _ => none⟩
theorem ev_clock_samplesErr_1 (J : Inv) (m : Int) (post : DV → Prop) : evFn Try.prog tab Sd54 ann_clock_samplesErr_1 J Try.f126 [.t (.c (.v (.int .i64 m)))] post = vc_clock_samplesErr_1 m post := by kernel_rfl
theorem fit_clock_samplesErr_1 : okFn ann_clock_samplesErr_1 Try.f126 = true := by kernel_rfl
theorem lp_clock_samplesErr_1 (J : Inv) (post : DV → Prop) : AllG J (loopsFn Try.prog tab Sd54 ann_clock_samplesErr_1 J Try.f126 post) = (True) := by kernel_rfl
theorem spec_clock_samplesErr_1 (m : Int) : vc_clock_samplesErr_1 m (fun r => LeD r (.t (.c (.v (.bool (!inB m (-10000) 10000)))))) := by
 exact LeD.refl _
def con_clock_samplesErr_1 : Con := fun args => match args with
 | [.t (.c (.v (.int .i64 m)))] => some (.t (.c (.v (.bool (!inB m (-10000) 10000)))), none, false)
 | _ => none
theorem ok_clock_samplesErr_1 : Ok Try.prog 126 con_clock_samplesErr_1 := by
 refine Ok.fn (ann := ann_clock_samplesErr_1) mixed tabOK VSd54 ValidIt.no (fn := Try.f126) (by kernel_rfl) (by kernel_rfl) fit_clock_samplesErr_1 fun args r pre fresh h hp => ?_
 unfold con_clock_samplesErr_1 at h
 split at h
 ·rename_i m
  cases h
  refine ⟨rfl, fun _ _ _ => False, _, LeA.refl _, Nat.le_of_ble_eq_true (by kernel_rfl), ?_, ?_⟩
  ·rw [ev_clock_samplesErr_1]; exact spec_clock_samplesErr_1 m
  ·rw [lp_clock_samplesErr_1]; trivial
 ·cases h
def Sd55 : Sum := addS Sd54 126 con_clock_samplesErr_1
theorem VSd55 : Valid Try.prog Sd55 := Valid.add VSd54 ok_clock_samplesErr_1
def vc_clock_Unrolled_1 (m : Int) (per : Int) (post : DV → Prop) : Prop := lt (IntKind.i64.wrap (per - (1 : Int))) fun x1 => post (.t (.c (.v (.bool (!(inB m (0 : Int) x1))))))
def ann_clock_Unrolled_1 : Ann := ⟨fun _ => none, fun _ => none, fun _ => [], noIt, false, fun _ => none, fun _ => none⟩
theorem ev_clock_Unrolled_1 (J : Inv) (m : Int) (per : Int) (post : DV → Prop) : evFn Try.prog tab Sd55 ann_clock_Unrolled_1 J Try.f81 [.t (.c (.v (.int .i64 m))), .t (.c (.px 1 0 (boxC [.v (.int .i64 per)])))] post = vc_clock_Unrolled_1 m per post := by kernel_rfl
theorem fit_clock_Unrolled_1 : okFn ann_clock_Unrolled_1 Try.f81 = true := by kernel_rfl
theorem lp_clock_Unrolled_1 (J : Inv) (post : DV → Prop) : AllG J (loopsFn Try.prog tab Sd55 ann_clock_Unrolled_1 J Try.f81 post) = (True) := by kernel_rfl
theorem spec_clock_Unrolled_1 (m : Int) (per : Int) (hp : 1 ≤ per ∧ per ≤ 1000000000000) : vc_clock_Unrolled_1 m per (fun r => LeD r (.t (.c (.v (.bool (!inB m 0 (per - 1))))))) := by
 unfold vc_clock_Unrolled_1
 refine lt_i fun x hx => leB ?_
 rw [wi (by omega)] at hx
 rw [← hx]
def con_clock_Unrolled_1 : Con := fun args => match args with
 | [.t (.c (.v (.int .i64 m))), .t (.c (.px 1 0 c_q))] => some (.t (.c (.v (.bool (!inB m 0 ((cvInt (c_q 0)) - 1))))), some (intsB [0] c_q = true ∧ 1 ≤ (cvInt (c_q 0)) ∧ (cvInt (c_q 0)) ≤ 1000000000000), false)
 | _ => none
theorem ok_clock_Unrolled_1 : Ok Try.prog 81 con_clock_Unrolled_1 := by
 refine Ok.fn (ann := ann_clock_Unrolled_1) mixed tabOK VSd55 ValidIt.no (fn := Try.f81) (by kernel_rfl) (by kernel_rfl) fit_clock_Unrolled_1 fun args r pre fresh h hp => ?_
 unfold con_clock_Unrolled_1 at h
 split at h
 ·rename_i m c_q
  cases h
  obtain ⟨hp0, hp⟩ := hp
  refine ⟨rfl, fun _ _ _ => False, [.t (.c (.v (.int .i64 m))), .t (.c (.px 1 0 (boxC [.v (.int .i64 (cvInt (c_q 0)))])))], ?_, Nat.le_of_ble_eq_true (by kernel_rfl), ?_, ?_⟩
  ·exact (LeA_cons (LeD.refl _) (LeA_cons (leT_c (leC_p (LeCs.cons (leC_i (intsB_get hp0 0 (by decide))) LeCs.nil))) LeA_nil))
  ·rw [ev_clock_Unrolled_1]; exact spec_clock_Unrolled_1 m (cvInt (c_q 0)) hp
  ·rw [lp_clock_Unrolled_1]; trivial
 ·cases h
def Sd56 : Sum := addS Sd55 81 con_clock_Unrolled_1
theorem VSd56 : Valid Try.prog Sd56 := Valid.add VSd55 ok_clock_Unrolled_1
def mk_slices_IndexFunc_int_int_a_0 (l : List Int) (v0_0 : Int) : DS := ⟨[some (.t (.c (.sl 1 l.length (intsC l)))), some (.t (.fn 126 [])), none, none, none, none, none, some (.t (.c (.v (.int .i64 ((l.length : Nat) : Int))))), some (.t (.c (.v (.int .i64 v0_0)))), none, none, none, none, none, none, none, none, none, none], [none, none, none, none, none, none, none, none, none, none, none, none, none, none, none, none, none, none, none]⟩
def vc_slices_IndexFunc_int_int_a (J : Inv) (l : List Int) (post : DV → Prop) : Prop := ∃ n, J 0 (n :: []) (mk_slices_IndexFunc_int_int_a_0 l 0)
def ann_slices_IndexFunc_int_int_a : Ann := ⟨fun _ => none, fun b => lookA b [(0, (none, some ⟨[0, 1, 7, 8], [], []⟩))], fun _ => [], noIt, false, fun _ => none, fun _ => none⟩
theorem ev_slices_IndexFunc_int_int_a (J : Inv) (l : List Int) (post : DV → Prop) : evFn Try.prog tab Sd56 ann_slices_IndexFunc_int_int_a J Try.f124 [.t (.c (.sl 1 l.length (intsC l))), .t (.fn 126 [])] post = vc_slices_IndexFunc_int_int_a J l post := by kernel_rfl
theorem fit_slices_IndexFunc_int_int_a : okFn ann_slices_IndexFunc_int_int_a Try.f124 = true := by kernel_rfl
def rd_slices_IndexFunc_int_int_a_0 (J : Inv) (l : List Int) (v0_0 : Int) (nn0 : Nat) (post : DV → Prop) : Prop := cond (decide (v0_0 < ((l.length : Nat) : Int))) ((0 ≤ v0_0 ∧ v0_0 < ((l.length : Nat) : Int)) ∧ (cond (!inB (l.getD v0_0.toNat 0) (-10000) 10000) (post (.t (.c (.v (.int .i64 v0_0))))) (lt (IntKind.i64.wrap (v0_0 + (1 : Int))) fun x1 => J 0 (nn0 :: []) (mk_slices_IndexFunc_int_int_a_0 l x1)))) (post (.t (.c (.v (.int .i64 (-1))))))
theorem er_slices_IndexFunc_int_int_a_0 (J : Inv) (l : List Int) (v0_0 : Int) (nn0 : Nat) (post : DV → Prop) : round Try.prog tab Sd56 ann_slices_IndexFunc_int_int_a J Try.f124 post 0 (nn0 :: []) (mk_slices_IndexFunc_int_int_a_0 l v0_0) = rd_slices_IndexFunc_int_int_a_0 J l v0_0 nn0 post := by kernel_rfl
theorem lp_slices_IndexFunc_int_int_a (J : Inv) (post : DV → Prop) : AllG J (loopsFn Try.prog tab Sd56 ann_slices_IndexFunc_int_int_a J Try.f124 post) = (((∀ F s, ¬ J 0 (0 :: F) s) ∧ ∀ n F s, J 0 ((n + 1) :: F) s → round Try.prog tab Sd56 ann_slices_IndexFunc_int_int_a J Try.f124 post 0 (n :: F) s) ∧ True) := by kernel_rfl
def J_slices_IndexFunc_int_int_a (l : List Int) : Inv := fun b F s => match b, F with
 | 0, [nn0] => ∃ (v0_0 : Int), s = mk_slices_IndexFunc_int_int_a_0 l v0_0 ∧ ((l.length ≤ 1000000) ∧ 0 ≤ v0_0 ∧ v0_0 ≤ l.length ∧ (nn0 : Int) + v0_0 = l.length + 1 ∧ ∀ k : Nat, (k : Int) < v0_0 → (!inB (l.getD k 0) (-10000) 10000) = false)
 | _, _ => False
theorem rnd_slices_IndexFunc_int_int_a_0 (l : List Int) (v0_0 : Int) (nn0 : Nat) (hp : (l).length ≤ 1000000) (hi : (l.length ≤ 1000000) ∧ 0 ≤ v0_0 ∧ v0_0 ≤ l.length ∧ ((nn0 + 1) : Int) + v0_0 = l.length + 1 ∧ ∀ k : Nat, (k : Int) < v0_0 → (!inB (l.getD k 0) (-10000) 10000) = false) : rd_slices_IndexFunc_int_int_a_0 (J_slices_IndexFunc_int_int_a l) l v0_0 nn0 (fun r => LeD r (.t (.c (.v (.int .i64 (idxP (fun n => !inB n (-10000) 10000) l)))))) := by
 obtain ⟨i0, i1, i2, i3, i4⟩ := hi
 obtain ⟨k, rfl⟩ : ∃ k : Nat, v0_0 = k := ⟨v0_0.toNat, by omega⟩
 have hk : (k : Int).toNat = k := rfl
 unfold rd_slices_IndexFunc_int_int_a_0
 rw [hk]
 refine cond_i (fun h => ?_) (fun h => leI ?_)
 ·have hlt : k < l.length := by have := of_decide_eq_true h; omega
  refine ⟨by omega, cond_i (fun e => leI ?_) (fun e => lt_i fun x hx => ?_)⟩
  ·exact (idxP_at (d := (0 : Int)) hlt (fun j hj => i4 j (by omega)) (by simpa using e)).symm
  ·rw [wi (by omega)] at hx
   subst hx
   exact ⟨_, rfl, i0, by omega, by omega, by omega, fun j hj => by
    by_cases q : j = k
    ·rw [q]; simpa using e
    ·exact i4 j (by omega)⟩
 ·have hge : k = l.length := by have := of_decide_eq_false h; omega
  subst hge
  exact (idxP_none (d := (0 : Int)) fun j hj => i4 j (by omega)).symm
theorem zero_slices_IndexFunc_int_int_a_0 (l : List Int) (v0_0 : Int)  (hi : (l.length ≤ 1000000) ∧ 0 ≤ v0_0 ∧ v0_0 ≤ l.length ∧ (0 : Int) + v0_0 = l.length + 1 ∧ ∀ k : Nat, (k : Int) < v0_0 → (!inB (l.getD k 0) (-10000) 10000) = false) : False := by
 omega
theorem spec_slices_IndexFunc_int_int_a (l : List Int) (hp : (l).length ≤ 1000000) : vc_slices_IndexFunc_int_int_a (J_slices_IndexFunc_int_int_a l) l (fun r => LeD r (.t (.c (.v (.int .i64 (idxP (fun n => !inB n (-10000) 10000) l)))))) := by
 unfold vc_slices_IndexFunc_int_int_a
 exact ⟨l.length + 1, 0, rfl, hp, by omega, by omega, by omega, fun j hj => by omega⟩
theorem all_slices_IndexFunc_int_int_a (l : List Int) (hp : (l).length ≤ 1000000) : AllG (J_slices_IndexFunc_int_int_a l) (loopsFn Try.prog tab Sd56 ann_slices_IndexFunc_int_int_a (J_slices_IndexFunc_int_int_a l) Try.f124 (fun r => LeD r (.t (.c (.v (.int .i64 (idxP (fun n => !inB n (-10000) 10000) l))))))) := by
 rw [lp_slices_IndexFunc_int_int_a]
 refine ⟨⟨?_, ?_⟩, trivial⟩
 ·intro F s h
  obtain _ | ⟨g, F⟩ := F
  case cons => exact h.elim
  obtain ⟨w0, rfl, hi⟩ := h
  exact zero_slices_IndexFunc_int_int_a_0 l w0 hi
 ·intro n F s h
  obtain _ | ⟨g, F⟩ := F
  case cons => exact h.elim
  obtain ⟨w0, rfl, hi⟩ := h
  rw [er_slices_IndexFunc_int_int_a_0]
  exact rnd_slices_IndexFunc_int_int_a_0 l _ _ hp hi
def con_slices_IndexFunc_int_int_a : Con := fun args => match args with
 | [.t (.c (.sl 1 n_l c_l)), .t (.fn 126 [])] => some (.t (.c (.v (.int .i64 (idxP (fun n => !inB n (-10000) 10000) (listC n_l mkInt c_l))))), some (numsP 1 n_l c_l ∧ ((listC n_l mkInt c_l)).length ≤ 1000000), false)
 | _ => none
theorem ok_slices_IndexFunc_int_int_a : Ok Try.prog 124 con_slices_IndexFunc_int_int_a := by
 refine Ok.fn (ann := ann_slices_IndexFunc_int_int_a) mixed tabOK VSd56 ValidIt.no (fn := Try.f124) (by kernel_rfl) (by kernel_rfl) fit_slices_IndexFunc_int_int_a fun args r pre fresh h hp => ?_
 unfold con_slices_IndexFunc_int_int_a at h
 split at h
 ·rename_i n_l c_l
  cases h
  obtain ⟨hp0, hp⟩ := hp
  refine ⟨rfl, J_slices_IndexFunc_int_int_a (listC n_l mkInt c_l), [.t (.c (.sl 1 ((listC n_l mkInt c_l).length) (intsC (listC n_l mkInt c_l)))), .t (.fn 126 [])], ?_, Nat.le_of_ble_eq_true (by kernel_rfl), ?_, ?_⟩
  ·exact (LeA_cons (leT_c ((leL_int hp0))) (LeA_cons (leT_f LeCs.nil) LeA_nil))
  ·rw [ev_slices_IndexFunc_int_int_a]; exact spec_slices_IndexFunc_int_int_a (listC n_l mkInt c_l) hp
  ·exact all_slices_IndexFunc_int_int_a (listC n_l mkInt c_l) hp
 ·cases h
def Sd57 : Sum := addF Sd56 124 con_slices_IndexFunc_int_int_a
theorem VSd57 : Valid Try.prog Sd57 := Valid.addF VSd56 ok_slices_IndexFunc_int_int_a
def mk_slices_IndexFunc_int_int_b_0 (l : List Int) (per : Int) (v0_0 : Int) : DS := ⟨[some (.t (.c (.sl 1 l.length (intsC l)))), some (.t (.fn 81 [.px 1 0 (boxC [.v (.int .i64 per)])])), none, none, none, none, none, some (.t (.c (.v (.int .i64 ((l.length : Nat) : Int))))), some (.t (.c (.v (.int .i64 v0_0)))), none, none, none, none, none, none, none, none, none, none], [none, none, none, none, none, none, none, none, none, none, none, none, none, none, none, none, none, none, none]⟩
def vc_slices_IndexFunc_int_int_b (J : Inv) (l : List Int) (per : Int) (post : DV → Prop) : Prop := ∃ n, J 0 (n :: []) (mk_slices_IndexFunc_int_int_b_0 l per 0)
def ann_slices_IndexFunc_int_int_b : Ann := ⟨fun _ => none, fun b => lookA b [(0, (none, some ⟨[0, 1, 7, 8], [], []⟩))], fun _ => [], noIt, false, fun _ => none, fun _ => none⟩
theorem ev_slices_IndexFunc_int_int_b (J : Inv) (l : List Int) (per : Int) (post : DV → Prop) : evFn Try.prog tab Sd57 ann_slices_IndexFunc_int_int_b J Try.f124 [.t (.c (.sl 1 l.length (intsC l))), .t (.fn 81 [.px 1 0 (boxC [.v (.int .i64 per)])])] post = vc_slices_IndexFunc_int_int_b J l per post := by kernel_rfl
theorem fit_slices_IndexFunc_int_int_b : okFn ann_slices_IndexFunc_int_int_b Try.f124 = true := by kernel_rfl
def rd_slices_IndexFunc_int_int_b_0 (J : Inv) (l : List Int) (per : Int) (v0_0 : Int) (nn0 : Nat) (post : DV → Prop) : Prop := cond (decide (v0_0 < ((l.length : Nat) : Int))) ((0 ≤ v0_0 ∧ v0_0 < ((l.length : Nat) : Int)) ∧ ((intsB [0] (boxC [.v (.int .i64 per)]) = true ∧ 1 ≤ per ∧ per ≤ 1000000000000) ∧ (cond (!inB (l.getD v0_0.toNat 0) 0 (per - 1)) (post (.t (.c (.v (.int .i64 v0_0))))) (lt (IntKind.i64.wrap (v0_0 + (1 : Int))) fun x1 => J 0 (nn0 :: []) (mk_slices_IndexFunc_int_int_b_0 l per x1))))) (post (.t (.c (.v (.int .i64 (-1))))))
theorem er_slices_IndexFunc_int_int_b_0 (J : Inv) (l : List Int) (per : Int) (v0_0 : Int) (nn0 : Nat) (post : DV → Prop) : round Try.prog tab Sd57 ann_slices_IndexFunc_int_int_b J Try.f124 post 0 (nn0 :: []) (mk_slices_IndexFunc_int_int_b_0 l per v0_0) = rd_slices_IndexFunc_int_int_b_0 J l per v0_0 nn0 post := by kernel_rfl
theorem lp_slices_IndexFunc_int_int_b (J : Inv) (post : DV → Prop) : AllG J (loopsFn Try.prog tab Sd57 ann_slices_IndexFunc_int_int_b J Try.f124 post) = (((∀ F s, ¬ J 0 (0 :: F) s) ∧ ∀ n F s, J 0 ((n + 1) :: F) s → round Try.prog tab Sd57 ann_slices_IndexFunc_int_int_b J Try.f124 post 0 (n :: F) s) ∧ True) := by kernel_rfl
def J_slices_IndexFunc_int_int_b (l : List Int) (per : Int) : Inv := fun b F s => match b, F with
 | 0, [nn0] => ∃ (v0_0 : Int), s = mk_slices_IndexFunc_int_int_b_0 l per v0_0 ∧ ((l.length ≤ 1000000 ∧ 1 ≤ per ∧ per ≤ 1000000000000) ∧ 0 ≤ v0_0 ∧ v0_0 ≤ l.length ∧ (nn0 : Int) + v0_0 = l.length + 1 ∧ ∀ k : Nat, (k : Int) < v0_0 → (!inB (l.getD k 0) 0 (per - 1)) = false)
 | _, _ => False
theorem rnd_slices_IndexFunc_int_int_b_0 (l : List Int) (per : Int) (v0_0 : Int) (nn0 : Nat) (hp : (l).length ≤ 1000000 ∧ 1 ≤ per ∧ per ≤ 1000000000000) (hi : (l.length ≤ 1000000 ∧ 1 ≤ per ∧ per ≤ 1000000000000) ∧ 0 ≤ v0_0 ∧ v0_0 ≤ l.length ∧ ((nn0 + 1) : Int) + v0_0 = l.length + 1 ∧ ∀ k : Nat, (k : Int) < v0_0 → (!inB (l.getD k 0) 0 (per - 1)) = false) : rd_slices_IndexFunc_int_int_b_0 (J_slices_IndexFunc_int_int_b l per) l per v0_0 nn0 (fun r => LeD r (.t (.c (.v (.int .i64 (idxP (fun n => !inB n 0 (per - 1)) l)))))) := by
 obtain ⟨i0, i1, i2, i3, i4⟩ := hi
 obtain ⟨k, rfl⟩ : ∃ k : Nat, v0_0 = k := ⟨v0_0.toNat, by omega⟩
 have hk : (k : Int).toNat = k := rfl
 unfold rd_slices_IndexFunc_int_int_b_0
 rw [hk]
 refine cond_i (fun h => ?_) (fun h => leI ?_)
 ·have hlt : k < l.length := by have := of_decide_eq_true h; omega
  refine ⟨by omega, ⟨rfl, i0.2⟩, cond_i (fun e => leI ?_) (fun e => lt_i fun x hx => ?_)⟩
  ·exact (idxP_at (d := (0 : Int)) hlt (fun j hj => i4 j (by omega)) (by simpa using e)).symm
  ·rw [wi (by omega)] at hx
   subst hx
   exact ⟨_, rfl, i0, by omega, by omega, by omega, fun j hj => by
    by_cases q : j = k
    ·rw [q]; simpa using e
    ·exact i4 j (by omega)⟩
 ·have hge : k = l.length := by have := of_decide_eq_false h; omega
  subst hge
  exact (idxP_none (d := (0 : Int)) fun j hj => i4 j (by omega)).symm
theorem zero_slices_IndexFunc_int_int_b_0 (l : List Int) (per : Int) (v0_0 : Int)  (hi : (l.length ≤ 1000000 ∧ 1 ≤ per ∧ per ≤ 1000000000000) ∧ 0 ≤ v0_0 ∧ v0_0 ≤ l.length ∧ (0 : Int) + v0_0 = l.length + 1 ∧ ∀ k : Nat, (k : Int) < v0_0 → (!inB (l.getD k 0) 0 (per - 1)) = false) : False := by
 omega
theorem spec_slices_IndexFunc_int_int_b (l : List Int) (per : Int) (hp : (l).length ≤ 1000000 ∧ 1 ≤ per ∧ per ≤ 1000000000000) : vc_slices_IndexFunc_int_int_b (J_slices_IndexFunc_int_int_b l per) l per (fun r => LeD r (.t (.c (.v (.int .i64 (idxP (fun n => !inB n 0 (per - 1)) l)))))) := by
 unfold vc_slices_IndexFunc_int_int_b
 exact ⟨l.length + 1, 0, rfl, hp, by omega, by omega, by omega, fun j hj => by omega⟩
theorem all_slices_IndexFunc_int_int_b (l : List Int) (per : Int) (hp : (l).length ≤ 1000000 ∧ 1 ≤ per ∧ per ≤ 1000000000000) : AllG (J_slices_IndexFunc_int_int_b l per) (loopsFn Try.prog tab Sd57 ann_slices_IndexFunc_int_int_b (J_slices_IndexFunc_int_int_b l per) Try.f124 (fun r => LeD r (.t (.c (.v (.int .i64 (idxP (fun n => !inB n 0 (per - 1)) l))))))) := by
 rw [lp_slices_IndexFunc_int_int_b]
 refine ⟨⟨?_, ?_⟩, trivial⟩
 ·intro F s h
  obtain _ | ⟨g, F⟩ := F
  case cons => exact h.elim
  obtain ⟨w0, rfl, hi⟩ := h
  exact zero_slices_IndexFunc_int_int_b_0 l per w0 hi
 ·intro n F s h
  obtain _ | ⟨g, F⟩ := F
  case cons => exact h.elim
  obtain ⟨w0, rfl, hi⟩ := h
  rw [er_slices_IndexFunc_int_int_b_0]
  exact rnd_slices_IndexFunc_int_int_b_0 l per _ _ hp hi
def con_slices_IndexFunc_int_int_b : Con := fun args => match args with
 | [.t (.c (.sl 1 n_l c_l)), .t (.fn 81 [.px 1 0 c_q])] => some (.t (.c (.v (.int .i64 (idxP (fun n => !inB n 0 ((cvInt (c_q 0)) - 1)) (listC n_l mkInt c_l))))), some (numsP 1 n_l c_l ∧ intsB [0] c_q = true ∧ ((listC n_l mkInt c_l)).length ≤ 1000000 ∧ 1 ≤ (cvInt (c_q 0)) ∧ (cvInt (c_q 0)) ≤ 1000000000000), false)
 | _ => none
theorem ok_slices_IndexFunc_int_int_b : Ok Try.prog 124 con_slices_IndexFunc_int_int_b := by
 refine Ok.fn (ann := ann_slices_IndexFunc_int_int_b) mixed tabOK VSd57 ValidIt.no (fn := Try.f124) (by kernel_rfl) (by kernel_rfl) fit_slices_IndexFunc_int_int_b fun args r pre fresh h hp => ?_
 unfold con_slices_IndexFunc_int_int_b at h
 split at h
 ·rename_i n_l c_l c_q
  cases h
  obtain ⟨hp0, hp1, hp⟩ := hp
  refine ⟨rfl, J_slices_IndexFunc_int_int_b (listC n_l mkInt c_l) (cvInt (c_q 0)), [.t (.c (.sl 1 ((listC n_l mkInt c_l).length) (intsC (listC n_l mkInt c_l)))), .t (.fn 81 [.px 1 0 (boxC [.v (.int .i64 (cvInt (c_q 0)))])])], ?_, Nat.le_of_ble_eq_true (by kernel_rfl), ?_, ?_⟩
  ·exact (LeA_cons (leT_c ((leL_int hp0))) (LeA_cons (leT_f (LeCs.cons (leC_p (LeCs.cons (leC_i (intsB_get hp1 0 (by decide))) LeCs.nil)) LeCs.nil)) LeA_nil))
  ·rw [ev_slices_IndexFunc_int_int_b]; exact spec_slices_IndexFunc_int_int_b (listC n_l mkInt c_l) (cvInt (c_q 0)) hp
  ·exact all_slices_IndexFunc_int_int_b (listC n_l mkInt c_l) (cvInt (c_q 0)) hp
 ·cases h
def Sd58 : Sum := addF Sd57 124 con_slices_IndexFunc_int_int_b
theorem VSd58 : Valid Try.prog Sd58 := Valid.addF VSd57 ok_slices_IndexFunc_int_int_b
def vc_slices_ContainsFunc_int_int_a (l : List Int) (post : DV → Prop) : Prop := (numsP 1 l.length (intsC l) ∧ ((listC l.length mkInt (intsC l))).length ≤ 1000000) ∧ (post (.t (.c (.v (.bool (decide ((idxP (fun n => !inB n (-10000) 10000) (listC l.length mkInt (intsC l))) ≥ (0 : Int))))))))
def ann_slices_ContainsFunc_int_int_a : Ann := ⟨fun _ => none, fun _ => none, fun _ => [], noIt, false, fun _ => none, fun _ => none⟩
theorem ev_slices_ContainsFunc_int_int_a (J : Inv) (l : List Int) (post : DV → Prop) : evFn Try.prog tab Sd58 ann_slices_ContainsFunc_int_int_a J Try.f80 [.t (.c (.sl 1 l.length (intsC l))), .t (.fn 126 [])] post = vc_slices_ContainsFunc_int_int_a l post := by kernel_rfl
theorem fit_slices_ContainsFunc_int_int_a : okFn ann_slices_ContainsFunc_int_int_a Try.f80 = true := by kernel_rfl
theorem lp_slices_ContainsFunc_int_int_a (J : Inv) (post : DV → Prop) : AllG J (loopsFn Try.prog tab Sd58 ann_slices_ContainsFunc_int_int_a J Try.f80 post) = (True) := by kernel_rfl
theorem spec_slices_ContainsFunc_int_int_a (l : List Int) (hp : (l).length ≤ 1000000) : vc_slices_ContainsFunc_int_int_a l (fun r => LeD r (.t (.c (.v (.bool ((l).any fun n => !inB n (-10000) 10000)))))) := by
 unfold vc_slices_ContainsFunc_int_int_a
 rw [ints_listC]
 refine ⟨⟨numsP_ints l, hp⟩, leB ?_⟩
 rw [idxP_any]
def con_slices_ContainsFunc_int_int_a : Con := fun args => match args with
 | [.t (.c (.sl 1 n_l c_l)), .t (.fn 126 [])] => some (.t (.c (.v (.bool (((listC n_l mkInt c_l)).any fun n => !inB n (-10000) 10000)))), some (numsP 1 n_l c_l ∧ ((listC n_l mkInt c_l)).length ≤ 1000000), false)
 | _ => none
theorem ok_slices_ContainsFunc_int_int_a : Ok Try.prog 80 con_slices_ContainsFunc_int_int_a := by
 refine Ok.fn (ann := ann_slices_ContainsFunc_int_int_a) mixed tabOK VSd58 ValidIt.no (fn := Try.f80) (by kernel_rfl) (by kernel_rfl) fit_slices_ContainsFunc_int_int_a fun args r pre fresh h hp => ?_
 unfold con_slices_ContainsFunc_int_int_a at h
 split at h
 ·rename_i n_l c_l
  cases h
  obtain ⟨hp0, hp⟩ := hp
  refine ⟨rfl, fun _ _ _ => False, [.t (.c (.sl 1 ((listC n_l mkInt c_l).length) (intsC (listC n_l mkInt c_l)))), .t (.fn 126 [])], ?_, Nat.le_of_ble_eq_true (by kernel_rfl), ?_, ?_⟩
  ·exact (LeA_cons (leT_c ((leL_int hp0))) (LeA_cons (leT_f LeCs.nil) LeA_nil))
  ·rw [ev_slices_ContainsFunc_int_int_a]; exact spec_slices_ContainsFunc_int_int_a (listC n_l mkInt c_l) hp
  ·rw [lp_slices_ContainsFunc_int_int_a]; trivial
 ·cases h
def Sd59 : Sum := addF Sd58 80 con_slices_ContainsFunc_int_int_a
theorem VSd59 : Valid Try.prog Sd59 := Valid.addF VSd58 ok_slices_ContainsFunc_int_int_a
def vc_slices_ContainsFunc_int_int_b (l : List Int) (per : Int) (post : DV → Prop) : Prop := (numsP 1 l.length (intsC l) ∧ intsB [0] (boxC [.v (.int .i64 per)]) = true ∧ ((listC l.length mkInt (intsC l))).length ≤ 1000000 ∧ 1 ≤ per ∧ per ≤ 1000000000000) ∧ (post (.t (.c (.v (.bool (decide ((idxP (fun n => !inB n 0 (per - 1)) (listC l.length mkInt (intsC l))) ≥ (0 : Int))))))))
def ann_slices_ContainsFunc_int_int_b : Ann := ⟨fun _ => none, fun _ => none, fun _ => [], noIt, false, fun _ => none, fun _ => none⟩
theorem ev_slices_ContainsFunc_int_int_b (J : Inv) (l : List Int) (per : Int) (post : DV → Prop) : evFn Try.prog tab Sd59 ann_slices_ContainsFunc_int_int_b J Try.f80 [.t (.c (.sl 1 l.length (intsC l))), .t (.fn 81 [.px 1 0 (boxC [.v (.int .i64 per)])])] post = vc_slices_ContainsFunc_int_int_b l per post := by kernel_rfl
theorem fit_slices_ContainsFunc_int_int_b : okFn ann_slices_ContainsFunc_int_int_b Try.f80 = true := by kernel_rfl
theorem lp_slices_ContainsFunc_int_int_b (J : Inv) (post : DV → Prop) : AllG J (loopsFn Try.prog tab Sd59 ann_slices_ContainsFunc_int_int_b J Try.f80 post) = (True) := by kernel_rfl
theorem spec_slices_ContainsFunc_int_int_b (l : List Int) (per : Int) (hp : (l).length ≤ 1000000 ∧ 1 ≤ per ∧ per ≤ 1000000000000) : vc_slices_ContainsFunc_int_int_b l per (fun r => LeD r (.t (.c (.v (.bool ((l).any fun n => !inB n 0 (per - 1))))))) := by
 unfold vc_slices_ContainsFunc_int_int_b
 rw [ints_listC]
 refine ⟨⟨numsP_ints l, rfl, hp⟩, leB ?_⟩
 rw [idxP_any]
def con_slices_ContainsFunc_int_int_b : Con := fun args => match args with
 | [.t (.c (.sl 1 n_l c_l)), .t (.fn 81 [.px 1 0 c_q])] => some (.t (.c (.v (.bool (((listC n_l mkInt c_l)).any fun n => !inB n 0 ((cvInt (c_q 0)) - 1))))), some (numsP 1 n_l c_l ∧ intsB [0] c_q = true ∧ ((listC n_l mkInt c_l)).length ≤ 1000000 ∧ 1 ≤ (cvInt (c_q 0)) ∧ (cvInt (c_q 0)) ≤ 1000000000000), false)
 | _ => none
theorem ok_slices_ContainsFunc_int_int_b : Ok Try.prog 80 con_slices_ContainsFunc_int_int_b := by
 refine Ok.fn (ann := ann_slices_ContainsFunc_int_int_b) mixed tabOK VSd59 ValidIt.no (fn := Try.f80) (by kernel_rfl) (by kernel_rfl) fit_slices_ContainsFunc_int_int_b fun args r pre fresh h hp => ?_
 unfold con_slices_ContainsFunc_int_int_b at h
 split at h
 ·rename_i n_l c_l c_q
  cases h
  obtain ⟨hp0, hp1, hp⟩ := hp
  refine ⟨rfl, fun _ _ _ => False, [.t (.c (.sl 1 ((listC n_l mkInt c_l).length) (intsC (listC n_l mkInt c_l)))), .t (.fn 81 [.px 1 0 (boxC [.v (.int .i64 (cvInt (c_q 0)))])])], ?_, Nat.le_of_ble_eq_true (by kernel_rfl), ?_, ?_⟩
  ·exact (LeA_cons (leT_c ((leL_int hp0))) (LeA_cons (leT_f (LeCs.cons (leC_p (LeCs.cons (leC_i (intsB_get hp1 0 (by decide))) LeCs.nil)) LeCs.nil)) LeA_nil))
  ·rw [ev_slices_ContainsFunc_int_int_b]; exact spec_slices_ContainsFunc_int_int_b (listC n_l mkInt c_l) (cvInt (c_q 0)) hp
  ·rw [lp_slices_ContainsFunc_int_int_b]; trivial
 ·cases h
def Sd60 : Sum := addF Sd59 80 con_slices_ContainsFunc_int_int_b
theorem VSd60 : Valid Try.prog Sd60 := Valid.addF VSd59 ok_slices_ContainsFunc_int_int_b
def vc_clock_samplesErr (l : List Int) (post : DV → Prop) : Prop := (numsP 1 l.length (intsC l) ∧ ((listC l.length mkInt (intsC l))).length ≤ 1000000) ∧ ((numsP 1 3 (genC [[.v (.int .i64 (unl (decide (((l.length : Nat) : Int) > (0 : Int))) (10 : Int)))], [.v (.int .i64 (unl (decide (((l.length : Nat) : Int) ≤ (24 : Int))) (8 : Int)))], [.v (.int .i64 (unl (!(((listC l.length mkInt (intsC l))).any fun n => !inB n (-10000) 10000)) (2 : Int)))]]) ∧ (([(unl (decide (((l.length : Nat) : Int) > (0 : Int))) (10 : Int)), (unl (decide (((l.length : Nat) : Int) ≤ (24 : Int))) (8 : Int)), (unl (!(((listC l.length mkInt (intsC l))).any fun n => !inB n (-10000) 10000)) (2 : Int))] : List Int)).length ≤ 100) ∧ (post (.t (.c (.v (.int .i64 (firstNZ ([(unl (decide (((l.length : Nat) : Int) > (0 : Int))) (10 : Int)), (unl (decide (((l.length : Nat) : Int) ≤ (24 : Int))) (8 : Int)), (unl (!(((listC l.length mkInt (intsC l))).any fun n => !inB n (-10000) 10000)) (2 : Int))] : List Int))))))))
def ann_clock_samplesErr : Ann := ⟨fun _ => none, fun _ => none, fun _ => [], noIt, false, fun _ => none, fun _ => none⟩
theorem ev_clock_samplesErr (J : Inv) (l : List Int) (post : DV → Prop) : evFn Try.prog tab Sd60 ann_clock_samplesErr J Try.f87 [.t (.c (.sl 1 l.length (intsC l)))] post = vc_clock_samplesErr l post := by kernel_rfl
theorem fit_clock_samplesErr : okFn ann_clock_samplesErr Try.f87 = true := by kernel_rfl
theorem lp_clock_samplesErr (J : Inv) (post : DV → Prop) : AllG J (loopsFn Try.prog tab Sd60 ann_clock_samplesErr J Try.f87 post) = (True) := by kernel_rfl
theorem spec_clock_samplesErr (l : List Int) (hp : (l).length ≤ 1000000) : vc_clock_samplesErr l (fun r => LeD r (.t (.c (.v (.int .i64 (smE l)))))) := by
 unfold vc_clock_samplesErr
 simp only [ints_listC, List.not_any_eq_all_not, Bool.not_not]
 exact ⟨⟨numsP_ints l, hp⟩, ⟨numsP_gen [_, _, _], Nat.le_of_ble_eq_true rfl⟩, LeD.refl _⟩
def con_clock_samplesErr : Con := fun args => match args with
 | [.t (.c (.sl 1 n_l c_l))] => some (.t (.c (.v (.int .i64 (smE (listC n_l mkInt c_l))))), some (numsP 1 n_l c_l ∧ ((listC n_l mkInt c_l)).length ≤ 1000000), false)
 | _ => none
theorem ok_clock_samplesErr : Ok Try.prog 87 con_clock_samplesErr := by
 refine Ok.fn (ann := ann_clock_samplesErr) mixed tabOK VSd60 ValidIt.no (fn := Try.f87) (by kernel_rfl) (by kernel_rfl) fit_clock_samplesErr fun args r pre fresh h hp => ?_
 unfold con_clock_samplesErr at h
 split at h
 ·rename_i n_l c_l
  cases h
  obtain ⟨hp0, hp⟩ := hp
  refine ⟨rfl, fun _ _ _ => False, [.t (.c (.sl 1 ((listC n_l mkInt c_l).length) (intsC (listC n_l mkInt c_l))))], ?_, Nat.le_of_ble_eq_true (by kernel_rfl), ?_, ?_⟩
  ·exact (LeA_cons (leT_c ((leL_int hp0))) LeA_nil)
  ·rw [ev_clock_samplesErr]; exact spec_clock_samplesErr (listC n_l mkInt c_l) hp
  ·rw [lp_clock_samplesErr]; trivial
 ·cases h
def Sd61 : Sum := addS Sd60 87 con_clock_samplesErr
theorem VSd61 : Valid Try.prog Sd61 := Valid.add VSd60 ok_clock_samplesErr
def mk_ref01_SamplesErr_0 (l : List Int) (v0_0 : Int) : DS := ⟨[some (.t (.c (.sl 1 l.length (intsC l)))), none, none, some (.t (.c (.v (.int .i64 v0_0)))), none, none, none, none, none, none, none, none, none, none, none, none, none, none, none, none, none, none], [none, none, none, none, none, none, none, none, none, none, none, none, none, none, none, none, none, none, none, none, none, none]⟩
def vc_ref01_SamplesErr (J : Inv) (l : List Int) (post : DV → Prop) : Prop := cond (((l.length : Nat) : Int) == (0 : Int)) (post (.t (.c (.v (.int .i64 10))))) (cond (decide (((l.length : Nat) : Int) > (24 : Int))) (post (.t (.c (.v (.int .i64 8))))) (∃ n, J 0 (n :: []) (mk_ref01_SamplesErr_0 l 0)))
def ann_ref01_SamplesErr : Ann := ⟨fun _ => none, fun b => lookA b [(0, (none, some ⟨[0, 3], [], []⟩))], fun _ => [], noIt, false, fun _ => none, fun _ => none⟩
theorem ev_ref01_SamplesErr (J : Inv) (l : List Int) (post : DV → Prop) : evFn Try.prog tab Sd61 ann_ref01_SamplesErr J Try.f33 [.t (.c (.sl 1 l.length (intsC l)))] post = vc_ref01_SamplesErr J l post := by kernel_rfl
theorem fit_ref01_SamplesErr : okFn ann_ref01_SamplesErr Try.f33 = true := by kernel_rfl
def rd_ref01_SamplesErr_0 (J : Inv) (l : List Int) (v0_0 : Int) (nn0 : Nat) (post : DV → Prop) : Prop := cond (decide (v0_0 < ((l.length : Nat) : Int))) ((0 ≤ v0_0 ∧ v0_0 < ((l.length : Nat) : Int)) ∧ (cond (!(inB (l.getD v0_0.toNat 0) (-10000 : Int) (10000 : Int))) (post (.t (.c (.v (.int .i64 2))))) (lt (IntKind.i64.wrap (v0_0 + (1 : Int))) fun x1 => J 0 (nn0 :: []) (mk_ref01_SamplesErr_0 l x1)))) (post (.t (.c (.v (.int .i64 0)))))
theorem er_ref01_SamplesErr_0 (J : Inv) (l : List Int) (v0_0 : Int) (nn0 : Nat) (post : DV → Prop) : round Try.prog tab Sd61 ann_ref01_SamplesErr J Try.f33 post 0 (nn0 :: []) (mk_ref01_SamplesErr_0 l v0_0) = rd_ref01_SamplesErr_0 J l v0_0 nn0 post := by kernel_rfl
theorem lp_ref01_SamplesErr (J : Inv) (post : DV → Prop) : AllG J (loopsFn Try.prog tab Sd61 ann_ref01_SamplesErr J Try.f33 post) = (((∀ F s, ¬ J 0 (0 :: F) s) ∧ ∀ n F s, J 0 ((n + 1) :: F) s → round Try.prog tab Sd61 ann_ref01_SamplesErr J Try.f33 post 0 (n :: F) s) ∧ True) := by kernel_rfl
def J_ref01_SamplesErr (l : List Int) : Inv := fun b F s => match b, F with
 | 0, [nn0] => ∃ (v0_0 : Int), s = mk_ref01_SamplesErr_0 l v0_0 ∧ ((0 < l.length ∧ l.length ≤ 24) ∧ 0 ≤ v0_0 ∧ v0_0 ≤ l.length ∧ (nn0 : Int) + v0_0 = l.length + 1 ∧ ∀ j : Nat, (j : Int) < v0_0 → inB (l.getD j 0) (-10000) 10000 = true)
 | _, _ => False
theorem rnd_ref01_SamplesErr_0 (l : List Int) (v0_0 : Int) (nn0 : Nat) (hi : (0 < l.length ∧ l.length ≤ 24) ∧ 0 ≤ v0_0 ∧ v0_0 ≤ l.length ∧ ((nn0 + 1) : Int) + v0_0 = l.length + 1 ∧ ∀ j : Nat, (j : Int) < v0_0 → inB (l.getD j 0) (-10000) 10000 = true) : rd_ref01_SamplesErr_0 (J_ref01_SamplesErr l) l v0_0 nn0 (fun r => LeD r (.t (.c (.v (.int .i64 (smE l)))))) := by
 obtain ⟨i0, i1, i2, i3, i4⟩ := hi
 obtain ⟨k, rfl⟩ : ∃ k : Nat, v0_0 = k := ⟨v0_0.toNat, by omega⟩
 have hk : (k : Int).toNat = k := rfl
 have e0 : smE l = unl (l.all fun n => inB n (-10000) 10000) 2 := by
  unfold smE
  rw [decide_eq_true (by omega), decide_eq_true (by omega)]
  simp only [unl, firstNZ]
  cases (l.all fun n => inB n (-10000) 10000) <;> rfl
 unfold rd_ref01_SamplesErr_0
 rw [hk]
 refine cond_i (fun h => ?_) (fun h => leI ?_)
 ·have hlt : k < l.length := by have := of_decide_eq_true h; omega
  refine ⟨by omega, cond_i (fun e => leI ?_) (fun e => lt_i fun x hx => ?_)⟩
  ·have e : inB (l.getD k 0) (-10000) 10000 = false := by simpa using e
   rw [e0, all_false hlt e]; rfl
  ·have e : inB (l.getD k 0) (-10000) 10000 = true := by simpa using e
   rw [wi (by omega)] at hx
   subst hx
   exact ⟨_, rfl, i0, by omega, by omega, by omega, fun j hj => by
    by_cases q : j = k
    ·rw [q]; exact e
    ·exact i4 j (by omega)⟩
 ·have h := of_decide_eq_false h
  rw [e0, all_true fun j hj => i4 j (by omega)]; rfl
theorem zero_ref01_SamplesErr_0 (l : List Int) (v0_0 : Int)  (hi : (0 < l.length ∧ l.length ≤ 24) ∧ 0 ≤ v0_0 ∧ v0_0 ≤ l.length ∧ (0 : Int) + v0_0 = l.length + 1 ∧ ∀ j : Nat, (j : Int) < v0_0 → inB (l.getD j 0) (-10000) 10000 = true) : False := by
 omega
theorem spec_ref01_SamplesErr (l : List Int) : vc_ref01_SamplesErr (J_ref01_SamplesErr l) l (fun r => LeD r (.t (.c (.v (.int .i64 (smE l)))))) := by
 unfold vc_ref01_SamplesErr
 refine cond_i (fun h => leI ?_) (fun h => cond_i (fun g => leI ?_) (fun g => ?_))
 ·have h : (l.length : Int) = 0 := by simpa using h
  unfold smE
  rw [decide_eq_false (by omega)]; rfl
 all_goals have h : ¬ (l.length : Int) = 0 := by simpa using h
 ·have g := of_decide_eq_true g
  unfold smE
  rw [decide_eq_true (by omega), decide_eq_false (by omega)]; rfl
 ·have g := of_decide_eq_false g
  exact ⟨l.length + 1, 0, rfl, ⟨by omega, by omega⟩, by omega, by omega, by omega, fun j hj => by omega⟩
theorem all_ref01_SamplesErr (l : List Int) : AllG (J_ref01_SamplesErr l) (loopsFn Try.prog tab Sd61 ann_ref01_SamplesErr (J_ref01_SamplesErr l) Try.f33 (fun r => LeD r (.t (.c (.v (.int .i64 (smE l))))))) := by
 rw [lp_ref01_SamplesErr]
 refine ⟨⟨?_, ?_⟩, trivial⟩
 ·intro F s h
  obtain _ | ⟨g, F⟩ := F
  case cons => exact h.elim
  obtain ⟨w0, rfl, hi⟩ := h
  exact zero_ref01_SamplesErr_0 l w0 hi
 ·intro n F s h
  obtain _ | ⟨g, F⟩ := F
  case cons => exact h.elim
  obtain ⟨w0, rfl, hi⟩ := h
  rw [er_ref01_SamplesErr_0]
  exact rnd_ref01_SamplesErr_0 l _ _ hi
def con_ref01_SamplesErr : Con := fun args => match args with
 | [.t (.c (.sl 1 n_l c_l))] => some (.t (.c (.v (.int .i64 (smE (listC n_l mkInt c_l))))), some (numsP 1 n_l c_l), false)
 | _ => none
theorem ok_ref01_SamplesErr : Ok Try.prog 33 con_ref01_SamplesErr := by
 refine Ok.fn (ann := ann_ref01_SamplesErr) mixed tabOK VSd61 ValidIt.no (fn := Try.f33) (by kernel_rfl) (by kernel_rfl) fit_ref01_SamplesErr fun args r pre fresh h hp => ?_
 unfold con_ref01_SamplesErr at h
 split at h
 ·rename_i n_l c_l
  cases h
  have hp0 := hp
  refine ⟨rfl, J_ref01_SamplesErr (listC n_l mkInt c_l), [.t (.c (.sl 1 ((listC n_l mkInt c_l).length) (intsC (listC n_l mkInt c_l))))], ?_, Nat.le_of_ble_eq_true (by kernel_rfl), ?_, ?_⟩
  ·exact (LeA_cons (leT_c ((leL_int hp0))) LeA_nil)
  ·rw [ev_ref01_SamplesErr]; exact spec_ref01_SamplesErr (listC n_l mkInt c_l)
  ·exact all_ref01_SamplesErr (listC n_l mkInt c_l)
 ·cases h
def Sd62 : Sum := addS Sd61 33 con_ref01_SamplesErr
theorem VSd62 : Valid Try.prog Sd62 := Valid.add VSd61 ok_ref01_SamplesErr
def mk_ref01_ReadsErr_0 (l : List Int) (per : Int) (v0_0 : Int) : DS := ⟨[some (.t (.c (.sl 1 l.length (intsC l)))), some (.t (.c (.v (.int .i64 per)))), none, none, none, some (.t (.c (.v (.int .i64 v0_0)))), none, none, none, none, none, none, none, none, none, none, none, none, none, none, none, none, none, none, none, none], [none, none, none, none, none, none, none, none, none, none, none, none, none, none, none, none, none, none, none, none, none, none, none, none, none, none]⟩
def vc_ref01_ReadsErr (J : Inv) (l : List Int) (per : Int) (post : DV → Prop) : Prop := cond (!(inB per (1 : Int) (1000000000000 : Int))) (post (.t (.c (.v (.int .i64 2))))) (cond (decide (((l.length : Nat) : Int) > (40 : Int))) (post (.t (.c (.v (.int .i64 8))))) (∃ n, J 0 (n :: []) (mk_ref01_ReadsErr_0 l per 0)))
def ann_ref01_ReadsErr : Ann := ⟨fun _ => none, fun b => lookA b [(0, (none, some ⟨[0, 1, 5], [], []⟩))], fun _ => [], noIt, false, fun _ => none, fun _ => none⟩
theorem ev_ref01_ReadsErr (J : Inv) (l : List Int) (per : Int) (post : DV → Prop) : evFn Try.prog tab Sd62 ann_ref01_ReadsErr J Try.f21 [.t (.c (.sl 1 l.length (intsC l))), .t (.c (.v (.int .i64 per)))] post = vc_ref01_ReadsErr J l per post := by kernel_rfl
theorem fit_ref01_ReadsErr : okFn ann_ref01_ReadsErr Try.f21 = true := by kernel_rfl
def rd_ref01_ReadsErr_0 (J : Inv) (l : List Int) (per : Int) (v0_0 : Int) (nn0 : Nat) (post : DV → Prop) : Prop := cond (decide (v0_0 < ((l.length : Nat) : Int))) ((0 ≤ v0_0 ∧ v0_0 < ((l.length : Nat) : Int)) ∧ (lt (IntKind.i64.wrap (per - (1 : Int))) fun x1 => cond (!(inB (l.getD v0_0.toNat 0) (0 : Int) x1)) (post (.t (.c (.v (.int .i64 2))))) (lt (IntKind.i64.wrap (v0_0 + (1 : Int))) fun x2 => J 0 (nn0 :: []) (mk_ref01_ReadsErr_0 l per x2)))) (post (.t (.c (.v (.int .i64 0)))))
theorem er_ref01_ReadsErr_0 (J : Inv) (l : List Int) (per : Int) (v0_0 : Int) (nn0 : Nat) (post : DV → Prop) : round Try.prog tab Sd62 ann_ref01_ReadsErr J Try.f21 post 0 (nn0 :: []) (mk_ref01_ReadsErr_0 l per v0_0) = rd_ref01_ReadsErr_0 J l per v0_0 nn0 post := by kernel_rfl
theorem lp_ref01_ReadsErr (J : Inv) (post : DV → Prop) : AllG J (loopsFn Try.prog tab Sd62 ann_ref01_ReadsErr J Try.f21 post) = (((∀ F s, ¬ J 0 (0 :: F) s) ∧ ∀ n F s, J 0 ((n + 1) :: F) s → round Try.prog tab Sd62 ann_ref01_ReadsErr J Try.f21 post 0 (n :: F) s) ∧ True) := by kernel_rfl
def J_ref01_ReadsErr (l : List Int) (per : Int) : Inv := fun b F s => match b, F with
 | 0, [nn0] => ∃ (v0_0 : Int), s = mk_ref01_ReadsErr_0 l per v0_0 ∧ ((inB per 1 1000000000000 = true ∧ l.length ≤ 40) ∧ 0 ≤ v0_0 ∧ v0_0 ≤ l.length ∧ (nn0 : Int) + v0_0 = l.length + 1 ∧ ∀ j : Nat, (j : Int) < v0_0 → inB (l.getD j 0) 0 (per - 1) = true)
 | _, _ => False
theorem rnd_ref01_ReadsErr_0 (l : List Int) (per : Int) (v0_0 : Int) (nn0 : Nat) (hi : (inB per 1 1000000000000 = true ∧ l.length ≤ 40) ∧ 0 ≤ v0_0 ∧ v0_0 ≤ l.length ∧ ((nn0 + 1) : Int) + v0_0 = l.length + 1 ∧ ∀ j : Nat, (j : Int) < v0_0 → inB (l.getD j 0) 0 (per - 1) = true) : rd_ref01_ReadsErr_0 (J_ref01_ReadsErr l per) l per v0_0 nn0 (fun r => LeD r (.t (.c (.v (.int .i64 (urE l per)))))) := by
 obtain ⟨i0, i1, i2, i3, i4⟩ := hi
 obtain ⟨k, rfl⟩ : ∃ k : Nat, v0_0 = k := ⟨v0_0.toNat, by omega⟩
 have hk : (k : Int).toNat = k := rfl
 have i0' := i0
 rw [inB_true] at i0'
 have e0 : urE l per = unl (l.all fun n => inB n 0 (per - 1)) 2 := by
  unfold urE
  rw [i0.1, decide_eq_true (by omega)]
  simp only [unl, firstNZ]
  cases (l.all fun n => inB n 0 (per - 1)) <;> rfl
 unfold rd_ref01_ReadsErr_0
 rw [hk]
 refine cond_i (fun h => ?_) (fun h => leI ?_)
 ·have hlt : k < l.length := by have := of_decide_eq_true h; omega
  refine ⟨by omega, lt_i fun x1 h1 => ?_⟩
  rw [wi (by omega)] at h1
  subst h1
  refine cond_i (fun e => leI ?_) (fun e => lt_i fun x hx => ?_)
  ·have e : inB (l.getD k 0) 0 (per - 1) = false := by simpa using e
   rw [e0, all_false (f := fun n => inB n 0 (per - 1)) hlt e]; rfl
  ·have e : inB (l.getD k 0) 0 (per - 1) = true := by simpa using e
   rw [wi (by omega)] at hx
   subst hx
   exact ⟨_, rfl, i0, by omega, by omega, by omega, fun j hj => by
    by_cases q : j = k
    ·rw [q]; exact e
    ·exact i4 j (by omega)⟩
 ·have h := of_decide_eq_false h
  rw [e0, all_true (f := fun n => inB n 0 (per - 1)) fun j hj => i4 j (by omega)]; rfl
theorem zero_ref01_ReadsErr_0 (l : List Int) (per : Int) (v0_0 : Int)  (hi : (inB per 1 1000000000000 = true ∧ l.length ≤ 40) ∧ 0 ≤ v0_0 ∧ v0_0 ≤ l.length ∧ (0 : Int) + v0_0 = l.length + 1 ∧ ∀ j : Nat, (j : Int) < v0_0 → inB (l.getD j 0) 0 (per - 1) = true) : False := by
 omega
theorem spec_ref01_ReadsErr (l : List Int) (per : Int) : vc_ref01_ReadsErr (J_ref01_ReadsErr l per) l per (fun r => LeD r (.t (.c (.v (.int .i64 (urE l per)))))) := by
 unfold vc_ref01_ReadsErr
 refine cond_i (fun h => leI ?_) (fun h => cond_i (fun g => leI ?_) (fun g => ?_))
 ·have h : inB per 1 1000000000000 = false := by simpa using h
  unfold urE; rw [h]; rfl
 all_goals have h : inB per 1 1000000000000 = true := by simpa using h
 ·have g := of_decide_eq_true g
  unfold urE
  rw [h, decide_eq_false (by omega)]; rfl
 ·have g := of_decide_eq_false g
  exact ⟨l.length + 1, 0, rfl, ⟨h, by omega⟩, by omega, by omega, by omega, fun j hj => by omega⟩
theorem all_ref01_ReadsErr (l : List Int) (per : Int) : AllG (J_ref01_ReadsErr l per) (loopsFn Try.prog tab Sd62 ann_ref01_ReadsErr (J_ref01_ReadsErr l per) Try.f21 (fun r => LeD r (.t (.c (.v (.int .i64 (urE l per))))))) := by
 rw [lp_ref01_ReadsErr]
 refine ⟨⟨?_, ?_⟩, trivial⟩
 ·intro F s h
  obtain _ | ⟨g, F⟩ := F
  case cons => exact h.elim
  obtain ⟨w0, rfl, hi⟩ := h
  exact zero_ref01_ReadsErr_0 l per w0 hi
 ·intro n F s h
  obtain _ | ⟨g, F⟩ := F
  case cons => exact h.elim
  obtain ⟨w0, rfl, hi⟩ := h
  rw [er_ref01_ReadsErr_0]
  exact rnd_ref01_ReadsErr_0 l per _ _ hi
def con_ref01_ReadsErr : Con := fun args => match args with
 | [.t (.c (.sl 1 n_l c_l)), .t (.c (.v (.int .i64 per)))] => some (.t (.c (.v (.int .i64 (urE (listC n_l mkInt c_l) per)))), some (numsP 1 n_l c_l), false)
 | _ => none
theorem ok_ref01_ReadsErr : Ok Try.prog 21 con_ref01_ReadsErr := by
 refine Ok.fn (ann := ann_ref01_ReadsErr) mixed tabOK VSd62 ValidIt.no (fn := Try.f21) (by kernel_rfl) (by kernel_rfl) fit_ref01_ReadsErr fun args r pre fresh h hp => ?_
 unfold con_ref01_ReadsErr at h
 split at h
 ·rename_i n_l c_l per
  cases h
  have hp0 := hp
  refine ⟨rfl, J_ref01_ReadsErr (listC n_l mkInt c_l) per, [.t (.c (.sl 1 ((listC n_l mkInt c_l).length) (intsC (listC n_l mkInt c_l)))), .t (.c (.v (.int .i64 per)))], ?_, Nat.le_of_ble_eq_true (by kernel_rfl), ?_, ?_⟩
  ·exact (LeA_cons (leT_c ((leL_int hp0))) (LeA_cons (LeD.refl _) LeA_nil))
  ·rw [ev_ref01_ReadsErr]; exact spec_ref01_ReadsErr (listC n_l mkInt c_l) per
  ·exact all_ref01_ReadsErr (listC n_l mkInt c_l) per
 ·cases h
def Sd63 : Sum := addS Sd62 21 con_ref01_ReadsErr
theorem VSd63 : Valid Try.prog Sd63 := Valid.add VSd62 ok_ref01_ReadsErr
def mk_base_Ints_0 (a : List Int) (c : List Int) (v0_0 : Int) : DS := ⟨[some (.t (.c (.sl 1 a.length (intsC a)))), some (.t (.c (.sl 1 c.length (intsC c)))), none, none, none, some (.t (.c (.v (.int .i64 v0_0)))), none, none, none, none, none, none, none, none, none, none, none, none, none, none, none, none, none, none, none, none], [none, none, none, none, none, none, none, none, none, none, none, none, none, none, none, none, none, none, none, none, none, none, none, none, none, none]⟩
def vc_base_Ints (J : Inv) (a : List Int) (c : List Int) (post : DV → Prop) : Prop := cond (((a.length : Nat) : Int) != ((c.length : Nat) : Int)) (post (.t (.c (.v (.bool false))))) (∃ n, J 0 (n :: []) (mk_base_Ints_0 a c 0))
def ann_base_Ints : Ann := ⟨fun r => lookA r [(6, ([[], [], [0, 1], [0, 1, 2], [], [], [4, 5], [4, 5, 6], [0, 1, 2, 3, 4, 5, 6, 7]], [[], [], [], [], [], [], [], [], []]))], fun b => lookA b [(0, (none, some ⟨[0, 1, 5], [], []⟩))], fun _ => [], noIt, false, fun _ => none, fun _ => none⟩
theorem ev_base_Ints (J : Inv) (a : List Int) (c : List Int) (post : DV → Prop) : evFn Try.prog tab Sd63 ann_base_Ints J Try.f22 [.t (.c (.sl 1 a.length (intsC a))), .t (.c (.sl 1 c.length (intsC c)))] post = vc_base_Ints J a c post := by kernel_rfl
theorem fit_base_Ints : okFn ann_base_Ints Try.f22 = true := by kernel_rfl
def rd_base_Ints_0 (J : Inv) (a : List Int) (c : List Int) (v0_0 : Int) (nn0 : Nat) (post : DV → Prop) : Prop := cond (decide (v0_0 < ((a.length : Nat) : Int))) ((0 ≤ v0_0 ∧ v0_0 < ((a.length : Nat) : Int)) ∧ ((0 ≤ v0_0 ∧ v0_0 < ((c.length : Nat) : Int)) ∧ (cond ((a.getD v0_0.toNat 0) != (c.getD v0_0.toNat 0)) (post (.t (.c (.v (.bool false))))) (lt (IntKind.i64.wrap (v0_0 + (1 : Int))) fun x1 => J 0 (nn0 :: []) (mk_base_Ints_0 a c x1))))) (post (.t (.c (.v (.bool true)))))
theorem er_base_Ints_0 (J : Inv) (a : List Int) (c : List Int) (v0_0 : Int) (nn0 : Nat) (post : DV → Prop) : round Try.prog tab Sd63 ann_base_Ints J Try.f22 post 0 (nn0 :: []) (mk_base_Ints_0 a c v0_0) = rd_base_Ints_0 J a c v0_0 nn0 post := by kernel_rfl
theorem lp_base_Ints (J : Inv) (post : DV → Prop) : AllG J (loopsFn Try.prog tab Sd63 ann_base_Ints J Try.f22 post) = (((∀ F s, ¬ J 0 (0 :: F) s) ∧ ∀ n F s, J 0 ((n + 1) :: F) s → round Try.prog tab Sd63 ann_base_Ints J Try.f22 post 0 (n :: F) s) ∧ True) := by kernel_rfl
def J_base_Ints (a : List Int) (c : List Int) : Inv := fun b F s => match b, F with
 | 0, [nn0] => ∃ (v0_0 : Int), s = mk_base_Ints_0 a c v0_0 ∧ (a.length ≤ 1000000 ∧ 0 ≤ v0_0 ∧ v0_0 ≤ a.length ∧ (nn0 : Int) + v0_0 = a.length + 1 ∧ a.length = c.length ∧ ∀ j : Nat, (j : Int) < v0_0 → a.getD j 0 = c.getD j 0)
 | _, _ => False
theorem rnd_base_Ints_0 (a : List Int) (c : List Int) (v0_0 : Int) (nn0 : Nat) (hp : (a).length ≤ 1000000) (hi : a.length ≤ 1000000 ∧ 0 ≤ v0_0 ∧ v0_0 ≤ a.length ∧ ((nn0 + 1) : Int) + v0_0 = a.length + 1 ∧ a.length = c.length ∧ ∀ j : Nat, (j : Int) < v0_0 → a.getD j 0 = c.getD j 0) : rd_base_Ints_0 (J_base_Ints a c) a c v0_0 nn0 (fun r => LeD r (.t (.c (.v (.bool (decide (a = c))))))) := by
 obtain ⟨i0, i1, i2, i3, i4, i5⟩ := hi
 obtain ⟨k, rfl⟩ : ∃ k : Nat, v0_0 = k := ⟨v0_0.toNat, by omega⟩
 have hk : (k : Int).toNat = k := rfl
 unfold rd_base_Ints_0
 rw [hk]
 refine cond_i (fun h => ?_) (fun h => leB ?_)
 ·have hlt : k < a.length := by have := of_decide_eq_true h; omega
  refine ⟨by omega, by omega, cond_i (fun e => leB ?_) (fun e => lt_i fun x hx => ?_)⟩
  ·refine (decide_eq_false fun q => ?_).symm
   rw [q] at e
   simp at e
  ·have e : a.getD k 0 = c.getD k 0 := by simpa using e
   rw [wi (by omega)] at hx
   subst hx
   exact ⟨_, rfl, i0, by omega, by omega, by omega, i4, fun j hj => by
    by_cases q : j = k
    ·rw [q]; exact e
    ·exact i5 j (by omega)⟩
 ·have hge : k = a.length := by have := of_decide_eq_false h; omega
  refine (decide_eq_true (List.ext_getElem? fun i => ?_)).symm
  by_cases hi : i < a.length
  ·have := i5 i (by omega)
   have h2 : i < c.length := by omega
   simpa [rgAt, List.getD, hi, h2] using this
  ·rw [List.getElem?_eq_none (by omega), List.getElem?_eq_none (by omega)]
theorem zero_base_Ints_0 (a : List Int) (c : List Int) (v0_0 : Int)  (hi : a.length ≤ 1000000 ∧ 0 ≤ v0_0 ∧ v0_0 ≤ a.length ∧ (0 : Int) + v0_0 = a.length + 1 ∧ a.length = c.length ∧ ∀ j : Nat, (j : Int) < v0_0 → a.getD j 0 = c.getD j 0) : False := by
 omega
theorem spec_base_Ints (a : List Int) (c : List Int) (hp : (a).length ≤ 1000000) : vc_base_Ints (J_base_Ints a c) a c (fun r => LeD r (.t (.c (.v (.bool (decide (a = c))))))) := by
  unfold vc_base_Ints
  refine cond_i (fun h => leB ?_) (fun h => ?_)
  · have h : a.length ≠ c.length := by intro e; rw [e] at h; simp at h
    exact (decide_eq_false fun e => h (by rw [e])).symm
  · have h : a.length = c.length := by have h : (a.length : Int) = c.length := by simpa using h
                                       omega
    exact ⟨a.length + 1, 0, rfl, hp, by omega, by omega, by omega, h, fun j hj => by omega⟩
theorem all_base_Ints (a : List Int) (c : List Int) (hp : (a).length ≤ 1000000) : AllG (J_base_Ints a c) (loopsFn Try.prog tab Sd63 ann_base_Ints (J_base_Ints a c) Try.f22 (fun r => LeD r (.t (.c (.v (.bool (decide (a = c)))))))) := by
 rw [lp_base_Ints]
 refine ⟨⟨?_, ?_⟩, trivial⟩
 ·intro F s h
  obtain _ | ⟨g, F⟩ := F
  case cons => exact h.elim
  obtain ⟨w0, rfl, hi⟩ := h
  exact zero_base_Ints_0 a c w0 hi
 ·intro n F s h
  obtain _ | ⟨g, F⟩ := F
  case cons => exact h.elim
  obtain ⟨w0, rfl, hi⟩ := h
  rw [er_base_Ints_0]
  exact rnd_base_Ints_0 a c _ _ hp hi
def con_base_Ints : Con := fun args => match args with
 | [.t (.c (.sl 1 n_a c_a)), .t (.c (.sl 1 n_c c_c))] => some (.t (.c (.v (.bool (decide ((listC n_a mkInt c_a) = (listC n_c mkInt c_c)))))), some (numsP 1 n_a c_a ∧ numsP 1 n_c c_c ∧ ((listC n_a mkInt c_a)).length ≤ 1000000), false)
 | _ => none
theorem ok_base_Ints : Ok Try.prog 22 con_base_Ints := by
 refine Ok.fn (ann := ann_base_Ints) mixed tabOK VSd63 ValidIt.no (fn := Try.f22) (by kernel_rfl) (by kernel_rfl) fit_base_Ints fun args r pre fresh h hp => ?_
 unfold con_base_Ints at h
 split at h
 ·rename_i n_a c_a n_c c_c
  cases h
  obtain ⟨hp0, hp1, hp⟩ := hp
  refine ⟨rfl, J_base_Ints (listC n_a mkInt c_a) (listC n_c mkInt c_c), [.t (.c (.sl 1 ((listC n_a mkInt c_a).length) (intsC (listC n_a mkInt c_a)))), .t (.c (.sl 1 ((listC n_c mkInt c_c).length) (intsC (listC n_c mkInt c_c))))], ?_, Nat.le_of_ble_eq_true (by kernel_rfl), ?_, ?_⟩
  ·exact (LeA_cons (leT_c ((leL_int hp0))) (LeA_cons (leT_c ((leL_int hp1))) LeA_nil))
  ·rw [ev_base_Ints]; exact spec_base_Ints (listC n_a mkInt c_a) (listC n_c mkInt c_c) hp
  ·exact all_base_Ints (listC n_a mkInt c_a) (listC n_c mkInt c_c) hp
 ·cases h
def Sd64 : Sum := addS Sd63 22 con_base_Ints
theorem VSd64 : Valid Try.prog Sd64 := Valid.add VSd63 ok_base_Ints
def mk_base_Ranges_0 (a : List Rg) (c : List Rg) (v0_0 : Int) : DS := ⟨[some (.t (.c (.sl 2 a.length (rgsC a)))), some (.t (.c (.sl 2 c.length (rgsC c)))), none, none, none, some (.t (.c (.v (.int .i64 v0_0)))), none, none, none, none, none, none, none, none, none, none, none, none, none, none, none, none, none, none, none, none], [none, none, none, none, none, none, none, none, none, none, none, none, none, none, none, none, none, none, none, none, none, none, none, none, none, none]⟩
def vc_base_Ranges (J : Inv) (a : List Rg) (c : List Rg) (post : DV → Prop) : Prop := cond (((a.length : Nat) : Int) != ((c.length : Nat) : Int)) (post (.t (.c (.v (.bool false))))) (∃ n, J 0 (n :: []) (mk_base_Ranges_0 a c 0))
def ann_base_Ranges : Ann := ⟨fun r => lookA r [(6, ([[], [], [0, 1], [0, 1, 2], [], [], [4, 5], [4, 5, 6], [0, 1, 2, 3, 4, 5, 6, 7]], [[], [], [], [], [], [], [], [], []]))], fun b => lookA b [(0, (none, some ⟨[0, 1, 5], [], []⟩))], fun _ => [], noIt, false, fun _ => none, fun _ => none⟩
theorem ev_base_Ranges (J : Inv) (a : List Rg) (c : List Rg) (post : DV → Prop) : evFn Try.prog tab Sd64 ann_base_Ranges J Try.f43 [.t (.c (.sl 2 a.length (rgsC a))), .t (.c (.sl 2 c.length (rgsC c)))] post = vc_base_Ranges J a c post := by kernel_rfl
theorem fit_base_Ranges : okFn ann_base_Ranges Try.f43 = true := by kernel_rfl
def rd_base_Ranges_0 (J : Inv) (a : List Rg) (c : List Rg) (v0_0 : Int) (nn0 : Nat) (post : DV → Prop) : Prop := cond (decide (v0_0 < ((a.length : Nat) : Int))) ((0 ≤ v0_0 ∧ v0_0 < ((a.length : Nat) : Int)) ∧ ((0 ≤ v0_0 ∧ v0_0 < ((c.length : Nat) : Int)) ∧ (cond (!(bif (((rgAt a v0_0.toNat).lo) == ((rgAt c v0_0.toNat).lo)) then (bif (((rgAt a v0_0.toNat).hi) == ((rgAt c v0_0.toNat).hi)) then true else false) else false)) (post (.t (.c (.v (.bool false))))) (lt (IntKind.i64.wrap (v0_0 + (1 : Int))) fun x1 => J 0 (nn0 :: []) (mk_base_Ranges_0 a c x1))))) (post (.t (.c (.v (.bool true)))))
theorem er_base_Ranges_0 (J : Inv) (a : List Rg) (c : List Rg) (v0_0 : Int) (nn0 : Nat) (post : DV → Prop) : round Try.prog tab Sd64 ann_base_Ranges J Try.f43 post 0 (nn0 :: []) (mk_base_Ranges_0 a c v0_0) = rd_base_Ranges_0 J a c v0_0 nn0 post := by kernel_rfl
theorem lp_base_Ranges (J : Inv) (post : DV → Prop) : AllG J (loopsFn Try.prog tab Sd64 ann_base_Ranges J Try.f43 post) = (((∀ F s, ¬ J 0 (0 :: F) s) ∧ ∀ n F s, J 0 ((n + 1) :: F) s → round Try.prog tab Sd64 ann_base_Ranges J Try.f43 post 0 (n :: F) s) ∧ True) := by kernel_rfl
def J_base_Ranges (a : List Rg) (c : List Rg) : Inv := fun b F s => match b, F with
 | 0, [nn0] => ∃ (v0_0 : Int), s = mk_base_Ranges_0 a c v0_0 ∧ (a.length ≤ 1000000 ∧ 0 ≤ v0_0 ∧ v0_0 ≤ a.length ∧ (nn0 : Int) + v0_0 = a.length + 1 ∧ a.length = c.length ∧ ∀ j : Nat, (j : Int) < v0_0 → rgAt a j = rgAt c j)
 | _, _ => False
theorem rnd_base_Ranges_0 (a : List Rg) (c : List Rg) (v0_0 : Int) (nn0 : Nat) (hp : (a).length ≤ 1000000) (hi : a.length ≤ 1000000 ∧ 0 ≤ v0_0 ∧ v0_0 ≤ a.length ∧ ((nn0 + 1) : Int) + v0_0 = a.length + 1 ∧ a.length = c.length ∧ ∀ j : Nat, (j : Int) < v0_0 → rgAt a j = rgAt c j) : rd_base_Ranges_0 (J_base_Ranges a c) a c v0_0 nn0 (fun r => LeD r (.t (.c (.v (.bool (decide (a = c))))))) := by
 obtain ⟨i0, i1, i2, i3, i4, i5⟩ := hi
 obtain ⟨k, rfl⟩ : ∃ k : Nat, v0_0 = k := ⟨v0_0.toNat, by omega⟩
 have hk : (k : Int).toNat = k := rfl
 unfold rd_base_Ranges_0
 rw [hk]
 refine cond_i (fun h => ?_) (fun h => leB ?_)
 ·have hlt : k < a.length := by have := of_decide_eq_true h; omega
  refine ⟨by omega, by omega, cond_i (fun e => leB ?_) (fun e => lt_i fun x hx => ?_)⟩
  ·refine (decide_eq_false fun q => ?_).symm
   rw [q] at e
   simp at e
  ·have e : rgAt a k = rgAt c k := by 
    rw [rg_ext]
    cases e1 : ((rgAt a k).lo == (rgAt c k).lo) <;> cases e2 : ((rgAt a k).hi == (rgAt c k).hi) <;> simp_all
   rw [wi (by omega)] at hx
   subst hx
   exact ⟨_, rfl, i0, by omega, by omega, by omega, i4, fun j hj => by
    by_cases q : j = k
    ·rw [q]; exact e
    ·exact i5 j (by omega)⟩
 ·have hge : k = a.length := by have := of_decide_eq_false h; omega
  refine (decide_eq_true (List.ext_getElem? fun i => ?_)).symm
  by_cases hi : i < a.length
  ·have := i5 i (by omega)
   have h2 : i < c.length := by omega
   simpa [rgAt, List.getD, hi, h2] using this
  ·rw [List.getElem?_eq_none (by omega), List.getElem?_eq_none (by omega)]
theorem zero_base_Ranges_0 (a : List Rg) (c : List Rg) (v0_0 : Int)  (hi : a.length ≤ 1000000 ∧ 0 ≤ v0_0 ∧ v0_0 ≤ a.length ∧ (0 : Int) + v0_0 = a.length + 1 ∧ a.length = c.length ∧ ∀ j : Nat, (j : Int) < v0_0 → rgAt a j = rgAt c j) : False := by
 omega
theorem spec_base_Ranges (a : List Rg) (c : List Rg) (hp : (a).length ≤ 1000000) : vc_base_Ranges (J_base_Ranges a c) a c (fun r => LeD r (.t (.c (.v (.bool (decide (a = c))))))) := by
  unfold vc_base_Ranges
  refine cond_i (fun h => leB ?_) (fun h => ?_)
  · have h : a.length ≠ c.length := by intro e; rw [e] at h; simp at h
    exact (decide_eq_false fun e => h (by rw [e])).symm
  · have h : a.length = c.length := by have h : (a.length : Int) = c.length := by simpa using h
                                       omega
    exact ⟨a.length + 1, 0, rfl, hp, by omega, by omega, by omega, h, fun j hj => by omega⟩
theorem all_base_Ranges (a : List Rg) (c : List Rg) (hp : (a).length ≤ 1000000) : AllG (J_base_Ranges a c) (loopsFn Try.prog tab Sd64 ann_base_Ranges (J_base_Ranges a c) Try.f43 (fun r => LeD r (.t (.c (.v (.bool (decide (a = c)))))))) := by
 rw [lp_base_Ranges]
 refine ⟨⟨?_, ?_⟩, trivial⟩
 ·intro F s h
  obtain _ | ⟨g, F⟩ := F
  case cons => exact h.elim
  obtain ⟨w0, rfl, hi⟩ := h
  exact zero_base_Ranges_0 a c w0 hi
 ·intro n F s h
  obtain _ | ⟨g, F⟩ := F
  case cons => exact h.elim
  obtain ⟨w0, rfl, hi⟩ := h
  rw [er_base_Ranges_0]
  exact rnd_base_Ranges_0 a c _ _ hp hi
def con_base_Ranges : Con := fun args => match args with
 | [.t (.c (.sl 2 n_a c_a)), .t (.c (.sl 2 n_c c_c))] => some (.t (.c (.v (.bool (decide ((listC n_a mkRg c_a) = (listC n_c mkRg c_c)))))), some (numsP 2 n_a c_a ∧ numsP 2 n_c c_c ∧ ((listC n_a mkRg c_a)).length ≤ 1000000), false)
 | _ => none
theorem ok_base_Ranges : Ok Try.prog 43 con_base_Ranges := by
 refine Ok.fn (ann := ann_base_Ranges) mixed tabOK VSd64 ValidIt.no (fn := Try.f43) (by kernel_rfl) (by kernel_rfl) fit_base_Ranges fun args r pre fresh h hp => ?_
 unfold con_base_Ranges at h
 split at h
 ·rename_i n_a c_a n_c c_c
  cases h
  obtain ⟨hp0, hp1, hp⟩ := hp
  refine ⟨rfl, J_base_Ranges (listC n_a mkRg c_a) (listC n_c mkRg c_c), [.t (.c (.sl 2 ((listC n_a mkRg c_a).length) (rgsC (listC n_a mkRg c_a)))), .t (.c (.sl 2 ((listC n_c mkRg c_c).length) (rgsC (listC n_c mkRg c_c))))], ?_, Nat.le_of_ble_eq_true (by kernel_rfl), ?_, ?_⟩
  ·exact (LeA_cons (leT_c ((leL_Rg hp0))) (LeA_cons (leT_c ((leL_Rg hp1))) LeA_nil))
  ·rw [ev_base_Ranges]; exact spec_base_Ranges (listC n_a mkRg c_a) (listC n_c mkRg c_c) hp
  ·exact all_base_Ranges (listC n_a mkRg c_a) (listC n_c mkRg c_c) hp
 ·cases h
def Sd65 : Sum := addS Sd64 43 con_base_Ranges
theorem VSd65 : Valid Try.prog Sd65 := Valid.add VSd64 ok_base_Ranges
def mk_base_Has_0 (l : List Int) (x : Int) (v0_0 : Int) : DS := ⟨[some (.t (.c (.sl 1 l.length (intsC l)))), some (.t (.c (.v (.int .i64 x)))), none, none, none, some (.t (.c (.v (.int .i64 v0_0)))), none, none, none, none, none, none, none, none, none, none, none, none], [none, none, none, none, none, none, none, none, none, none, none, none, none, none, none, none, none, none]⟩
def vc_base_Has (J : Inv) (l : List Int) (x : Int) (post : DV → Prop) : Prop := ∃ n, J 0 (n :: []) (mk_base_Has_0 l x 0)
def ann_base_Has : Ann := ⟨fun _ => none, fun b => lookA b [(0, (none, some ⟨[0, 1, 5], [], []⟩))], fun _ => [], noIt, false, fun _ => none, fun _ => none⟩
theorem ev_base_Has (J : Inv) (l : List Int) (x : Int) (post : DV → Prop) : evFn Try.prog tab Sd65 ann_base_Has J Try.f30 [.t (.c (.sl 1 l.length (intsC l))), .t (.c (.v (.int .i64 x)))] post = vc_base_Has J l x post := by kernel_rfl
theorem fit_base_Has : okFn ann_base_Has Try.f30 = true := by kernel_rfl
def rd_base_Has_0 (J : Inv) (l : List Int) (x : Int) (v0_0 : Int) (nn0 : Nat) (post : DV → Prop) : Prop := cond (decide (v0_0 < ((l.length : Nat) : Int))) ((0 ≤ v0_0 ∧ v0_0 < ((l.length : Nat) : Int)) ∧ (cond ((l.getD v0_0.toNat 0) == x) (post (.t (.c (.v (.bool true))))) (lt (IntKind.i64.wrap (v0_0 + (1 : Int))) fun x1 => J 0 (nn0 :: []) (mk_base_Has_0 l x x1)))) (post (.t (.c (.v (.bool false)))))
theorem er_base_Has_0 (J : Inv) (l : List Int) (x : Int) (v0_0 : Int) (nn0 : Nat) (post : DV → Prop) : round Try.prog tab Sd65 ann_base_Has J Try.f30 post 0 (nn0 :: []) (mk_base_Has_0 l x v0_0) = rd_base_Has_0 J l x v0_0 nn0 post := by kernel_rfl
theorem lp_base_Has (J : Inv) (post : DV → Prop) : AllG J (loopsFn Try.prog tab Sd65 ann_base_Has J Try.f30 post) = (((∀ F s, ¬ J 0 (0 :: F) s) ∧ ∀ n F s, J 0 ((n + 1) :: F) s → round Try.prog tab Sd65 ann_base_Has J Try.f30 post 0 (n :: F) s) ∧ True) := by kernel_rfl
def J_base_Has (l : List Int) (x : Int) : Inv := fun b F s => match b, F with
 | 0, [nn0] => ∃ (v0_0 : Int), s = mk_base_Has_0 l x v0_0 ∧ (l.length ≤ 1000000 ∧ 0 ≤ v0_0 ∧ v0_0 ≤ l.length ∧ (nn0 : Int) + v0_0 = l.length + 1 ∧ ∀ k : Nat, (k : Int) < v0_0 → l.getD k 0 ≠ x)
 | _, _ => False
theorem rnd_base_Has_0 (l : List Int) (x : Int) (v0_0 : Int) (nn0 : Nat) (hp : (l).length ≤ 1000000) (hi : l.length ≤ 1000000 ∧ 0 ≤ v0_0 ∧ v0_0 ≤ l.length ∧ ((nn0 + 1) : Int) + v0_0 = l.length + 1 ∧ ∀ k : Nat, (k : Int) < v0_0 → l.getD k 0 ≠ x) : rd_base_Has_0 (J_base_Has l x) l x v0_0 nn0 (fun r => LeD r (.t (.c (.v (.bool ((l).contains x)))))) := by
 obtain ⟨i0, i1, i2, i3, i4⟩ := hi
 obtain ⟨k, rfl⟩ : ∃ k : Nat, v0_0 = k := ⟨v0_0.toNat, by omega⟩
 have hk : (k : Int).toNat = k := rfl
 unfold rd_base_Has_0
 rw [hk]
 refine cond_i (fun h => ?_) (fun h => leB ?_)
 ·have hlt : k < l.length := by have := of_decide_eq_true h; omega
  refine ⟨by omega, cond_i (fun e => leB ?_) (fun e => lt_i fun y hy => ?_)⟩
  ·have e : l.getD k 0 = x := by simpa using e
   exact (List.contains_iff_mem.2 (e ▸ getD_mem' hlt)).symm
  ·rw [wi (by omega)] at hy
   subst hy
   refine ⟨_, rfl, i0, by omega, by omega, by omega, fun j hj => ?_⟩
   by_cases q : j = k
   ·rw [q]; simpa using e
   ·exact i4 j (by omega)
 ·have hge : k = l.length := by have := of_decide_eq_false h; omega
  refine (Bool.eq_false_iff.2 fun q => ?_).symm
  obtain ⟨j, hj, e⟩ := mem_getD' (List.contains_iff_mem.1 q)
  exact i4 j (by omega) e
theorem zero_base_Has_0 (l : List Int) (x : Int) (v0_0 : Int)  (hi : l.length ≤ 1000000 ∧ 0 ≤ v0_0 ∧ v0_0 ≤ l.length ∧ (0 : Int) + v0_0 = l.length + 1 ∧ ∀ k : Nat, (k : Int) < v0_0 → l.getD k 0 ≠ x) : False := by
 omega
theorem spec_base_Has (l : List Int) (x : Int) (hp : (l).length ≤ 1000000) : vc_base_Has (J_base_Has l x) l x (fun r => LeD r (.t (.c (.v (.bool ((l).contains x)))))) := by
 unfold vc_base_Has
 exact ⟨l.length + 1, 0, rfl, hp, by omega, by omega, by omega, fun j hj => by omega⟩
theorem all_base_Has (l : List Int) (x : Int) (hp : (l).length ≤ 1000000) : AllG (J_base_Has l x) (loopsFn Try.prog tab Sd65 ann_base_Has (J_base_Has l x) Try.f30 (fun r => LeD r (.t (.c (.v (.bool ((l).contains x))))))) := by
 rw [lp_base_Has]
 refine ⟨⟨?_, ?_⟩, trivial⟩
 ·intro F s h
  obtain _ | ⟨g, F⟩ := F
  case cons => exact h.elim
  obtain ⟨w0, rfl, hi⟩ := h
  exact zero_base_Has_0 l x w0 hi
 ·intro n F s h
  obtain _ | ⟨g, F⟩ := F
  case cons => exact h.elim
  obtain ⟨w0, rfl, hi⟩ := h
  rw [er_base_Has_0]
  exact rnd_base_Has_0 l x _ _ hp hi
def con_base_Has : Con := fun args => match args with
 | [.t (.c (.sl 1 n_l c_l)), .t (.c (.v (.int .i64 x)))] => some (.t (.c (.v (.bool (((listC n_l mkInt c_l)).contains x)))), some (numsP 1 n_l c_l ∧ ((listC n_l mkInt c_l)).length ≤ 1000000), false)
 | _ => none
theorem ok_base_Has : Ok Try.prog 30 con_base_Has := by
 refine Ok.fn (ann := ann_base_Has) mixed tabOK VSd65 ValidIt.no (fn := Try.f30) (by kernel_rfl) (by kernel_rfl) fit_base_Has fun args r pre fresh h hp => ?_
 unfold con_base_Has at h
 split at h
 ·rename_i n_l c_l x
  cases h
  obtain ⟨hp0, hp⟩ := hp
  refine ⟨rfl, J_base_Has (listC n_l mkInt c_l) x, [.t (.c (.sl 1 ((listC n_l mkInt c_l).length) (intsC (listC n_l mkInt c_l)))), .t (.c (.v (.int .i64 x)))], ?_, Nat.le_of_ble_eq_true (by kernel_rfl), ?_, ?_⟩
  ·exact (LeA_cons (leT_c ((leL_int hp0))) (LeA_cons (LeD.refl _) LeA_nil))
  ·rw [ev_base_Has]; exact spec_base_Has (listC n_l mkInt c_l) x hp
  ·exact all_base_Has (listC n_l mkInt c_l) x hp
 ·cases h
def Sd66 : Sum := addS Sd65 30 con_base_Has
theorem VSd66 : Valid Try.prog Sd66 := Valid.add VSd65 ok_base_Has
def mk_clock_leapsErr_0 (l : List Lp) (v0_0 : Int) : DS := ⟨[some (.t (.c (.sl 2 l.length (lppsC l)))), none, none, none, none, none, none, none, none, none, some (.t (.c (.sl 2 l.length (lppsC l)))), some (.t (.c (.v (.int .i64 ((l.length : Nat) : Int))))), some (.t (.c (.v (.int .i64 v0_0)))), none, none, none, none, none, none, none, none, none, none, none, none, none, none, none, none, none, none, none, none, none, none, none, none, none, none, none, none, none, none, none, none, none, none, none, none, none, none, none], [none, none, none, none, none, none, none, none, none, none, none, none, none, none, none, none, none, none, none, none, none, none, none, none, none, none, none, none, none, none, none, none, none, none, none, none, none, none, none, none, none, none, none, none, none, none, none, none, none, none, none, none]⟩
def vc_clock_leapsErr (J : Inv) (l : List Lp) (post : DV → Prop) : Prop := cond (decide (((l.length : Nat) : Int) > (10 : Int))) (post (.t (.c (.v (.int .i64 8))))) (∃ n, J 0 (n :: []) (mk_clock_leapsErr_0 l 0))
def ann_clock_leapsErr : Ann := ⟨fun r => lookA r [(7, ([[], [0], [], [2], [2, 3], [0, 1, 2, 3, 4], [], [6], [0, 1, 2, 3, 4, 5, 6, 7], [0, 1, 2, 3, 4, 5, 6, 7, 8], [0, 1, 2, 3, 4, 5, 6, 7, 8, 9], [0, 1, 2, 3, 4, 5, 6, 7, 8], [0, 1, 2, 3, 4, 5, 6, 7, 8], [0, 1, 2, 3, 4, 5, 6, 7, 8, 12], [0, 1, 2, 3, 4, 5, 6, 7, 8, 12, 13], [0, 1, 2, 3, 4, 5, 6, 7, 8, 11, 12, 13, 14], [0, 1, 2, 3, 4, 5, 6, 7, 8, 11, 12, 13, 14, 15], [0, 1, 2, 3, 4, 5, 6, 7, 8, 11, 12, 13, 14, 15, 16], [0, 1, 2, 3, 4, 5, 6, 7, 8, 9, 10, 11, 12, 13, 14, 15, 16, 17], [0, 1, 2, 3, 4, 5, 6, 7, 8, 9, 10, 11, 12, 13, 14, 15, 16, 17, 18], [0, 1, 2, 3, 4, 5, 6, 7, 8, 9, 10, 11, 12, 13, 14, 15, 16, 17, 18, 19], [0, 1, 2, 3, 4, 5, 6, 7, 8, 9, 10, 11, 12, 13, 14, 15, 16, 17, 18, 19, 20], [0, 1, 2, 3, 4, 5, 6, 7, 8, 9, 10, 11, 12, 13, 14, 15, 16, 17, 18, 19, 20, 21], [0, 1, 2, 3, 4, 5, 6, 7, 8, 9, 10, 11, 12, 13, 14, 15, 16, 17, 18, 19, 20, 21, 22]], [[26, 30, 45, 46, 47], [30, 45, 46, 47], [26, 30, 45, 46, 47], [26, 30, 45, 46, 47], [26, 30, 45, 46, 47], [45, 46, 47], [26, 30, 45, 46, 47], [26, 30, 45, 46, 47], [45, 46, 47], [45, 46, 47], [45, 46, 47], [45, 46, 47], [45, 46, 47], [45, 46, 47], [45, 46, 47], [45, 46, 47], [45, 46, 47], [45, 46, 47], [45, 46, 47], [45, 46, 47], [46, 47], [47], [], []]))], fun b => lookA b [(0, (none, some ⟨[0, 10, 11, 12], [], []⟩))], fun _ => [], noIt, false, fun r => lookA r [(6, (4, [5]))], fun _ => none⟩
theorem ev_clock_leapsErr (J : Inv) (l : List Lp) (post : DV → Prop) : evFn Try.prog tab Sd66 ann_clock_leapsErr J Try.f84 [.t (.c (.sl 2 l.length (lppsC l)))] post = vc_clock_leapsErr J l post := by kernel_rfl
theorem fit_clock_leapsErr : okFn ann_clock_leapsErr Try.f84 = true := by kernel_rfl
def rd_clock_leapsErr_0 (J : Inv) (l : List Lp) (v0_0 : Int) (nn0 : Nat) (post : DV → Prop) : Prop := cond (decide (v0_0 < ((l.length : Nat) : Int))) ((0 ≤ v0_0 ∧ v0_0 < ((l.length : Nat) : Int)) ∧ ((cond (tkB ((lppAt l v0_0.toNat).tick)) (True) ((false = false) ∧ (True))) ∧ (lt ((bif tkB ((lppAt l v0_0.toNat).tick) then inB ((lppAt l v0_0.toNat).step) (-1000000 : Int) (1000000 : Int) else false)) fun x1 => cond (v0_0 == (0 : Int)) ((true = true) ∧ ((numsP 1 3 (genC [[.v (.int .i64 (unl x1 (2 : Int)))], [.v (.int .i64 (unl (((lppAt l v0_0.toNat).step) != (0 : Int)) (11 : Int)))], [.v (.int .i64 (unl true (9 : Int)))]]) ∧ (([(unl x1 (2 : Int)), (unl (((lppAt l v0_0.toNat).step) != (0 : Int)) (11 : Int)), (unl true (9 : Int))] : List Int)).length ≤ 100) ∧ (cond ((firstNZ ([(unl x1 (2 : Int)), (unl (((lppAt l v0_0.toNat).step) != (0 : Int)) (11 : Int)), (unl true (9 : Int))] : List Int)) != (0 : Int)) (post (.t (.c (.v (.int .i64 (firstNZ ([(unl x1 (2 : Int)), (unl (((lppAt l v0_0.toNat).step) != (0 : Int)) (11 : Int)), (unl true (9 : Int))] : List Int))))))) (lt (IntKind.i64.wrap (v0_0 + (1 : Int))) fun x2 => J 0 (nn0 :: []) (mk_clock_leapsErr_0 l x2))))) (lt (IntKind.i64.wrap (v0_0 - (1 : Int))) fun x3 => lt ((if x3 > (0 : Int) then x3 else (0 : Int))) fun x4 => (0 ≤ x4 ∧ x4 < ((l.length : Nat) : Int)) ∧ ((numsP 1 3 (genC [[.v (.int .i64 (unl x1 (2 : Int)))], [.v (.int .i64 (unl (((lppAt l v0_0.toNat).step) != (0 : Int)) (11 : Int)))], [.v (.int .i64 (unl (decide (((lppAt l v0_0.toNat).tick) > ((lppAt l x4.toNat).tick))) (9 : Int)))]]) ∧ (([(unl x1 (2 : Int)), (unl (((lppAt l v0_0.toNat).step) != (0 : Int)) (11 : Int)), (unl (decide (((lppAt l v0_0.toNat).tick) > ((lppAt l x4.toNat).tick))) (9 : Int))] : List Int)).length ≤ 100) ∧ (cond ((firstNZ ([(unl x1 (2 : Int)), (unl (((lppAt l v0_0.toNat).step) != (0 : Int)) (11 : Int)), (unl (decide (((lppAt l v0_0.toNat).tick) > ((lppAt l x4.toNat).tick))) (9 : Int))] : List Int)) != (0 : Int)) (post (.t (.c (.v (.int .i64 (firstNZ ([(unl x1 (2 : Int)), (unl (((lppAt l v0_0.toNat).step) != (0 : Int)) (11 : Int)), (unl (decide (((lppAt l v0_0.toNat).tick) > ((lppAt l x4.toNat).tick))) (9 : Int))] : List Int))))))) (lt (IntKind.i64.wrap (v0_0 + (1 : Int))) fun x5 => J 0 (nn0 :: []) (mk_clock_leapsErr_0 l x5)))))))) (post (.t (.c (.v (.int .i64 0)))))
theorem er_clock_leapsErr_0 (J : Inv) (l : List Lp) (v0_0 : Int) (nn0 : Nat) (post : DV → Prop) : round Try.prog tab Sd66 ann_clock_leapsErr J Try.f84 post 0 (nn0 :: []) (mk_clock_leapsErr_0 l v0_0) = rd_clock_leapsErr_0 J l v0_0 nn0 post := by kernel_rfl
theorem lp_clock_leapsErr (J : Inv) (post : DV → Prop) : AllG J (loopsFn Try.prog tab Sd66 ann_clock_leapsErr J Try.f84 post) = (((∀ F s, ¬ J 0 (0 :: F) s) ∧ ∀ n F s, J 0 ((n + 1) :: F) s → round Try.prog tab Sd66 ann_clock_leapsErr J Try.f84 post 0 (n :: F) s) ∧ True) := by kernel_rfl
def J_clock_leapsErr (l : List Lp) : Inv := fun b F s => match b, F with
 | 0, [nn0] => ∃ (v0_0 : Int), s = mk_clock_leapsErr_0 l v0_0 ∧ ((¬ (l.length : Int) > 10) ∧ 0 ≤ v0_0 ∧ v0_0 ≤ l.length ∧ (nn0 : Int) + v0_0 = l.length + 1 ∧ ∀ j : Nat, (j : Int) < v0_0 → lpS1 l j = 0)
 | _, _ => False
theorem rnd_clock_leapsErr_0 (l : List Lp) (v0_0 : Int) (nn0 : Nat) (hi : (¬ (l.length : Int) > 10) ∧ 0 ≤ v0_0 ∧ v0_0 ≤ l.length ∧ ((nn0 + 1) : Int) + v0_0 = l.length + 1 ∧ ∀ j : Nat, (j : Int) < v0_0 → lpS1 l j = 0) : rd_clock_leapsErr_0 (J_clock_leapsErr l) l v0_0 nn0 (fun r => LeD r (.t (.c (.v (.int .i64 (lpE l)))))) := by
 obtain ⟨i0, i1, i2, i3, i4⟩ := hi
 obtain ⟨k, rfl⟩ : ∃ k : Nat, v0_0 = k := ⟨v0_0.toNat, by omega⟩
 have hk : (k : Int).toNat = k := rfl
 unfold rd_clock_leapsErr_0
 rw [hk]
 refine cond_i (fun h => ?_) (fun h => leI ?_)
 ·have hlt : k < l.length := by have := of_decide_eq_true h; omega
  have fin : ∀ e9 : Int, e9 = lpS1 l k → cond (e9 != 0) (LeD (.t (.c (.v (.int .i64 e9)))) (.t (.c (.v (.int .i64 (lpE l)))))) (lt (IntKind.i64.wrap ((k : Int) + 1)) fun x2 => J_clock_leapsErr l 0 (nn0 :: []) (mk_clock_leapsErr_0 l x2)) := by
   intro e9 he
   refine cond_i (fun g => leI ?_) (fun g => lt_i fun x hx => ?_)
   ·have g : lpS1 l k ≠ 0 := by rw [← he]; simpa using g
    rw [he]
    exact ((if_neg i0).trans (scan_at (fun j hj => i4 j (by omega)) hlt g)).symm
   ·have g : lpS1 l k = 0 := by rw [← he]; simpa using g
    rw [wi (by omega)] at hx
    subst hx
    refine ⟨_, rfl, i0, by omega, by omega, by omega, fun j hj => ?_⟩
    by_cases c : j = k
    ·rw [c]; exact g
    ·exact i4 j (by omega)
  refine ⟨by omega, cond_i (fun _ => trivial) (fun _ => ⟨rfl, trivial⟩), lt_i fun x1 h1 => cond_i (fun g => ⟨rfl, ⟨numsP_gen [_, _, _], Nat.le_of_ble_eq_true rfl⟩, fin _ ?_⟩) (fun g => lt_i fun x3 h3 => lt_i fun x4 h4 => ?_)⟩
  ·have g : (k : Int) = 0 := by simpa using g
   unfold lpS1
   rw [← h1, decide_eq_true g, show ((lppAt l k).step != 0) = decide ((lppAt l k).step ≠ 0) by rw [decide_not]; rfl]
   cases tkB (lppAt l k).tick <;> rfl
  ·have g : ¬ (k : Int) = 0 := by simpa using g
   rw [wi (by omega)] at h3
   obtain ⟨m, hm⟩ : ∃ m : Nat, x4 = m := ⟨x4.toNat, by split at h4 <;> omega⟩
   have hm2 : m = k - 1 := by split at h4 <;> omega
   subst hm
   subst hm2
   have hm3 : ((k - 1 : Nat) : Int).toNat = k - 1 := rfl
   rw [hm3]
   refine ⟨by omega, ⟨numsP_gen [_, _, _], Nat.le_of_ble_eq_true rfl⟩, fin _ ?_⟩
   unfold lpS1
   rw [← h1, decide_eq_false g, show ((lppAt l k).step != 0) = decide ((lppAt l k).step ≠ 0) by rw [decide_not]; rfl]
   cases tkB (lppAt l k).tick <;> rfl
 ·have h := of_decide_eq_false h
  exact ((if_neg i0).trans (scan_end fun j hj => i4 j (by omega))).symm
theorem zero_clock_leapsErr_0 (l : List Lp) (v0_0 : Int)  (hi : (¬ (l.length : Int) > 10) ∧ 0 ≤ v0_0 ∧ v0_0 ≤ l.length ∧ (0 : Int) + v0_0 = l.length + 1 ∧ ∀ j : Nat, (j : Int) < v0_0 → lpS1 l j = 0) : False := by
 omega
theorem spec_clock_leapsErr (l : List Lp) : vc_clock_leapsErr (J_clock_leapsErr l) l (fun r => LeD r (.t (.c (.v (.int .i64 (lpE l)))))) := by
 unfold vc_clock_leapsErr
 refine cond_i (fun h => leI ?_) (fun h => ?_)
 ·exact (if_pos (of_decide_eq_true h)).symm
 ·have h := of_decide_eq_false h
  exact ⟨l.length + 1, 0, rfl, h, by omega, by omega, by omega, fun j hj => by omega⟩
theorem all_clock_leapsErr (l : List Lp) : AllG (J_clock_leapsErr l) (loopsFn Try.prog tab Sd66 ann_clock_leapsErr (J_clock_leapsErr l) Try.f84 (fun r => LeD r (.t (.c (.v (.int .i64 (lpE l))))))) := by
 rw [lp_clock_leapsErr]
 refine ⟨⟨?_, ?_⟩, trivial⟩
 ·intro F s h
  obtain _ | ⟨g, F⟩ := F
  case cons => exact h.elim
  obtain ⟨w0, rfl, hi⟩ := h
  exact zero_clock_leapsErr_0 l w0 hi
 ·intro n F s h
  obtain _ | ⟨g, F⟩ := F
  case cons => exact h.elim
  obtain ⟨w0, rfl, hi⟩ := h
  rw [er_clock_leapsErr_0]
  exact rnd_clock_leapsErr_0 l _ _ hi
def con_clock_leapsErr : Con := fun args => match args with
 | [.t (.c (.sl 2 n_l c_l))] => some (.t (.c (.v (.int .i64 (lpE (listC n_l mkLpp c_l))))), some (numsP 2 n_l c_l), false)
 | _ => none
theorem ok_clock_leapsErr : Ok Try.prog 84 con_clock_leapsErr := by
 refine Ok.fn (ann := ann_clock_leapsErr) mixed tabOK VSd66 ValidIt.no (fn := Try.f84) (by kernel_rfl) (by kernel_rfl) fit_clock_leapsErr fun args r pre fresh h hp => ?_
 unfold con_clock_leapsErr at h
 split at h
 ·rename_i n_l c_l
  cases h
  have hp0 := hp
  refine ⟨rfl, J_clock_leapsErr (listC n_l mkLpp c_l), [.t (.c (.sl 2 ((listC n_l mkLpp c_l).length) (lppsC (listC n_l mkLpp c_l))))], ?_, Nat.le_of_ble_eq_true (by kernel_rfl), ?_, ?_⟩
  ·exact (LeA_cons (leT_c ((leL_Lp hp0))) LeA_nil)
  ·rw [ev_clock_leapsErr]; exact spec_clock_leapsErr (listC n_l mkLpp c_l)
  ·exact all_clock_leapsErr (listC n_l mkLpp c_l)
 ·cases h
def Sd67 : Sum := addS Sd66 84 con_clock_leapsErr
theorem VSd67 : Valid Try.prog Sd67 := Valid.add VSd66 ok_clock_leapsErr
def mk_ref01_LeapsErr_0 (l : List Lp) (v0_0 : Int) : DS := ⟨[some (.t (.c (.sl 2 l.length (lppsC l)))), none, none, some (.t (.c (.v (.int .i64 v0_0)))), none, none, none, none, none, none, none, none, none, none, none, none, none, none, none, none, none, none, none, none, none, none, none, none, none, none, none, none, none, none, none, none, none, none, none, none, none, none, none, none, none, none, none, none, none, none, none], [none, none, none, none, none, none, none, none, none, none, none, none, none, none, none, none, none, none, none, none, none, none, none, none, none, none, none, none, none, none, none, none, none, none, none, none, none, none, none, none, none, none, none, none, none, none, none, none, none, none, none]⟩
def vc_ref01_LeapsErr (J : Inv) (l : List Lp) (post : DV → Prop) : Prop := cond (decide (((l.length : Nat) : Int) > (10 : Int))) (post (.t (.c (.v (.int .i64 8))))) (∃ n, J 0 (n :: []) (mk_ref01_LeapsErr_0 l 0))
def ann_ref01_LeapsErr : Ann := ⟨fun r => lookA r [(10, ([[], [0], [0, 1], [0, 1, 2], [0, 1, 2], [0, 1, 2, 3, 4], [0, 1, 2, 3, 4, 5], [0, 1, 2, 3, 4, 5, 6], [0, 1, 2], [0, 1, 2], [0, 1, 2, 9], [0, 1, 2, 8, 9, 10], [0, 1, 2, 8, 9, 10, 11], [0, 1, 2, 8, 9, 10, 11, 12], [0, 1, 2, 3, 4, 5, 6, 7, 8, 9, 10, 11, 12, 13], [0, 1, 2, 3, 4, 5, 6, 7, 8, 9, 10, 11, 12, 13, 14]], [[], [], [], [], [], [], [], [], [], [], [], [], [], [], [], []]))], fun b => lookA b [(0, (none, some ⟨[0, 3], [], []⟩))], fun _ => [], noIt, false, fun r => lookA r [(6, (8, [28])), (10, (3, [50]))], fun _ => none⟩
theorem ev_ref01_LeapsErr (J : Inv) (l : List Lp) (post : DV → Prop) : evFn Try.prog tab Sd67 ann_ref01_LeapsErr J Try.f24 [.t (.c (.sl 2 l.length (lppsC l)))] post = vc_ref01_LeapsErr J l post := by kernel_rfl
theorem fit_ref01_LeapsErr : okFn ann_ref01_LeapsErr Try.f24 = true := by kernel_rfl
def rd_ref01_LeapsErr_0 (J : Inv) (l : List Lp) (v0_0 : Int) (nn0 : Nat) (post : DV → Prop) : Prop := cond (decide (v0_0 < ((l.length : Nat) : Int))) ((0 ≤ v0_0 ∧ v0_0 < ((l.length : Nat) : Int)) ∧ ((cond (!(tkB ((lppAt l v0_0.toNat).tick))) ((true = true) ∧ (True)) ((0 ≤ v0_0 ∧ v0_0 < ((l.length : Nat) : Int)) ∧ (True))) ∧ (lt ((bif (!(tkB ((lppAt l v0_0.toNat).tick))) then true else (!(inB ((lppAt l v0_0.toNat).step) (-1000000 : Int) (1000000 : Int))))) fun x1 => cond x1 (post (.t (.c (.v (.int .i64 2))))) ((0 ≤ v0_0 ∧ v0_0 < ((l.length : Nat) : Int)) ∧ (cond (((lppAt l v0_0.toNat).step) == (0 : Int)) (post (.t (.c (.v (.int .i64 11))))) ((cond (decide (v0_0 > (0 : Int))) ((0 ≤ v0_0 ∧ v0_0 < ((l.length : Nat) : Int)) ∧ (lt (IntKind.i64.wrap (v0_0 - (1 : Int))) fun x3 => (0 ≤ x3 ∧ x3 < ((l.length : Nat) : Int)) ∧ (True))) ((false = false) ∧ (True))) ∧ (lt ((bif decide (v0_0 > (0 : Int)) then decide (((lppAt l v0_0.toNat).tick) ≤ ((lppAt l ((IntKind.i64.wrap (v0_0 - (1 : Int))).toNat)).tick)) else false)) fun x4 => cond x4 (post (.t (.c (.v (.int .i64 9))))) (lt (IntKind.i64.wrap (v0_0 + (1 : Int))) fun x5 => J 0 (nn0 :: []) (mk_ref01_LeapsErr_0 l x5))))))))) (post (.t (.c (.v (.int .i64 0)))))
theorem er_ref01_LeapsErr_0 (J : Inv) (l : List Lp) (v0_0 : Int) (nn0 : Nat) (post : DV → Prop) : round Try.prog tab Sd67 ann_ref01_LeapsErr J Try.f24 post 0 (nn0 :: []) (mk_ref01_LeapsErr_0 l v0_0) = rd_ref01_LeapsErr_0 J l v0_0 nn0 post := by kernel_rfl
theorem lp_ref01_LeapsErr (J : Inv) (post : DV → Prop) : AllG J (loopsFn Try.prog tab Sd67 ann_ref01_LeapsErr J Try.f24 post) = (((∀ F s, ¬ J 0 (0 :: F) s) ∧ ∀ n F s, J 0 ((n + 1) :: F) s → round Try.prog tab Sd67 ann_ref01_LeapsErr J Try.f24 post 0 (n :: F) s) ∧ True) := by kernel_rfl
def J_ref01_LeapsErr (l : List Lp) : Inv := fun b F s => match b, F with
 | 0, [nn0] => ∃ (v0_0 : Int), s = mk_ref01_LeapsErr_0 l v0_0 ∧ ((¬ (l.length : Int) > 10) ∧ 0 ≤ v0_0 ∧ v0_0 ≤ l.length ∧ (nn0 : Int) + v0_0 = l.length + 1 ∧ ∀ j : Nat, (j : Int) < v0_0 → lpS1 l j = 0)
 | _, _ => False
theorem rnd_ref01_LeapsErr_0 (l : List Lp) (v0_0 : Int) (nn0 : Nat) (hi : (¬ (l.length : Int) > 10) ∧ 0 ≤ v0_0 ∧ v0_0 ≤ l.length ∧ ((nn0 + 1) : Int) + v0_0 = l.length + 1 ∧ ∀ j : Nat, (j : Int) < v0_0 → lpS1 l j = 0) : rd_ref01_LeapsErr_0 (J_ref01_LeapsErr l) l v0_0 nn0 (fun r => LeD r (.t (.c (.v (.int .i64 (lpE l)))))) := by
 obtain ⟨i0, i1, i2, i3, i4⟩ := hi
 obtain ⟨k, rfl⟩ : ∃ k : Nat, v0_0 = k := ⟨v0_0.toNat, by omega⟩
 have hk : (k : Int).toNat = k := rfl
 have hw : (IntKind.i64.wrap ((k : Int) - 1)).toNat = k - 1 := by rw [wi (by omega)]; omega
 unfold rd_ref01_LeapsErr_0
 rw [hk, hw]
 refine cond_i (fun h => ?_) (fun h => leI ?_)
 ·have hlt : k < l.length := by have := of_decide_eq_true h; omega
  have bad : ∀ e9 : Int, e9 = lpS1 l k → e9 ≠ 0 → e9 = lpE l := fun e9 he hn => by
   rw [he] at hn ⊢
   exact ((if_neg i0).trans (scan_at (fun j hj => i4 j (by omega)) hlt hn)).symm
  refine ⟨by omega, cond_i (fun _ => ⟨rfl, trivial⟩) (fun _ => ⟨by omega, trivial⟩), lt_i fun x1 h1 => cond_i (fun g => leI (bad _ ?_ (by decide))) (fun g => ⟨by omega, cond_i (fun f => leI (bad _ ?_ (by decide))) (fun f => ⟨?_, lt_i fun x4 h4 => cond_i (fun q => leI (bad _ ?_ (by decide))) (fun q => lt_i fun x hx => ?_)⟩)⟩)⟩
  ·rw [g] at h1
   unfold lpS1
   rw [show (tkB (lppAt l k).tick && inB (lppAt l k).step (-1000000) 1000000) = false by cases a : tkB (lppAt l k).tick <;> cases b : inB (lppAt l k).step (-1000000) 1000000 <;> simp_all]
   rfl
  all_goals
   rw [g] at h1
   have e1 : (tkB (lppAt l k).tick && inB (lppAt l k).step (-1000000) 1000000) = true := by cases a : tkB (lppAt l k).tick <;> cases b : inB (lppAt l k).step (-1000000) 1000000 <;> simp_all
  ·have f : (lppAt l k).step = 0 := by simpa using f
   unfold lpS1
   rw [e1, decide_eq_false (fun q => q f)]
   rfl
  ·refine cond_i (fun g2 => ⟨by omega, lt_i fun x3 h3 => ⟨?_, trivial⟩⟩) (fun _ => ⟨rfl, trivial⟩)
   have g2 := of_decide_eq_true g2
   rw [wi (by omega)] at h3
   omega
  all_goals
   have f : (lppAt l k).step ≠ 0 := by simpa using f
   have e2 : lpS1 l k = unl (decide ((k : Int) = 0) || decide ((lppAt l k).tick > (lppAt l (k - 1)).tick)) 9 := by
    unfold lpS1
    rw [e1, decide_eq_true f]
    simp only [unl, firstNZ]
    cases (decide ((k : Int) = 0) || decide ((lppAt l k).tick > (lppAt l (k - 1)).tick)) <;> rfl
   have e3 : (decide ((k : Int) = 0) || decide ((lppAt l k).tick > (lppAt l (k - 1)).tick)) = !x4 := by
    rw [← h4]
    rcases Nat.eq_zero_or_pos k with c | c
    ·subst c; rfl
    ·rw [decide_eq_true (show (k : Int) > 0 by omega), decide_eq_false (show ¬ (k : Int) = 0 by omega)]
     by_cases a : (lppAt l k).tick ≤ (lppAt l (k - 1)).tick
     ·rw [decide_eq_true a, decide_eq_false (by omega)]; rfl
     ·rw [decide_eq_false a, decide_eq_true (by omega)]; rfl
   rw [e3, q] at e2
  ·rw [e2]; rfl
  ·rw [wi (by omega)] at hx
   subst hx
   refine ⟨_, rfl, i0, by omega, by omega, by omega, fun j hj => ?_⟩
   by_cases c : j = k
   ·rw [c, e2]; rfl
   ·exact i4 j (by omega)
 ·have h := of_decide_eq_false h
  exact ((if_neg i0).trans (scan_end fun j hj => i4 j (by omega))).symm
theorem zero_ref01_LeapsErr_0 (l : List Lp) (v0_0 : Int)  (hi : (¬ (l.length : Int) > 10) ∧ 0 ≤ v0_0 ∧ v0_0 ≤ l.length ∧ (0 : Int) + v0_0 = l.length + 1 ∧ ∀ j : Nat, (j : Int) < v0_0 → lpS1 l j = 0) : False := by
 omega
theorem spec_ref01_LeapsErr (l : List Lp) : vc_ref01_LeapsErr (J_ref01_LeapsErr l) l (fun r => LeD r (.t (.c (.v (.int .i64 (lpE l)))))) := by
 unfold vc_ref01_LeapsErr
 refine cond_i (fun h => leI ?_) (fun h => ?_)
 ·exact (if_pos (of_decide_eq_true h)).symm
 ·have h := of_decide_eq_false h
  exact ⟨l.length + 1, 0, rfl, h, by omega, by omega, by omega, fun j hj => by omega⟩
theorem all_ref01_LeapsErr (l : List Lp) : AllG (J_ref01_LeapsErr l) (loopsFn Try.prog tab Sd67 ann_ref01_LeapsErr (J_ref01_LeapsErr l) Try.f24 (fun r => LeD r (.t (.c (.v (.int .i64 (lpE l))))))) := by
 rw [lp_ref01_LeapsErr]
 refine ⟨⟨?_, ?_⟩, trivial⟩
 ·intro F s h
  obtain _ | ⟨g, F⟩ := F
  case cons => exact h.elim
  obtain ⟨w0, rfl, hi⟩ := h
  exact zero_ref01_LeapsErr_0 l w0 hi
 ·intro n F s h
  obtain _ | ⟨g, F⟩ := F
  case cons => exact h.elim
  obtain ⟨w0, rfl, hi⟩ := h
  rw [er_ref01_LeapsErr_0]
  exact rnd_ref01_LeapsErr_0 l _ _ hi
def con_ref01_LeapsErr : Con := fun args => match args with
 | [.t (.c (.sl 2 n_l c_l))] => some (.t (.c (.v (.int .i64 (lpE (listC n_l mkLpp c_l))))), some (numsP 2 n_l c_l), false)
 | _ => none
theorem ok_ref01_LeapsErr : Ok Try.prog 24 con_ref01_LeapsErr := by
 refine Ok.fn (ann := ann_ref01_LeapsErr) mixed tabOK VSd67 ValidIt.no (fn := Try.f24) (by kernel_rfl) (by kernel_rfl) fit_ref01_LeapsErr fun args r pre fresh h hp => ?_
 unfold con_ref01_LeapsErr at h
 split at h
 ·rename_i n_l c_l
  cases h
  have hp0 := hp
  refine ⟨rfl, J_ref01_LeapsErr (listC n_l mkLpp c_l), [.t (.c (.sl 2 ((listC n_l mkLpp c_l).length) (lppsC (listC n_l mkLpp c_l))))], ?_, Nat.le_of_ble_eq_true (by kernel_rfl), ?_, ?_⟩
  ·exact (LeA_cons (leT_c ((leL_Lp hp0))) LeA_nil)
  ·rw [ev_ref01_LeapsErr]; exact spec_ref01_LeapsErr (listC n_l mkLpp c_l)
  ·exact all_ref01_LeapsErr (listC n_l mkLpp c_l)
 ·cases h
def Sd68 : Sum := addS Sd67 24 con_ref01_LeapsErr
theorem VSd68 : Valid Try.prog Sd68 := Valid.add VSd67 ok_ref01_LeapsErr
end Go.Proofs.Ytkifmfmenobhnaa
set_option linter.unusedVariables false
set_option linter.unusedSimpArgs false
namespace Go.Proofs.Ytkifmfmenobhnaa
def rowP (p : List Int) (s : Nat) (j : Nat) : Int := if s ≤ j then p.getD (j - s) 0 else 0
theorem least_nz {f : Nat → Int} : ∀ n, f n ≠ 0 → ∃ i, i ≤ n ∧ f i ≠ 0 ∧ ∀ j, j < i → f j = 0 := by
 intro n
 induction n using Nat.strongRecOn with
 | _ n ih =>
  intro h
  by_cases hj : ∃ j, j < n ∧ f j ≠ 0
  ·obtain ⟨j, h1, h2⟩ := hj
   obtain ⟨i, a, b, c⟩ := ih j h1 h2
   exact ⟨i, by omega, b, c⟩
  ·exact ⟨n, Nat.le_refl _, h, fun j hjn => Classical.byContradiction fun hn => hj ⟨j, hjn, hn⟩⟩
theorem pulse_first {p : List Int} {s k : Nat} (hz : ∃ i, i < p.length ∧ p.getD i 0 ≠ 0) (hk : k < s) : ∃ i, i < p.length ∧ rowP p s (k + i) ≠ p.getD i 0 := by
 obtain ⟨n, hn, h⟩ := hz
 obtain ⟨i, hi, h1, h2⟩ := least_nz (f := fun i => p.getD i 0) n h
 refine ⟨i, by omega, fun e => h1 ?_⟩
 show p.getD i 0 = 0
 rw [← e]
 unfold rowP
 split
 ·exact h2 _ (by omega)
 ·rfl
theorem pulse_here (p : List Int) (s i : Nat) : rowP p s (s + i) = p.getD i 0 := by
 unfold rowP; rw [if_pos (by omega), Nat.add_sub_cancel_left]
def sqSum (f g : Nat → Int) : Nat → Int
 | 0 => 0
 | n + 1 => sqSum f g n + (f n - g n) * (f n - g n)
theorem sq_nn' (a : Int) : 0 ≤ a * a := by have h : ((a.natAbs * a.natAbs : Nat) : Int) = a * a := Int.natAbs_mul_self; omega
theorem sqSum_nn (f g : Nat → Int) : ∀ n, 0 ≤ sqSum f g n := by
 intro n
 induction n with
 | zero => exact Int.le_refl _
 | succ n ih => have := sq_nn' (f n - g n); simp only [sqSum]; omega
theorem sqSum_zero {f g : Nat → Int} : ∀ n, sqSum f g n = 0 ↔ ∀ i, i < n → f i = g i := by
 intro n
 induction n with
 | zero => simp [sqSum]
 | succ n ih =>
  have h1 := sq_nn' (f n - g n)
  have h2 := sqSum_nn f g n
  constructor
  ·intro h
   simp only [sqSum] at h
   have h3 : (f n - g n) * (f n - g n) = 0 := by omega
   have h4 : f n - g n = 0 := (Int.mul_eq_zero.1 h3).elim id id
   intro i hi
   rcases (by omega : i = n ∨ i < n) with rfl | hi
   ·omega
   ·exact ih.1 (by omega) i hi
  ·intro h
   simp only [sqSum]
   rw [ih.2 (fun i hi => h i (by omega)), h n (by omega)]; simp
def firstMin (f : Nat → Int) : Nat → Nat
 | 0 => 0
 | n + 1 => if f (n + 1) < f (firstMin f n) then n + 1 else firstMin f n
theorem firstMin_spec (f : Nat → Int) : ∀ n, firstMin f n ≤ n ∧ (∀ i, i ≤ n → f (firstMin f n) ≤ f i) ∧ ∀ i, i < firstMin f n → f (firstMin f n) < f i := by
 intro n
 induction n with
 | zero => exact ⟨Nat.le_refl _, fun i hi => by rw [show i = 0 by omega]; exact Int.le_refl _, fun i hi => by simp [firstMin] at hi⟩
 | succ n ih =>
  obtain ⟨h1, h2, h3⟩ := ih
  unfold firstMin
  split
  ·next h =>
   refine ⟨Nat.le_refl _, fun i hi => ?_, fun i hi => ?_⟩
   ·rcases (by omega : i = n + 1 ∨ i ≤ n) with rfl | hi
    ·exact Int.le_refl _
    ·have := h2 i hi; omega
   ·have := h2 i (by omega); omega
  ·next h =>
   refine ⟨by omega, fun i hi => ?_, h3⟩
   rcases (by omega : i = n + 1 ∨ i ≤ n) with rfl | hi
   ·omega
   ·exact h2 i hi
theorem firstMin_eq {f : Nat → Int} {n k : Nat} (hk : k ≤ n) (h1 : ∀ i, i ≤ n → f k ≤ f i) (h2 : ∀ i, i < k → f k < f i) : firstMin f n = k := by
 obtain ⟨a, b, c⟩ := firstMin_spec f n
 rcases Nat.lt_trichotomy (firstMin f n) k with h | h | h
 ·have := h2 _ h; have := b k hk; omega
 ·exact h
 ·have := c k h; have := h1 (firstMin f n) a; omega
theorem arrives {p : List Int} {s n : Nat} (hz : ∃ i, i < p.length ∧ p.getD i 0 ≠ 0) (hs : s ≤ n) : firstMin (fun k => sqSum (fun i => rowP p s (k + i)) (fun i => p.getD i 0) p.length) n = s := by
 have h0 : sqSum (fun i => rowP p s (s + i)) (fun i => p.getD i 0) p.length = 0 := (sqSum_zero _).2 (fun i _ => pulse_here p s i)
 refine firstMin_eq hs (fun i _ => ?_) (fun i hi => ?_)
 ·rw [h0]; exact sqSum_nn _ _ _
 ·rw [h0]
  have h1 := sqSum_nn (fun j => rowP p s (i + j)) (fun j => p.getD j 0) p.length
  have h2 : sqSum (fun j => rowP p s (i + j)) (fun j => p.getD j 0) p.length ≠ 0 := fun e => by
   obtain ⟨j, hj, hne⟩ := pulse_first hz hi
   exact hne ((sqSum_zero _).1 e j hj)
  omega
end Go.Proofs.Ytkifmfmenobhnaa