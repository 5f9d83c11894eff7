/- Texts of this claim, together. -/
import Derived.Test.YtmhgjlapkhdlmaaDoorEN9

set_option linter.unusedVariables false
set_option linter.unusedSimpArgs false
namespace Go.Proofs.YtmhgjlapkhdlmaaDoor
open Go.RowKit Ev
def vc_ref06_CopyTable (t : List Knot) (post : DV → Prop) : Prop := (roomP 16 (([] : List (List CV)).length + ((List.range t.length).map fun i => fwd ((knsC t) i) 0 2).length)) ∧ (post (.t (.a [.sl 2 ((([] : List (List CV)) ++ ((List.range t.length).map fun i => fwd ((knsC t) i) 0 2)).length) (genC (([] : List (List CV)) ++ ((List.range t.length).map fun i => fwd ((knsC t) i) 0 2)))])))
def ann_ref06_CopyTable : Ann := ⟨fun _ => none, fun _ => none, fun _ => [], noIt, true, fun _ => none, fun _ => none⟩
theorem ev_ref06_CopyTable (J : Inv) (t : List Knot) (post : DV → Prop) : evFn Tryd.prog tab St114 ann_ref06_CopyTable J Tryd.f54 [.t (.a [.sl 2 t.length (knsC t)])] post = vc_ref06_CopyTable t post := by kernel_rfl
theorem fit_ref06_CopyTable : okFn ann_ref06_CopyTable Tryd.f54 = true := by kernel_rfl
theorem lp_ref06_CopyTable (J : Inv) (post : DV → Prop) : AllG J (loopsFn Tryd.prog tab St114 ann_ref06_CopyTable J Tryd.f54 post) = (True) := by kernel_rfl
theorem spec_ref06_CopyTable (t : List Knot) (hp : (t).length ≤ 1000) : vc_ref06_CopyTable t (fun r => LeD r (.t (.a [.sl 2 t.length (knsC t)]))) := by
 unfold vc_ref06_CopyTable
 rw [kns_fwd, List.nil_append]
 refine ⟨?_, ?_⟩
 ·unfold roomP maxLen
  simp
  omega
 ·exact leT_a ⟨fun w N v h => le_kns t w N v h, trivial⟩
def con_ref06_CopyTable : Con := fun args => match args with
 | [.t (.a [.sl 2 n_t c_t])] => some (.t (.a [.sl 2 ((listC n_t mkKn c_t).length) (knsC (listC n_t mkKn c_t))]), some (numsP 2 n_t c_t ∧ ((listC n_t mkKn c_t)).length ≤ 1000), true)
 | _ => none
theorem ok_ref06_CopyTable : Ok Tryd.prog 54 con_ref06_CopyTable := by
 refine Ok.fnFr (ann := ann_ref06_CopyTable) mixed tabOK VSt114 ValidIt.no rfl (fn := Tryd.f54) (by kernel_rfl) (by kernel_rfl) fit_ref06_CopyTable fun args r pre fresh h hp => ?_
 unfold con_ref06_CopyTable at h
 split at h
 ·rename_i n_t c_t
  cases h
  obtain ⟨hp0, hp⟩ := hp
  refine ⟨rfl, (by intro x hx; simp only [List.mem_cons, List.not_mem_nil, or_false] at hx; rcases hx with rfl <;> first | trivial | exact (fun i j _ hj => plain_Knot _ i j)), fun _ _ _ => False, [.t (.a [.sl 2 ((listC n_t mkKn c_t).length) (knsC (listC n_t mkKn c_t))])], ?_, Nat.le_of_ble_eq_true (by kernel_rfl), ?_, ?_⟩
  ·exact (LeA_cons (leT_a (LeCs.cons ((leL_Knot hp0)) LeCs.nil)) LeA_nil)
  ·rw [ev_ref06_CopyTable]; exact spec_ref06_CopyTable (listC n_t mkKn c_t) hp
  ·rw [lp_ref06_CopyTable]; trivial
 ·cases h
noncomputable def Su115 : Sum := addS St114 54 con_ref06_CopyTable
theorem VSu115 : Valid Tryd.prog Su115 := Valid.add VSt114 ok_ref06_CopyTable
def vc_base_Floor (a : Int) (c : Int) (post : DV → Prop) : Prop := lt (IntKind.i64.wrap (Int.tdiv a c)) fun x1 => (IntKind.i64 = IntKind.i64 ∧ c ≠ 0) ∧ (lt (Int.tmod a c) fun x2 => (IntKind.i64 = IntKind.i64 ∧ c ≠ 0) ∧ (cond (decide (x2 < (0 : Int))) (lt (IntKind.i64.wrap (x1 - (1 : Int))) fun x3 => post (.t (.c (.v (.int .i64 x3))))) (post (.t (.c (.v (.int .i64 x1)))))))
def ann_base_Floor : Ann := ⟨fun _ => none, fun _ => none, fun _ => [], noIt, false, fun _ => none, fun _ => none⟩
theorem ev_base_Floor (J : Inv) (a : Int) (c : Int) (post : DV → Prop) : evFn Tryd.prog tab Su115 ann_base_Floor J Tryd.f126 [.t (.c (.v (.int .i64 a))), .t (.c (.v (.int .i64 c)))] post = vc_base_Floor a c post := by kernel_rfl
theorem fit_base_Floor : okFn ann_base_Floor Tryd.f126 = true := by kernel_rfl
theorem lp_base_Floor (J : Inv) (post : DV → Prop) : AllG J (loopsFn Tryd.prog tab Su115 ann_base_Floor J Tryd.f126 post) = (True) := by kernel_rfl
theorem spec_base_Floor (a : Int) (c : Int) (hp : 0 < c ∧ (-1000000000000 ≤ a ∧ a ≤ 1000000000000) ∧ c = 1000) : vc_base_Floor a c (fun r => LeD r (.t (.c (.v (.int .i64 (a / c)))))) := by
 obtain ⟨q1, q2, q3⟩ := hp
 unfold vc_base_Floor
 have k1 := Int.tmod_add_mul_tdiv a c
 have k2 := Int.emod_add_mul_ediv a c
 have k3 := Int.emod_nonneg a (show c ≠ 0 by omega)
 have k4 := Int.emod_lt_of_pos a q1
 have k5 := Int.tmod_lt_of_pos a q1
 have k6 : -c < Int.tmod a c := by
  have := Int.tmod_lt_of_pos (-a) q1
  rw [Int.neg_tmod] at this
  omega
 have c1000 : c = 1000 := q3
 subst c1000
 refine lt_i fun x1 h1 => ⟨⟨rfl, by omega⟩, lt_i fun x2 h2 => ⟨⟨rfl, by omega⟩, cond_i (fun h => lt_i fun x3 h3 => leI ?_) (fun h => leI ?_)⟩⟩
 ·have h := of_decide_eq_true h
  rw [wi (by omega)] at h1
  rw [wi (by omega)] at h3
  omega
 ·have h := of_decide_eq_false h
  rw [wi (by omega)] at h1
  have : 0 ≤ a ∨ a < 0 := by omega
  omega
def con_base_Floor : Con := fun args => match args with
 | [.t (.c (.v (.int .i64 a))), .t (.c (.v (.int .i64 c)))] => some (.t (.c (.v (.int .i64 (a / c)))), some (0 < c ∧ (-1000000000000 ≤ a ∧ a ≤ 1000000000000) ∧ c = 1000), false)
 | _ => none
theorem ok_base_Floor : Ok Tryd.prog 126 con_base_Floor := by
 refine Ok.fn (ann := ann_base_Floor) mixed tabOK VSu115 ValidIt.no (fn := Tryd.f126) (by kernel_rfl) (by kernel_rfl) fit_base_Floor fun args r pre fresh h hp => ?_
 unfold con_base_Floor at h
 split at h
 ·rename_i a c
  cases h
  refine ⟨rfl, fun _ _ _ => False, _, LeA.refl _, Nat.le_of_ble_eq_true (by kernel_rfl), ?_, ?_⟩
  ·rw [ev_base_Floor]; exact spec_base_Floor a c hp
  ·rw [lp_base_Floor]; trivial
 ·cases h
noncomputable def Su116 : Sum := addS Su115 126 con_base_Floor
theorem VSu116 : Valid Tryd.prog Su116 := Valid.add VSu115 ok_base_Floor
def vc_base_Ceil (a : Int) (c : Int) (post : DV → Prop) : Prop := lt (IntKind.i64.wrap ((0 : Int) - a)) fun x1 => (0 < c ∧ (-1000000000000 ≤ x1 ∧ x1 ≤ 1000000000000) ∧ c = 1000) ∧ (lt (IntKind.i64.wrap ((0 : Int) - (x1 / c))) fun x2 => post (.t (.c (.v (.int .i64 x2)))))
def ann_base_Ceil : Ann := ⟨fun _ => none, fun _ => none, fun _ => [], noIt, false, fun _ => none, fun _ => none⟩
theorem ev_base_Ceil (J : Inv) (a : Int) (c : Int) (post : DV → Prop) : evFn Tryd.prog tab Su116 ann_base_Ceil J Tryd.f127 [.t (.c (.v (.int .i64 a))), .t (.c (.v (.int .i64 c)))] post = vc_base_Ceil a c post := by kernel_rfl
theorem fit_base_Ceil : okFn ann_base_Ceil Tryd.f127 = true := by kernel_rfl
theorem lp_base_Ceil (J : Inv) (post : DV → Prop) : AllG J (loopsFn Tryd.prog tab Su116 ann_base_Ceil J Tryd.f127 post) = (True) := by kernel_rfl
theorem spec_base_Ceil (a : Int) (c : Int) (hp : 0 < c ∧ (-1000000000 ≤ a ∧ a ≤ 1000000000) ∧ c = 1000) : vc_base_Ceil a c (fun r => LeD r (.t (.c (.v (.int .i64 (-((-a) / c))))))) := by
 obtain ⟨q1, q2, q3⟩ := hp
 subst q3
 unfold vc_base_Ceil
 refine lt_i fun x1 h1 => ?_
 rw [wi (by omega), Int.zero_sub] at h1
 subst h1
 refine ⟨by omega, lt_i fun x2 h2 => leI ?_⟩
 rw [wi (by omega)] at h2
 omega
def con_base_Ceil : Con := fun args => match args with
 | [.t (.c (.v (.int .i64 a))), .t (.c (.v (.int .i64 c)))] => some (.t (.c (.v (.int .i64 (-((-a) / c))))), some (0 < c ∧ (-1000000000 ≤ a ∧ a ≤ 1000000000) ∧ c = 1000), false)
 | _ => none
theorem ok_base_Ceil : Ok Tryd.prog 127 con_base_Ceil := by
 refine Ok.fn (ann := ann_base_Ceil) mixed tabOK VSu116 ValidIt.no (fn := Tryd.f127) (by kernel_rfl) (by kernel_rfl) fit_base_Ceil fun args r pre fresh h hp => ?_
 unfold con_base_Ceil at h
 split at h
 ·rename_i a c
  cases h
  refine ⟨rfl, fun _ _ _ => False, _, LeA.refl _, Nat.le_of_ble_eq_true (by kernel_rfl), ?_, ?_⟩
  ·rw [ev_base_Ceil]; exact spec_base_Ceil a c hp
  ·rw [lp_base_Ceil]; trivial
 ·cases h
noncomputable def Su117 : Sum := addS Su116 127 con_base_Ceil
theorem VSu117 : Valid Tryd.prog Su117 := Valid.add VSu116 ok_base_Ceil
def mk_ref06_CheckTable_0 (t : List Knot) (v0_0 : Int) : DS := ⟨[none, some (.t (.c (.p 1 0))), none, none, some (.t (.c (.v (.int .i64 v0_0)))), none, none, none, none, none, none, none, none, none, none, none, none, none, none, none, none, none, none, none, none, none, none, none, none, none, none, none, none, none, none, none, none, none, none, none, none, none, none, none, none, none, none, none, none, none, none, none, none, none, none, none, none, none, none, none, none, none, none, none], [none, some (.box 88 [.sl 2 t.length (knsC t)]), none, none, none, none, none, none, none, none, none, none, none, none, none, none, none, none, none, none, none, none, none, none, none, none, none, none, none, none, none, none, none, none, none, none, none, none, none, none, none, none, none, none, none, none, none, none, none, none, none, none, none, none, none, none, none, none, none, none, none, none, none, none]⟩
def vc_ref06_CheckTable (J : Inv) (t : List Knot) (post : DV → Prop) : Prop := cond (((t.length : Nat) : Int) == (0 : Int)) (post (.tu [.c (.v (.int .i64 0)), .c (.v (.int .i64 10))])) (cond (decide (((t.length : Nat) : Int) > (8 : Int))) (post (.tu [.c (.v (.int .i64 0)), .c (.v (.int .i64 8))])) (∃ n, J 0 (n :: []) (mk_ref06_CheckTable_0 t 0)))
def ann_ref06_CheckTable : Ann := ⟨fun r => lookA r [(11, ([[], [0], [0, 1], [0, 1, 2], [0, 1, 2, 3], [0, 1, 2], [0, 1, 2, 5], [0, 1, 2], [0, 1, 2, 7], [0, 1, 2, 5, 6, 7, 8], [0, 1, 2, 5, 6, 7, 8, 9], [0, 1, 2, 5, 6, 7, 8, 9, 10], [0, 1, 2, 3, 4, 5, 6, 7, 8, 9, 10, 11], [0, 1, 2, 3, 4, 5, 6, 7, 8, 9, 10, 11, 12], [0, 1, 2, 3, 4, 5, 6, 7, 8, 9, 10, 11, 12, 13], [0, 1, 2, 3, 4, 5, 6, 7, 8, 9, 10, 11, 12, 13, 14], [0, 1, 2, 3, 4, 5, 6, 7, 8, 9, 10, 11, 12, 13], [0, 1, 2, 3, 4, 5, 6, 7, 8, 9, 10, 11, 12, 13, 16], [0, 1, 2, 3, 4, 5, 6, 7, 8, 9, 10, 11, 12, 13], [0, 1, 2, 3, 4, 5, 6, 7, 8, 9, 10, 11, 12, 13, 18], [0, 1, 2, 3, 4, 5, 6, 7, 8, 9, 10, 11, 12, 13, 16, 17, 18, 19], [0, 1, 2, 3, 4, 5, 6, 7, 8, 9, 10, 11, 12, 13, 16, 17, 18, 19, 20], [0, 1, 2, 3, 4, 5, 6, 7, 8, 9, 10, 11, 12, 13, 16, 17, 18, 19, 20, 21], [0, 1, 2, 3, 4, 5, 6, 7, 8, 9, 10, 11, 12, 13, 14, 15, 16, 17, 18, 19, 20, 21, 22], [0, 1, 2, 3, 4, 5, 6, 7, 8, 9, 10, 11, 12, 13, 14, 15, 16, 17, 18, 19, 20, 21, 22, 23], [0, 1, 2, 3, 4, 5, 6, 7, 8, 9, 10, 11, 12, 13, 14, 15, 16, 17, 18, 19, 20, 21, 22, 23, 24]], [[], [], [], [], [], [], [], [], [], [], [], [], [], [], [], [], [], [], [], [], [], [], [], [], [], []]))], fun b => lookA b [(0, (none, some ⟨[1, 4], [1], []⟩))], fun _ => [], noIt, false, fun r => lookA r [(9, (5, [35])), (11, (3, [62]))], fun _ => none⟩
theorem ev_ref06_CheckTable (J : Inv) (t : List Knot) (post : DV → Prop) : evFn Tryd.prog tab Su117 ann_ref06_CheckTable J Tryd.f57 [.t (.a [.sl 2 t.length (knsC t)])] post = vc_ref06_CheckTable J t post := by kernel_rfl
theorem fit_ref06_CheckTable : okFn ann_ref06_CheckTable Tryd.f57 = true := by kernel_rfl
def rd_ref06_CheckTable_0 (J : Inv) (t : List Knot) (v0_0 : Int) (nn0 : Nat) (post : DV → Prop) : Prop := cond (decide (v0_0 < ((t.length : Nat) : Int))) ((0 ≤ v0_0 ∧ v0_0 < ((t.length : Nat) : Int)) ∧ ((cond (!(inB ((knAt t v0_0.toNat).d) (0 : Int) (100000 : Int))) ((true = true) ∧ (True)) (True)) ∧ (lt ((bif (!(inB ((knAt t v0_0.toNat).d) (0 : Int) (100000 : Int))) then true else (!(inB ((knAt t v0_0.toNat).y) (0 : Int) (10000 : Int))))) fun x1 => cond x1 (post (.tu [.c (.v (.int .i64 v0_0)), .c (.v (.int .i64 2))])) ((cond (decide (v0_0 > (0 : Int))) (lt (IntKind.i64.wrap (v0_0 - (1 : Int))) fun x4 => (0 ≤ x4 ∧ x4 < ((t.length : Nat) : Int)) ∧ (cond (decide (((knAt t v0_0.toNat).d) ≤ ((knAt t x4.toNat).d))) ((true = true) ∧ (True)) (lt (IntKind.i64.wrap (v0_0 - (1 : Int))) fun x5 => (0 ≤ x5 ∧ x5 < ((t.length : Nat) : Int)) ∧ (True)))) ((false = false) ∧ (True))) ∧ (lt ((bif decide (v0_0 > (0 : Int)) then (bif decide (((knAt t v0_0.toNat).d) ≤ ((knAt t ((IntKind.i64.wrap (v0_0 - (1 : Int))).toNat)).d)) then true else decide (((knAt t v0_0.toNat).y) > ((knAt t ((IntKind.i64.wrap (v0_0 - (1 : Int))).toNat)).y))) else false)) fun x6 => cond x6 (post (.tu [.c (.v (.int .i64 v0_0)), .c (.v (.int .i64 9))])) (lt (IntKind.i64.wrap (v0_0 + (1 : Int))) fun x7 => J 0 (nn0 :: []) (mk_ref06_CheckTable_0 t x7))))))) (post (.tu [.c (.v (.int .i64 0)), .c (.v (.int .i64 0))]))
theorem er_ref06_CheckTable_0 (J : Inv) (t : List Knot) (v0_0 : Int) (nn0 : Nat) (post : DV → Prop) : round Tryd.prog tab Su117 ann_ref06_CheckTable J Tryd.f57 post 0 (nn0 :: []) (mk_ref06_CheckTable_0 t v0_0) = rd_ref06_CheckTable_0 J t v0_0 nn0 post := by kernel_rfl
theorem lp_ref06_CheckTable (J : Inv) (post : DV → Prop) : AllG J (loopsFn Tryd.prog tab Su117 ann_ref06_CheckTable J Tryd.f57 post) = (((∀ F s, ¬ J 0 (0 :: F) s) ∧ ∀ n F s, J 0 ((n + 1) :: F) s → round Tryd.prog tab Su117 ann_ref06_CheckTable J Tryd.f57 post 0 (n :: F) s) ∧ True) := by kernel_rfl
def J_ref06_CheckTable (t : List Knot) : Inv := fun b F s => match b, F with
 | 0, [nn0] => ∃ (v0_0 : Int), s = mk_ref06_CheckTable_0 t v0_0 ∧ (cntE t.length 8 = 0 ∧ 0 ≤ v0_0 ∧ v0_0 ≤ t.length ∧ (nn0 : Int) + v0_0 = t.length + 1 ∧ ∀ j : Nat, (j : Int) < v0_0 → ktE t j = 0)
 | _, _ => False
set_option maxHeartbeats 8000000 in
set_option maxRecDepth 100000 in
theorem rnd_ref06_CheckTable_0 (t : List Knot) (v0_0 : Int) (nn0 : Nat) (hi : cntE t.length 8 = 0 ∧ 0 ≤ v0_0 ∧ v0_0 ≤ t.length ∧ ((nn0 + 1) : Int) + v0_0 = t.length + 1 ∧ ∀ j : Nat, (j : Int) < v0_0 → ktE t j = 0) : rd_ref06_CheckTable_0 (J_ref06_CheckTable t) t v0_0 nn0 (fun r => LeD r (.tu [.c (.v (.int .i64 (tabI t))), .c (.v (.int .i64 (tabE t)))])) := by
 obtain ⟨i0, i1, i2, i3, i4⟩ := hi
 obtain ⟨k, rfl⟩ : ∃ k : Nat, v0_0 = k := ⟨v0_0.toNat, by omega⟩
 have hk : (k : Int).toNat = k := rfl
 have l8 : t.length ≤ 8 := by
  have h2 := (fn2 i0).2
  rw [unl_0 (by decide)] at h2
  have := of_decide_eq_true h2
  omega
 unfold rd_ref06_CheckTable_0
 rw [hk]
 have bad : ∀ e, e ≠ 0 → k < t.length → ktE t k = e → LeD (.tu [.c (.v (.int .i64 (k : Int))), .c (.v (.int .i64 e))]) (.tu [.c (.v (.int .i64 (tabI t))), .c (.v (.int .i64 (tabE t)))]) := fun e he hlt q => by
  subst q
  rw [show tabI t = _ from if_pos i0, show tabE t = _ from if_pos i0]
  exact le2 (scanI_at (fun j hj => i4 j (by omega)) hlt he).symm (scan_at (fun j hj => i4 j (by omega)) hlt he).symm
 refine cond_i (fun h => ?_) (fun h => ?_)
 ·have hlt : k < t.length := by have := of_decide_eq_true h; omega
  have eK : ktE t k = knE (k : Int) (knAt t (k - 1)) (knAt t k) := rfl
  refine ⟨by omega, cond_i (fun _ => by trivial) (fun _ => trivial), lt_i fun x1 h1 => cond_i (fun e => bad 2 (by decide) hlt ?_) (fun e => ?_)⟩
  ·rw [eK]; unfold knE
   rw [← h1] at e
   have : (inB (knAt t k).d 0 100000 && inB (knAt t k).y 0 10000) = false := by
    cases q : inB (knAt t k).d 0 100000
    ·rfl
    ·rw [q] at e; simpa using e
   rw [this]; rfl
  ·have e0 : (inB (knAt t k).d 0 100000 && inB (knAt t k).y 0 10000) = true := by
    rw [← h1] at e
    cases q : inB (knAt t k).d 0 100000
    ·rw [q] at e; cases e
    ·rw [q] at e; simpa using e
   have eK2 : ktE t k = unl (decide ((k : Int) = 0) || (decide ((knAt t k).d > (knAt t (k - 1)).d) && decide ((knAt t k).y ≤ (knAt t (k - 1)).y))) 9 := by
    rw [eK]; unfold knE; rw [e0]
    cases (decide ((k : Int) = 0) || (decide ((knAt t k).d > (knAt t (k - 1)).d) && decide ((knAt t k).y ≤ (knAt t (k - 1)).y))) <;> rfl
   refine ⟨cond_i (fun p => lt_i fun x4 h4 => ?_) (fun _ => by trivial), lt_i fun x6 h6 => cond_i (fun c => bad 9 (by decide) hlt ?_) (fun c => lt_i fun x hx => ?_)⟩
   ·have p := of_decide_eq_true p
    rw [wi (by omega)] at h4
    refine ⟨by omega, cond_i (fun _ => by trivial) (fun _ => lt_i fun x5 h5 => ?_)⟩
    rw [wi (by omega)] at h5
    exact ⟨by omega, trivial⟩
   ·have hp0 : (k : Int) > 0 := by
     by_cases z : (k : Int) > 0
     ·exact z
     ·rw [decide_eq_false z] at h6; rw [← h6] at c; cases c
    rw [decide_eq_true hp0, wi (by omega), show ((k : Int) - 1).toNat = k - 1 by omega] at h6
    rw [eK2, decide_eq_false (show ¬ (k : Int) = 0 by omega)]
    have : (decide ((knAt t k).d > (knAt t (k - 1)).d) && decide ((knAt t k).y ≤ (knAt t (k - 1)).y)) = false := by
     rw [← h6] at c
     simp only [_root_.cond_true] at c
     by_cases z : (knAt t k).d ≤ (knAt t (k - 1)).d
     ·rw [decide_eq_false (show ¬ (knAt t k).d > (knAt t (k - 1)).d by omega)]; rfl
     ·rw [decide_eq_false z] at c
      have c : decide ((knAt t k).y > (knAt t (k - 1)).y) = true := c
      have := of_decide_eq_true c
      rw [decide_eq_false (show ¬ (knAt t k).y ≤ (knAt t (k - 1)).y by omega), Bool.and_false]
    rw [this]; rfl
   ·have v : ktE t k = 0 := by
     rw [eK2]
     by_cases z : (k : Int) > 0
     ·rw [decide_eq_true z, wi (by omega), show ((k : Int) - 1).toNat = k - 1 by omega] at h6
      rw [← h6] at c
      simp only [_root_.cond_true] at c
      by_cases z : (knAt t k).d ≤ (knAt t (k - 1)).d
      ·rw [decide_eq_true z] at c; cases c
      ·rw [decide_eq_false z] at c
       have c : decide ((knAt t k).y > (knAt t (k - 1)).y) = false := c
       have := of_decide_eq_false c
       rw [decide_eq_true (show (knAt t k).d > (knAt t (k - 1)).d by omega), decide_eq_true (show (knAt t k).y ≤ (knAt t (k - 1)).y by omega), Bool.and_true, Bool.or_true]; rfl
     ·rw [decide_eq_true (show (k : Int) = 0 by omega)]; rfl
    rw [wi (by omega)] at hx
    subst hx
    refine ⟨_, rfl, i0, by omega, by omega, by omega, fun j hj => ?_⟩
    by_cases q : j = k
    ·rw [q]; exact v
    ·exact i4 j (by omega)
 ·have hge : k = t.length := by have := of_decide_eq_false h; omega
  rw [show tabI t = _ from if_pos i0, show tabE t = _ from if_pos i0]
  exact le2 (scanI_end fun j hj => i4 j (by omega)).symm (scan_end fun j hj => i4 j (by omega)).symm
theorem zero_ref06_CheckTable_0 (t : List Knot) (v0_0 : Int)  (hi : cntE t.length 8 = 0 ∧ 0 ≤ v0_0 ∧ v0_0 ≤ t.length ∧ (0 : Int) + v0_0 = t.length + 1 ∧ ∀ j : Nat, (j : Int) < v0_0 → ktE t j = 0) : False := by
 omega
set_option maxHeartbeats 8000000 in
set_option maxRecDepth 100000 in
theorem spec_ref06_CheckTable (t : List Knot) : vc_ref06_CheckTable (J_ref06_CheckTable t) t (fun r => LeD r (.tu [.c (.v (.int .i64 (tabI t))), .c (.v (.int .i64 (tabE t)))])) := by
 unfold vc_ref06_CheckTable
 have bad : ∀ e, e ≠ 0 → cntE t.length 8 = e → LeD (.tu [.c (.v (.int .i64 0)), .c (.v (.int .i64 e))]) (.tu [.c (.v (.int .i64 (tabI t))), .c (.v (.int .i64 (tabE t)))]) := fun e he q => by
  subst q
  exact le2 (if_neg he).symm (if_neg he).symm
 refine cond_i (fun h => bad 10 (by decide) ?_) (fun h => cond_i (fun h2 => bad 8 (by decide) ?_) (fun h2 => ?_))
 ·have h : (t.length : Int) = 0 := by simpa using h
  unfold cntE; rw [h]; rfl
 ·have h : (t.length : Int) ≠ 0 := by simpa using h
  have h2 := of_decide_eq_true h2
  unfold cntE; rw [decide_eq_true (show (t.length : Int) > 0 by omega), decide_eq_false (show ¬ (t.length : Int) ≤ 8 by omega)]; rfl
 ·have h : (t.length : Int) ≠ 0 := by simpa using h
  have h2 := of_decide_eq_false h2
  refine ⟨t.length + 1, 0, rfl, ?_, by omega, by omega, by omega, fun j hj => by omega⟩
  unfold cntE; rw [decide_eq_true (show (t.length : Int) > 0 by omega), decide_eq_true (show (t.length : Int) ≤ 8 by omega)]; rfl
theorem all_ref06_CheckTable (t : List Knot) : AllG (J_ref06_CheckTable t) (loopsFn Tryd.prog tab Su117 ann_ref06_CheckTable (J_ref06_CheckTable t) Tryd.f57 (fun r => LeD r (.tu [.c (.v (.int .i64 (tabI t))), .c (.v (.int .i64 (tabE t)))]))) := by
 rw [lp_ref06_CheckTable]
 refine ⟨⟨?_, ?_⟩, trivial⟩
 ·intro F s h
  obtain _ | ⟨g, F⟩ := F
  case cons => exact h.elim
  obtain ⟨w0, rfl, hi⟩ := h
  exact zero_ref06_CheckTable_0 t w0 hi
 ·intro n F s h
  obtain _ | ⟨g, F⟩ := F
  case cons => exact h.elim
  obtain ⟨w0, rfl, hi⟩ := h
  rw [er_ref06_CheckTable_0]
  exact rnd_ref06_CheckTable_0 t _ _ hi
def con_ref06_CheckTable : Con := fun args => match args with
 | [.t (.a [.sl 2 n_t c_t])] => some (.tu [.c (.v (.int .i64 (tabI (listC n_t mkKn c_t)))), .c (.v (.int .i64 (tabE (listC n_t mkKn c_t))))], some (numsP 2 n_t c_t), false)
 | _ => none
theorem ok_ref06_CheckTable : Ok Tryd.prog 57 con_ref06_CheckTable := by
 refine Ok.fn (ann := ann_ref06_CheckTable) mixed tabOK VSu117 ValidIt.no (fn := Tryd.f57) (by kernel_rfl) (by kernel_rfl) fit_ref06_CheckTable fun args r pre fresh h hp => ?_
 unfold con_ref06_CheckTable at h
 split at h
 ·rename_i n_t c_t
  cases h
  have hp0 := hp
  refine ⟨rfl, J_ref06_CheckTable (listC n_t mkKn c_t), [.t (.a [.sl 2 ((listC n_t mkKn c_t).length) (knsC (listC n_t mkKn c_t))])], ?_, Nat.le_of_ble_eq_true (by kernel_rfl), ?_, ?_⟩
  ·exact (LeA_cons (leT_a (LeCs.cons ((leL_Knot hp0)) LeCs.nil)) LeA_nil)
  ·rw [ev_ref06_CheckTable]; exact spec_ref06_CheckTable (listC n_t mkKn c_t)
  ·exact all_ref06_CheckTable (listC n_t mkKn c_t)
 ·cases h
noncomputable def Su118 : Sum := addS Su117 57 con_ref06_CheckTable
theorem VSu118 : Valid Tryd.prog Su118 := Valid.add VSu117 ok_ref06_CheckTable
def mk_ref06_Light_0 (t : List Knot) (x : Int) (u : Int) (v0_0 : Int) (v0_1 : Int) : DS := ⟨[none, some (.t (.c (.v (.int .i64 x)))), some (.t (.c (.v (.int .i64 u)))), some (.t (.c (.p 3 0))), none, none, some (.t (.c (.p 6 0))), some (.t (.c (.v (.int .i64 v0_0)))), some (.t (.c (.v (.int .i64 v0_1)))), none, none, none, none, none, none, none, none, none, none, none, none, none, none, none, none, none, none, none, none, none, none, none, none, none, none, none, none, none, none, none], [none, none, none, some (.box 88 [.sl 2 t.length (knsC t)]), none, none, some (.box 94 [.v (.int .i64 0), .v (.int .i64 0)]), none, none, none, none, none, none, none, none, none, none, none, none, none, none, none, none, none, none, none, none, none, none, none, none, none, none, none, none, none, none, none, none, none]⟩
def vc_ref06_Light (J : Inv) (t : List Knot) (x : Int) (u : Int) (post : DV → Prop) : Prop := lt (IntKind.i64.wrap (((t.length : Nat) : Int) - (1 : Int))) fun x1 => ∃ n, J 0 (n :: []) (mk_ref06_Light_0 t x u 0 x1)
def ann_ref06_Light : Ann := ⟨fun _ => none, fun b => lookA b [(0, (none, some ⟨[1, 2, 3, 6, 7, 8], [3, 6], []⟩))], fun _ => [], noIt, false, fun _ => none, fun r => lookA r [(6, [7])]⟩
theorem ev_ref06_Light (J : Inv) (t : List Knot) (x : Int) (u : Int) (post : DV → Prop) : evFn Tryd.prog tab Su118 ann_ref06_Light J Tryd.f58 [.t (.a [.sl 2 t.length (knsC t)]), .t (.c (.v (.int .i64 x))), .t (.c (.v (.int .i64 u)))] post = vc_ref06_Light J t x u post := by kernel_rfl
theorem fit_ref06_Light : okFn ann_ref06_Light Tryd.f58 = true := by kernel_rfl
def rd_ref06_Light_0 (J : Inv) (t : List Knot) (x : Int) (u : Int) (v0_0 : Int) (v0_1 : Int) (nn0 : Nat) (post : DV → Prop) : Prop := cond (decide (v0_1 ≥ (0 : Int))) ((0 ≤ v0_1 ∧ v0_1 < ((t.length : Nat) : Int)) ∧ ((cond (decide (((knAt t v0_1.toNat).d) ≥ x)) ((0 ≤ v0_1 ∧ v0_1 < ((t.length : Nat) : Int)) ∧ (True)) (True)) ∧ (lt ((bif decide (((knAt t v0_1.toNat).d) ≥ x) then (knAt t v0_1.toNat).y else v0_0)) fun x1 => lt (IntKind.i64.wrap (v0_1 - (1 : Int))) fun x2 => J 0 (nn0 :: []) (mk_ref06_Light_0 t x u x1 x2)))) (lt (IntKind.i64.wrap (u * v0_0)) fun x3 => (0 < (1000 : Int) ∧ (-1000000000000 ≤ x3 ∧ x3 ≤ 1000000000000) ∧ (1000 : Int) = 1000) ∧ (lt (IntKind.i64.wrap (u * v0_0)) fun x4 => (0 < (1000 : Int) ∧ (-1000000000 ≤ x4 ∧ x4 ≤ 1000000000) ∧ (1000 : Int) = 1000) ∧ (post (.t (.a [.v (.int .i64 (x3 / (1000 : Int))), .v (.int .i64 (-((-x4) / (1000 : Int))))])))))
theorem er_ref06_Light_0 (J : Inv) (t : List Knot) (x : Int) (u : Int) (v0_0 : Int) (v0_1 : Int) (nn0 : Nat) (post : DV → Prop) : round Tryd.prog tab Su118 ann_ref06_Light J Tryd.f58 post 0 (nn0 :: []) (mk_ref06_Light_0 t x u v0_0 v0_1) = rd_ref06_Light_0 J t x u v0_0 v0_1 nn0 post := by kernel_rfl
theorem lp_ref06_Light (J : Inv) (post : DV → Prop) : AllG J (loopsFn Tryd.prog tab Su118 ann_ref06_Light J Tryd.f58 post) = (((∀ F s, ¬ J 0 (0 :: F) s) ∧ ∀ n F s, J 0 ((n + 1) :: F) s → round Tryd.prog tab Su118 ann_ref06_Light J Tryd.f58 post 0 (n :: F) s) ∧ True) := by kernel_rfl
def J_ref06_Light (t : List Knot) (x : Int) (u : Int) : Inv := fun b F s => match b, F with
 | 0, [nn0] => ∃ (v0_0 : Int) (v0_1 : Int), s = mk_ref06_Light_0 t x u v0_0 v0_1 ∧ ((tabE t = 0 ∧ 0 ≤ u ∧ u ≤ 100000) ∧ -1 ≤ v0_1 ∧ v0_1 < t.length ∧ (nn0 : Int) = v0_1 + 2 ∧ v0_0 = yldF x (t.drop (v0_1 + 1).toNat))
 | _, _ => False
theorem rnd_ref06_Light_0 (t : List Knot) (x : Int) (u : Int) (v0_0 : Int) (v0_1 : Int) (nn0 : Nat) (hp : tabE t = 0 ∧ 0 ≤ u ∧ u ≤ 100000) (hi : (tabE t = 0 ∧ 0 ≤ u ∧ u ≤ 100000) ∧ -1 ≤ v0_1 ∧ v0_1 < t.length ∧ ((nn0 + 1) : Int) = v0_1 + 2 ∧ v0_0 = yldF x (t.drop (v0_1 + 1).toNat)) : rd_ref06_Light_0 (J_ref06_Light t x u) t x u v0_0 v0_1 nn0 (fun r => LeD r (.t (.a [.v (.int .i64 ((lgtR t x u).lo)), .v (.int .i64 ((lgtR t x u).hi))]))) := by
 obtain ⟨⟨q1, q2, q3⟩, i1, i2, i3, i4⟩ := hi
 have hl := (tab_ok q1).1
 unfold rd_ref06_Light_0
 refine cond_i (fun h => ?_) (fun h => ?_)
 ·have h := of_decide_eq_true h
  obtain ⟨k, rfl⟩ : ∃ k : Nat, v0_1 = k := ⟨v0_1.toNat, by omega⟩
  have hk : (k : Int).toNat = k := rfl
  rw [hk]
  have hlt : k < t.length := by omega
  have el : t.drop k = knAt t k :: t.drop (k + 1) := by rw [List.drop_eq_getElem_cons hlt]; simp [knAt, List.getD, hlt]
  refine ⟨by omega, cond_i (fun _ => ⟨by omega, trivial⟩) (fun _ => trivial), lt_i fun x1 h1 => lt_i fun x2 h2 => ?_⟩
  rw [wi (by omega)] at h2
  subst h2
  refine ⟨_, _, rfl, ⟨q1, q2, q3⟩, by omega, by omega, by omega, ?_⟩
  rw [show ((k : Int) - 1 + 1).toNat = k by omega, el, yldF, ← h1, i4, show ((k : Int) + 1).toNat = k + 1 by omega]
  by_cases z : (knAt t k).d ≥ x
  ·rw [decide_eq_true z, if_pos z]; rfl
  ·rw [decide_eq_false z, if_neg z]; rfl
 ·have h := of_decide_eq_false h
  have e : v0_1 = -1 := by omega
  subst e
  have i4 : v0_0 = yldF x t := i4
  have yr := yld_rg q1 x
  rw [← i4] at yr
  have m1 := mul_rg (x := u) (y := v0_0) (A := 100000) (B := 10000) (C := 1000000000) (by omega) (by omega) (by decide)
  have m2 := Int.mul_nonneg (a := u) (b := v0_0) (by omega) (by omega)
  refine lt_i fun x3 h3 => ?_
  rw [wi (by omega)] at h3
  subst h3
  refine ⟨⟨by omega, by omega, rfl⟩, lt_i fun x4 h4 => ?_⟩
  rw [wi (by omega)] at h4
  subst h4
  refine ⟨⟨by omega, by omega, rfl⟩, ?_⟩
  unfold lgtR
  rw [← i4]
  have e : -((-(u * v0_0)) / 1000) = (u * v0_0 + 999) / 1000 := by omega
  rw [e]
  exact LeD.refl _
theorem zero_ref06_Light_0 (t : List Knot) (x : Int) (u : Int) (v0_0 : Int) (v0_1 : Int)  (hi : (tabE t = 0 ∧ 0 ≤ u ∧ u ≤ 100000) ∧ -1 ≤ v0_1 ∧ v0_1 < t.length ∧ (0 : Int) = v0_1 + 2 ∧ v0_0 = yldF x (t.drop (v0_1 + 1).toNat)) : False := by
 omega
theorem spec_ref06_Light (t : List Knot) (x : Int) (u : Int) (hp : tabE t = 0 ∧ 0 ≤ u ∧ u ≤ 100000) : vc_ref06_Light (J_ref06_Light t x u) t x u (fun r => LeD r (.t (.a [.v (.int .i64 ((lgtR t x u).lo)), .v (.int .i64 ((lgtR t x u).hi))]))) := by
 have hl := (tab_ok hp.1).1
 unfold vc_ref06_Light
 refine lt_i fun x1 h1 => ?_
 rw [wi (by omega)] at h1
 subst h1
 refine ⟨t.length + 1, 0, _, rfl, hp, by omega, by omega, by omega, ?_⟩
 rw [show ((t.length : Int) - 1 + 1).toNat = t.length by omega, List.drop_length]; rfl
theorem all_ref06_Light (t : List Knot) (x : Int) (u : Int) (hp : tabE t = 0 ∧ 0 ≤ u ∧ u ≤ 100000) : AllG (J_ref06_Light t x u) (loopsFn Tryd.prog tab Su118 ann_ref06_Light (J_ref06_Light t x u) Tryd.f58 (fun r => LeD r (.t (.a [.v (.int .i64 ((lgtR t x u).lo)), .v (.int .i64 ((lgtR t x u).hi))])))) := by
 rw [lp_ref06_Light]
 refine ⟨⟨?_, ?_⟩, trivial⟩
 ·intro F s h
  obtain _ | ⟨g, F⟩ := F
  case cons => exact h.elim
  obtain ⟨w0, w1, rfl, hi⟩ := h
  exact zero_ref06_Light_0 t x u w0 w1 hi
 ·intro n F s h
  obtain _ | ⟨g, F⟩ := F
  case cons => exact h.elim
  obtain ⟨w0, w1, rfl, hi⟩ := h
  rw [er_ref06_Light_0]
  exact rnd_ref06_Light_0 t x u _ _ _ hp hi
def con_ref06_Light : Con := fun args => match args with
 | [.t (.a [.sl 2 n_t c_t]), .t (.c (.v (.int .i64 x))), .t (.c (.v (.int .i64 u)))] => some (.t (.a [.v (.int .i64 ((lgtR (listC n_t mkKn c_t) x u).lo)), .v (.int .i64 ((lgtR (listC n_t mkKn c_t) x u).hi))]), some (numsP 2 n_t c_t ∧ tabE (listC n_t mkKn c_t) = 0 ∧ 0 ≤ u ∧ u ≤ 100000), false)
 | _ => none
theorem ok_ref06_Light : Ok Tryd.prog 58 con_ref06_Light := by
 refine Ok.fn (ann := ann_ref06_Light) mixed tabOK VSu118 ValidIt.no (fn := Tryd.f58) (by kernel_rfl) (by kernel_rfl) fit_ref06_Light fun args r pre fresh h hp => ?_
 unfold con_ref06_Light at h
 split at h
 ·rename_i n_t c_t x u
  cases h
  obtain ⟨hp0, hp⟩ := hp
  refine ⟨rfl, J_ref06_Light (listC n_t mkKn c_t) x u, [.t (.a [.sl 2 ((listC n_t mkKn c_t).length) (knsC (listC n_t mkKn c_t))]), .t (.c (.v (.int .i64 x))), .t (.c (.v (.int .i64 u)))], ?_, Nat.le_of_ble_eq_true (by kernel_rfl), ?_, ?_⟩
  ·exact (LeA_cons (leT_a (LeCs.cons ((leL_Knot hp0)) LeCs.nil)) (LeA_cons (LeD.refl _) (LeA_cons (LeD.refl _) LeA_nil)))
  ·rw [ev_ref06_Light]; exact spec_ref06_Light (listC n_t mkKn c_t) x u hp
  ·exact all_ref06_Light (listC n_t mkKn c_t) x u hp
 ·cases h
noncomputable def Su119 : Sum := addS Su118 58 con_ref06_Light
theorem VSu119 : Valid Tryd.prog Su119 := Valid.add VSu118 ok_ref06_Light
def mk_ref06_Energies_0 (t : List Knot) (l : List FHit) (p0 p1 p2 : Int) (v0_0 : Int) (v0_1 : Int) (v0_2 : Int) : DS := ⟨[none, some (.t (.c (.sl 7 l.length (hitsC l)))), none, some (.t (.c (.p 3 0))), none, some (.t (.c (.p 5 0))), some (.t (.c (.p 6 0))), none, some (.t (.c (.p 8 0))), some (.t (.c (.v (.int .i64 v0_2)))), none, none, none, none, none, none, none, none, none, none, none, none, none, none, none, none, none, none, none, none, none, none, none, none, none, none, none, none, none, none, none, none, none, none, none, none, none, none, none, none, none, none, none, none, none, none, none, none, none, none, none, none, none, none, none, none, none, none, none, none, none, none, none, none, none, none, none, none, none, none, none, none, none, none, none, none, none, none, none, none, none, none], [none, none, none, some (.box 88 [.sl 2 t.length (knsC t)]), none, some (.box 24 [.v (.int .i64 p0), .v (.int .i64 p1), .v (.int .i64 p2)]), some (.box 94 [.v (.int .i64 0), .v (.int .i64 0)]), none, some (.box 94 [.v (.int .i64 v0_0), .v (.int .i64 v0_1)]), none, none, none, none, none, none, none, none, none, none, none, none, none, none, none, none, none, none, none, none, none, none, none, none, none, none, none, none, none, none, none, none, none, none, none, none, none, none, none, none, none, none, none, none, none, none, none, none, none, none, none, none, none, none, none, none, none, none, none, none, none, none, none, none, none, none, none, none, none, none, none, none, none, none, none, none, none, none, none, none, none, none, none]⟩
def mk_ref06_Energies_2 (t : List Knot) (l : List FHit) (p0 p1 p2 : Int) (v2_0 : Int) (v2_1 : Int) (v2_2 : Int) (v2_3 : Int) (v2_4 : Int) (v2_5 : Int) : DS := ⟨[none, some (.t (.c (.sl 7 l.length (hitsC l)))), none, some (.t (.c (.p 3 0))), none, some (.t (.c (.p 5 0))), some (.t (.c (.p 6 0))), none, some (.t (.c (.p 8 0))), some (.t (.c (.v (.int .i64 v2_5)))), some (.t (.c (.v (.int .i64 v2_2)))), some (.t (.c (.v (.int .i64 v2_3)))), some (.t (.c (.v (.int .i64 v2_4)))), none, none, none, none, none, none, none, none, none, none, none, none, none, none, none, none, none, none, none, none, none, none, none, none, none, none, none, none, none, none, none, none, none, none, none, none, none, none, none, none, none, none, none, none, none, none, none, none, none, none, none, none, none, none, none, none, none, none, none, none, none, none, none, none, none, none, none, none, none, none, none, none, none, none, none, none, none, none, none], [none, none, none, some (.box 88 [.sl 2 t.length (knsC t)]), none, some (.box 24 [.v (.int .i64 p0), .v (.int .i64 p1), .v (.int .i64 p2)]), some (.box 94 [.v (.int .i64 0), .v (.int .i64 0)]), none, some (.box 94 [.v (.int .i64 v2_0), .v (.int .i64 v2_1)]), none, none, none, none, none, none, none, none, none, none, none, none, none, none, none, none, none, none, none, none, none, none, none, none, none, none, none, none, none, none, none, none, none, none, none, none, none, none, none, none, none, none, none, none, none, none, none, none, none, none, none, none, none, none, none, none, none, none, none, none, none, none, none, none, none, none, none, none, none, none, none, none, none, none, none, none, none, none, none, none, none, none, none]⟩
def mk_ref06_Energies_4 (t : List Knot) (l : List FHit) (p0 p1 p2 : Int) (v4_0 : Int) (v4_1 : Int) (v4_2 : Int) (v4_3 : Int) (v4_4 : Int) (v4_5 : Int) : DS := ⟨[none, some (.t (.c (.sl 7 l.length (hitsC l)))), none, some (.t (.c (.p 3 0))), none, some (.t (.c (.p 5 0))), some (.t (.c (.p 6 0))), none, some (.t (.c (.p 8 0))), some (.t (.c (.v (.int .i64 v4_5)))), some (.t (.c (.v (.int .i64 v4_2)))), some (.t (.c (.v (.int .i64 v4_3)))), some (.t (.c (.v (.int .i64 v4_4)))), none, none, none, none, none, none, none, none, none, none, none, none, none, none, none, none, none, none, none, none, none, none, none, none, none, none, none, none, none, none, none, none, none, none, none, none, none, none, none, none, none, none, none, none, none, none, none, none, none, none, none, none, none, none, none, none, none, none, none, none, none, none, none, none, none, none, none, none, none, none, none, none, none, none, none, none, none, none, none], [none, none, none, some (.box 88 [.sl 2 t.length (knsC t)]), none, some (.box 24 [.v (.int .i64 p0), .v (.int .i64 p1), .v (.int .i64 p2)]), some (.box 94 [.v (.int .i64 0), .v (.int .i64 0)]), none, some (.box 94 [.v (.int .i64 v4_0), .v (.int .i64 v4_1)]), none, none, none, none, none, none, none, none, none, none, none, none, none, none, none, none, none, none, none, none, none, none, none, none, none, none, none, none, none, none, none, none, none, none, none, none, none, none, none, none, none, none, none, none, none, none, none, none, none, none, none, none, none, none, none, none, none, none, none, none, none, none, none, none, none, none, none, none, none, none, none, none, none, none, none, none, none, none, none, none, none, none, none]⟩
def vc_ref06_Energies (J : Inv) (t : List Knot) (l : List FHit) (p0 p1 p2 : Int) (post : DV → Prop) : Prop := ∃ n, J 0 (n :: []) (mk_ref06_Energies_0 t l p0 p1 p2 0 100000 0)
def ann_ref06_Energies : Ann := ⟨fun r => lookA r [(5, ([[], [], [], [1, 2], [1, 2, 3], [1, 2, 3, 4], [0, 1, 2, 3, 4, 5], [0, 1, 2, 3, 4, 5, 6], [0, 1, 2, 3, 4, 5, 6, 7]], [[28, 29], [28, 29], [28, 29], [28, 29], [28, 29], [28, 29], [29], [], []])), (9, ([[], [], [], [0, 1, 2], [0, 1, 2, 3], [], [], [5, 6], [5, 6, 7], [5, 6, 7, 8], [5, 6, 7, 8, 9], [0, 1, 2, 3, 4, 5, 6, 7, 8, 9, 10]], [[40], [40], [40], [], [], [40], [40], [40], [40], [40], [40], []])), (16, ([[], [], [], [0, 1, 2], [0, 1, 2, 3], [], [], [5, 6], [5, 6, 7], [5, 6, 7, 8], [5, 6, 7, 8, 9], [0, 1, 2, 3, 4, 5, 6, 7, 8, 9, 10]], [[67], [67], [67], [], [], [67], [67], [67], [67], [67], [67], []]))], fun b => lookA b [(0, (none, some ⟨[1, 3, 5, 6, 8, 9], [3, 5, 6, 8], []⟩)), (2, (none, some ⟨[1, 3, 5, 6, 8, 9, 10, 11, 12], [3, 5, 6, 8], []⟩)), (4, (none, some ⟨[1, 3, 5, 6, 8, 9, 10, 11, 12], [3, 5, 6, 8], []⟩))], fun _ => [], noIt, false, fun _ => none, fun r => lookA r [(10, [11, 12]), (17, [11, 12])]⟩
theorem ev_ref06_Energies (J : Inv) (t : List Knot) (l : List FHit) (p0 p1 p2 : Int) (post : DV → Prop) : evFn Tryd.prog tab Su119 ann_ref06_Energies J Tryd.f60 [.t (.a [.sl 2 t.length (knsC t)]), .t (.c (.sl 7 l.length (hitsC l))), .t (.a [.v (.int .i64 p0), .v (.int .i64 p1), .v (.int .i64 p2)])] post = vc_ref06_Energies J t l p0 p1 p2 post := by kernel_rfl
theorem fit_ref06_Energies : okFn ann_ref06_Energies Tryd.f60 = true := by kernel_rfl
def rd_ref06_Energies_0 (J : Inv) (t : List Knot) (l : List FHit) (p0 p1 p2 : Int) (v0_0 : Int) (v0_1 : Int) (v0_2 : Int) (nn0 : Nat) (post : DV → Prop) : Prop := cond (decide (v0_2 < ((l.length : Nat) : Int))) ((0 ≤ v0_2 ∧ v0_2 < ((l.length : Nat) : Int)) ∧ ((((⟨p0, p1, p2⟩ : P3)).bd 15000 ∧ ((hitAt l v0_2.toNat).p).bd 15000) ∧ ((0 ≤ (sqD (⟨p0, p1, p2⟩ : P3) (hitAt l v0_2.toNat).p) ∧ (sqD (⟨p0, p1, p2⟩ : P3) (hitAt l v0_2.toNat).p) < 1099511627776) ∧ (∃ n, J 2 (n :: nn0 :: []) (mk_ref06_Energies_2 t l p0 p1 p2 v0_0 v0_1 (rt (sqD (⟨p0, p1, p2⟩ : P3) (hitAt l v0_2.toNat).p)) 0 100001 v0_2))))) (cond (decide (v0_0 > v0_1)) (post (.tu [.a [.v (.int .i64 0), .v (.int .i64 0)], .c (.v (.bool false))])) (post (.tu [.a [.v (.int .i64 v0_0), .v (.int .i64 v0_1)], .c (.v (.bool true))])))
theorem er_ref06_Energies_0 (J : Inv) (t : List Knot) (l : List FHit) (p0 p1 p2 : Int) (v0_0 : Int) (v0_1 : Int) (v0_2 : Int) (nn0 : Nat) (post : DV → Prop) : round Tryd.prog tab Su119 ann_ref06_Energies J Tryd.f60 post 0 (nn0 :: []) (mk_ref06_Energies_0 t l p0 p1 p2 v0_0 v0_1 v0_2) = rd_ref06_Energies_0 J t l p0 p1 p2 v0_0 v0_1 v0_2 nn0 post := by kernel_rfl
def rd_ref06_Energies_2 (J : Inv) (t : List Knot) (l : List FHit) (p0 p1 p2 : Int) (v2_0 : Int) (v2_1 : Int) (v2_2 : Int) (v2_3 : Int) (v2_4 : Int) (v2_5 : Int) (nn2 nn0 : Nat) (post : DV → Prop) : Prop := cond (decide (v2_3 < v2_4)) (lt (IntKind.i64.wrap (v2_3 + v2_4)) fun x1 => lt (IntKind.i64.wrap (Int.tdiv x1 (2 : Int))) fun x2 => (IntKind.i64 = IntKind.i64 ∧ (2 : Int) ≠ 0) ∧ ((numsP 2 t.length (knsC t) ∧ tabE (listC t.length mkKn (knsC t)) = 0 ∧ 0 ≤ x2 ∧ x2 ≤ 100000) ∧ ((0 ≤ v2_5 ∧ v2_5 < ((l.length : Nat) : Int)) ∧ ((cond (decide (((lgtR (listC t.length mkKn (knsC t)) v2_2 x2).hi) ≥ ((hitAt l v2_5.toNat).c.lo))) (True) (lt (IntKind.i64.wrap (x2 + (1 : Int))) fun x4 => True)) ∧ (lt ((bif decide (((lgtR (listC t.length mkKn (knsC t)) v2_2 x2).hi) ≥ ((hitAt l v2_5.toNat).c.lo)) then v2_3 else (IntKind.i64.wrap (x2 + (1 : Int))))) fun x5 => lt ((bif decide (((lgtR (listC t.length mkKn (knsC t)) v2_2 x2).hi) ≥ ((hitAt l v2_5.toNat).c.lo)) then x2 else v2_4)) fun x6 => J 2 (nn2 :: nn0 :: []) (mk_ref06_Energies_2 t l p0 p1 p2 v2_0 v2_1 v2_2 x5 x6 v2_5)))))) (lt ((if v2_3 > v2_0 then v2_3 else v2_0)) fun x7 => ∃ n, J 4 (n :: nn0 :: []) (mk_ref06_Energies_4 t l p0 p1 p2 x7 v2_1 v2_2 0 100001 v2_5))
theorem er_ref06_Energies_2 (J : Inv) (t : List Knot) (l : List FHit) (p0 p1 p2 : Int) (v2_0 : Int) (v2_1 : Int) (v2_2 : Int) (v2_3 : Int) (v2_4 : Int) (v2_5 : Int) (nn2 nn0 : Nat) (post : DV → Prop) : round Tryd.prog tab Su119 ann_ref06_Energies J Tryd.f60 post 1 (nn2 :: nn0 :: []) (mk_ref06_Energies_2 t l p0 p1 p2 v2_0 v2_1 v2_2 v2_3 v2_4 v2_5) = rd_ref06_Energies_2 J t l p0 p1 p2 v2_0 v2_1 v2_2 v2_3 v2_4 v2_5 nn2 nn0 post := by kernel_rfl
def rd_ref06_Energies_4 (J : Inv) (t : List Knot) (l : List FHit) (p0 p1 p2 : Int) (v4_0 : Int) (v4_1 : Int) (v4_2 : Int) (v4_3 : Int) (v4_4 : Int) (v4_5 : Int) (nn4 nn0 : Nat) (post : DV → Prop) : Prop := cond (decide (v4_3 < v4_4)) (lt (IntKind.i64.wrap (v4_3 + v4_4)) fun x1 => lt (IntKind.i64.wrap (Int.tdiv x1 (2 : Int))) fun x2 => (IntKind.i64 = IntKind.i64 ∧ (2 : Int) ≠ 0) ∧ ((numsP 2 t.length (knsC t) ∧ tabE (listC t.length mkKn (knsC t)) = 0 ∧ 0 ≤ x2 ∧ x2 ≤ 100000) ∧ ((0 ≤ v4_5 ∧ v4_5 < ((l.length : Nat) : Int)) ∧ ((cond (decide (((lgtR (listC t.length mkKn (knsC t)) v4_2 x2).lo) > ((hitAt l v4_5.toNat).c.hi))) (True) (lt (IntKind.i64.wrap (x2 + (1 : Int))) fun x4 => True)) ∧ (lt ((bif decide (((lgtR (listC t.length mkKn (knsC t)) v4_2 x2).lo) > ((hitAt l v4_5.toNat).c.hi)) then v4_3 else (IntKind.i64.wrap (x2 + (1 : Int))))) fun x5 => lt ((bif decide (((lgtR (listC t.length mkKn (knsC t)) v4_2 x2).lo) > ((hitAt l v4_5.toNat).c.hi)) then x2 else v4_4)) fun x6 => J 4 (nn4 :: nn0 :: []) (mk_ref06_Energies_4 t l p0 p1 p2 v4_0 v4_1 v4_2 x5 x6 v4_5)))))) (lt (IntKind.i64.wrap (v4_3 - (1 : Int))) fun x7 => lt ((if x7 < v4_1 then x7 else v4_1)) fun x8 => lt (IntKind.i64.wrap (v4_5 + (1 : Int))) fun x9 => J 0 (nn0 :: []) (mk_ref06_Energies_0 t l p0 p1 p2 v4_0 x8 x9))
theorem er_ref06_Energies_4 (J : Inv) (t : List Knot) (l : List FHit) (p0 p1 p2 : Int) (v4_0 : Int) (v4_1 : Int) (v4_2 : Int) (v4_3 : Int) (v4_4 : Int) (v4_5 : Int) (nn4 nn0 : Nat) (post : DV → Prop) : round Tryd.prog tab Su119 ann_ref06_Energies J Tryd.f60 post 2 (nn4 :: nn0 :: []) (mk_ref06_Energies_4 t l p0 p1 p2 v4_0 v4_1 v4_2 v4_3 v4_4 v4_5) = rd_ref06_Energies_4 J t l p0 p1 p2 v4_0 v4_1 v4_2 v4_3 v4_4 v4_5 nn4 nn0 post := by kernel_rfl
theorem lp_ref06_Energies (J : Inv) (post : DV → Prop) : AllG J (loopsFn Tryd.prog tab Su119 ann_ref06_Energies J Tryd.f60 post) = (((∀ F s, ¬ J 0 (0 :: F) s) ∧ ∀ n F s, J 0 ((n + 1) :: F) s → round Tryd.prog tab Su119 ann_ref06_Energies J Tryd.f60 post 0 (n :: F) s) ∧ ((∀ F s, ¬ J 2 (0 :: F) s) ∧ ∀ n F s, J 2 ((n + 1) :: F) s → round Tryd.prog tab Su119 ann_ref06_Energies J Tryd.f60 post 1 (n :: F) s) ∧ ((∀ F s, ¬ J 4 (0 :: F) s) ∧ ∀ n F s, J 4 ((n + 1) :: F) s → round Tryd.prog tab Su119 ann_ref06_Energies J Tryd.f60 post 2 (n :: F) s) ∧ True) := by kernel_rfl
def J_ref06_Energies (t : List Knot) (l : List FHit) (p0 p1 p2 : Int) : Inv := fun b F s => match b, F with
 | 0, [nn0] => ∃ (v0_0 : Int) (v0_1 : Int) (v0_2 : Int), s = mk_ref06_Energies_0 t l p0 p1 p2 v0_0 v0_1 v0_2 ∧ ((tabE t = 0 ∧ hitsE l = 0 ∧ (⟨p0, p1, p2⟩ : P3).bd 15000) ∧ 0 ≤ v0_2 ∧ v0_2 ≤ l.length ∧ (nn0 : Int) + v0_2 = l.length + 1 ∧ v0_0 = (enF t (⟨p0, p1, p2⟩ : P3) (l.take v0_2.toNat)).lo ∧ v0_1 = (enF t (⟨p0, p1, p2⟩ : P3) (l.take v0_2.toNat)).hi ∧ (0 ≤ v0_0 ∧ v0_0 ≤ 100001) ∧ 0 ≤ v0_1 ∧ v0_1 ≤ 100000)
 | 2, [nn2, nn0] => ∃ (v2_0 : Int) (v2_1 : Int) (v2_2 : Int) (v2_3 : Int) (v2_4 : Int) (v2_5 : Int), s = mk_ref06_Energies_2 t l p0 p1 p2 v2_0 v2_1 v2_2 v2_3 v2_4 v2_5 ∧ ((tabE t = 0 ∧ hitsE l = 0 ∧ (⟨p0, p1, p2⟩ : P3).bd 15000) ∧ (0 ≤ v2_5 ∧ v2_5 < l.length ∧ (nn0 : Int) + v2_5 = l.length) ∧ v2_0 = (enF t (⟨p0, p1, p2⟩ : P3) (l.take v2_5.toNat)).lo ∧ v2_1 = (enF t (⟨p0, p1, p2⟩ : P3) (l.take v2_5.toNat)).hi ∧ v2_2 = rt (sqD (⟨p0, p1, p2⟩ : P3) (hitAt l v2_5.toNat).p) ∧ ((0 ≤ v2_0 ∧ v2_0 ≤ 100001) ∧ 0 ≤ v2_1 ∧ v2_1 ≤ 100000) ∧ 0 ≤ v2_3 ∧ v2_3 ≤ min (fitH t (⟨p0, p1, p2⟩ : P3) (hitAt l v2_5.toNat)).lo 100001 ∧ min (fitH t (⟨p0, p1, p2⟩ : P3) (hitAt l v2_5.toNat)).lo 100001 ≤ v2_4 ∧ v2_4 ≤ 100001 ∧ v2_4 - v2_3 < nn2)
 | 4, [nn4, nn0] => ∃ (v4_0 : Int) (v4_1 : Int) (v4_2 : Int) (v4_3 : Int) (v4_4 : Int) (v4_5 : Int), s = mk_ref06_Energies_4 t l p0 p1 p2 v4_0 v4_1 v4_2 v4_3 v4_4 v4_5 ∧ ((tabE t = 0 ∧ hitsE l = 0 ∧ (⟨p0, p1, p2⟩ : P3).bd 15000) ∧ (0 ≤ v4_5 ∧ v4_5 < l.length ∧ (nn0 : Int) + v4_5 = l.length) ∧ v4_0 = max (enF t (⟨p0, p1, p2⟩ : P3) (l.take v4_5.toNat)).lo (min (fitH t (⟨p0, p1, p2⟩ : P3) (hitAt l v4_5.toNat)).lo 100001) ∧ v4_1 = (enF t (⟨p0, p1, p2⟩ : P3) (l.take v4_5.toNat)).hi ∧ v4_2 = rt (sqD (⟨p0, p1, p2⟩ : P3) (hitAt l v4_5.toNat).p) ∧ ((0 ≤ v4_0 ∧ v4_0 ≤ 100001) ∧ 0 ≤ v4_1 ∧ v4_1 ≤ 100000) ∧ 0 ≤ v4_3 ∧ v4_3 ≤ ((fitH t (⟨p0, p1, p2⟩ : P3) (hitAt l v4_5.toNat)).hi + 1) ∧ ((fitH t (⟨p0, p1, p2⟩ : P3) (hitAt l v4_5.toNat)).hi + 1) ≤ v4_4 ∧ v4_4 ≤ 100001 ∧ v4_4 - v4_3 < nn4)
 | _, _ => False
set_option maxHeartbeats 8000000 in
set_option maxRecDepth 100000 in
theorem rnd_ref06_Energies_0 (t : List Knot) (l : List FHit) (p0 p1 p2 : Int) (v0_0 : Int) (v0_1 : Int) (v0_2 : Int) (nn0 : Nat) (hp : tabE t = 0 ∧ hitsE l = 0 ∧ ((⟨p0, p1, p2⟩ : P3)).bd 15000) (hi : (tabE t = 0 ∧ hitsE l = 0 ∧ (⟨p0, p1, p2⟩ : P3).bd 15000) ∧ 0 ≤ v0_2 ∧ v0_2 ≤ l.length ∧ ((nn0 + 1) : Int) + v0_2 = l.length + 1 ∧ v0_0 = (enF t (⟨p0, p1, p2⟩ : P3) (l.take v0_2.toNat)).lo ∧ v0_1 = (enF t (⟨p0, p1, p2⟩ : P3) (l.take v0_2.toNat)).hi ∧ (0 ≤ v0_0 ∧ v0_0 ≤ 100001) ∧ 0 ≤ v0_1 ∧ v0_1 ≤ 100000) : rd_ref06_Energies_0 (J_ref06_Energies t l p0 p1 p2) t l p0 p1 p2 v0_0 v0_1 v0_2 nn0 (fun r => LeD r (.tu [.a [.v (.int .i64 ((enV t l (⟨p0, p1, p2⟩ : P3)).lo)), .v (.int .i64 ((enV t l (⟨p0, p1, p2⟩ : P3)).hi))], .c (.v (.bool (enB t l (⟨p0, p1, p2⟩ : P3))))])) := by
 obtain ⟨⟨q1, q2, q3⟩, i1, i2, i3, f1, f2, b1, b2⟩ := hi
 obtain ⟨k, rfl⟩ : ∃ k : Nat, v0_2 = k := ⟨v0_2.toNat, by omega⟩
 have hk : (k : Int).toNat = k := rfl
 rw [hk] at f1 f2
 obtain ⟨⟨z1, z2⟩, z3⟩ := hitsE_ok q2
 unfold rd_ref06_Energies_0
 rw [hk]
 refine cond_i (fun h => ?_) (fun h => ?_)
 ·have hlt : k < l.length := by have := of_decide_eq_true h; omega
  obtain ⟨c1, _, c3⟩ := hit_ok (z3 k hlt)
  have c4 := c1.mono (B := 15000) (by decide)
  have dd := sqD_rg q3 c4
  have yr := yld_rg q1 (rt (sqD (⟨p0, p1, p2⟩ : P3) (hitAt l k).p))
  have gr := fitG_rg (c := (hitAt l k).c) yr.1 c3.1 (by omega)
  have eG : fitH t (⟨p0, p1, p2⟩ : P3) (hitAt l k) = fitG (hitAt l k).c (yldF (rt (sqD (⟨p0, p1, p2⟩ : P3) (hitAt l k).p)) t) := rfl
  refine ⟨by omega, ⟨q3, c4⟩, by omega, ⟨100002, _, _, _, _, _, _, rfl, ⟨q1, q2, q3⟩, by omega, f1, f2, rfl, ⟨b1, b2⟩, ?_⟩⟩
  rw [hk, eG]
  omega
 ·have hge : k = l.length := by have := of_decide_eq_false h; omega
  rw [hge, List.take_length] at f1 f2
  unfold enV enB
  rw [f1, f2]
  refine cond_i (fun g => ?_) (fun g => ?_)
  ·have g := of_decide_eq_true g
   rw [decide_eq_false (by omega), if_neg (by omega)]
   exact LeD.refl _
  ·have g := of_decide_eq_false g
   rw [decide_eq_true (by omega), if_pos (by omega)]
   exact LeD.refl _
theorem zero_ref06_Energies_0 (t : List Knot) (l : List FHit) (p0 p1 p2 : Int) (v0_0 : Int) (v0_1 : Int) (v0_2 : Int)  (hi : (tabE t = 0 ∧ hitsE l = 0 ∧ (⟨p0, p1, p2⟩ : P3).bd 15000) ∧ 0 ≤ v0_2 ∧ v0_2 ≤ l.length ∧ (0 : Int) + v0_2 = l.length + 1 ∧ v0_0 = (enF t (⟨p0, p1, p2⟩ : P3) (l.take v0_2.toNat)).lo ∧ v0_1 = (enF t (⟨p0, p1, p2⟩ : P3) (l.take v0_2.toNat)).hi ∧ (0 ≤ v0_0 ∧ v0_0 ≤ 100001) ∧ 0 ≤ v0_1 ∧ v0_1 ≤ 100000) : False := by
 omega
set_option maxHeartbeats 8000000 in
set_option maxRecDepth 100000 in
theorem rnd_ref06_Energies_2 (t : List Knot) (l : List FHit) (p0 p1 p2 : Int) (v2_0 : Int) (v2_1 : Int) (v2_2 : Int) (v2_3 : Int) (v2_4 : Int) (v2_5 : Int) (nn2 nn0 : Nat) (hp : tabE t = 0 ∧ hitsE l = 0 ∧ ((⟨p0, p1, p2⟩ : P3)).bd 15000) (hi : (tabE t = 0 ∧ hitsE l = 0 ∧ (⟨p0, p1, p2⟩ : P3).bd 15000) ∧ (0 ≤ v2_5 ∧ v2_5 < l.length ∧ (nn0 : Int) + v2_5 = l.length) ∧ v2_0 = (enF t (⟨p0, p1, p2⟩ : P3) (l.take v2_5.toNat)).lo ∧ v2_1 = (enF t (⟨p0, p1, p2⟩ : P3) (l.take v2_5.toNat)).hi ∧ v2_2 = rt (sqD (⟨p0, p1, p2⟩ : P3) (hitAt l v2_5.toNat).p) ∧ ((0 ≤ v2_0 ∧ v2_0 ≤ 100001) ∧ 0 ≤ v2_1 ∧ v2_1 ≤ 100000) ∧ 0 ≤ v2_3 ∧ v2_3 ≤ min (fitH t (⟨p0, p1, p2⟩ : P3) (hitAt l v2_5.toNat)).lo 100001 ∧ min (fitH t (⟨p0, p1, p2⟩ : P3) (hitAt l v2_5.toNat)).lo 100001 ≤ v2_4 ∧ v2_4 ≤ 100001 ∧ v2_4 - v2_3 < (nn2 + 1)) : rd_ref06_Energies_2 (J_ref06_Energies t l p0 p1 p2) t l p0 p1 p2 v2_0 v2_1 v2_2 v2_3 v2_4 v2_5 nn2 nn0 (fun r => LeD r (.tu [.a [.v (.int .i64 ((enV t l (⟨p0, p1, p2⟩ : P3)).lo)), .v (.int .i64 ((enV t l (⟨p0, p1, p2⟩ : P3)).hi))], .c (.v (.bool (enB t l (⟨p0, p1, p2⟩ : P3))))])) := by
 obtain ⟨⟨q1, q2, q3⟩, ⟨i1, i2, i3⟩, f1, f2, d1, ⟨b1, b2⟩, s1, s2, s3, s4⟩ := hi
 obtain ⟨k, rfl⟩ : ∃ k : Nat, v2_5 = k := ⟨v2_5.toNat, by omega⟩
 have hk : (k : Int).toNat = k := rfl
 rw [hk] at f1 f2 d1 s2 s3
 obtain ⟨⟨z1, z2⟩, z3⟩ := hitsE_ok q2
 have hlt : k < l.length := by omega
 obtain ⟨_, _, c3⟩ := hit_ok (z3 k hlt)
 have yr := yld_rg q1 (rt (sqD (⟨p0, p1, p2⟩ : P3) (hitAt l k).p))
 have gr := fitG_rg (c := (hitAt l k).c) yr.1 c3.1 (by omega)
 have eG : fitH t (⟨p0, p1, p2⟩ : P3) (hitAt l k) = fitG (hitAt l k).c (yldF (rt (sqD (⟨p0, p1, p2⟩ : P3) (hitAt l k).p)) t) := rfl
 rw [eG] at s2 s3
 unfold rd_ref06_Energies_2
 simp only [kns_listC]
 rw [hk]
 refine cond_i (fun h => ?_) (fun h => ?_)
 ·have h := of_decide_eq_true h
  refine lt_i fun x1 h1 => lt_i fun x2 h2 => ?_
  rw [wi (by omega)] at h1
  subst h1
  rw [Int.tdiv_eq_ediv_of_nonneg (by omega), wi (by omega)] at h2
  have hx2 : v2_3 ≤ x2 ∧ x2 < v2_4 := by omega
  have key := fit_lo (c := (hitAt l k).c) (e := x2) yr.1 (by omega) (by omega)
  rw [← d1] at key gr s2 s3
  refine ⟨by simp, ⟨numsP_kns t, q1, by omega, by omega⟩, by omega, cond_i (fun _ => trivial) (fun _ => lt_i fun _ _ => trivial), lt_i fun x5 h5 => lt_i fun x6 h6 => ?_⟩
  refine ⟨_, _, _, _, _, _, rfl, ⟨q1, q2, q3⟩, ⟨i1, i2, i3⟩, f1, f2, d1, ⟨b1, b2⟩, ?_⟩
  rw [hk, eG, ← d1]
  have e5 : (lgtR t v2_2 x2).hi ≥ (hitAt l k).c.lo ↔ min (fitG (hitAt l k).c (yldF v2_2 t)).lo 100001 ≤ x2 := key
  by_cases z : (lgtR t v2_2 x2).hi ≥ (hitAt l k).c.lo
  ·rw [decide_eq_true z] at h5 h6
   have h5 : v2_3 = x5 := h5
   have h6 : x2 = x6 := h6
   have := e5.1 z
   omega
  ·rw [decide_eq_false z] at h5 h6
   have h5 : IntKind.i64.wrap (x2 + 1) = x5 := h5
   have h6 : v2_4 = x6 := h6
   rw [wi (by omega)] at h5
   have := mt e5.2 z
   omega
 ·have h := of_decide_eq_false h
  refine lt_i fun x7 h7 => ?_
  rw [mx_if] at h7
  refine ⟨100002, _, _, _, _, _, _, rfl, ⟨q1, q2, q3⟩, ⟨i1, i2, i3⟩, ?_, f2, d1, ?_, ?_⟩
  ·rw [hk, eG]; omega
  ·omega
  ·rw [hk, eG]; omega
theorem zero_ref06_Energies_2 (t : List Knot) (l : List FHit) (p0 p1 p2 : Int) (v2_0 : Int) (v2_1 : Int) (v2_2 : Int) (v2_3 : Int) (v2_4 : Int) (v2_5 : Int) (nn0 : Nat) (hi : (tabE t = 0 ∧ hitsE l = 0 ∧ (⟨p0, p1, p2⟩ : P3).bd 15000) ∧ (0 ≤ v2_5 ∧ v2_5 < l.length ∧ (nn0 : Int) + v2_5 = l.length) ∧ v2_0 = (enF t (⟨p0, p1, p2⟩ : P3) (l.take v2_5.toNat)).lo ∧ v2_1 = (enF t (⟨p0, p1, p2⟩ : P3) (l.take v2_5.toNat)).hi ∧ v2_2 = rt (sqD (⟨p0, p1, p2⟩ : P3) (hitAt l v2_5.toNat).p) ∧ ((0 ≤ v2_0 ∧ v2_0 ≤ 100001) ∧ 0 ≤ v2_1 ∧ v2_1 ≤ 100000) ∧ 0 ≤ v2_3 ∧ v2_3 ≤ min (fitH t (⟨p0, p1, p2⟩ : P3) (hitAt l v2_5.toNat)).lo 100001 ∧ min (fitH t (⟨p0, p1, p2⟩ : P3) (hitAt l v2_5.toNat)).lo 100001 ≤ v2_4 ∧ v2_4 ≤ 100001 ∧ v2_4 - v2_3 < 0) : False := by
 omega
set_option maxHeartbeats 8000000 in
set_option maxRecDepth 100000 in
theorem rnd_ref06_Energies_4 (t : List Knot) (l : List FHit) (p0 p1 p2 : Int) (v4_0 : Int) (v4_1 : Int) (v4_2 : Int) (v4_3 : Int) (v4_4 : Int) (v4_5 : Int) (nn4 nn0 : Nat) (hp : tabE t = 0 ∧ hitsE l = 0 ∧ ((⟨p0, p1, p2⟩ : P3)).bd 15000) (hi : (tabE t = 0 ∧ hitsE l = 0 ∧ (⟨p0, p1, p2⟩ : P3).bd 15000) ∧ (0 ≤ v4_5 ∧ v4_5 < l.length ∧ (nn0 : Int) + v4_5 = l.length) ∧ v4_0 = max (enF t (⟨p0, p1, p2⟩ : P3) (l.take v4_5.toNat)).lo (min (fitH t (⟨p0, p1, p2⟩ : P3) (hitAt l v4_5.toNat)).lo 100001) ∧ v4_1 = (enF t (⟨p0, p1, p2⟩ : P3) (l.take v4_5.toNat)).hi ∧ v4_2 = rt (sqD (⟨p0, p1, p2⟩ : P3) (hitAt l v4_5.toNat).p) ∧ ((0 ≤ v4_0 ∧ v4_0 ≤ 100001) ∧ 0 ≤ v4_1 ∧ v4_1 ≤ 100000) ∧ 0 ≤ v4_3 ∧ v4_3 ≤ ((fitH t (⟨p0, p1, p2⟩ : P3) (hitAt l v4_5.toNat)).hi + 1) ∧ ((fitH t (⟨p0, p1, p2⟩ : P3) (hitAt l v4_5.toNat)).hi + 1) ≤ v4_4 ∧ v4_4 ≤ 100001 ∧ v4_4 - v4_3 < (nn4 + 1)) : rd_ref06_Energies_4 (J_ref06_Energies t l p0 p1 p2) t l p0 p1 p2 v4_0 v4_1 v4_2 v4_3 v4_4 v4_5 nn4 nn0 (fun r => LeD r (.tu [.a [.v (.int .i64 ((enV t l (⟨p0, p1, p2⟩ : P3)).lo)), .v (.int .i64 ((enV t l (⟨p0, p1, p2⟩ : P3)).hi))], .c (.v (.bool (enB t l (⟨p0, p1, p2⟩ : P3))))])) := by
 obtain ⟨⟨q1, q2, q3⟩, ⟨i1, i2, i3⟩, f1, f2, d1, ⟨b1, b2⟩, s1, s2, s3, s4⟩ := hi
 obtain ⟨k, rfl⟩ : ∃ k : Nat, v4_5 = k := ⟨v4_5.toNat, by omega⟩
 have hk : (k : Int).toNat = k := rfl
 rw [hk] at f1 f2 d1 s2 s3
 obtain ⟨⟨z1, z2⟩, z3⟩ := hitsE_ok q2
 have hlt : k < l.length := by omega
 obtain ⟨_, _, c3⟩ := hit_ok (z3 k hlt)
 have yr := yld_rg q1 (rt (sqD (⟨p0, p1, p2⟩ : P3) (hitAt l k).p))
 have gr := fitG_rg (c := (hitAt l k).c) yr.1 c3.1 (by omega)
 have eG : fitH t (⟨p0, p1, p2⟩ : P3) (hitAt l k) = fitG (hitAt l k).c (yldF (rt (sqD (⟨p0, p1, p2⟩ : P3) (hitAt l k).p)) t) := rfl
 rw [eG] at s2 s3
 unfold rd_ref06_Energies_4
 simp only [kns_listC]
 rw [hk]
 refine cond_i (fun h => ?_) (fun h => ?_)
 ·have h := of_decide_eq_true h
  refine lt_i fun x1 h1 => lt_i fun x2 h2 => ?_
  rw [wi (by omega)] at h1
  subst h1
  rw [Int.tdiv_eq_ediv_of_nonneg (by omega), wi (by omega)] at h2
  have hx2 : v4_3 ≤ x2 ∧ x2 < v4_4 := by omega
  have key := fit_hi (c := (hitAt l k).c) (e := x2) yr.1 (by omega) (by omega)
  rw [← d1] at key gr s2 s3
  refine ⟨by simp, ⟨numsP_kns t, q1, by omega, by omega⟩, by omega, cond_i (fun _ => trivial) (fun _ => lt_i fun _ _ => trivial), lt_i fun x5 h5 => lt_i fun x6 h6 => ?_⟩
  refine ⟨_, _, _, _, _, _, rfl, ⟨q1, q2, q3⟩, ⟨i1, i2, i3⟩, f1, f2, d1, ⟨b1, b2⟩, ?_⟩
  rw [hk, eG, ← d1]
  have e5 : (lgtR t v4_2 x2).lo > (hitAt l k).c.hi ↔ ((fitG (hitAt l k).c (yldF v4_2 t)).hi + 1) ≤ x2 := key
  by_cases z : (lgtR t v4_2 x2).lo > (hitAt l k).c.hi
  ·rw [decide_eq_true z] at h5 h6
   have h5 : v4_3 = x5 := h5
   have h6 : x2 = x6 := h6
   have := e5.1 z
   omega
  ·rw [decide_eq_false z] at h5 h6
   have h5 : IntKind.i64.wrap (x2 + 1) = x5 := h5
   have h6 : v4_4 = x6 := h6
   rw [wi (by omega)] at h5
   have := mt e5.2 z
   omega
 ·have h := of_decide_eq_false h
  refine lt_i fun x7 h7 => lt_i fun x8 h8 => lt_i fun x9 h9 => ?_
  rw [wi (by omega)] at h7 h9
  rw [eG] at f1
  rw [mn_if] at h8
  subst h9
  refine ⟨_, _, _, rfl, ⟨q1, q2, q3⟩, by omega, by omega, by omega, ?_, ?_, by omega, by omega, by omega⟩
  all_goals
   rw [show ((k : Int) + 1).toNat = k + 1 by omega, enF_succ t (⟨p0, p1, p2⟩ : P3) hlt]
   unfold enS
   simp only
   rw [eG]
   omega
theorem zero_ref06_Energies_4 (t : List Knot) (l : List FHit) (p0 p1 p2 : Int) (v4_0 : Int) (v4_1 : Int) (v4_2 : Int) (v4_3 : Int) (v4_4 : Int) (v4_5 : Int) (nn0 : Nat) (hi : (tabE t = 0 ∧ hitsE l = 0 ∧ (⟨p0, p1, p2⟩ : P3).bd 15000) ∧ (0 ≤ v4_5 ∧ v4_5 < l.length ∧ (nn0 : Int) + v4_5 = l.length) ∧ v4_0 = max (enF t (⟨p0, p1, p2⟩ : P3) (l.take v4_5.toNat)).lo (min (fitH t (⟨p0, p1, p2⟩ : P3) (hitAt l v4_5.toNat)).lo 100001) ∧ v4_1 = (enF t (⟨p0, p1, p2⟩ : P3) (l.take v4_5.toNat)).hi ∧ v4_2 = rt (sqD (⟨p0, p1, p2⟩ : P3) (hitAt l v4_5.toNat).p) ∧ ((0 ≤ v4_0 ∧ v4_0 ≤ 100001) ∧ 0 ≤ v4_1 ∧ v4_1 ≤ 100000) ∧ 0 ≤ v4_3 ∧ v4_3 ≤ ((fitH t (⟨p0, p1, p2⟩ : P3) (hitAt l v4_5.toNat)).hi + 1) ∧ ((fitH t (⟨p0, p1, p2⟩ : P3) (hitAt l v4_5.toNat)).hi + 1) ≤ v4_4 ∧ v4_4 ≤ 100001 ∧ v4_4 - v4_3 < 0) : False := by
 omega
set_option maxHeartbeats 8000000 in
set_option maxRecDepth 100000 in
theorem spec_ref06_Energies (t : List Knot) (l : List FHit) (p0 p1 p2 : Int) (hp : tabE t = 0 ∧ hitsE l = 0 ∧ ((⟨p0, p1, p2⟩ : P3)).bd 15000) : vc_ref06_Energies (J_ref06_Energies t l p0 p1 p2) t l p0 p1 p2 (fun r => LeD r (.tu [.a [.v (.int .i64 ((enV t l (⟨p0, p1, p2⟩ : P3)).lo)), .v (.int .i64 ((enV t l (⟨p0, p1, p2⟩ : P3)).hi))], .c (.v (.bool (enB t l (⟨p0, p1, p2⟩ : P3))))])) := by
 unfold vc_ref06_Energies
 exact ⟨l.length + 1, 0, 100000, 0, rfl, hp, by omega, by omega, by omega, rfl, rfl, by omega⟩
theorem all_ref06_Energies (t : List Knot) (l : List FHit) (p0 p1 p2 : Int) (hp : tabE t = 0 ∧ hitsE l = 0 ∧ ((⟨p0, p1, p2⟩ : P3)).bd 15000) : AllG (J_ref06_Energies t l p0 p1 p2) (loopsFn Tryd.prog tab Su119 ann_ref06_Energies (J_ref06_Energies t l p0 p1 p2) Tryd.f60 (fun r => LeD r (.tu [.a [.v (.int .i64 ((enV t l (⟨p0, p1, p2⟩ : P3)).lo)), .v (.int .i64 ((enV t l (⟨p0, p1, p2⟩ : P3)).hi))], .c (.v (.bool (enB t l (⟨p0, p1, p2⟩ : P3))))]))) := by
 rw [lp_ref06_Energies]
 refine ⟨⟨?_, ?_⟩, ⟨?_, ?_⟩, ⟨?_, ?_⟩, trivial⟩
 ·intro F s h
  obtain _ | ⟨g, F⟩ := F
  case cons => exact h.elim
  obtain ⟨w0, w1, w2, rfl, hi⟩ := h
  exact zero_ref06_Energies_0 t l p0 p1 p2 w0 w1 w2 hi
 ·intro n F s h
  obtain _ | ⟨g, F⟩ := F
  case cons => exact h.elim
  obtain ⟨w0, w1, w2, rfl, hi⟩ := h
  rw [er_ref06_Energies_0]
  exact rnd_ref06_Energies_0 t l p0 p1 p2 _ _ _ _ hp hi
 ·intro F s h
  obtain _ | ⟨f0, F⟩ := F
  ·exact h.elim
  obtain _ | ⟨g, F⟩ := F
  case cons => exact h.elim
  obtain ⟨w0, w1, w2, w3, w4, w5, rfl, hi⟩ := h
  exact zero_ref06_Energies_2 t l p0 p1 p2 w0 w1 w2 w3 w4 w5 _ hi
 ·intro n F s h
  obtain _ | ⟨f0, F⟩ := F
  ·exact h.elim
  obtain _ | ⟨g, F⟩ := F
  case cons => exact h.elim
  obtain ⟨w0, w1, w2, w3, w4, w5, rfl, hi⟩ := h
  rw [er_ref06_Energies_2]
  exact rnd_ref06_Energies_2 t l p0 p1 p2 _ _ _ _ _ _ _ _ hp hi
 ·intro F s h
  obtain _ | ⟨f0, F⟩ := F
  ·exact h.elim
  obtain _ | ⟨g, F⟩ := F
  case cons => exact h.elim
  obtain ⟨w0, w1, w2, w3, w4, w5, rfl, hi⟩ := h
  exact zero_ref06_Energies_4 t l p0 p1 p2 w0 w1 w2 w3 w4 w5 _ hi
 ·intro n F s h
  obtain _ | ⟨f0, F⟩ := F
  ·exact h.elim
  obtain _ | ⟨g, F⟩ := F
  case cons => exact h.elim
  obtain ⟨w0, w1, w2, w3, w4, w5, rfl, hi⟩ := h
  rw [er_ref06_Energies_4]
  exact rnd_ref06_Energies_4 t l p0 p1 p2 _ _ _ _ _ _ _ _ hp hi
def con_ref06_Energies : Con := fun args => match args with
 | [.t (.a [.sl 2 n_t c_t]), .t (.c (.sl 7 n_l c_l)), .t (.a [.v (.int .i64 p0), .v (.int .i64 p1), .v (.int .i64 p2)])] => some (.tu [.a [.v (.int .i64 ((enV (listC n_t mkKn c_t) (listC n_l mkHit c_l) (⟨p0, p1, p2⟩ : P3)).lo)), .v (.int .i64 ((enV (listC n_t mkKn c_t) (listC n_l mkHit c_l) (⟨p0, p1, p2⟩ : P3)).hi))], .c (.v (.bool (enB (listC n_t mkKn c_t) (listC n_l mkHit c_l) (⟨p0, p1, p2⟩ : P3))))], some (numsP 2 n_t c_t ∧ numsP 7 n_l c_l ∧ tabE (listC n_t mkKn c_t) = 0 ∧ hitsE (listC n_l mkHit c_l) = 0 ∧ ((⟨p0, p1, p2⟩ : P3)).bd 15000), false)
 | _ => none
theorem ok_ref06_Energies : Ok Tryd.prog 60 con_ref06_Energies := by
 refine Ok.fn (ann := ann_ref06_Energies) mixed tabOK VSu119 ValidIt.no (fn := Tryd.f60) (by kernel_rfl) (by kernel_rfl) fit_ref06_Energies fun args r pre fresh h hp => ?_
 unfold con_ref06_Energies at h
 split at h
 ·rename_i n_t c_t n_l c_l p0 p1 p2
  cases h
  obtain ⟨hp0, hp1, hp⟩ := hp
  refine ⟨rfl, J_ref06_Energies (listC n_t mkKn c_t) (listC n_l mkHit c_l) p0 p1 p2, [.t (.a [.sl 2 ((listC n_t mkKn c_t).length) (knsC (listC n_t mkKn c_t))]), .t (.c (.sl 7 ((listC n_l mkHit c_l).length) (hitsC (listC n_l mkHit c_l)))), .t (.a [.v (.int .i64 p0), .v (.int .i64 p1), .v (.int .i64 p2)])], ?_, Nat.le_of_ble_eq_true (by kernel_rfl), ?_, ?_⟩
  ·exact (LeA_cons (leT_a (LeCs.cons ((leL_Knot hp0)) LeCs.nil)) (LeA_cons (leT_c ((leL_FHit hp1))) (LeA_cons (LeD.refl _) LeA_nil)))
  ·rw [ev_ref06_Energies]; exact spec_ref06_Energies (listC n_t mkKn c_t) (listC n_l mkHit c_l) p0 p1 p2 hp
  ·exact all_ref06_Energies (listC n_t mkKn c_t) (listC n_l mkHit c_l) p0 p1 p2 hp
 ·cases h
noncomputable def Su120 : Sum := addS Su119 60 con_ref06_Energies
theorem VSu120 : Valid Tryd.prog Su120 := Valid.add VSu119 ok_ref06_Energies
end Go.Proofs.YtmhgjlapkhdlmaaDoor
set_option linter.unusedVariables false
set_option linter.unusedSimpArgs false
namespace Go.Proofs.YtmhgjlapkhdlmaaDoor
open Go.RowKit Ev
theorem tb_cases {t : List Knot} {l : List FHit} {p : P3} {x u : Int} (h : tabE t ≠ 0) : lgtE t x u = tabE t ∧ lgtV t x u = ⟨0, 0⟩ ∧ engE t l p = tabE t ∧ engV t l p = ⟨0, 0⟩ := by
 have e1 : lgtE t x u = tabE t := by unfold lgtE; simp [firstNZ, h]
 have e2 : engE0 t l p = tabE t := by unfold engE0; simp [firstNZ, h]
 have e3 : engE t l p = tabE t := by rw [show engE t l p = engE0 t l p from if_neg (by rw [e2]; exact h), e2]
 exact ⟨e1, if_neg (by rw [e1]; exact h), e3, if_neg (by rw [e3]; exact h)⟩
theorem lg_cases {t : List Knot} {x u : Int} (h : tabE t = 0) : (inB x 0 100000 = false ∧ lgtE t x u = 2 ∧ lgtV t x u = ⟨0, 0⟩) ∨ (inB x 0 100000 = true ∧ inB u 0 100000 = false ∧ lgtE t x u = 2 ∧ lgtV t x u = ⟨0, 0⟩) ∨ (inB x 0 100000 = true ∧ inB u 0 100000 = true ∧ lgtE t x u = 0 ∧ lgtV t x u = lgtR t x u ∧ 0 ≤ u ∧ u ≤ 100000) := by
 have e : lgtE t x u = unl (inB x 0 100000 && inB u 0 100000) 2 := by
  unfold lgtE; rw [h]
  cases (inB x 0 100000 && inB u 0 100000) <;> rfl
 cases hx : inB x 0 100000
 ·have e2 : lgtE t x u = 2 := by rw [e, hx]; rfl
  exact Or.inl ⟨rfl, e2, if_neg (by rw [e2]; decide)⟩
 ·cases hu : inB u 0 100000
  ·have e2 : lgtE t x u = 2 := by rw [e, hx, hu]; rfl
   exact Or.inr (Or.inl ⟨rfl, rfl, e2, if_neg (by rw [e2]; decide)⟩)
  ·have e2 : lgtE t x u = 0 := by rw [e, hx, hu]; rfl
   exact Or.inr (Or.inr ⟨rfl, rfl, e2, if_pos e2, inB_true.1 hu⟩)
theorem en_cases {t : List Knot} {l : List FHit} {p : P3} (h : tabE t = 0) : ((hitsE l == 0) = false ∧ (hitsE l != 0) = true ∧ engE t l p = hitsE l ∧ engV t l p = ⟨0, 0⟩) ∨ (hitsE l = 0 ∧ (posE p == 0) = false ∧ (posE p != 0) = true ∧ engE t l p = posE p ∧ engV t l p = ⟨0, 0⟩) ∨
  (hitsE l = 0 ∧ posE p = 0 ∧ enB t l p = true ∧ engE t l p = 0 ∧ engV t l p = enV t l p) ∨ (hitsE l = 0 ∧ posE p = 0 ∧ enB t l p = false ∧ engE t l p = 12 ∧ engV t l p = ⟨0, 0⟩ ∧ True) := by
 by_cases h1 : hitsE l = 0
 ·by_cases h2 : posE p = 0
  ·have e0 : engE0 t l p = 0 := by unfold engE0; rw [h, h1, h2]; rfl
   obtain ⟨e1, e2⟩ := en_same e0
   cases hb : enB t l p
   ·rw [hb] at e1
    exact Or.inr (Or.inr (Or.inr ⟨h1, h2, rfl, e1, by rw [show engV t l p = _ from if_neg (by rw [e1]; decide)], trivial⟩))
   ·rw [hb] at e1
    exact Or.inr (Or.inr (Or.inl ⟨h1, h2, rfl, e1, e2⟩))
  ·have e0 : engE0 t l p = posE p := by unfold engE0; rw [h, h1]; simp [firstNZ, h2]
   have e3 : engE t l p = posE p := by rw [show engE t l p = engE0 t l p from if_neg (by rw [e0]; exact h2), e0]
   exact Or.inr (Or.inl ⟨h1, by simpa using h2, by simpa using h2, e3, if_neg (by rw [e3]; exact h2)⟩)
 ·have e0 : engE0 t l p = hitsE l := by unfold engE0; rw [h]; simp [firstNZ, h1]
  have e3 : engE t l p = hitsE l := by rw [show engE t l p = engE0 t l p from if_neg (by rw [e0]; exact h1), e0]
  exact Or.inl ⟨by simpa using h1, by simpa using h1, e3, if_neg (by rw [e3]; exact h1)⟩
def vc_law06_FlashEnergies (t : List Knot) (l : List FHit) (x : Int) (u : Int) (p0 p1 p2 : Int) (post : DV → Prop) : Prop := (numsP 7 l.length (hitsC l)) ∧ (cond (!(decide (((listC l.length mkHit (hitsC l))).length ≤ 10))) ((true = true) ∧ (post (.t (.c (.v (.bool true)))))) (cond (decide (((t.length : Nat) : Int) > (10 : Int))) (post (.t (.c (.v (.bool true))))) ((numsP 2 t.length (knsC t) ∧ ((listC t.length mkKn (knsC t))).length ≤ 1000) ∧ ((numsP 2 ((listC t.length mkKn (knsC t)).length) (knsC (listC t.length mkKn (knsC t)))) ∧ ((numsP 2 t.length (knsC t) ∧ ((listC t.length mkKn (knsC t))).length ≤ 1000) ∧ ((numsP 2 ((listC t.length mkKn (knsC t)).length) (knsC (listC t.length mkKn (knsC t)))) ∧ ((numsP 2 t.length (knsC t) ∧ ((listC t.length mkKn (knsC t))).length ≤ 1000) ∧ ((numsP 7 l.length (hitsC l) ∧ ((listC l.length mkHit (hitsC l))).length ≤ 1000) ∧ ((numsP 2 ((listC t.length mkKn (knsC t)).length) (knsC (listC t.length mkKn (knsC t))) ∧ numsP 7 ((listC l.length mkHit (hitsC l)).length) (hitsC (listC l.length mkHit (hitsC l)))) ∧ ((numsP 2 t.length (knsC t)) ∧ (cond ((tabE (listC ((listC t.length mkKn (knsC t)).length) mkKn (knsC (listC t.length mkKn (knsC t))))) != (tabE (listC t.length mkKn (knsC t)))) ((true = true) ∧ (post (.t (.c (.v (.bool false)))))) (cond ((tabI (listC ((listC t.length mkKn (knsC t)).length) mkKn (knsC (listC t.length mkKn (knsC t))))) != (tabI (listC t.length mkKn (knsC t)))) (post (.t (.c (.v (.bool false))))) (cond ((tabE (listC t.length mkKn (knsC t))) != (0 : Int)) (cond ((lgtE (listC ((listC t.length mkKn (knsC t)).length) mkKn (knsC (listC t.length mkKn (knsC t)))) x u) == (tabE (listC t.length mkKn (knsC t)))) (cond ((engE (listC ((listC t.length mkKn (knsC t)).length) mkKn (knsC (listC t.length mkKn (knsC t)))) (listC ((listC l.length mkHit (hitsC l)).length) mkHit (hitsC (listC l.length mkHit (hitsC l)))) (⟨p0, p1, p2⟩ : P3)) == (tabE (listC t.length mkKn (knsC t)))) (cond (bif (((lgtV (listC ((listC t.length mkKn (knsC t)).length) mkKn (knsC (listC t.length mkKn (knsC t)))) x u).lo) == (0 : Int)) then (bif (((lgtV (listC ((listC t.length mkKn (knsC t)).length) mkKn (knsC (listC t.length mkKn (knsC t)))) x u).hi) == (0 : Int)) then true else false) else false) (post (.t (.c (.v (.bool (bif (((engV (listC ((listC t.length mkKn (knsC t)).length) mkKn (knsC (listC t.length mkKn (knsC t)))) (listC ((listC l.length mkHit (hitsC l)).length) mkHit (hitsC (listC l.length mkHit (hitsC l)))) (⟨p0, p1, p2⟩ : P3)).lo) == (0 : Int)) then (bif (((engV (listC ((listC t.length mkKn (knsC t)).length) mkKn (knsC (listC t.length mkKn (knsC t)))) (listC ((listC l.length mkHit (hitsC l)).length) mkHit (hitsC (listC l.length mkHit (hitsC l)))) (⟨p0, p1, p2⟩ : P3)).hi) == (0 : Int)) then true else false) else false)))))) ((false = false) ∧ (post (.t (.c (.v (.bool false))))))) ((false = false) ∧ ((false = false) ∧ (post (.t (.c (.v (.bool false)))))))) ((false = false) ∧ ((false = false) ∧ ((false = false) ∧ (post (.t (.c (.v (.bool false))))))))) (cond (!(inB x (0 : Int) (100000 : Int))) ((true = true) ∧ (cond ((lgtE (listC ((listC t.length mkKn (knsC t)).length) mkKn (knsC (listC t.length mkKn (knsC t)))) x u) != (2 : Int)) ((true = true) ∧ (post (.t (.c (.v (.bool false)))))) (cond (!(bif (((lgtV (listC ((listC t.length mkKn (knsC t)).length) mkKn (knsC (listC t.length mkKn (knsC t)))) x u).lo) == (0 : Int)) then (bif (((lgtV (listC ((listC t.length mkKn (knsC t)).length) mkKn (knsC (listC t.length mkKn (knsC t)))) x u).hi) == (0 : Int)) then true else false) else false)) (post (.t (.c (.v (.bool false))))) ((numsP 7 l.length (hitsC l)) ∧ (cond ((hitsE (listC l.length mkHit (hitsC l))) == (0 : Int)) (cond ((posE (⟨p0, p1, p2⟩ : P3)) != (0 : Int)) (cond ((engE (listC ((listC t.length mkKn (knsC t)).length) mkKn (knsC (listC t.length mkKn (knsC t)))) (listC ((listC l.length mkHit (hitsC l)).length) mkHit (hitsC (listC l.length mkHit (hitsC l)))) (⟨p0, p1, p2⟩ : P3)) == (posE (⟨p0, p1, p2⟩ : P3))) (post (.t (.c (.v (.bool (bif (((engV (listC ((listC t.length mkKn (knsC t)).length) mkKn (knsC (listC t.length mkKn (knsC t)))) (listC ((listC l.length mkHit (hitsC l)).length) mkHit (hitsC (listC l.length mkHit (hitsC l)))) (⟨p0, p1, p2⟩ : P3)).lo) == (0 : Int)) then (bif (((engV (listC ((listC t.length mkKn (knsC t)).length) mkKn (knsC (listC t.length mkKn (knsC t)))) (listC ((listC l.length mkHit (hitsC l)).length) mkHit (hitsC (listC l.length mkHit (hitsC l)))) (⟨p0, p1, p2⟩ : P3)).hi) == (0 : Int)) then true else false) else false)))))) ((false = false) ∧ (post (.t (.c (.v (.bool false))))))) ((numsP 2 t.length (knsC t) ∧ numsP 7 l.length (hitsC l) ∧ tabE (listC t.length mkKn (knsC t)) = 0 ∧ hitsE (listC l.length mkHit (hitsC l)) = 0 ∧ ((⟨p0, p1, p2⟩ : P3)).bd 15000) ∧ (cond (enB (listC t.length mkKn (knsC t)) (listC l.length mkHit (hitsC l)) (⟨p0, p1, p2⟩ : P3)) (cond ((engE (listC ((listC t.length mkKn (knsC t)).length) mkKn (knsC (listC t.length mkKn (knsC t)))) (listC ((listC l.length mkHit (hitsC l)).length) mkHit (hitsC (listC l.length mkHit (hitsC l)))) (⟨p0, p1, p2⟩ : P3)) == (0 : Int)) (cond (bif (((engV (listC ((listC t.length mkKn (knsC t)).length) mkKn (knsC (listC t.length mkKn (knsC t)))) (listC ((listC l.length mkHit (hitsC l)).length) mkHit (hitsC (listC l.length mkHit (hitsC l)))) (⟨p0, p1, p2⟩ : P3)).lo) == ((enV (listC t.length mkKn (knsC t)) (listC l.length mkHit (hitsC l)) (⟨p0, p1, p2⟩ : P3)).lo)) then (bif (((engV (listC ((listC t.length mkKn (knsC t)).length) mkKn (knsC (listC t.length mkKn (knsC t)))) (listC ((listC l.length mkHit (hitsC l)).length) mkHit (hitsC (listC l.length mkHit (hitsC l)))) (⟨p0, p1, p2⟩ : P3)).hi) == ((enV (listC t.length mkKn (knsC t)) (listC l.length mkHit (hitsC l)) (⟨p0, p1, p2⟩ : P3)).hi)) then true else false) else false) ((true = true) ∧ (post (.t (.c (.v (.bool true)))))) (cond (!(enB (listC t.length mkKn (knsC t)) (listC l.length mkHit (hitsC l)) (⟨p0, p1, p2⟩ : P3))) (cond ((engE (listC ((listC t.length mkKn (knsC t)).length) mkKn (knsC (listC t.length mkKn (knsC t)))) (listC ((listC l.length mkHit (hitsC l)).length) mkHit (hitsC (listC l.length mkHit (hitsC l)))) (⟨p0, p1, p2⟩ : P3)) == (12 : Int)) (post (.t (.c (.v (.bool (bif (((engV (listC ((listC t.length mkKn (knsC t)).length) mkKn (knsC (listC t.length mkKn (knsC t)))) (listC ((listC l.length mkHit (hitsC l)).length) mkHit (hitsC (listC l.length mkHit (hitsC l)))) (⟨p0, p1, p2⟩ : P3)).lo) == (0 : Int)) then (bif (((engV (listC ((listC t.length mkKn (knsC t)).length) mkKn (knsC (listC t.length mkKn (knsC t)))) (listC ((listC l.length mkHit (hitsC l)).length) mkHit (hitsC (listC l.length mkHit (hitsC l)))) (⟨p0, p1, p2⟩ : P3)).hi) == (0 : Int)) then true else false) else false)))))) ((false = false) ∧ (post (.t (.c (.v (.bool false))))))) ((false = false) ∧ ((false = false) ∧ (post (.t (.c (.v (.bool false))))))))) ((false = false) ∧ (cond (!(enB (listC t.length mkKn (knsC t)) (listC l.length mkHit (hitsC l)) (⟨p0, p1, p2⟩ : P3))) (cond ((engE (listC ((listC t.length mkKn (knsC t)).length) mkKn (knsC (listC t.length mkKn (knsC t)))) (listC ((listC l.length mkHit (hitsC l)).length) mkHit (hitsC (listC l.length mkHit (hitsC l)))) (⟨p0, p1, p2⟩ : P3)) == (12 : Int)) (post (.t (.c (.v (.bool (bif (((engV (listC ((listC t.length mkKn (knsC t)).length) mkKn (knsC (listC t.length mkKn (knsC t)))) (listC ((listC l.length mkHit (hitsC l)).length) mkHit (hitsC (listC l.length mkHit (hitsC l)))) (⟨p0, p1, p2⟩ : P3)).lo) == (0 : Int)) then (bif (((engV (listC ((listC t.length mkKn (knsC t)).length) mkKn (knsC (listC t.length mkKn (knsC t)))) (listC ((listC l.length mkHit (hitsC l)).length) mkHit (hitsC (listC l.length mkHit (hitsC l)))) (⟨p0, p1, p2⟩ : P3)).hi) == (0 : Int)) then true else false) else false)))))) ((false = false) ∧ (post (.t (.c (.v (.bool false))))))) ((false = false) ∧ ((false = false) ∧ (post (.t (.c (.v (.bool false)))))))))) ((false = false) ∧ ((false = false) ∧ (cond (!(enB (listC t.length mkKn (knsC t)) (listC l.length mkHit (hitsC l)) (⟨p0, p1, p2⟩ : P3))) (cond ((engE (listC ((listC t.length mkKn (knsC t)).length) mkKn (knsC (listC t.length mkKn (knsC t)))) (listC ((listC l.length mkHit (hitsC l)).length) mkHit (hitsC (listC l.length mkHit (hitsC l)))) (⟨p0, p1, p2⟩ : P3)) == (12 : Int)) (post (.t (.c (.v (.bool (bif (((engV (listC ((listC t.length mkKn (knsC t)).length) mkKn (knsC (listC t.length mkKn (knsC t)))) (listC ((listC l.length mkHit (hitsC l)).length) mkHit (hitsC (listC l.length mkHit (hitsC l)))) (⟨p0, p1, p2⟩ : P3)).lo) == (0 : Int)) then (bif (((engV (listC ((listC t.length mkKn (knsC t)).length) mkKn (knsC (listC t.length mkKn (knsC t)))) (listC ((listC l.length mkHit (hitsC l)).length) mkHit (hitsC (listC l.length mkHit (hitsC l)))) (⟨p0, p1, p2⟩ : P3)).hi) == (0 : Int)) then true else false) else false)))))) ((false = false) ∧ (post (.t (.c (.v (.bool false))))))) ((false = false) ∧ ((false = false) ∧ (post (.t (.c (.v (.bool false))))))))))))) (cond ((hitsE (listC l.length mkHit (hitsC l))) != (0 : Int)) (cond ((engE (listC ((listC t.length mkKn (knsC t)).length) mkKn (knsC (listC t.length mkKn (knsC t)))) (listC ((listC l.length mkHit (hitsC l)).length) mkHit (hitsC (listC l.length mkHit (hitsC l)))) (⟨p0, p1, p2⟩ : P3)) == (hitsE (listC l.length mkHit (hitsC l)))) (post (.t (.c (.v (.bool (bif (((engV (listC ((listC t.length mkKn (knsC t)).length) mkKn (knsC (listC t.length mkKn (knsC t)))) (listC ((listC l.length mkHit (hitsC l)).length) mkHit (hitsC (listC l.length mkHit (hitsC l)))) (⟨p0, p1, p2⟩ : P3)).lo) == (0 : Int)) then (bif (((engV (listC ((listC t.length mkKn (knsC t)).length) mkKn (knsC (listC t.length mkKn (knsC t)))) (listC ((listC l.length mkHit (hitsC l)).length) mkHit (hitsC (listC l.length mkHit (hitsC l)))) (⟨p0, p1, p2⟩ : P3)).hi) == (0 : Int)) then true else false) else false)))))) ((false = false) ∧ (post (.t (.c (.v (.bool false))))))) ((numsP 2 t.length (knsC t) ∧ numsP 7 l.length (hitsC l) ∧ tabE (listC t.length mkKn (knsC t)) = 0 ∧ hitsE (listC l.length mkHit (hitsC l)) = 0 ∧ ((⟨p0, p1, p2⟩ : P3)).bd 15000) ∧ (cond (enB (listC t.length mkKn (knsC t)) (listC l.length mkHit (hitsC l)) (⟨p0, p1, p2⟩ : P3)) (cond ((engE (listC ((listC t.length mkKn (knsC t)).length) mkKn (knsC (listC t.length mkKn (knsC t)))) (listC ((listC l.length mkHit (hitsC l)).length) mkHit (hitsC (listC l.length mkHit (hitsC l)))) (⟨p0, p1, p2⟩ : P3)) == (0 : Int)) (cond (bif (((engV (listC ((listC t.length mkKn (knsC t)).length) mkKn (knsC (listC t.length mkKn (knsC t)))) (listC ((listC l.length mkHit (hitsC l)).length) mkHit (hitsC (listC l.length mkHit (hitsC l)))) (⟨p0, p1, p2⟩ : P3)).lo) == ((enV (listC t.length mkKn (knsC t)) (listC l.length mkHit (hitsC l)) (⟨p0, p1, p2⟩ : P3)).lo)) then (bif (((engV (listC ((listC t.length mkKn (knsC t)).length) mkKn (knsC (listC t.length mkKn (knsC t)))) (listC ((listC l.length mkHit (hitsC l)).length) mkHit (hitsC (listC l.length mkHit (hitsC l)))) (⟨p0, p1, p2⟩ : P3)).hi) == ((enV (listC t.length mkKn (knsC t)) (listC l.length mkHit (hitsC l)) (⟨p0, p1, p2⟩ : P3)).hi)) then true else false) else false) ((true = true) ∧ (post (.t (.c (.v (.bool true)))))) (cond (!(enB (listC t.length mkKn (knsC t)) (listC l.length mkHit (hitsC l)) (⟨p0, p1, p2⟩ : P3))) (cond ((engE (listC ((listC t.length mkKn (knsC t)).length) mkKn (knsC (listC t.length mkKn (knsC t)))) (listC ((listC l.length mkHit (hitsC l)).length) mkHit (hitsC (listC l.length mkHit (hitsC l)))) (⟨p0, p1, p2⟩ : P3)) == (12 : Int)) (post (.t (.c (.v (.bool (bif (((engV (listC ((listC t.length mkKn (knsC t)).length) mkKn (knsC (listC t.length mkKn (knsC t)))) (listC ((listC l.length mkHit (hitsC l)).length) mkHit (hitsC (listC l.length mkHit (hitsC l)))) (⟨p0, p1, p2⟩ : P3)).lo) == (0 : Int)) then (bif (((engV (listC ((listC t.length mkKn (knsC t)).length) mkKn (knsC (listC t.length mkKn (knsC t)))) (listC ((listC l.length mkHit (hitsC l)).length) mkHit (hitsC (listC l.length mkHit (hitsC l)))) (⟨p0, p1, p2⟩ : P3)).hi) == (0 : Int)) then true else false) else false)))))) ((false = false) ∧ (post (.t (.c (.v (.bool false))))))) ((false = false) ∧ ((false = false) ∧ (post (.t (.c (.v (.bool false))))))))) ((false = false) ∧ (cond (!(enB (listC t.length mkKn (knsC t)) (listC l.length mkHit (hitsC l)) (⟨p0, p1, p2⟩ : P3))) (cond ((engE (listC ((listC t.length mkKn (knsC t)).length) mkKn (knsC (listC t.length mkKn (knsC t)))) (listC ((listC l.length mkHit (hitsC l)).length) mkHit (hitsC (listC l.length mkHit (hitsC l)))) (⟨p0, p1, p2⟩ : P3)) == (12 : Int)) (post (.t (.c (.v (.bool (bif (((engV (listC ((listC t.length mkKn (knsC t)).length) mkKn (knsC (listC t.length mkKn (knsC t)))) (listC ((listC l.length mkHit (hitsC l)).length) mkHit (hitsC (listC l.length mkHit (hitsC l)))) (⟨p0, p1, p2⟩ : P3)).lo) == (0 : Int)) then (bif (((engV (listC ((listC t.length mkKn (knsC t)).length) mkKn (knsC (listC t.length mkKn (knsC t)))) (listC ((listC l.length mkHit (hitsC l)).length) mkHit (hitsC (listC l.length mkHit (hitsC l)))) (⟨p0, p1, p2⟩ : P3)).hi) == (0 : Int)) then true else false) else false)))))) ((false = false) ∧ (post (.t (.c (.v (.bool false))))))) ((false = false) ∧ ((false = false) ∧ (post (.t (.c (.v (.bool false)))))))))) ((false = false) ∧ ((false = false) ∧ (cond (!(enB (listC t.length mkKn (knsC t)) (listC l.length mkHit (hitsC l)) (⟨p0, p1, p2⟩ : P3))) (cond ((engE (listC ((listC t.length mkKn (knsC t)).length) mkKn (knsC (listC t.length mkKn (knsC t)))) (listC ((listC l.length mkHit (hitsC l)).length) mkHit (hitsC (listC l.length mkHit (hitsC l)))) (⟨p0, p1, p2⟩ : P3)) == (12 : Int)) (post (.t (.c (.v (.bool (bif (((engV (listC ((listC t.length mkKn (knsC t)).length) mkKn (knsC (listC t.length mkKn (knsC t)))) (listC ((listC l.length mkHit (hitsC l)).length) mkHit (hitsC (listC l.length mkHit (hitsC l)))) (⟨p0, p1, p2⟩ : P3)).lo) == (0 : Int)) then (bif (((engV (listC ((listC t.length mkKn (knsC t)).length) mkKn (knsC (listC t.length mkKn (knsC t)))) (listC ((listC l.length mkHit (hitsC l)).length) mkHit (hitsC (listC l.length mkHit (hitsC l)))) (⟨p0, p1, p2⟩ : P3)).hi) == (0 : Int)) then true else false) else false)))))) ((false = false) ∧ (post (.t (.c (.v (.bool false))))))) ((false = false) ∧ ((false = false) ∧ (post (.t (.c (.v (.bool false)))))))))))))))))) (cond (!(inB u (0 : Int) (100000 : Int))) (cond ((lgtE (listC ((listC t.length mkKn (knsC t)).length) mkKn (knsC (listC t.length mkKn (knsC t)))) x u) != (2 : Int)) ((true = true) ∧ (post (.t (.c (.v (.bool false)))))) (cond (!(bif (((lgtV (listC ((listC t.length mkKn (knsC t)).length) mkKn (knsC (listC t.length mkKn (knsC t)))) x u).lo) == (0 : Int)) then (bif (((lgtV (listC ((listC t.length mkKn (knsC t)).length) mkKn (knsC (listC t.length mkKn (knsC t)))) x u).hi) == (0 : Int)) then true else false) else false)) (post (.t (.c (.v (.bool false))))) ((numsP 7 l.length (hitsC l)) ∧ (cond ((hitsE (listC l.length mkHit (hitsC l))) == (0 : Int)) (cond ((posE (⟨p0, p1, p2⟩ : P3)) != (0 : Int)) (cond ((engE (listC ((listC t.length mkKn (knsC t)).length) mkKn (knsC (listC t.length mkKn (knsC t)))) (listC ((listC l.length mkHit (hitsC l)).length) mkHit (hitsC (listC l.length mkHit (hitsC l)))) (⟨p0, p1, p2⟩ : P3)) == (posE (⟨p0, p1, p2⟩ : P3))) (post (.t (.c (.v (.bool (bif (((engV (listC ((listC t.length mkKn (knsC t)).length) mkKn (knsC (listC t.length mkKn (knsC t)))) (listC ((listC l.length mkHit (hitsC l)).length) mkHit (hitsC (listC l.length mkHit (hitsC l)))) (⟨p0, p1, p2⟩ : P3)).lo) == (0 : Int)) then (bif (((engV (listC ((listC t.length mkKn (knsC t)).length) mkKn (knsC (listC t.length mkKn (knsC t)))) (listC ((listC l.length mkHit (hitsC l)).length) mkHit (hitsC (listC l.length mkHit (hitsC l)))) (⟨p0, p1, p2⟩ : P3)).hi) == (0 : Int)) then true else false) else false)))))) ((false = false) ∧ (post (.t (.c (.v (.bool false))))))) ((numsP 2 t.length (knsC t) ∧ numsP 7 l.length (hitsC l) ∧ tabE (listC t.length mkKn (knsC t)) = 0 ∧ hitsE (listC l.length mkHit (hitsC l)) = 0 ∧ ((⟨p0, p1, p2⟩ : P3)).bd 15000) ∧ (cond (enB (listC t.length mkKn (knsC t)) (listC l.length mkHit (hitsC l)) (⟨p0, p1, p2⟩ : P3)) (cond ((engE (listC ((listC t.length mkKn (knsC t)).length) mkKn (knsC (listC t.length mkKn (knsC t)))) (listC ((listC l.length mkHit (hitsC l)).length) mkHit (hitsC (listC l.length mkHit (hitsC l)))) (⟨p0, p1, p2⟩ : P3)) == (0 : Int)) (cond (bif (((engV (listC ((listC t.length mkKn (knsC t)).length) mkKn (knsC (listC t.length mkKn (knsC t)))) (listC ((listC l.length mkHit (hitsC l)).length) mkHit (hitsC (listC l.length mkHit (hitsC l)))) (⟨p0, p1, p2⟩ : P3)).lo) == ((enV (listC t.length mkKn (knsC t)) (listC l.length mkHit (hitsC l)) (⟨p0, p1, p2⟩ : P3)).lo)) then (bif (((engV (listC ((listC t.length mkKn (knsC t)).length) mkKn (knsC (listC t.length mkKn (knsC t)))) (listC ((listC l.length mkHit (hitsC l)).length) mkHit (hitsC (listC l.length mkHit (hitsC l)))) (⟨p0, p1, p2⟩ : P3)).hi) == ((enV (listC t.length mkKn (knsC t)) (listC l.length mkHit (hitsC l)) (⟨p0, p1, p2⟩ : P3)).hi)) then true else false) else false) ((true = true) ∧ (post (.t (.c (.v (.bool true)))))) (cond (!(enB (listC t.length mkKn (knsC t)) (listC l.length mkHit (hitsC l)) (⟨p0, p1, p2⟩ : P3))) (cond ((engE (listC ((listC t.length mkKn (knsC t)).length) mkKn (knsC (listC t.length mkKn (knsC t)))) (listC ((listC l.length mkHit (hitsC l)).length) mkHit (hitsC (listC l.length mkHit (hitsC l)))) (⟨p0, p1, p2⟩ : P3)) == (12 : Int)) (post (.t (.c (.v (.bool (bif (((engV (listC ((listC t.length mkKn (knsC t)).length) mkKn (knsC (listC t.length mkKn (knsC t)))) (listC ((listC l.length mkHit (hitsC l)).length) mkHit (hitsC (listC l.length mkHit (hitsC l)))) (⟨p0, p1, p2⟩ : P3)).lo) == (0 : Int)) then (bif (((engV (listC ((listC t.length mkKn (knsC t)).length) mkKn (knsC (listC t.length mkKn (knsC t)))) (listC ((listC l.length mkHit (hitsC l)).length) mkHit (hitsC (listC l.length mkHit (hitsC l)))) (⟨p0, p1, p2⟩ : P3)).hi) == (0 : Int)) then true else false) else false)))))) ((false = false) ∧ (post (.t (.c (.v (.bool false))))))) ((false = false) ∧ ((false = false) ∧ (post (.t (.c (.v (.bool false))))))))) ((false = false) ∧ (cond (!(enB (listC t.length mkKn (knsC t)) (listC l.length mkHit (hitsC l)) (⟨p0, p1, p2⟩ : P3))) (cond ((engE (listC ((listC t.length mkKn (knsC t)).length) mkKn (knsC (listC t.length mkKn (knsC t)))) (listC ((listC l.length mkHit (hitsC l)).length) mkHit (hitsC (listC l.length mkHit (hitsC l)))) (⟨p0, p1, p2⟩ : P3)) == (12 : Int)) (post (.t (.c (.v (.bool (bif (((engV (listC ((listC t.length mkKn (knsC t)).length) mkKn (knsC (listC t.length mkKn (knsC t)))) (listC ((listC l.length mkHit (hitsC l)).length) mkHit (hitsC (listC l.length mkHit (hitsC l)))) (⟨p0, p1, p2⟩ : P3)).lo) == (0 : Int)) then (bif (((engV (listC ((listC t.length mkKn (knsC t)).length) mkKn (knsC (listC t.length mkKn (knsC t)))) (listC ((listC l.length mkHit (hitsC l)).length) mkHit (hitsC (listC l.length mkHit (hitsC l)))) (⟨p0, p1, p2⟩ : P3)).hi) == (0 : Int)) then true else false) else false)))))) ((false = false) ∧ (post (.t (.c (.v (.bool false))))))) ((false = false) ∧ ((false = false) ∧ (post (.t (.c (.v (.bool false)))))))))) ((false = false) ∧ ((false = false) ∧ (cond (!(enB (listC t.length mkKn (knsC t)) (listC l.length mkHit (hitsC l)) (⟨p0, p1, p2⟩ : P3))) (cond ((engE (listC ((listC t.length mkKn (knsC t)).length) mkKn (knsC (listC t.length mkKn (knsC t)))) (listC ((listC l.length mkHit (hitsC l)).length) mkHit (hitsC (listC l.length mkHit (hitsC l)))) (⟨p0, p1, p2⟩ : P3)) == (12 : Int)) (post (.t (.c (.v (.bool (bif (((engV (listC ((listC t.length mkKn (knsC t)).length) mkKn (knsC (listC t.length mkKn (knsC t)))) (listC ((listC l.length mkHit (hitsC l)).length) mkHit (hitsC (listC l.length mkHit (hitsC l)))) (⟨p0, p1, p2⟩ : P3)).lo) == (0 : Int)) then (bif (((engV (listC ((listC t.length mkKn (knsC t)).length) mkKn (knsC (listC t.length mkKn (knsC t)))) (listC ((listC l.length mkHit (hitsC l)).length) mkHit (hitsC (listC l.length mkHit (hitsC l)))) (⟨p0, p1, p2⟩ : P3)).hi) == (0 : Int)) then true else false) else false)))))) ((false = false) ∧ (post (.t (.c (.v (.bool false))))))) ((false = false) ∧ ((false = false) ∧ (post (.t (.c (.v (.bool false))))))))))))) (cond ((hitsE (listC l.length mkHit (hitsC l))) != (0 : Int)) (cond ((engE (listC ((listC t.length mkKn (knsC t)).length) mkKn (knsC (listC t.length mkKn (knsC t)))) (listC ((listC l.length mkHit (hitsC l)).length) mkHit (hitsC (listC l.length mkHit (hitsC l)))) (⟨p0, p1, p2⟩ : P3)) == (hitsE (listC l.length mkHit (hitsC l)))) (post (.t (.c (.v (.bool (bif (((engV (listC ((listC t.length mkKn (knsC t)).length) mkKn (knsC (listC t.length mkKn (knsC t)))) (listC ((listC l.length mkHit (hitsC l)).length) mkHit (hitsC (listC l.length mkHit (hitsC l)))) (⟨p0, p1, p2⟩ : P3)).lo) == (0 : Int)) then (bif (((engV (listC ((listC t.length mkKn (knsC t)).length) mkKn (knsC (listC t.length mkKn (knsC t)))) (listC ((listC l.length mkHit (hitsC l)).length) mkHit (hitsC (listC l.length mkHit (hitsC l)))) (⟨p0, p1, p2⟩ : P3)).hi) == (0 : Int)) then true else false) else false)))))) ((false = false) ∧ (post (.t (.c (.v (.bool false))))))) ((numsP 2 t.length (knsC t) ∧ numsP 7 l.length (hitsC l) ∧ tabE (listC t.length mkKn (knsC t)) = 0 ∧ hitsE (listC l.length mkHit (hitsC l)) = 0 ∧ ((⟨p0, p1, p2⟩ : P3)).bd 15000) ∧ (cond (enB (listC t.length mkKn (knsC t)) (listC l.length mkHit (hitsC l)) (⟨p0, p1, p2⟩ : P3)) (cond ((engE (listC ((listC t.length mkKn (knsC t)).length) mkKn (knsC (listC t.length mkKn (knsC t)))) (listC ((listC l.length mkHit (hitsC l)).length) mkHit (hitsC (listC l.length mkHit (hitsC l)))) (⟨p0, p1, p2⟩ : P3)) == (0 : Int)) (cond (bif (((engV (listC ((listC t.length mkKn (knsC t)).length) mkKn (knsC (listC t.length mkKn (knsC t)))) (listC ((listC l.length mkHit (hitsC l)).length) mkHit (hitsC (listC l.length mkHit (hitsC l)))) (⟨p0, p1, p2⟩ : P3)).lo) == ((enV (listC t.length mkKn (knsC t)) (listC l.length mkHit (hitsC l)) (⟨p0, p1, p2⟩ : P3)).lo)) then (bif (((engV (listC ((listC t.length mkKn (knsC t)).length) mkKn (knsC (listC t.length mkKn (knsC t)))) (listC ((listC l.length mkHit (hitsC l)).length) mkHit (hitsC (listC l.length mkHit (hitsC l)))) (⟨p0, p1, p2⟩ : P3)).hi) == ((enV (listC t.length mkKn (knsC t)) (listC l.length mkHit (hitsC l)) (⟨p0, p1, p2⟩ : P3)).hi)) then true else false) else false) ((true = true) ∧ (post (.t (.c (.v (.bool true)))))) (cond (!(enB (listC t.length mkKn (knsC t)) (listC l.length mkHit (hitsC l)) (⟨p0, p1, p2⟩ : P3))) (cond ((engE (listC ((listC t.length mkKn (knsC t)).length) mkKn (knsC (listC t.length mkKn (knsC t)))) (listC ((listC l.length mkHit (hitsC l)).length) mkHit (hitsC (listC l.length mkHit (hitsC l)))) (⟨p0, p1, p2⟩ : P3)) == (12 : Int)) (post (.t (.c (.v (.bool (bif (((engV (listC ((listC t.length mkKn (knsC t)).length) mkKn (knsC (listC t.length mkKn (knsC t)))) (listC ((listC l.length mkHit (hitsC l)).length) mkHit (hitsC (listC l.length mkHit (hitsC l)))) (⟨p0, p1, p2⟩ : P3)).lo) == (0 : Int)) then (bif (((engV (listC ((listC t.length mkKn (knsC t)).length) mkKn (knsC (listC t.length mkKn (knsC t)))) (listC ((listC l.length mkHit (hitsC l)).length) mkHit (hitsC (listC l.length mkHit (hitsC l)))) (⟨p0, p1, p2⟩ : P3)).hi) == (0 : Int)) then true else false) else false)))))) ((false = false) ∧ (post (.t (.c (.v (.bool false))))))) ((false = false) ∧ ((false = false) ∧ (post (.t (.c (.v (.bool false))))))))) ((false = false) ∧ (cond (!(enB (listC t.length mkKn (knsC t)) (listC l.length mkHit (hitsC l)) (⟨p0, p1, p2⟩ : P3))) (cond ((engE (listC ((listC t.length mkKn (knsC t)).length) mkKn (knsC (listC t.length mkKn (knsC t)))) (listC ((listC l.length mkHit (hitsC l)).length) mkHit (hitsC (listC l.length mkHit (hitsC l)))) (⟨p0, p1, p2⟩ : P3)) == (12 : Int)) (post (.t (.c (.v (.bool (bif (((engV (listC ((listC t.length mkKn (knsC t)).length) mkKn (knsC (listC t.length mkKn (knsC t)))) (listC ((listC l.length mkHit (hitsC l)).length) mkHit (hitsC (listC l.length mkHit (hitsC l)))) (⟨p0, p1, p2⟩ : P3)).lo) == (0 : Int)) then (bif (((engV (listC ((listC t.length mkKn (knsC t)).length) mkKn (knsC (listC t.length mkKn (knsC t)))) (listC ((listC l.length mkHit (hitsC l)).length) mkHit (hitsC (listC l.length mkHit (hitsC l)))) (⟨p0, p1, p2⟩ : P3)).hi) == (0 : Int)) then true else false) else false)))))) ((false = false) ∧ (post (.t (.c (.v (.bool false))))))) ((false = false) ∧ ((false = false) ∧ (post (.t (.c (.v (.bool false)))))))))) ((false = false) ∧ ((false = false) ∧ (cond (!(enB (listC t.length mkKn (knsC t)) (listC l.length mkHit (hitsC l)) (⟨p0, p1, p2⟩ : P3))) (cond ((engE (listC ((listC t.length mkKn (knsC t)).length) mkKn (knsC (listC t.length mkKn (knsC t)))) (listC ((listC l.length mkHit (hitsC l)).length) mkHit (hitsC (listC l.length mkHit (hitsC l)))) (⟨p0, p1, p2⟩ : P3)) == (12 : Int)) (post (.t (.c (.v (.bool (bif (((engV (listC ((listC t.length mkKn (knsC t)).length) mkKn (knsC (listC t.length mkKn (knsC t)))) (listC ((listC l.length mkHit (hitsC l)).length) mkHit (hitsC (listC l.length mkHit (hitsC l)))) (⟨p0, p1, p2⟩ : P3)).lo) == (0 : Int)) then (bif (((engV (listC ((listC t.length mkKn (knsC t)).length) mkKn (knsC (listC t.length mkKn (knsC t)))) (listC ((listC l.length mkHit (hitsC l)).length) mkHit (hitsC (listC l.length mkHit (hitsC l)))) (⟨p0, p1, p2⟩ : P3)).hi) == (0 : Int)) then true else false) else false)))))) ((false = false) ∧ (post (.t (.c (.v (.bool false))))))) ((false = false) ∧ ((false = false) ∧ (post (.t (.c (.v (.bool false))))))))))))))))) (cond ((lgtE (listC ((listC t.length mkKn (knsC t)).length) mkKn (knsC (listC t.length mkKn (knsC t)))) x u) != (0 : Int)) ((true = true) ∧ (post (.t (.c (.v (.bool false)))))) ((numsP 2 t.length (knsC t) ∧ tabE (listC t.length mkKn (knsC t)) = 0 ∧ 0 ≤ u ∧ u ≤ 100000) ∧ (cond (!(bif (((lgtV (listC ((listC t.length mkKn (knsC t)).length) mkKn (knsC (listC t.length mkKn (knsC t)))) x u).lo) == ((lgtR (listC t.length mkKn (knsC t)) x u).lo)) then (bif (((lgtV (listC ((listC t.length mkKn (knsC t)).length) mkKn (knsC (listC t.length mkKn (knsC t)))) x u).hi) == ((lgtR (listC t.length mkKn (knsC t)) x u).hi)) then true else false) else false)) (post (.t (.c (.v (.bool false))))) ((numsP 7 l.length (hitsC l)) ∧ (cond ((hitsE (listC l.length mkHit (hitsC l))) == (0 : Int)) (cond ((posE (⟨p0, p1, p2⟩ : P3)) != (0 : Int)) (cond ((engE (listC ((listC t.length mkKn (knsC t)).length) mkKn (knsC (listC t.length mkKn (knsC t)))) (listC ((listC l.length mkHit (hitsC l)).length) mkHit (hitsC (listC l.length mkHit (hitsC l)))) (⟨p0, p1, p2⟩ : P3)) == (posE (⟨p0, p1, p2⟩ : P3))) (post (.t (.c (.v (.bool (bif (((engV (listC ((listC t.length mkKn (knsC t)).length) mkKn (knsC (listC t.length mkKn (knsC t)))) (listC ((listC l.length mkHit (hitsC l)).length) mkHit (hitsC (listC l.length mkHit (hitsC l)))) (⟨p0, p1, p2⟩ : P3)).lo) == (0 : Int)) then (bif (((engV (listC ((listC t.length mkKn (knsC t)).length) mkKn (knsC (listC t.length mkKn (knsC t)))) (listC ((listC l.length mkHit (hitsC l)).length) mkHit (hitsC (listC l.length mkHit (hitsC l)))) (⟨p0, p1, p2⟩ : P3)).hi) == (0 : Int)) then true else false) else false)))))) ((false = false) ∧ (post (.t (.c (.v (.bool false))))))) ((numsP 2 t.length (knsC t) ∧ numsP 7 l.length (hitsC l) ∧ tabE (listC t.length mkKn (knsC t)) = 0 ∧ hitsE (listC l.length mkHit (hitsC l)) = 0 ∧ ((⟨p0, p1, p2⟩ : P3)).bd 15000) ∧ (cond (enB (listC t.length mkKn (knsC t)) (listC l.length mkHit (hitsC l)) (⟨p0, p1, p2⟩ : P3)) (cond ((engE (listC ((listC t.length mkKn (knsC t)).length) mkKn (knsC (listC t.length mkKn (knsC t)))) (listC ((listC l.length mkHit (hitsC l)).length) mkHit (hitsC (listC l.length mkHit (hitsC l)))) (⟨p0, p1, p2⟩ : P3)) == (0 : Int)) (cond (bif (((engV (listC ((listC t.length mkKn (knsC t)).length) mkKn (knsC (listC t.length mkKn (knsC t)))) (listC ((listC l.length mkHit (hitsC l)).length) mkHit (hitsC (listC l.length mkHit (hitsC l)))) (⟨p0, p1, p2⟩ : P3)).lo) == ((enV (listC t.length mkKn (knsC t)) (listC l.length mkHit (hitsC l)) (⟨p0, p1, p2⟩ : P3)).lo)) then (bif (((engV (listC ((listC t.length mkKn (knsC t)).length) mkKn (knsC (listC t.length mkKn (knsC t)))) (listC ((listC l.length mkHit (hitsC l)).length) mkHit (hitsC (listC l.length mkHit (hitsC l)))) (⟨p0, p1, p2⟩ : P3)).hi) == ((enV (listC t.length mkKn (knsC t)) (listC l.length mkHit (hitsC l)) (⟨p0, p1, p2⟩ : P3)).hi)) then true else false) else false) ((true = true) ∧ (post (.t (.c (.v (.bool true)))))) (cond (!(enB (listC t.length mkKn (knsC t)) (listC l.length mkHit (hitsC l)) (⟨p0, p1, p2⟩ : P3))) (cond ((engE (listC ((listC t.length mkKn (knsC t)).length) mkKn (knsC (listC t.length mkKn (knsC t)))) (listC ((listC l.length mkHit (hitsC l)).length) mkHit (hitsC (listC l.length mkHit (hitsC l)))) (⟨p0, p1, p2⟩ : P3)) == (12 : Int)) (post (.t (.c (.v (.bool (bif (((engV (listC ((listC t.length mkKn (knsC t)).length) mkKn (knsC (listC t.length mkKn (knsC t)))) (listC ((listC l.length mkHit (hitsC l)).length) mkHit (hitsC (listC l.length mkHit (hitsC l)))) (⟨p0, p1, p2⟩ : P3)).lo) == (0 : Int)) then (bif (((engV (listC ((listC t.length mkKn (knsC t)).length) mkKn (knsC (listC t.length mkKn (knsC t)))) (listC ((listC l.length mkHit (hitsC l)).length) mkHit (hitsC (listC l.length mkHit (hitsC l)))) (⟨p0, p1, p2⟩ : P3)).hi) == (0 : Int)) then true else false) else false)))))) ((false = false) ∧ (post (.t (.c (.v (.bool false))))))) ((false = false) ∧ ((false = false) ∧ (post (.t (.c (.v (.bool false))))))))) ((false = false) ∧ (cond (!(enB (listC t.length mkKn (knsC t)) (listC l.length mkHit (hitsC l)) (⟨p0, p1, p2⟩ : P3))) (cond ((engE (listC ((listC t.length mkKn (knsC t)).length) mkKn (knsC (listC t.length mkKn (knsC t)))) (listC ((listC l.length mkHit (hitsC l)).length) mkHit (hitsC (listC l.length mkHit (hitsC l)))) (⟨p0, p1, p2⟩ : P3)) == (12 : Int)) (post (.t (.c (.v (.bool (bif (((engV (listC ((listC t.length mkKn (knsC t)).length) mkKn (knsC (listC t.length mkKn (knsC t)))) (listC ((listC l.length mkHit (hitsC l)).length) mkHit (hitsC (listC l.length mkHit (hitsC l)))) (⟨p0, p1, p2⟩ : P3)).lo) == (0 : Int)) then (bif (((engV (listC ((listC t.length mkKn (knsC t)).length) mkKn (knsC (listC t.length mkKn (knsC t)))) (listC ((listC l.length mkHit (hitsC l)).length) mkHit (hitsC (listC l.length mkHit (hitsC l)))) (⟨p0, p1, p2⟩ : P3)).hi) == (0 : Int)) then true else false) else false)))))) ((false = false) ∧ (post (.t (.c (.v (.bool false))))))) ((false = false) ∧ ((false = false) ∧ (post (.t (.c (.v (.bool false)))))))))) ((false = false) ∧ ((false = false) ∧ (cond (!(enB (listC t.length mkKn (knsC t)) (listC l.length mkHit (hitsC l)) (⟨p0, p1, p2⟩ : P3))) (cond ((engE (listC ((listC t.length mkKn (knsC t)).length) mkKn (knsC (listC t.length mkKn (knsC t)))) (listC ((listC l.length mkHit (hitsC l)).length) mkHit (hitsC (listC l.length mkHit (hitsC l)))) (⟨p0, p1, p2⟩ : P3)) == (12 : Int)) (post (.t (.c (.v (.bool (bif (((engV (listC ((listC t.length mkKn (knsC t)).length) mkKn (knsC (listC t.length mkKn (knsC t)))) (listC ((listC l.length mkHit (hitsC l)).length) mkHit (hitsC (listC l.length mkHit (hitsC l)))) (⟨p0, p1, p2⟩ : P3)).lo) == (0 : Int)) then (bif (((engV (listC ((listC t.length mkKn (knsC t)).length) mkKn (knsC (listC t.length mkKn (knsC t)))) (listC ((listC l.length mkHit (hitsC l)).length) mkHit (hitsC (listC l.length mkHit (hitsC l)))) (⟨p0, p1, p2⟩ : P3)).hi) == (0 : Int)) then true else false) else false)))))) ((false = false) ∧ (post (.t (.c (.v (.bool false))))))) ((false = false) ∧ ((false = false) ∧ (post (.t (.c (.v (.bool false))))))))))))) (cond ((hitsE (listC l.length mkHit (hitsC l))) != (0 : Int)) (cond ((engE (listC ((listC t.length mkKn (knsC t)).length) mkKn (knsC (listC t.length mkKn (knsC t)))) (listC ((listC l.length mkHit (hitsC l)).length) mkHit (hitsC (listC l.length mkHit (hitsC l)))) (⟨p0, p1, p2⟩ : P3)) == (hitsE (listC l.length mkHit (hitsC l)))) (post (.t (.c (.v (.bool (bif (((engV (listC ((listC t.length mkKn (knsC t)).length) mkKn (knsC (listC t.length mkKn (knsC t)))) (listC ((listC l.length mkHit (hitsC l)).length) mkHit (hitsC (listC l.length mkHit (hitsC l)))) (⟨p0, p1, p2⟩ : P3)).lo) == (0 : Int)) then (bif (((engV (listC ((listC t.length mkKn (knsC t)).length) mkKn (knsC (listC t.length mkKn (knsC t)))) (listC ((listC l.length mkHit (hitsC l)).length) mkHit (hitsC (listC l.length mkHit (hitsC l)))) (⟨p0, p1, p2⟩ : P3)).hi) == (0 : Int)) then true else false) else false)))))) ((false = false) ∧ (post (.t (.c (.v (.bool false))))))) ((numsP 2 t.length (knsC t) ∧ numsP 7 l.length (hitsC l) ∧ tabE (listC t.length mkKn (knsC t)) = 0 ∧ hitsE (listC l.length mkHit (hitsC l)) = 0 ∧ ((⟨p0, p1, p2⟩ : P3)).bd 15000) ∧ (cond (enB (listC t.length mkKn (knsC t)) (listC l.length mkHit (hitsC l)) (⟨p0, p1, p2⟩ : P3)) (cond ((engE (listC ((listC t.length mkKn (knsC t)).length) mkKn (knsC (listC t.length mkKn (knsC t)))) (listC ((listC l.length mkHit (hitsC l)).length) mkHit (hitsC (listC l.length mkHit (hitsC l)))) (⟨p0, p1, p2⟩ : P3)) == (0 : Int)) (cond (bif (((engV (listC ((listC t.length mkKn (knsC t)).length) mkKn (knsC (listC t.length mkKn (knsC t)))) (listC ((listC l.length mkHit (hitsC l)).length) mkHit (hitsC (listC l.length mkHit (hitsC l)))) (⟨p0, p1, p2⟩ : P3)).lo) == ((enV (listC t.length mkKn (knsC t)) (listC l.length mkHit (hitsC l)) (⟨p0, p1, p2⟩ : P3)).lo)) then (bif (((engV (listC ((listC t.length mkKn (knsC t)).length) mkKn (knsC (listC t.length mkKn (knsC t)))) (listC ((listC l.length mkHit (hitsC l)).length) mkHit (hitsC (listC l.length mkHit (hitsC l)))) (⟨p0, p1, p2⟩ : P3)).hi) == ((enV (listC t.length mkKn (knsC t)) (listC l.length mkHit (hitsC l)) (⟨p0, p1, p2⟩ : P3)).hi)) then true else false) else false) ((true = true) ∧ (post (.t (.c (.v (.bool true)))))) (cond (!(enB (listC t.length mkKn (knsC t)) (listC l.length mkHit (hitsC l)) (⟨p0, p1, p2⟩ : P3))) (cond ((engE (listC ((listC t.length mkKn (knsC t)).length) mkKn (knsC (listC t.length mkKn (knsC t)))) (listC ((listC l.length mkHit (hitsC l)).length) mkHit (hitsC (listC l.length mkHit (hitsC l)))) (⟨p0, p1, p2⟩ : P3)) == (12 : Int)) (post (.t (.c (.v (.bool (bif (((engV (listC ((listC t.length mkKn (knsC t)).length) mkKn (knsC (listC t.length mkKn (knsC t)))) (listC ((listC l.length mkHit (hitsC l)).length) mkHit (hitsC (listC l.length mkHit (hitsC l)))) (⟨p0, p1, p2⟩ : P3)).lo) == (0 : Int)) then (bif (((engV (listC ((listC t.length mkKn (knsC t)).length) mkKn (knsC (listC t.length mkKn (knsC t)))) (listC ((listC l.length mkHit (hitsC l)).length) mkHit (hitsC (listC l.length mkHit (hitsC l)))) (⟨p0, p1, p2⟩ : P3)).hi) == (0 : Int)) then true else false) else false)))))) ((false = false) ∧ (post (.t (.c (.v (.bool false))))))) ((false = false) ∧ ((false = false) ∧ (post (.t (.c (.v (.bool false))))))))) ((false = false) ∧ (cond (!(enB (listC t.length mkKn (knsC t)) (listC l.length mkHit (hitsC l)) (⟨p0, p1, p2⟩ : P3))) (cond ((engE (listC ((listC t.length mkKn (knsC t)).length) mkKn (knsC (listC t.length mkKn (knsC t)))) (listC ((listC l.length mkHit (hitsC l)).length) mkHit (hitsC (listC l.length mkHit (hitsC l)))) (⟨p0, p1, p2⟩ : P3)) == (12 : Int)) (post (.t (.c (.v (.bool (bif (((engV (listC ((listC t.length mkKn (knsC t)).length) mkKn (knsC (listC t.length mkKn (knsC t)))) (listC ((listC l.length mkHit (hitsC l)).length) mkHit (hitsC (listC l.length mkHit (hitsC l)))) (⟨p0, p1, p2⟩ : P3)).lo) == (0 : Int)) then (bif (((engV (listC ((listC t.length mkKn (knsC t)).length) mkKn (knsC (listC t.length mkKn (knsC t)))) (listC ((listC l.length mkHit (hitsC l)).length) mkHit (hitsC (listC l.length mkHit (hitsC l)))) (⟨p0, p1, p2⟩ : P3)).hi) == (0 : Int)) then true else false) else false)))))) ((false = false) ∧ (post (.t (.c (.v (.bool false))))))) ((false = false) ∧ ((false = false) ∧ (post (.t (.c (.v (.bool false)))))))))) ((false = false) ∧ ((false = false) ∧ (cond (!(enB (listC t.length mkKn (knsC t)) (listC l.length mkHit (hitsC l)) (⟨p0, p1, p2⟩ : P3))) (cond ((engE (listC ((listC t.length mkKn (knsC t)).length) mkKn (knsC (listC t.length mkKn (knsC t)))) (listC ((listC l.length mkHit (hitsC l)).length) mkHit (hitsC (listC l.length mkHit (hitsC l)))) (⟨p0, p1, p2⟩ : P3)) == (12 : Int)) (post (.t (.c (.v (.bool (bif (((engV (listC ((listC t.length mkKn (knsC t)).length) mkKn (knsC (listC t.length mkKn (knsC t)))) (listC ((listC l.length mkHit (hitsC l)).length) mkHit (hitsC (listC l.length mkHit (hitsC l)))) (⟨p0, p1, p2⟩ : P3)).lo) == (0 : Int)) then (bif (((engV (listC ((listC t.length mkKn (knsC t)).length) mkKn (knsC (listC t.length mkKn (knsC t)))) (listC ((listC l.length mkHit (hitsC l)).length) mkHit (hitsC (listC l.length mkHit (hitsC l)))) (⟨p0, p1, p2⟩ : P3)).hi) == (0 : Int)) then true else false) else false)))))) ((false = false) ∧ (post (.t (.c (.v (.bool false))))))) ((false = false) ∧ ((false = false) ∧ (post (.t (.c (.v (.bool false)))))))))))))))))))))))))))))))))
def ann_law06_FlashEnergies : Ann := ⟨fun r => lookA r [(6, ([[], [0], [], [2], [], [4], [0, 1, 2, 3, 4, 5], [0, 1, 2, 3, 4, 5, 6], [0, 1, 2, 3, 4, 5, 6, 7], [0, 1, 2, 3, 4, 5, 6, 7], [], [0, 1, 2, 3, 4, 5, 6, 7, 8, 10], [0, 1, 2, 3, 4, 5, 6, 7, 8, 9, 10, 11]], [[36, 41, 9], [41, 9], [36, 41, 9], [36, 41, 9], [36, 41, 9], [36, 41, 9], [9], [9], [9], [9], [36, 41], [], []])), (7, ([[], [0], [], [0, 1, 2], [], [4], [0, 1, 2, 3, 4, 5], [0, 1, 2, 3, 4, 5, 6], [0, 1, 2, 3, 4, 5, 6, 7], [0, 1, 2, 3, 4, 5, 6, 7], [], [0, 1, 2, 3, 4, 5, 6, 7, 8, 10], [0, 1, 2, 3, 4, 5, 6, 7, 8, 9, 10, 11]], [[46, 48, 51, 11], [48, 51, 11], [46, 48, 51, 11], [51, 11], [46, 48, 51, 11], [46, 48, 51, 11], [11], [11], [11], [11], [46, 48, 51], [], []])), (16, ([[], [0], [0, 1], [0, 1, 2], [0, 1, 2], [0, 1, 2], [0, 1, 2, 5], [0, 1, 2], [0, 1, 2, 7], [0, 1, 2, 4, 5, 6, 7, 8], [0, 1, 2, 3, 4, 5, 6, 7, 8, 9], [0, 1, 2, 3, 4, 5, 6, 7, 8, 9, 10]], [[113], [113], [113], [113], [113], [113], [113], [113], [113], [], [], []]))], fun _ => none, fun _ => [], noIt, false, fun _ => none, fun _ => none⟩
theorem ev_law06_FlashEnergies (J : Inv) (t : List Knot) (l : List FHit) (x : Int) (u : Int) (p0 p1 p2 : Int) (post : DV → Prop) : evFn Tryd.prog tab Su120 ann_law06_FlashEnergies J Tryd.f7 [.t (.a [.sl 2 t.length (knsC t)]), .t (.c (.sl 7 l.length (hitsC l))), .t (.a [.v (.int .i64 x), .v (.int .i64 u), .v (.int .i64 p0), .v (.int .i64 p1), .v (.int .i64 p2)])] post = vc_law06_FlashEnergies t l x u p0 p1 p2 post := by kernel_rfl
theorem fit_law06_FlashEnergies : okFn ann_law06_FlashEnergies Tryd.f7 = true := by kernel_rfl
theorem lp_law06_FlashEnergies (J : Inv) (post : DV → Prop) : AllG J (loopsFn Tryd.prog tab Su120 ann_law06_FlashEnergies J Tryd.f7 post) = (True) := by kernel_rfl
set_option maxHeartbeats 8000000 in
set_option maxRecDepth 100000 in
theorem spec_law06_FlashEnergies (t : List Knot) (l : List FHit) (x : Int) (u : Int) (p0 p1 p2 : Int) : vc_law06_FlashEnergies t l x u p0 p1 p2 (fun r => LeD r (.t (.c (.v (.bool true))))) := by
 unfold vc_law06_FlashEnergies
 simp only [nums_ints, hd_eq, kns_listC, hits_listC]
 have d0 := numsP_kns t
 have d1 := numsP_hits l
 refine ⟨d1, cond_i (fun _ => (by (repeat' first | exact LeD.refl _ | trivial | (refine And.intro ?_ ?_)))) (fun e1 => cond_i (fun _ => LeD.refl _) (fun e2 => ?_))⟩
 have c1 : l.length ≤ 1000 := by
  have e1 : decide (l.length ≤ 10) = true := by simpa using e1
  have := of_decide_eq_true e1
  omega
 have c2 : t.length ≤ 1000 := by have := of_decide_eq_false e2; omega
 by_cases a : tabE t = 0
 ·have ec := en_cases (l := l) (p := (⟨p0, p1, p2⟩ : P3)) a
  have pb : posE (⟨p0, p1, p2⟩ : P3) = 0 → P3.bd (⟨p0, p1, p2⟩ : P3) 15000 := fun h => (posE_0.1 h).mono (by decide)
  have lc := lg_cases (x := x) (u := u) a
  rcases lc with ⟨g1, g2, g3⟩ | ⟨g1, g2, g3, g4⟩ | ⟨g1, g2, g3, g4, g5⟩
  ·have pb2 := pb
   rcases ec with ⟨h1, h2, h3, h4⟩ | ⟨h1, h2, h3, h4, h5⟩ | ⟨h1, h2, h3, h4, h5⟩ | ⟨h1, h2, h3, h4, h5, h6⟩
   ·simp only [a, g1, g2, g3, h1, h2, h3, h4, beq_self_eq_true, bne_self_eq_false, Bool.not_true, Bool.not_false, _root_.cond_true, _root_.cond_false]
    (repeat' with_reducible first | assumption | trivial | (refine And.intro ?_ ?_))
    all_goals first | assumption | exact pb h2 | omega | exact LeD.refl _ | exact leB rfl
   ·simp only [a, g1, g2, g3, h1, h2, h3, h4, h5, beq_self_eq_true, bne_self_eq_false, Bool.not_true, Bool.not_false, _root_.cond_true, _root_.cond_false]
    (repeat' with_reducible first | assumption | trivial | (refine And.intro ?_ ?_))
    all_goals first | assumption | exact pb h2 | omega | exact LeD.refl _ | exact leB rfl
   ·simp only [a, g1, g2, g3, h1, h2, h3, h4, h5, beq_self_eq_true, bne_self_eq_false, Bool.not_true, Bool.not_false, _root_.cond_true, _root_.cond_false]
    (repeat' with_reducible first | assumption | trivial | (refine And.intro ?_ ?_))
    all_goals first | assumption | exact pb h2 | omega | exact LeD.refl _ | exact leB rfl
   ·simp only [a, g1, g2, g3, h1, h2, h3, h4, h5, h6, beq_self_eq_true, bne_self_eq_false, Bool.not_true, Bool.not_false, _root_.cond_true, _root_.cond_false]
    (repeat' with_reducible first | assumption | trivial | (refine And.intro ?_ ?_))
    all_goals first | assumption | exact pb h2 | omega | exact LeD.refl _ | exact leB rfl
  ·have pb2 := pb
   rcases ec with ⟨h1, h2, h3, h4⟩ | ⟨h1, h2, h3, h4, h5⟩ | ⟨h1, h2, h3, h4, h5⟩ | ⟨h1, h2, h3, h4, h5, h6⟩
   ·simp only [a, g1, g2, g3, g4, h1, h2, h3, h4, beq_self_eq_true, bne_self_eq_false, Bool.not_true, Bool.not_false, _root_.cond_true, _root_.cond_false]
    (repeat' with_reducible first | assumption | trivial | (refine And.intro ?_ ?_))
    all_goals first | assumption | exact pb h2 | omega | exact LeD.refl _ | exact leB rfl
   ·simp only [a, g1, g2, g3, g4, h1, h2, h3, h4, h5, beq_self_eq_true, bne_self_eq_false, Bool.not_true, Bool.not_false, _root_.cond_true, _root_.cond_false]
    (repeat' with_reducible first | assumption | trivial | (refine And.intro ?_ ?_))
    all_goals first | assumption | exact pb h2 | omega | exact LeD.refl _ | exact leB rfl
   ·simp only [a, g1, g2, g3, g4, h1, h2, h3, h4, h5, beq_self_eq_true, bne_self_eq_false, Bool.not_true, Bool.not_false, _root_.cond_true, _root_.cond_false]
    (repeat' with_reducible first | assumption | trivial | (refine And.intro ?_ ?_))
    all_goals first | assumption | exact pb h2 | omega | exact LeD.refl _ | exact leB rfl
   ·simp only [a, g1, g2, g3, g4, h1, h2, h3, h4, h5, h6, beq_self_eq_true, bne_self_eq_false, Bool.not_true, Bool.not_false, _root_.cond_true, _root_.cond_false]
    (repeat' with_reducible first | assumption | trivial | (refine And.intro ?_ ?_))
    all_goals first | assumption | exact pb h2 | omega | exact LeD.refl _ | exact leB rfl
  ·have pb2 := pb
   rcases ec with ⟨h1, h2, h3, h4⟩ | ⟨h1, h2, h3, h4, h5⟩ | ⟨h1, h2, h3, h4, h5⟩ | ⟨h1, h2, h3, h4, h5, h6⟩
   ·simp only [a, g1, g2, g3, g4, h1, h2, h3, h4, beq_self_eq_true, bne_self_eq_false, Bool.not_true, Bool.not_false, _root_.cond_true, _root_.cond_false]
    (repeat' with_reducible first | assumption | trivial | (refine And.intro ?_ ?_))
    all_goals first | assumption | exact pb h2 | omega | exact LeD.refl _ | exact leB rfl
   ·simp only [a, g1, g2, g3, g4, h1, h2, h3, h4, h5, beq_self_eq_true, bne_self_eq_false, Bool.not_true, Bool.not_false, _root_.cond_true, _root_.cond_false]
    (repeat' with_reducible first | assumption | trivial | (refine And.intro ?_ ?_))
    all_goals first | assumption | exact pb h2 | omega | exact LeD.refl _ | exact leB rfl
   ·simp only [a, g1, g2, g3, g4, h1, h2, h3, h4, h5, beq_self_eq_true, bne_self_eq_false, Bool.not_true, Bool.not_false, _root_.cond_true, _root_.cond_false]
    (repeat' with_reducible first | assumption | trivial | (refine And.intro ?_ ?_))
    all_goals first | assumption | exact pb h2 | omega | exact LeD.refl _ | exact leB rfl
   ·simp only [a, g1, g2, g3, g4, h1, h2, h3, h4, h5, h6, beq_self_eq_true, bne_self_eq_false, Bool.not_true, Bool.not_false, _root_.cond_true, _root_.cond_false]
    (repeat' with_reducible first | assumption | trivial | (refine And.intro ?_ ?_))
    all_goals first | assumption | exact pb h2 | omega | exact LeD.refl _ | exact leB rfl
 ·obtain ⟨g1, g2, g3, g4⟩ := tb_cases (l := l) (p := (⟨p0, p1, p2⟩ : P3)) (x := x) (u := u) a
  have b1 : (tabE t != 0) = true := by simpa using a
  simp only [g1, g2, g3, g4, b1, beq_self_eq_true, bne_self_eq_false, Bool.not_true, Bool.not_false, _root_.cond_true, _root_.cond_false]
  (repeat' with_reducible first | assumption | trivial | (refine And.intro ?_ ?_))
  all_goals first | assumption | exact pb h2 | omega | exact LeD.refl _ | exact leB rfl
theorem law_law06_FlashEnergies (t : List Knot) (l : List FHit) (x : Int) (u : Int) (p0 p1 p2 : Int) (W : World) (N : Nat → Prop) (vs : List Value) (hG : Gd W) (h : All2 (RelD (RelF W N)) [.t (.a [.sl 2 t.length (knsC t)]), .t (.c (.sl 7 l.length (hitsC l))), .t (.a [.v (.int .i64 x), .v (.int .i64 u), .v (.int .i64 p0), .v (.int .i64 p1), .v (.int .i64 p2)])] vs) : Calls Tryd.prog 7 vs.toArray W fun e w' => e = .returned (.bool true) ∧ Below W.heap.size W w' :=
 law_end (fn_sound mixed tabOK VSu120 (ann := ann_law06_FlashEnergies) ValidIt.no (fn := Tryd.f7) (J := fun _ _ _ => False) (by kernel_rfl) fit_law06_FlashEnergies (args := [.t (.a [.sl 2 t.length (knsC t)]), .t (.c (.sl 7 l.length (hitsC l))), .t (.a [.v (.int .i64 x), .v (.int .i64 u), .v (.int .i64 p0), .v (.int .i64 p1), .v (.int .i64 p2)])]) (post := (fun r => LeD r (.t (.c (.v (.bool true)))))) (by rw [ev_law06_FlashEnergies]; exact spec_law06_FlashEnergies t l x u p0 p1 p2) (by rw [lp_law06_FlashEnergies]; trivial) (Nat.le_of_ble_eq_true (by kernel_rfl)) W N vs hG h)
end Go.Proofs.YtmhgjlapkhdlmaaDoor