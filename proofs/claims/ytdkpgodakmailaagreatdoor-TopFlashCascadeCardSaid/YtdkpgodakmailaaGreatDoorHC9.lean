/- Texts of this claim, together. -/
import Derived.Test.YtdkpgodakmailaaGreatDoorHC8
import Derived.Test.YtdkpgodakmailaaGreatDoorHC5

set_option linter.unusedVariables false
set_option linter.unusedSimpArgs false
namespace Go.Proofs.YtdkpgodakmailaaGreatDoor
open Go.RowKit Ev
def hitL : List FHit := [⟨⟨0, 0, 0⟩, ⟨100, 101⟩, ⟨5, 6⟩⟩, ⟨⟨8, 0, 0⟩, ⟨106, 107⟩, ⟨5, 6⟩⟩]
def S60 : Sum := S59
theorem VS60 : Valid Tryz.prog S60 := VS59
def mk_base_Ints_0 (l : List Int) (l2 : List Int) (v0_0 : Int) : DS := ⟨[some (.t (.c (.sl 1 l.length (intsC l)))), some (.t (.c (.sl 1 l2.length (intsC l2)))), none, none, none, some (.t (.c (.v (.int .i64 v0_0)))), none, none, none, none, none, none, none, none, none, none, none, none, none, none, none, none, none, none, none, none], [none, none, none, none, none, none, none, none, none, none, none, none, none, none, none, none, none, none, none, none, none, none, none, none, none, none]⟩
def vc_base_Ints (J : Inv) (l : List Int) (l2 : List Int) (post : DV → Prop) : Prop := cond (((l.length : Nat) : Int) != ((l2.length : Nat) : Int)) (post (.t (.c (.v (.bool false))))) (∃ n, J 0 (n :: []) (mk_base_Ints_0 l l2 0))
def ann_base_Ints : Ann := ⟨fun r => lookA r [(6, ([[], [], [0, 1], [0, 1, 2], [], [], [4, 5], [4, 5, 6], [0, 1, 2, 3, 4, 5, 6, 7]], [[], [], [], [], [], [], [], [], []]))], fun b => lookA b [(0, (none, some ⟨[0, 1, 5], [], []⟩))], fun _ => [], noIt, false, fun _ => none, fun _ => none⟩
theorem ev_base_Ints (J : Inv) (l : List Int) (l2 : List Int) (post : DV → Prop) : evFn Tryz.prog tab S60 ann_base_Ints J Tryz.f17 [.t (.c (.sl 1 l.length (intsC l))), .t (.c (.sl 1 l2.length (intsC l2)))] post = vc_base_Ints J l l2 post := by kernel_rfl
theorem fit_base_Ints : okFn ann_base_Ints Tryz.f17 = true := by kernel_rfl
def rd_base_Ints_0 (J : Inv) (l : List Int) (l2 : List Int) (v0_0 : Int) (nn0 : Nat) (post : DV → Prop) : Prop := cond (decide (v0_0 < ((l.length : Nat) : Int))) ((0 ≤ v0_0 ∧ v0_0 < ((l.length : Nat) : Int)) ∧ ((0 ≤ v0_0 ∧ v0_0 < ((l2.length : Nat) : Int)) ∧ (cond ((l.getD v0_0.toNat 0) != (l2.getD v0_0.toNat 0)) (post (.t (.c (.v (.bool false))))) (lt (IntKind.i64.wrap (v0_0 + (1 : Int))) fun x1 => J 0 (nn0 :: []) (mk_base_Ints_0 l l2 x1))))) (post (.t (.c (.v (.bool true)))))
theorem er_base_Ints_0 (J : Inv) (l : List Int) (l2 : List Int) (v0_0 : Int) (nn0 : Nat) (post : DV → Prop) : round Tryz.prog tab S60 ann_base_Ints J Tryz.f17 post 0 (nn0 :: []) (mk_base_Ints_0 l l2 v0_0) = rd_base_Ints_0 J l l2 v0_0 nn0 post := by kernel_rfl
theorem lp_base_Ints (J : Inv) (post : DV → Prop) : AllG J (loopsFn Tryz.prog tab S60 ann_base_Ints J Tryz.f17 post) = (((∀ F s, ¬ J 0 (0 :: F) s) ∧ ∀ n F s, J 0 ((n + 1) :: F) s → round Tryz.prog tab S60 ann_base_Ints J Tryz.f17 post 0 (n :: F) s) ∧ True) := by kernel_rfl
def J_base_Ints (l : List Int) (l2 : List Int) : Inv := fun b F s => match b, F with
 | 0, [nn0] => ∃ (v0_0 : Int), s = mk_base_Ints_0 l l2 v0_0 ∧ (l.length ≤ 1000000 ∧ 0 ≤ v0_0 ∧ v0_0 ≤ l.length ∧ (nn0 : Int) + v0_0 = l.length + 1 ∧ l.length = l2.length ∧ ∀ j : Nat, (j : Int) < v0_0 → l.getD j 0 = l2.getD j 0)
 | _, _ => False
theorem rnd_base_Ints_0 (l : List Int) (l2 : List Int) (v0_0 : Int) (nn0 : Nat) (hp : (l).length ≤ 1000000) (hi : l.length ≤ 1000000 ∧ 0 ≤ v0_0 ∧ v0_0 ≤ l.length ∧ ((nn0 + 1) : Int) + v0_0 = l.length + 1 ∧ l.length = l2.length ∧ ∀ j : Nat, (j : Int) < v0_0 → l.getD j 0 = l2.getD j 0) : rd_base_Ints_0 (J_base_Ints l l2) l l2 v0_0 nn0 (fun r => LeD r (.t (.c (.v (.bool (decide (l = l2))))))) := by
 obtain ⟨i0, i1, i2, i3, i4, i5⟩ := hi
 obtain ⟨k, rfl⟩ : ∃ k : Nat, v0_0 = k := ⟨v0_0.toNat, by omega⟩
 have hk : (k : Int).toNat = k := rfl
 unfold rd_base_Ints_0
 rw [hk]
 refine cond_i (fun h => ?_) (fun h => leB ?_)
 ·have hlt : k < l.length := by have := of_decide_eq_true h; omega
  refine ⟨by omega, by omega, cond_i (fun e => leB ?_) (fun e => lt_i fun x hx => ?_)⟩
  ·refine (decide_eq_false fun q => ?_).symm
   rw [q] at e
   simp at e
  ·have e : l.getD k 0 = l2.getD k 0 := by simpa using e
   rw [wi (by omega)] at hx
   subst hx
   exact ⟨_, rfl, i0, by omega, by omega, by omega, i4, fun j hj => by
    by_cases q : j = k
    ·rw [q]; exact e
    ·exact i5 j (by omega)⟩
 ·have hge : k = l.length := by have := of_decide_eq_false h; omega
  refine (decide_eq_true (List.ext_getElem? fun i => ?_)).symm
  by_cases hi : i < l.length
  ·have := i5 i (by omega)
   simp only [List.getD, List.getElem?_eq_getElem hi, List.getElem?_eq_getElem (i4 ▸ hi), Option.getD_some] at this
   rw [List.getElem?_eq_getElem hi, List.getElem?_eq_getElem (i4 ▸ hi), this]
  ·rw [List.getElem?_eq_none (by omega), List.getElem?_eq_none (by omega)]
theorem zero_base_Ints_0 (l : List Int) (l2 : List Int) (v0_0 : Int)  (hi : l.length ≤ 1000000 ∧ 0 ≤ v0_0 ∧ v0_0 ≤ l.length ∧ (0 : Int) + v0_0 = l.length + 1 ∧ l.length = l2.length ∧ ∀ j : Nat, (j : Int) < v0_0 → l.getD j 0 = l2.getD j 0) : False := by
 omega
theorem spec_base_Ints (l : List Int) (l2 : List Int) (hp : (l).length ≤ 1000000) : vc_base_Ints (J_base_Ints l l2) l l2 (fun r => LeD r (.t (.c (.v (.bool (decide (l = l2))))))) := by
  unfold vc_base_Ints
  refine cond_i (fun h => leB ?_) (fun h => ?_)
  · have h : l.length ≠ l2.length := by intro e; rw [e] at h; simp at h
    exact (decide_eq_false fun e => h (by rw [e])).symm
  · have h : l.length = l2.length := by have h : (l.length : Int) = l2.length := by simpa using h
                                        omega
    exact ⟨l.length + 1, 0, rfl, hp, by omega, by omega, by omega, h, fun j hj => by omega⟩
theorem all_base_Ints (l : List Int) (l2 : List Int) (hp : (l).length ≤ 1000000) : AllG (J_base_Ints l l2) (loopsFn Tryz.prog tab S60 ann_base_Ints (J_base_Ints l l2) Tryz.f17 (fun r => LeD r (.t (.c (.v (.bool (decide (l = l2)))))))) := by
 rw [lp_base_Ints]
 refine ⟨⟨?_, ?_⟩, trivial⟩
 ·intro F s h
  obtain _ | ⟨g, F⟩ := F
  case cons => exact h.elim
  obtain ⟨w0, rfl, hi⟩ := h
  exact zero_base_Ints_0 l l2 w0 hi
 ·intro n F s h
  obtain _ | ⟨g, F⟩ := F
  case cons => exact h.elim
  obtain ⟨w0, rfl, hi⟩ := h
  rw [er_base_Ints_0]
  exact rnd_base_Ints_0 l l2 _ _ hp hi
def con_base_Ints : Con := fun args => match args with
 | [.t (.c (.sl 1 n_l c_l)), .t (.c (.sl 1 n_l2 c_l2))] => some (.t (.c (.v (.bool (decide ((listC n_l mkInt c_l) = (listC n_l2 mkInt c_l2)))))), some (numsP 1 n_l c_l ∧ numsP 1 n_l2 c_l2 ∧ ((listC n_l mkInt c_l)).length ≤ 1000000), false)
 | _ => none
theorem ok_base_Ints : Ok Tryz.prog 17 con_base_Ints := by
 refine Ok.fn (ann := ann_base_Ints) mixed tabOK VS60 ValidIt.no (fn := Tryz.f17) (by kernel_rfl) (by kernel_rfl) fit_base_Ints fun args r pre fresh h hp => ?_
 unfold con_base_Ints at h
 split at h
 ·rename_i n_l c_l n_l2 c_l2
  cases h
  obtain ⟨hp0, hp1, hp⟩ := hp
  refine ⟨rfl, J_base_Ints (listC n_l mkInt c_l) (listC n_l2 mkInt c_l2), [.t (.c (.sl 1 ((listC n_l mkInt c_l).length) (intsC (listC n_l mkInt c_l)))), .t (.c (.sl 1 ((listC n_l2 mkInt c_l2).length) (intsC (listC n_l2 mkInt c_l2))))], ?_, Nat.le_of_ble_eq_true (by kernel_rfl), ?_, ?_⟩
  ·exact (LeA_cons (leT_c ((leL_int hp0))) (LeA_cons (leT_c ((leL_int hp1))) LeA_nil))
  ·rw [ev_base_Ints]; exact spec_base_Ints (listC n_l mkInt c_l) (listC n_l2 mkInt c_l2) hp
  ·exact all_base_Ints (listC n_l mkInt c_l) (listC n_l2 mkInt c_l2) hp
 ·cases h
def S61 : Sum := addS S60 17 con_base_Ints
theorem VS61 : Valid Tryz.prog S61 := Valid.add VS60 ok_base_Ints
def S62 : Sum := S61
theorem VS62 : Valid Tryz.prog S62 := VS61
def vc_base_Size (a : Int) (post : DV → Prop) : Prop := lt (IntKind.i64.wrap ((0 : Int) - a)) fun x1 => lt ((if x1 > a then x1 else a)) fun x2 => post (.t (.c (.v (.int .i64 x2))))
def ann_base_Size : Ann := ⟨fun _ => none, fun _ => none, fun _ => [], noIt, false, fun _ => none, fun _ => none⟩
theorem ev_base_Size (J : Inv) (a : Int) (post : DV → Prop) : evFn Tryz.prog tab S62 ann_base_Size J Tryz.f43 [.t (.c (.v (.int .i64 a)))] post = vc_base_Size a post := by kernel_rfl
theorem fit_base_Size : okFn ann_base_Size Tryz.f43 = true := by kernel_rfl
theorem lp_base_Size (J : Inv) (post : DV → Prop) : AllG J (loopsFn Tryz.prog tab S62 ann_base_Size J Tryz.f43 post) = (True) := by kernel_rfl
theorem spec_base_Size (a : Int) (hp : -9223372036854775807 ≤ a ∧ a ≤ 9223372036854775807) : vc_base_Size a (fun r => LeD r (.t (.c (.v (.int .i64 (max a (-a))))))) := by
 unfold vc_base_Size
 refine lt_i fun x1 h1 => lt_i fun x2 h2 => leI ?_
 rw [IntWalk.i64_in _ (by omega)] at h1
 rw [mx_if] at h2
 rw [← h2, ← h1, Int.zero_sub]
def con_base_Size : Con := fun args => match args with
 | [.t (.c (.v (.int .i64 a)))] => some (.t (.c (.v (.int .i64 (max a (-a))))), some (-9223372036854775807 ≤ a ∧ a ≤ 9223372036854775807), false)
 | _ => none
theorem ok_base_Size : Ok Tryz.prog 43 con_base_Size := by
 refine Ok.fn (ann := ann_base_Size) mixed tabOK VS62 ValidIt.no (fn := Tryz.f43) (by kernel_rfl) (by kernel_rfl) fit_base_Size fun args r pre fresh h hp => ?_
 unfold con_base_Size at h
 split at h
 ·rename_i a
  cases h
  refine ⟨rfl, fun _ _ _ => False, _, LeA.refl _, Nat.le_of_ble_eq_true (by kernel_rfl), ?_, ?_⟩
  ·rw [ev_base_Size]; exact spec_base_Size a hp
  ·rw [lp_base_Size]; trivial
 ·cases h
def S63 : Sum := addS S62 43 con_base_Size
theorem VS63 : Valid Tryz.prog S63 := Valid.add VS62 ok_base_Size
def mk_base_Gcd_0 (a : Int) (c : Int) (v0_0 : Int) (v0_1 : Int) : DS := ⟨[some (.t (.c (.v (.int .i64 v0_0)))), some (.t (.c (.v (.int .i64 v0_1)))), none, none, none, none, none, none, none, none, none, none, none], [none, none, none, none, none, none, none, none, none, none, none, none, none]⟩
def vc_base_Gcd (J : Inv) (a : Int) (c : Int) (post : DV → Prop) : Prop := ∃ n, J 0 (n :: []) (mk_base_Gcd_0 a c a c)
def ann_base_Gcd : Ann := ⟨fun r => lookA r [(2, ([[], [], [], [1, 2], [0, 1], [0, 1, 2, 3, 4]], [[], [], [], [], [], []]))], fun b => lookA b [(0, (none, some ⟨[0, 1], [], []⟩))], fun _ => [], noIt, false, fun _ => none, fun _ => none⟩
theorem ev_base_Gcd (J : Inv) (a : Int) (c : Int) (post : DV → Prop) : evFn Tryz.prog tab S63 ann_base_Gcd J Tryz.f72 [.t (.c (.v (.int .i64 a))), .t (.c (.v (.int .i64 c)))] post = vc_base_Gcd J a c post := by kernel_rfl
theorem fit_base_Gcd : okFn ann_base_Gcd Tryz.f72 = true := by kernel_rfl
def rd_base_Gcd_0 (J : Inv) (a : Int) (c : Int) (v0_0 : Int) (v0_1 : Int) (nn0 : Nat) (post : DV → Prop) : Prop := cond (v0_1 != (0 : Int)) (lt (Int.tmod v0_0 v0_1) fun x1 => (IntKind.i64 = IntKind.i64 ∧ v0_1 ≠ 0) ∧ (J 0 (nn0 :: []) (mk_base_Gcd_0 a c v0_1 x1))) ((-9223372036854775807 ≤ v0_0 ∧ v0_0 ≤ 9223372036854775807) ∧ (post (.t (.c (.v (.int .i64 (max v0_0 (-v0_0))))))))
theorem er_base_Gcd_0 (J : Inv) (a : Int) (c : Int) (v0_0 : Int) (v0_1 : Int) (nn0 : Nat) (post : DV → Prop) : round Tryz.prog tab S63 ann_base_Gcd J Tryz.f72 post 0 (nn0 :: []) (mk_base_Gcd_0 a c v0_0 v0_1) = rd_base_Gcd_0 J a c v0_0 v0_1 nn0 post := by kernel_rfl
theorem lp_base_Gcd (J : Inv) (post : DV → Prop) : AllG J (loopsFn Tryz.prog tab S63 ann_base_Gcd J Tryz.f72 post) = (((∀ F s, ¬ J 0 (0 :: F) s) ∧ ∀ n F s, J 0 ((n + 1) :: F) s → round Tryz.prog tab S63 ann_base_Gcd J Tryz.f72 post 0 (n :: F) s) ∧ True) := by kernel_rfl
def J_base_Gcd (a : Int) (c : Int) : Inv := fun b F s => match b, F with
 | 0, [nn0] => ∃ (v0_0 : Int) (v0_1 : Int), s = mk_base_Gcd_0 a c v0_0 v0_1 ∧ (gcd2 v0_0 v0_1 = gcd2 a c ∧ v0_1.natAbs < nn0 ∧ (-9223372036854775808 ≤ v0_0 ∧ v0_0 ≤ 9223372036854775807) ∧ (-9223372036854775807 ≤ v0_1 ∧ v0_1 ≤ 9223372036854775807) ∧ (v0_1 ≠ 0 ∨ -9223372036854775807 ≤ v0_0))
 | _, _ => False
theorem rnd_base_Gcd_0 (a : Int) (c : Int) (v0_0 : Int) (v0_1 : Int) (nn0 : Nat) (hp : (-9223372036854775808 ≤ a ∧ a ≤ 9223372036854775807) ∧ (-9223372036854775807 ≤ c ∧ c ≤ 9223372036854775807) ∧ (c ≠ 0 ∨ -9223372036854775807 ≤ a)) (hi : gcd2 v0_0 v0_1 = gcd2 a c ∧ v0_1.natAbs < (nn0 + 1) ∧ (-9223372036854775808 ≤ v0_0 ∧ v0_0 ≤ 9223372036854775807) ∧ (-9223372036854775807 ≤ v0_1 ∧ v0_1 ≤ 9223372036854775807) ∧ (v0_1 ≠ 0 ∨ -9223372036854775807 ≤ v0_0)) : rd_base_Gcd_0 (J_base_Gcd a c) a c v0_0 v0_1 nn0 (fun r => LeD r (.t (.c (.v (.int .i64 (gcd2 a c)))))) := by
 obtain ⟨i1, i2, i3, i4, i5⟩ := hi
 unfold rd_base_Gcd_0
 refine cond_i (fun h => lt_i fun x1 h1 => ?_) (fun h => ⟨?_, leI ?_⟩)
 ·have h : v0_1 ≠ 0 := by simpa using h
  have e := Int.natAbs_tmod v0_0 v0_1
  rw [h1] at e
  have e2 := Nat.mod_lt v0_0.natAbs (show 0 < v0_1.natAbs by omega)
  refine ⟨⟨rfl, h⟩, v0_1, x1, rfl, ?_, by omega, by omega, by omega, by omega⟩
  rw [← h1, gcd2_step, i1]
 all_goals
  have h : v0_1 = 0 := by simpa using h
  subst h
 ·omega
 ·have : gcd2 v0_0 0 = (v0_0.natAbs : Int) := by unfold gcd2; rw [Int.gcd_zero_right]
  rw [this] at i1
  omega
theorem zero_base_Gcd_0 (a : Int) (c : Int) (v0_0 : Int) (v0_1 : Int)  (hi : gcd2 v0_0 v0_1 = gcd2 a c ∧ v0_1.natAbs < 0 ∧ (-9223372036854775808 ≤ v0_0 ∧ v0_0 ≤ 9223372036854775807) ∧ (-9223372036854775807 ≤ v0_1 ∧ v0_1 ≤ 9223372036854775807) ∧ (v0_1 ≠ 0 ∨ -9223372036854775807 ≤ v0_0)) : False := by
 omega
theorem spec_base_Gcd (a : Int) (c : Int) (hp : (-9223372036854775808 ≤ a ∧ a ≤ 9223372036854775807) ∧ (-9223372036854775807 ≤ c ∧ c ≤ 9223372036854775807) ∧ (c ≠ 0 ∨ -9223372036854775807 ≤ a)) : vc_base_Gcd (J_base_Gcd a c) a c (fun r => LeD r (.t (.c (.v (.int .i64 (gcd2 a c)))))) := by
 unfold vc_base_Gcd
 exact ⟨c.natAbs + 1, a, c, rfl, rfl, by omega, hp⟩
theorem all_base_Gcd (a : Int) (c : Int) (hp : (-9223372036854775808 ≤ a ∧ a ≤ 9223372036854775807) ∧ (-9223372036854775807 ≤ c ∧ c ≤ 9223372036854775807) ∧ (c ≠ 0 ∨ -9223372036854775807 ≤ a)) : AllG (J_base_Gcd a c) (loopsFn Tryz.prog tab S63 ann_base_Gcd (J_base_Gcd a c) Tryz.f72 (fun r => LeD r (.t (.c (.v (.int .i64 (gcd2 a c))))))) := by
 rw [lp_base_Gcd]
 refine ⟨⟨?_, ?_⟩, trivial⟩
 ·intro F s h
  obtain _ | ⟨g, F⟩ := F
  case cons => exact h.elim
  obtain ⟨w0, w1, rfl, hi⟩ := h
  exact zero_base_Gcd_0 a c w0 w1 hi
 ·intro n F s h
  obtain _ | ⟨g, F⟩ := F
  case cons => exact h.elim
  obtain ⟨w0, w1, rfl, hi⟩ := h
  rw [er_base_Gcd_0]
  exact rnd_base_Gcd_0 a c _ _ _ hp hi
def con_base_Gcd : Con := fun args => match args with
 | [.t (.c (.v (.int .i64 a))), .t (.c (.v (.int .i64 c)))] => some (.t (.c (.v (.int .i64 (gcd2 a c)))), some ((-9223372036854775808 ≤ a ∧ a ≤ 9223372036854775807) ∧ (-9223372036854775807 ≤ c ∧ c ≤ 9223372036854775807) ∧ (c ≠ 0 ∨ -9223372036854775807 ≤ a)), false)
 | _ => none
theorem ok_base_Gcd : Ok Tryz.prog 72 con_base_Gcd := by
 refine Ok.fn (ann := ann_base_Gcd) mixed tabOK VS63 ValidIt.no (fn := Tryz.f72) (by kernel_rfl) (by kernel_rfl) fit_base_Gcd fun args r pre fresh h hp => ?_
 unfold con_base_Gcd at h
 split at h
 ·rename_i a c
  cases h
  refine ⟨rfl, J_base_Gcd a c, _, LeA.refl _, Nat.le_of_ble_eq_true (by kernel_rfl), ?_, ?_⟩
  ·rw [ev_base_Gcd]; exact spec_base_Gcd a c hp
  ·exact all_base_Gcd a c hp
 ·cases h
def S64 : Sum := addS S63 72 con_base_Gcd
theorem VS64 : Valid Tryz.prog S64 := Valid.add VS63 ok_base_Gcd
def vc_base_Lowest (a : Int) (c : Int) (post : DV → Prop) : Prop := ((-9223372036854775808 ≤ a ∧ a ≤ 9223372036854775807) ∧ (-9223372036854775807 ≤ c ∧ c ≤ 9223372036854775807) ∧ (c ≠ 0 ∨ -9223372036854775807 ≤ a)) ∧ (cond (decide (c < (0 : Int))) (lt (IntKind.i64.wrap ((0 : Int) - (gcd2 a c))) fun x1 => lt (IntKind.i64.wrap (Int.tdiv a x1)) fun x2 => (IntKind.i64 = IntKind.i64 ∧ x1 ≠ 0) ∧ (lt (IntKind.i64.wrap (Int.tdiv c x1)) fun x3 => (IntKind.i64 = IntKind.i64 ∧ x1 ≠ 0) ∧ (post (.t (.a [.v (.int .i64 x2), .v (.int .i64 x3)]))))) (lt (IntKind.i64.wrap (Int.tdiv a (gcd2 a c))) fun x4 => (IntKind.i64 = IntKind.i64 ∧ (gcd2 a c) ≠ 0) ∧ (lt (IntKind.i64.wrap (Int.tdiv c (gcd2 a c))) fun x5 => (IntKind.i64 = IntKind.i64 ∧ (gcd2 a c) ≠ 0) ∧ (post (.t (.a [.v (.int .i64 x4), .v (.int .i64 x5)]))))))
def ann_base_Lowest : Ann := ⟨fun r => lookA r [(4, ([[], [], [0, 1], [], [], [3, 4], [0, 1, 2, 3, 4, 5], [0, 1, 2, 3, 4, 5, 6]], [[], [], [], [], [], [], [], []]))], fun _ => none, fun _ => [], noIt, false, fun _ => none, fun _ => none⟩
theorem ev_base_Lowest (J : Inv) (a : Int) (c : Int) (post : DV → Prop) : evFn Tryz.prog tab S64 ann_base_Lowest J Tryz.f61 [.t (.c (.v (.int .i64 a))), .t (.c (.v (.int .i64 c)))] post = vc_base_Lowest a c post := by kernel_rfl
theorem fit_base_Lowest : okFn ann_base_Lowest Tryz.f61 = true := by kernel_rfl
theorem lp_base_Lowest (J : Inv) (post : DV → Prop) : AllG J (loopsFn Tryz.prog tab S64 ann_base_Lowest J Tryz.f61 post) = (True) := by kernel_rfl
theorem spec_base_Lowest (a : Int) (c : Int) (hp : 0 ≤ a ∧ a ≤ 1000000000000 ∧ 0 < c ∧ c ≤ 1000000000000) : vc_base_Lowest a c (fun r => LeD r (.t (.a [.v (.int .i64 (lowN a c)), .v (.int .i64 (lowD a c))]))) := by
 unfold vc_base_Lowest
 obtain ⟨q1, q2, q3, q4⟩ := hp
 have g := gcd2_pos (a := a) (b := c) (by omega)
 have e1 : Int.tdiv a (gcd2 a c) = a / gcd2 a c := Int.tdiv_eq_ediv_of_nonneg q1
 have e2 : Int.tdiv c (gcd2 a c) = c / gcd2 a c := Int.tdiv_eq_ediv_of_nonneg (by omega)
 have l1 := Int.ediv_le_self (gcd2 a c) q1
 have l2 := Int.ediv_le_self (a := c) (gcd2 a c) (by omega)
 have n1 := Int.ediv_nonneg (b := gcd2 a c) q1 (by omega)
 have n2 := Int.ediv_nonneg (a := c) (b := gcd2 a c) (by omega) (by omega)
 rw [e1, e2]
 refine ⟨⟨by omega, by omega, by omega⟩, cond_i (fun h => absurd (of_decide_eq_true h) (by omega)) (fun h => lt_i fun x1 h1 => ⟨⟨rfl, by omega⟩, lt_i fun x2 h2 => ⟨⟨rfl, by omega⟩, ?_⟩⟩)⟩
 rw [wi (by omega)] at h1 h2
 subst h1 h2
 exact LeD.refl _
def con_base_Lowest : Con := fun args => match args with
 | [.t (.c (.v (.int .i64 a))), .t (.c (.v (.int .i64 c)))] => some (.t (.a [.v (.int .i64 (lowN a c)), .v (.int .i64 (lowD a c))]), some (0 ≤ a ∧ a ≤ 1000000000000 ∧ 0 < c ∧ c ≤ 1000000000000), false)
 | _ => none
theorem ok_base_Lowest : Ok Tryz.prog 61 con_base_Lowest := by
 refine Ok.fn (ann := ann_base_Lowest) mixed tabOK VS64 ValidIt.no (fn := Tryz.f61) (by kernel_rfl) (by kernel_rfl) fit_base_Lowest fun args r pre fresh h hp => ?_
 unfold con_base_Lowest at h
 split at h
 ·rename_i a c
  cases h
  refine ⟨rfl, fun _ _ _ => False, _, LeA.refl _, Nat.le_of_ble_eq_true (by kernel_rfl), ?_, ?_⟩
  ·rw [ev_base_Lowest]; exact spec_base_Lowest a c hp
  ·rw [lp_base_Lowest]; trivial
 ·cases h
def S65 : Sum := addS S64 61 con_base_Lowest
theorem VS65 : Valid Tryz.prog S65 := Valid.add VS64 ok_base_Lowest
def vc_law06_Hits  (post : DV → Prop) : Prop := post (.t (.c (.sl 7 2 (genC [[.v (.int .i64 0), .v (.int .i64 0), .v (.int .i64 0), .v (.int .i64 100), .v (.int .i64 101), .v (.int .i64 5), .v (.int .i64 6)], [.v (.int .i64 8), .v (.int .i64 0), .v (.int .i64 0), .v (.int .i64 106), .v (.int .i64 107), .v (.int .i64 5), .v (.int .i64 6)]]))))
def ann_law06_Hits : Ann := ⟨fun _ => none, fun _ => none, fun _ => [], noIt, true, fun _ => none, fun _ => none⟩
theorem ev_law06_Hits (J : Inv)  (post : DV → Prop) : evFn Tryz.prog tab S65 ann_law06_Hits J Tryz.f60 [] post = vc_law06_Hits  post := by kernel_rfl
theorem fit_law06_Hits : okFn ann_law06_Hits Tryz.f60 = true := by kernel_rfl
theorem lp_law06_Hits (J : Inv) (post : DV → Prop) : AllG J (loopsFn Tryz.prog tab S65 ann_law06_Hits J Tryz.f60 post) = (True) := by kernel_rfl
theorem spec_law06_Hits  : vc_law06_Hits  (fun r => LeD r (.t (.c (.sl 7 hitL.length (hitsC hitL))))) := by
 exact le_hits hitL
def con_law06_Hits : Con := fun args => match args with
 | [] => some (.t (.c (.sl 7 hitL.length (hitsC hitL))), none, true)
 | _ => none
theorem ok_law06_Hits : Ok Tryz.prog 60 con_law06_Hits := by
 refine Ok.fnFr (ann := ann_law06_Hits) mixed tabOK VS65 ValidIt.no rfl (fn := Tryz.f60) (by kernel_rfl) (by kernel_rfl) fit_law06_Hits fun args r pre fresh h hp => ?_
 unfold con_law06_Hits at h
 split at h
 ·cases h
  refine ⟨rfl, (fun i j _ hj => plain_FHit _ i j), fun _ _ _ => False, _, LeA.refl _, Nat.le_of_ble_eq_true (by kernel_rfl), ?_, ?_⟩
  ·rw [ev_law06_Hits]; exact spec_law06_Hits 
  ·rw [lp_law06_Hits]; trivial
 ·cases h
def S66 : Sum := addS S65 60 con_law06_Hits
theorem VS66 : Valid Tryz.prog S66 := Valid.add VS65 ok_law06_Hits
def S67 : Sum := S66
theorem VS67 : Valid Tryz.prog S67 := VS66
def con_law06_Muons : Con := fun args => match args with
 | [] => some (.t (.c (.sl 2 muL.length (musC muL))), none, false)
 | _ => none
theorem ok_law06_Muons : Ok Tryz.prog 59 con_law06_Muons := by
 intro args r pre fresh h hp
 unfold con_law06_Muons at h
 split at h
 ·cases h
  refine ⟨Enters.of (fn := Tryz.f59) (by kernel_rfl) (by kernel_rfl) (by kernel_rfl), fun W N vs _ hv => ?_⟩
  have hv : All2 (RelD (RelF W N)) [] vs := hv
  have ev := hv.nil_inv
  subst ev
  exact law_Muons W N
 ·cases h
def S68 : Sum := addS S67 59 con_law06_Muons
theorem VS68 : Valid Tryz.prog S68 := Valid.add VS67 ok_law06_Muons
def S69 : Sum := S68
theorem VS69 : Valid Tryz.prog S69 := VS68
end Go.Proofs.YtdkpgodakmailaaGreatDoor
set_option linter.unusedVariables false
set_option linter.unusedSimpArgs false
namespace Go.Proofs.YtdkpgodakmailaaGreatDoor
open Go.RowKit Ev
theorem cond_t {b : Bool} {A B : Prop} (hb : b = true) (h : A) : cond b A B := by rw [hb]; exact h
def S70 : Sum := S69
theorem VS70 : Valid Tryz.prog S70 := VS69
end Go.Proofs.YtdkpgodakmailaaGreatDoor
set_option linter.unusedVariables false
set_option linter.unusedSimpArgs false
namespace Go.Proofs.YtdkpgodakmailaaGreatDoor
open Go.RowKit Ev
theorem pow_rg {j : Nat} (h : j ≤ 30) : 1 ≤ (2 : Int) ^ j ∧ (2 : Int) ^ j ≤ 1073741824 := by
 have h1 : 1 ≤ 2 ^ j := Nat.one_le_two_pow
 have h2 : 2 ^ j ≤ 2 ^ 30 := Nat.pow_le_pow_right (by decide) h
 have e : ((2 ^ j : Nat) : Int) = (2 : Int) ^ j := by push_cast; rfl
 omega
theorem FHit.err_eq (h : FHit) : h.err = if posE h.p ≠ 0 then posE h.p else if inB h.t.lo 0 1000000000 = true ∧ inB h.t.hi 0 1000000000 = true ∧ inB h.c.lo 0 1000000 = true ∧ inB h.c.hi 0 1000000 = true then (if h.t.hi < h.t.lo ∨ h.c.hi < h.c.lo then 9 else 0) else 2 := by
 unfold FHit.err rgIn rgE
 by_cases q : posE h.p = 0
 ·rw [if_neg (by rw [q]; simp), q]
  cases inB h.t.lo 0 1000000000 <;> cases inB h.t.hi 0 1000000000 <;> cases inB h.c.lo 0 1000000 <;> cases inB h.c.hi 0 1000000 <;> simp [firstNZ, unl]
  by_cases a : h.t.lo ≤ h.t.hi <;> by_cases b : h.c.lo ≤ h.c.hi <;> simp [a, b] <;> omega
 ·rw [if_pos q]
  simp [firstNZ, q]
theorem digits_of {n i j k : Int} (hn : 1 ≤ n ∧ n ≤ 6) (hi : 0 ≤ i ∧ i < n) (hj : 0 ≤ j ∧ j < n) (hk : 0 ≤ k ∧ k < n) : (0 ≤ i * n * n + j * n + k ∧ i * n * n + j * n + k < 216) ∧ (i * n * n + j * n + k) / n / n = i ∧ (i * n * n + j * n + k) / n % n = j ∧ (i * n * n + j * n + k) % n = k := by
 rcases (by omega : n = 1 ∨ n = 2 ∨ n = 3 ∨ n = 4 ∨ n = 5 ∨ n = 6) with rfl | rfl | rfl | rfl | rfl | rfl <;> omega
def vc_ref06_PositionErr (p0 p1 p2 : Int) (post : DV → Prop) : Prop := cond (!(inB p0 (-10000 : Int) (10000 : Int))) ((true = true) ∧ ((true = true) ∧ (post (.t (.c (.v (.int .i64 2))))))) (cond (!(inB p1 (-10000 : Int) (10000 : Int))) ((true = true) ∧ (post (.t (.c (.v (.int .i64 2)))))) (cond (!(inB p2 (-10000 : Int) (10000 : Int))) (post (.t (.c (.v (.int .i64 2))))) (post (.t (.c (.v (.int .i64 0)))))))
def ann_ref06_PositionErr : Ann := ⟨fun _ => none, fun _ => none, fun _ => [], noIt, false, fun _ => none, fun _ => none⟩
theorem ev_ref06_PositionErr (J : Inv) (p0 p1 p2 : Int) (post : DV → Prop) : evFn Tryz.prog tab S70 ann_ref06_PositionErr J Tryz.f46 [.t (.a [.v (.int .i64 p0), .v (.int .i64 p1), .v (.int .i64 p2)])] post = vc_ref06_PositionErr p0 p1 p2 post := by kernel_rfl
theorem fit_ref06_PositionErr : okFn ann_ref06_PositionErr Tryz.f46 = true := by kernel_rfl
theorem lp_ref06_PositionErr (J : Inv) (post : DV → Prop) : AllG J (loopsFn Tryz.prog tab S70 ann_ref06_PositionErr J Tryz.f46 post) = (True) := by kernel_rfl
theorem spec_ref06_PositionErr (p0 p1 p2 : Int) : vc_ref06_PositionErr p0 p1 p2 (fun r => LeD r (.t (.c (.v (.int .i64 (posE (⟨p0, p1, p2⟩ : P3))))))) := by
 unfold vc_ref06_PositionErr
 unfold posE
 refine cond_i (fun h => ⟨rfl, rfl, leI ?_⟩) (fun h => cond_i (fun h2 => ⟨rfl, leI ?_⟩) (fun h2 => cond_i (fun h3 => leI ?_) (fun h3 => leI ?_)))
 all_goals simp_all [unl]
def con_ref06_PositionErr : Con := fun args => match args with
 | [.t (.a [.v (.int .i64 p0), .v (.int .i64 p1), .v (.int .i64 p2)])] => some (.t (.c (.v (.int .i64 (posE (⟨p0, p1, p2⟩ : P3))))), none, false)
 | _ => none
theorem ok_ref06_PositionErr : Ok Tryz.prog 46 con_ref06_PositionErr := by
 refine Ok.fn (ann := ann_ref06_PositionErr) mixed tabOK VS70 ValidIt.no (fn := Tryz.f46) (by kernel_rfl) (by kernel_rfl) fit_ref06_PositionErr fun args r pre fresh h hp => ?_
 unfold con_ref06_PositionErr at h
 split at h
 ·rename_i p0 p1 p2
  cases h
  refine ⟨rfl, fun _ _ _ => False, _, LeA.refl _, Nat.le_of_ble_eq_true (by kernel_rfl), ?_, ?_⟩
  ·rw [ev_ref06_PositionErr]; exact spec_ref06_PositionErr p0 p1 p2
  ·rw [lp_ref06_PositionErr]; trivial
 ·cases h
def S71 : Sum := addS S70 46 con_ref06_PositionErr
theorem VS71 : Valid Tryz.prog S71 := Valid.add VS70 ok_ref06_PositionErr
def mk_base_Root_0 (y : Int) (v0_0 : Int) (v0_1 : Int) : DS := ⟨[some (.t (.c (.v (.int .i64 y)))), none, none, some (.t (.c (.v (.int .i64 v0_0)))), some (.t (.c (.v (.int .i64 v0_1)))), none, none, none, none, none, none, none, none, none, none, none, none, none, none, none, none, none], [none, none, none, none, none, none, none, none, none, none, none, none, none, none, none, none, none, none, none, none, none, none]⟩
def vc_base_Root (J : Inv) (y : Int) (post : DV → Prop) : Prop := ∃ n, J 0 (n :: []) (mk_base_Root_0 y 0 1073741824)
def ann_base_Root : Ann := ⟨fun _ => none, fun b => lookA b [(0, (none, some ⟨[0, 3, 4], [], []⟩))], fun _ => [], noIt, false, fun _ => none, fun _ => none⟩
theorem ev_base_Root (J : Inv) (y : Int) (post : DV → Prop) : evFn Tryz.prog tab S71 ann_base_Root J Tryz.f50 [.t (.c (.v (.int .i64 y)))] post = vc_base_Root J y post := by kernel_rfl
theorem fit_base_Root : okFn ann_base_Root Tryz.f50 = true := by kernel_rfl
def rd_base_Root_0 (J : Inv) (y : Int) (v0_0 : Int) (v0_1 : Int) (nn0 : Nat) (post : DV → Prop) : Prop := cond (decide (v0_1 > (0 : Int))) (lt (IntKind.i64.wrap (v0_0 + v0_1)) fun x1 => lt (IntKind.i64.wrap (v0_0 + v0_1)) fun x2 => lt (IntKind.i64.wrap (x1 * x2)) fun x3 => cond (decide (x3 ≤ y)) (lt (IntKind.i64.wrap (v0_0 + v0_1)) fun x4 => lt (IntKind.i64.wrap (Int.tdiv v0_1 (2 : Int))) fun x5 => (IntKind.i64 = IntKind.i64 ∧ (2 : Int) ≠ 0) ∧ (J 0 (nn0 :: []) (mk_base_Root_0 y x4 x5))) (lt (IntKind.i64.wrap (Int.tdiv v0_1 (2 : Int))) fun x6 => (IntKind.i64 = IntKind.i64 ∧ (2 : Int) ≠ 0) ∧ (J 0 (nn0 :: []) (mk_base_Root_0 y v0_0 x6)))) (post (.t (.c (.v (.int .i64 v0_0)))))
theorem er_base_Root_0 (J : Inv) (y : Int) (v0_0 : Int) (v0_1 : Int) (nn0 : Nat) (post : DV → Prop) : round Tryz.prog tab S71 ann_base_Root J Tryz.f50 post 0 (nn0 :: []) (mk_base_Root_0 y v0_0 v0_1) = rd_base_Root_0 J y v0_0 v0_1 nn0 post := by kernel_rfl
theorem lp_base_Root (J : Inv) (post : DV → Prop) : AllG J (loopsFn Tryz.prog tab S71 ann_base_Root J Tryz.f50 post) = (((∀ F s, ¬ J 0 (0 :: F) s) ∧ ∀ n F s, J 0 ((n + 1) :: F) s → round Tryz.prog tab S71 ann_base_Root J Tryz.f50 post 0 (n :: F) s) ∧ True) := by kernel_rfl
def J_base_Root (y : Int) : Inv := fun b F s => match b, F with
 | 0, [nn0] => ∃ (v0_0 : Int) (v0_1 : Int), s = mk_base_Root_0 y v0_0 v0_1 ∧ (∃ j : Nat, nn0 = j + 1 ∧ j ≤ 31 ∧ v0_1 = (2 : Int) ^ j / 2 ∧ 0 ≤ v0_0 ∧ v0_0 * v0_0 ≤ y ∧ y < (v0_0 + 2 ^ j) * (v0_0 + 2 ^ j))
 | _, _ => False
theorem rnd_base_Root_0 (y : Int) (v0_0 : Int) (v0_1 : Int) (nn0 : Nat) (hp : 0 ≤ y ∧ y < 1099511627776) (hi : ∃ j : Nat, (nn0 + 1) = j + 1 ∧ j ≤ 31 ∧ v0_1 = (2 : Int) ^ j / 2 ∧ 0 ≤ v0_0 ∧ v0_0 * v0_0 ≤ y ∧ y < (v0_0 + 2 ^ j) * (v0_0 + 2 ^ j)) : rd_base_Root_0 (J_base_Root y) y v0_0 v0_1 nn0 (fun r => LeD r (.t (.c (.v (.int .i64 (rt y)))))) := by
 obtain ⟨j, i1, i2, i3, i4, i5, i6⟩ := hi
 unfold rd_base_Root_0
 have r1 : v0_0 ≤ 1048576 := by
  rcases Int.le_total v0_0 1048576 with h | h
  ·exact h
  ·have := Int.mul_le_mul h h (by decide) i4; omega
 cases j with
 | zero =>
  refine cond_i (fun h => ?_) (fun h => leI (rt_of i4 i5 i6 hp.2))
  have h := of_decide_eq_true h
  rw [i3] at h
  exact absurd h (by decide)
 | succ j =>
  have e : (2 : Int) ^ (j + 1) = 2 ^ j * 2 := rfl
  have hB : 1 ≤ (2 : Int) ^ j ∧ (2 : Int) ^ j ≤ 1073741824 := pow_rg (by omega)
  rw [e] at i3 i6
  have e2 : v0_1 = (2 : Int) ^ j := by omega
  rw [e2]
  obtain ⟨B, hj⟩ : ∃ B, (2 : Int) ^ j = B := ⟨_, rfl⟩
  rw [hj] at i3 i6 e2 hB ⊢
  have m := sq_rg (d := v0_0 + B) (K := 2000000000) (by omega)
  refine cond_i (fun h => lt_i fun x1 h1 => lt_i fun x2 h2 => lt_i fun x3 h3 => ?_) (fun h => absurd (of_decide_eq_false h) (by omega))
  rw [wi (by omega)] at h1 h2
  subst h1 h2
  rw [wi (by omega)] at h3
  subst h3
  have td : Int.tdiv B 2 = B / 2 := Int.tdiv_eq_ediv_of_nonneg (by omega)
  refine cond_i (fun q => lt_i fun x4 h4 => lt_i fun x5 h5 => ⟨⟨rfl, by decide⟩, ?_⟩) (fun q => lt_i fun x5 h5 => ⟨⟨rfl, by decide⟩, ?_⟩)
  ·have q := of_decide_eq_true q
   rw [wi (by omega)] at h4
   rw [td, wi (by omega)] at h5
   subst h4 h5
   exact ⟨_, _, rfl, j, by omega, by omega, by rw [hj], by omega, q, by rw [hj, Int.add_assoc, show B + B = B * 2 by omega]; exact i6⟩
  ·have q := of_decide_eq_false q
   rw [td, wi (by omega)] at h5
   subst h5
   exact ⟨_, _, rfl, j, by omega, by omega, by rw [hj], i4, i5, by rw [hj]; omega⟩
theorem zero_base_Root_0 (y : Int) (v0_0 : Int) (v0_1 : Int)  (hi : ∃ j : Nat, 0 = j + 1 ∧ j ≤ 31 ∧ v0_1 = (2 : Int) ^ j / 2 ∧ 0 ≤ v0_0 ∧ v0_0 * v0_0 ≤ y ∧ y < (v0_0 + 2 ^ j) * (v0_0 + 2 ^ j)) : False := by
 obtain ⟨j, h, _⟩ := hi
 omega
theorem spec_base_Root (y : Int) (hp : 0 ≤ y ∧ y < 1099511627776) : vc_base_Root (J_base_Root y) y (fun r => LeD r (.t (.c (.v (.int .i64 (rt y)))))) := by
 unfold vc_base_Root
 exact ⟨32, 0, 1073741824, rfl, 31, rfl, by decide, by decide, by omega, by omega, by omega⟩
theorem all_base_Root (y : Int) (hp : 0 ≤ y ∧ y < 1099511627776) : AllG (J_base_Root y) (loopsFn Tryz.prog tab S71 ann_base_Root (J_base_Root y) Tryz.f50 (fun r => LeD r (.t (.c (.v (.int .i64 (rt y))))))) := by
 rw [lp_base_Root]
 refine ⟨⟨?_, ?_⟩, trivial⟩
 ·intro F s h
  obtain _ | ⟨g, F⟩ := F
  case cons => exact h.elim
  obtain ⟨w0, w1, rfl, hi⟩ := h
  exact zero_base_Root_0 y w0 w1 hi
 ·intro n F s h
  obtain _ | ⟨g, F⟩ := F
  case cons => exact h.elim
  obtain ⟨w0, w1, rfl, hi⟩ := h
  rw [er_base_Root_0]
  exact rnd_base_Root_0 y _ _ _ hp hi
def con_base_Root : Con := fun args => match args with
 | [.t (.c (.v (.int .i64 y)))] => some (.t (.c (.v (.int .i64 (rt y)))), some (0 ≤ y ∧ y < 1099511627776), false)
 | _ => none
theorem ok_base_Root : Ok Tryz.prog 50 con_base_Root := by
 refine Ok.fn (ann := ann_base_Root) mixed tabOK VS71 ValidIt.no (fn := Tryz.f50) (by kernel_rfl) (by kernel_rfl) fit_base_Root fun args r pre fresh h hp => ?_
 unfold con_base_Root at h
 split at h
 ·rename_i y
  cases h
  refine ⟨rfl, J_base_Root y, _, LeA.refl _, Nat.le_of_ble_eq_true (by kernel_rfl), ?_, ?_⟩
  ·rw [ev_base_Root]; exact spec_base_Root y hp
  ·exact all_base_Root y hp
 ·cases h
def S72 : Sum := addS S71 50 con_base_Root
theorem VS72 : Valid Tryz.prog S72 := Valid.add VS71 ok_base_Root
def mk_ref06_CheckHits_0 (l : List FHit) (v0_0 : Int) : DS := ⟨[some (.t (.c (.sl 7 l.length (hitsC l)))), none, none, none, some (.t (.c (.v (.int .i64 v0_0)))), none, none, none, none, none, none, none, none, none, none, none, none, none, none, none, none, none, none, none, none, none, none, none, none, none, none, none, none, none, none, none, none, none, none, none, none, none, none, none, none, none, none, none, none, none, none, none, none, none, none, none, none, none, none, none, none, none, none, none, none, none, none, none, none, none, none, none, none, none, none, none], [none, none, none, none, none, none, none, none, none, none, none, none, none, none, none, none, none, none, none, none, none, none, none, none, none, none, none, none, none, none, none, none, none, none, none, none, none, none, none, none, none, none, none, none, none, none, none, none, none, none, none, none, none, none, none, none, none, none, none, none, none, none, none, none, none, none, none, none, none, none, none, none, none, none, none, none]⟩
def vc_ref06_CheckHits (J : Inv) (l : List FHit) (post : DV → Prop) : Prop := cond (((l.length : Nat) : Int) == (0 : Int)) (post (.tu [.c (.v (.int .i64 0)), .c (.v (.int .i64 10))])) (cond (decide (((l.length : Nat) : Int) > (8 : Int))) (post (.tu [.c (.v (.int .i64 0)), .c (.v (.int .i64 8))])) (∃ n, J 0 (n :: []) (mk_ref06_CheckHits_0 l 0)))
def ann_ref06_CheckHits : Ann := ⟨fun r => lookA r [(11, ([[], [], [0, 1], [0, 1, 2], [0, 1, 2, 3], [], [], [5, 6], [5, 6, 7], [5, 6, 7, 8], [], [], [0, 1, 2, 3, 4, 10, 11], [0, 1, 2, 3, 4, 5, 6, 7, 8, 9, 10, 11, 12]], [[6, 7], [6, 7], [6, 7], [6, 7], [6, 7], [6, 7], [6, 7], [6, 7], [6, 7], [6, 7], [7], [6], [9999, 6], []]))], fun b => lookA b [(0, (none, some ⟨[0, 4], [], []⟩))], fun _ => [], noIt, false, fun _ => none, fun _ => none⟩
theorem ev_ref06_CheckHits (J : Inv) (l : List FHit) (post : DV → Prop) : evFn Tryz.prog tab S72 ann_ref06_CheckHits J Tryz.f93 [.t (.c (.sl 7 l.length (hitsC l)))] post = vc_ref06_CheckHits J l post := by kernel_rfl
theorem fit_ref06_CheckHits : okFn ann_ref06_CheckHits Tryz.f93 = true := by kernel_rfl
def rd_ref06_CheckHits_0 (J : Inv) (l : List FHit) (v0_0 : Int) (nn0 : Nat) (post : DV → Prop) : Prop := cond (decide (v0_0 < ((l.length : Nat) : Int))) ((0 ≤ v0_0 ∧ v0_0 < ((l.length : Nat) : Int)) ∧ (cond ((posE (hitAt l v0_0.toNat).p) != (0 : Int)) (post (.tu [.c (.v (.int .i64 v0_0)), .c (.v (.int .i64 (posE (hitAt l v0_0.toNat).p)))])) ((0 ≤ v0_0 ∧ v0_0 < ((l.length : Nat) : Int)) ∧ ((0 ≤ v0_0 ∧ v0_0 < ((l.length : Nat) : Int)) ∧ (cond (!(inB ((hitAt l v0_0.toNat).t.lo) (0 : Int) (1000000000 : Int))) ((true = true) ∧ ((true = true) ∧ ((true = true) ∧ (post (.tu [.c (.v (.int .i64 v0_0)), .c (.v (.int .i64 2))]))))) (cond (!(inB ((hitAt l v0_0.toNat).t.hi) (0 : Int) (1000000000 : Int))) ((true = true) ∧ ((true = true) ∧ (post (.tu [.c (.v (.int .i64 v0_0)), .c (.v (.int .i64 2))])))) (cond (!(inB ((hitAt l v0_0.toNat).c.lo) (0 : Int) (1000000 : Int))) ((true = true) ∧ (post (.tu [.c (.v (.int .i64 v0_0)), .c (.v (.int .i64 2))]))) (cond (!(inB ((hitAt l v0_0.toNat).c.hi) (0 : Int) (1000000 : Int))) (post (.tu [.c (.v (.int .i64 v0_0)), .c (.v (.int .i64 2))])) (cond (decide (((hitAt l v0_0.toNat).t.lo) > ((hitAt l v0_0.toNat).t.hi))) ((true = true) ∧ (post (.tu [.c (.v (.int .i64 v0_0)), .c (.v (.int .i64 9))]))) (cond (decide (((hitAt l v0_0.toNat).c.lo) > ((hitAt l v0_0.toNat).c.hi))) (post (.tu [.c (.v (.int .i64 v0_0)), .c (.v (.int .i64 9))])) (lt (IntKind.i64.wrap (v0_0 + (1 : Int))) fun x1 => J 0 (nn0 :: []) (mk_ref06_CheckHits_0 l x1)))))))))))) (post (.tu [.c (.v (.int .i64 0)), .c (.v (.int .i64 0))]))
theorem er_ref06_CheckHits_0 (J : Inv) (l : List FHit) (v0_0 : Int) (nn0 : Nat) (post : DV → Prop) : round Tryz.prog tab S72 ann_ref06_CheckHits J Tryz.f93 post 0 (nn0 :: []) (mk_ref06_CheckHits_0 l v0_0) = rd_ref06_CheckHits_0 J l v0_0 nn0 post := by kernel_rfl
theorem lp_ref06_CheckHits (J : Inv) (post : DV → Prop) : AllG J (loopsFn Tryz.prog tab S72 ann_ref06_CheckHits J Tryz.f93 post) = (((∀ F s, ¬ J 0 (0 :: F) s) ∧ ∀ n F s, J 0 ((n + 1) :: F) s → round Tryz.prog tab S72 ann_ref06_CheckHits J Tryz.f93 post 0 (n :: F) s) ∧ True) := by kernel_rfl
def J_ref06_CheckHits (l : List FHit) : Inv := fun b F s => match b, F with
 | 0, [nn0] => ∃ (v0_0 : Int), s = mk_ref06_CheckHits_0 l v0_0 ∧ (0 ≤ v0_0 ∧ v0_0 ≤ l.length ∧ (nn0 : Int) + v0_0 = l.length + 1 ∧ (∀ j : Nat, (j : Int) < v0_0 → (hitAt l j).err = 0) ∧ cntE l.length 8 = 0)
 | _, _ => False
set_option maxHeartbeats 8000000 in
set_option maxRecDepth 100000 in
theorem rnd_ref06_CheckHits_0 (l : List FHit) (v0_0 : Int) (nn0 : Nat) (hi : 0 ≤ v0_0 ∧ v0_0 ≤ l.length ∧ ((nn0 + 1) : Int) + v0_0 = l.length + 1 ∧ (∀ j : Nat, (j : Int) < v0_0 → (hitAt l j).err = 0) ∧ cntE l.length 8 = 0) : rd_ref06_CheckHits_0 (J_ref06_CheckHits l) l v0_0 nn0 (fun r => LeD r (.tu [.c (.v (.int .i64 (hitsI l))), .c (.v (.int .i64 (hitsE l)))])) := by
 obtain ⟨i1, i2, i3, i4, i5⟩ := hi
 obtain ⟨k, rfl⟩ : ∃ k : Nat, v0_0 = k := ⟨v0_0.toNat, by omega⟩
 have hk : (k : Int).toNat = k := rfl
 have hz : ∀ j, j < k → (hitAt l j).err = 0 := fun j hj => i4 j (by omega)
 have hlen : l.length ≤ 8 := by
  have h2 := (fn2 i5).2
  rw [unl_0 (by decide)] at h2
  have := of_decide_eq_true h2
  omega
 have eI : hitsI l = scanI (fun i => (hitAt l i).err) l.length := if_pos i5
 have eE : hitsE l = scan (fun i => (hitAt l i).err) l.length := if_pos i5
 unfold rd_ref06_CheckHits_0
 rw [hk]
 refine cond_i (fun h => ?_) (fun h => ?_)
 ·have hlt : k < l.length := by have := of_decide_eq_true h; omega
  have bad : ∀ e, e ≠ 0 → (hitAt l k).err = e → LeD (.tu [.c (.v (.int .i64 (k : Int))), .c (.v (.int .i64 e))]) (.tu [.c (.v (.int .i64 (hitsI l))), .c (.v (.int .i64 (hitsE l)))]) := fun e he q => by
   subst q
   rw [eI, eE]
   exact le2 (scanI_at (f := fun i => (hitAt l i).err) hz hlt he).symm (scan_at (f := fun i => (hitAt l i).err) hz hlt he).symm
  have hq := FHit.err_eq (hitAt l k)
  refine ⟨by omega, cond_i (fun e => ?_) (fun e => ⟨by omega, by omega, cond_i (fun a1 => ⟨rfl, rfl, rfl, ?_⟩) (fun a1 => cond_i (fun a2 => ⟨rfl, rfl, ?_⟩) (fun a2 => cond_i (fun a3 => ⟨rfl, ?_⟩) (fun a3 => cond_i (fun a4 => ?_) (fun a4 => cond_i (fun a5 => ⟨rfl, ?_⟩) (fun a5 => cond_i (fun a6 => ?_) (fun a6 => lt_i fun x hx => ?_))))))⟩)⟩
  ·have e : posE (hitAt l k).p ≠ 0 := by simpa using e
   exact bad _ e (by rw [hq, if_pos e])
  all_goals
   have e : posE (hitAt l k).p = 0 := by simpa using e
   rw [if_neg (by rw [e]; simp)] at hq
  ·exact bad 2 (by decide) (by rw [hq]; simp_all)
  ·exact bad 2 (by decide) (by rw [hq]; simp_all)
  ·exact bad 2 (by decide) (by rw [hq]; simp_all)
  ·exact bad 2 (by decide) (by rw [hq]; simp_all)
  ·exact bad 9 (by decide) (by rw [hq]; simp_all)
  ·exact bad 9 (by decide) (by rw [hq]; simp_all)
  ·have q : (hitAt l k).err = 0 := by rw [hq]; simp_all
   rw [wi (by omega)] at hx
   subst hx
   refine ⟨_, rfl, by omega, by omega, by omega, fun j hj => ?_, i5⟩
   by_cases q2 : j = k
   ·rw [q2]; exact q
   ·exact i4 j (by omega)
 ·have hge : k = l.length := by have := of_decide_eq_false h; omega
  subst hge
  rw [eI, eE]
  exact le2 (scanI_end (f := fun i => (hitAt l i).err) hz).symm (scan_end (f := fun i => (hitAt l i).err) hz).symm
theorem zero_ref06_CheckHits_0 (l : List FHit) (v0_0 : Int)  (hi : 0 ≤ v0_0 ∧ v0_0 ≤ l.length ∧ (0 : Int) + v0_0 = l.length + 1 ∧ (∀ j : Nat, (j : Int) < v0_0 → (hitAt l j).err = 0) ∧ cntE l.length 8 = 0) : False := by
 omega
set_option maxHeartbeats 8000000 in
set_option maxRecDepth 100000 in
theorem spec_ref06_CheckHits (l : List FHit) : vc_ref06_CheckHits (J_ref06_CheckHits l) l (fun r => LeD r (.tu [.c (.v (.int .i64 (hitsI l))), .c (.v (.int .i64 (hitsE l)))])) := by
 unfold vc_ref06_CheckHits
 have bad : ∀ e, e ≠ 0 → cntE l.length 8 = e → LeD (.tu [.c (.v (.int .i64 0)), .c (.v (.int .i64 e))]) (.tu [.c (.v (.int .i64 (hitsI l))), .c (.v (.int .i64 (hitsE l)))]) := fun e he q => by
  subst q
  exact le2 (if_neg he).symm (if_neg he).symm
 refine cond_i (fun h => bad 10 (by decide) ?_) (fun h => cond_i (fun h2 => bad 8 (by decide) ?_) (fun h2 => ?_))
 ·have h : (l.length : Int) = 0 := by simpa using h
  unfold cntE; rw [h]; rfl
 ·have h : (l.length : Int) ≠ 0 := by simpa using h
  have h2 := of_decide_eq_true h2
  unfold cntE; rw [decide_eq_true (show (l.length : Int) > 0 by omega), decide_eq_false (show ¬ (l.length : Int) ≤ 8 by omega)]; rfl
 ·have h : (l.length : Int) ≠ 0 := by simpa using h
  have h2 := of_decide_eq_false h2
  refine ⟨l.length + 1, 0, rfl, by omega, by omega, by omega, fun j hj => by omega, ?_⟩
  unfold cntE; rw [decide_eq_true (show (l.length : Int) > 0 by omega), decide_eq_true (show (l.length : Int) ≤ 8 by omega)]; rfl
theorem all_ref06_CheckHits (l : List FHit) : AllG (J_ref06_CheckHits l) (loopsFn Tryz.prog tab S72 ann_ref06_CheckHits (J_ref06_CheckHits l) Tryz.f93 (fun r => LeD r (.tu [.c (.v (.int .i64 (hitsI l))), .c (.v (.int .i64 (hitsE l)))]))) := by
 rw [lp_ref06_CheckHits]
 refine ⟨⟨?_, ?_⟩, trivial⟩
 ·intro F s h
  obtain _ | ⟨g, F⟩ := F
  case cons => exact h.elim
  obtain ⟨w0, rfl, hi⟩ := h
  exact zero_ref06_CheckHits_0 l w0 hi
 ·intro n F s h
  obtain _ | ⟨g, F⟩ := F
  case cons => exact h.elim
  obtain ⟨w0, rfl, hi⟩ := h
  rw [er_ref06_CheckHits_0]
  exact rnd_ref06_CheckHits_0 l _ _ hi
def con_ref06_CheckHits : Con := fun args => match args with
 | [.t (.c (.sl 7 n_l c_l))] => some (.tu [.c (.v (.int .i64 (hitsI (listC n_l mkHit c_l)))), .c (.v (.int .i64 (hitsE (listC n_l mkHit c_l))))], some (numsP 7 n_l c_l), false)
 | _ => none
theorem ok_ref06_CheckHits : Ok Tryz.prog 93 con_ref06_CheckHits := by
 refine Ok.fn (ann := ann_ref06_CheckHits) mixed tabOK VS72 ValidIt.no (fn := Tryz.f93) (by kernel_rfl) (by kernel_rfl) fit_ref06_CheckHits fun args r pre fresh h hp => ?_
 unfold con_ref06_CheckHits at h
 split at h
 ·rename_i n_l c_l
  cases h
  have hp0 := hp
  refine ⟨rfl, J_ref06_CheckHits (listC n_l mkHit c_l), [.t (.c (.sl 7 ((listC n_l mkHit c_l).length) (hitsC (listC n_l mkHit c_l))))], ?_, Nat.le_of_ble_eq_true (by kernel_rfl), ?_, ?_⟩
  ·exact (LeA_cons (leT_c ((leL_FHit hp0))) LeA_nil)
  ·rw [ev_ref06_CheckHits]; exact spec_ref06_CheckHits (listC n_l mkHit c_l)
  ·exact all_ref06_CheckHits (listC n_l mkHit c_l)
 ·cases h
def S73 : Sum := addS S72 93 con_ref06_CheckHits
theorem VS73 : Valid Tryz.prog S73 := Valid.add VS72 ok_ref06_CheckHits
def vc_ref06_HitsErr (l : List FHit) (post : DV → Prop) : Prop := (numsP 7 l.length (hitsC l)) ∧ (post (.t (.c (.v (.int .i64 (hitsE (listC l.length mkHit (hitsC l))))))))
def ann_ref06_HitsErr : Ann := ⟨fun _ => none, fun _ => none, fun _ => [], noIt, false, fun _ => none, fun _ => none⟩
theorem ev_ref06_HitsErr (J : Inv) (l : List FHit) (post : DV → Prop) : evFn Tryz.prog tab S73 ann_ref06_HitsErr J Tryz.f39 [.t (.c (.sl 7 l.length (hitsC l)))] post = vc_ref06_HitsErr l post := by kernel_rfl
theorem fit_ref06_HitsErr : okFn ann_ref06_HitsErr Tryz.f39 = true := by kernel_rfl
theorem lp_ref06_HitsErr (J : Inv) (post : DV → Prop) : AllG J (loopsFn Tryz.prog tab S73 ann_ref06_HitsErr J Tryz.f39 post) = (True) := by kernel_rfl
theorem spec_ref06_HitsErr (l : List FHit) : vc_ref06_HitsErr l (fun r => LeD r (.t (.c (.v (.int .i64 (hitsE l)))))) := by
 unfold vc_ref06_HitsErr
 rw [hits_listC]
 exact ⟨numsP_hits l, LeD.refl _⟩
def con_ref06_HitsErr : Con := fun args => match args with
 | [.t (.c (.sl 7 n_l c_l))] => some (.t (.c (.v (.int .i64 (hitsE (listC n_l mkHit c_l))))), some (numsP 7 n_l c_l), false)
 | _ => none
theorem ok_ref06_HitsErr : Ok Tryz.prog 39 con_ref06_HitsErr := by
 refine Ok.fn (ann := ann_ref06_HitsErr) mixed tabOK VS73 ValidIt.no (fn := Tryz.f39) (by kernel_rfl) (by kernel_rfl) fit_ref06_HitsErr fun args r pre fresh h hp => ?_
 unfold con_ref06_HitsErr at h
 split at h
 ·rename_i n_l c_l
  cases h
  have hp0 := hp
  refine ⟨rfl, fun _ _ _ => False, [.t (.c (.sl 7 ((listC n_l mkHit c_l).length) (hitsC (listC n_l mkHit c_l))))], ?_, Nat.le_of_ble_eq_true (by kernel_rfl), ?_, ?_⟩
  ·exact (LeA_cons (leT_c ((leL_FHit hp0))) LeA_nil)
  ·rw [ev_ref06_HitsErr]; exact spec_ref06_HitsErr (listC n_l mkHit c_l)
  ·rw [lp_ref06_HitsErr]; trivial
 ·cases h
def S74 : Sum := addS S73 39 con_ref06_HitsErr
theorem VS74 : Valid Tryz.prog S74 := Valid.add VS73 ok_ref06_HitsErr
def vc_ref06_LatticeErr (g0 g1 g2 g3 g4 : Int) (post : DV → Prop) : Prop := cond ((posE (⟨g0, g1, g2⟩ : P3)) != (0 : Int)) (post (.t (.c (.v (.int .i64 (posE (⟨g0, g1, g2⟩ : P3))))))) (cond (!(inB g3 (1 : Int) (1000 : Int))) ((true = true) ∧ (post (.t (.c (.v (.int .i64 2)))))) (cond (!(inB g4 (1 : Int) (6 : Int))) (post (.t (.c (.v (.int .i64 2))))) (post (.t (.c (.v (.int .i64 0)))))))
def ann_ref06_LatticeErr : Ann := ⟨fun _ => none, fun _ => none, fun _ => [], noIt, false, fun _ => none, fun _ => none⟩
theorem ev_ref06_LatticeErr (J : Inv) (g0 g1 g2 g3 g4 : Int) (post : DV → Prop) : evFn Tryz.prog tab S74 ann_ref06_LatticeErr J Tryz.f94 [.t (.a [.v (.int .i64 g0), .v (.int .i64 g1), .v (.int .i64 g2), .v (.int .i64 g3), .v (.int .i64 g4)])] post = vc_ref06_LatticeErr g0 g1 g2 g3 g4 post := by kernel_rfl
theorem fit_ref06_LatticeErr : okFn ann_ref06_LatticeErr Tryz.f94 = true := by kernel_rfl
theorem lp_ref06_LatticeErr (J : Inv) (post : DV → Prop) : AllG J (loopsFn Tryz.prog tab S74 ann_ref06_LatticeErr J Tryz.f94 post) = (True) := by kernel_rfl
theorem spec_ref06_LatticeErr (g0 g1 g2 g3 g4 : Int) : vc_ref06_LatticeErr g0 g1 g2 g3 g4 (fun r => LeD r (.t (.c (.v (.int .i64 (latE (⟨⟨g0, g1, g2⟩, g3, g4⟩ : Lat))))))) := by
 unfold vc_ref06_LatticeErr
 unfold latE
 refine cond_i (fun h => leI ?_) (fun h => cond_i (fun h2 => ⟨rfl, leI ?_⟩) (fun h2 => cond_i (fun h3 => leI ?_) (fun h3 => leI ?_)))
 all_goals simp_all [unl, firstNZ]
def con_ref06_LatticeErr : Con := fun args => match args with
 | [.t (.a [.v (.int .i64 g0), .v (.int .i64 g1), .v (.int .i64 g2), .v (.int .i64 g3), .v (.int .i64 g4)])] => some (.t (.c (.v (.int .i64 (latE (⟨⟨g0, g1, g2⟩, g3, g4⟩ : Lat))))), none, false)
 | _ => none
theorem ok_ref06_LatticeErr : Ok Tryz.prog 94 con_ref06_LatticeErr := by
 refine Ok.fn (ann := ann_ref06_LatticeErr) mixed tabOK VS74 ValidIt.no (fn := Tryz.f94) (by kernel_rfl) (by kernel_rfl) fit_ref06_LatticeErr fun args r pre fresh h hp => ?_
 unfold con_ref06_LatticeErr at h
 split at h
 ·rename_i g0 g1 g2 g3 g4
  cases h
  refine ⟨rfl, fun _ _ _ => False, _, LeA.refl _, Nat.le_of_ble_eq_true (by kernel_rfl), ?_, ?_⟩
  ·rw [ev_ref06_LatticeErr]; exact spec_ref06_LatticeErr g0 g1 g2 g3 g4
  ·rw [lp_ref06_LatticeErr]; trivial
 ·cases h
def S75 : Sum := addS S74 94 con_ref06_LatticeErr
theorem VS75 : Valid Tryz.prog S75 := Valid.add VS74 ok_ref06_LatticeErr
def mk_ref06_Positions_0 (g0 g1 g2 g3 g4 : Int) (v0_0 : List (List CV)) (v0_1 : Int) : DS := ⟨[none, some (.t (.c (.p 1 0))), none, some (.t (.c (.os 3))), some (.t (.c (.v (.int .i64 v0_1)))), none, none, none, none, none, none, none, none, none, none, none, none, none, none, none, none, none, none, none, none, none, none, none, none, none, none, none, none, none, none, none, none, none, none, none, none, none, none, none, none, none, none, none, none, none, none, none, none, none], [none, some (.box 77 [.v (.int .i64 g0), .v (.int .i64 g1), .v (.int .i64 g2), .v (.int .i64 g3), .v (.int .i64 g4)]), none, some (.gen 75 3 v0_0), none, none, none, none, none, none, none, none, none, none, none, none, none, none, none, none, none, none, none, none, none, none, none, none, none, none, none, none, none, none, none, none, none, none, none, none, none, none, none, none, none, none, none, none, none, none, none, none, none, none]⟩
def mk_ref06_Positions_2 (g0 g1 g2 g3 g4 : Int) (v2_0 : List (List CV)) (v2_1 : Int) (v2_2 : Int) : DS := ⟨[none, some (.t (.c (.p 1 0))), none, some (.t (.c (.os 3))), some (.t (.c (.v (.int .i64 v2_1)))), some (.t (.c (.v (.int .i64 v2_2)))), none, none, none, none, none, none, none, none, none, none, none, none, none, none, none, none, none, none, none, none, none, none, none, none, none, none, none, none, none, none, none, none, none, none, none, none, none, none, none, none, none, none, none, none, none, none, none, none], [none, some (.box 77 [.v (.int .i64 g0), .v (.int .i64 g1), .v (.int .i64 g2), .v (.int .i64 g3), .v (.int .i64 g4)]), none, some (.gen 75 3 v2_0), none, none, none, none, none, none, none, none, none, none, none, none, none, none, none, none, none, none, none, none, none, none, none, none, none, none, none, none, none, none, none, none, none, none, none, none, none, none, none, none, none, none, none, none, none, none, none, none, none, none]⟩
def mk_ref06_Positions_4 (g0 g1 g2 g3 g4 : Int) (v4_0 : List (List CV)) (v4_1 : Int) (v4_2 : Int) (v4_3 : Int) : DS := ⟨[none, some (.t (.c (.p 1 0))), none, some (.t (.c (.os 3))), some (.t (.c (.v (.int .i64 v4_1)))), some (.t (.c (.v (.int .i64 v4_2)))), some (.t (.c (.v (.int .i64 v4_3)))), none, none, none, none, none, none, none, none, none, none, none, none, none, none, none, none, none, none, none, none, none, none, none, none, none, none, none, none, none, none, none, none, none, none, none, none, none, none, none, none, none, none, none, none, none, none, none], [none, some (.box 77 [.v (.int .i64 g0), .v (.int .i64 g1), .v (.int .i64 g2), .v (.int .i64 g3), .v (.int .i64 g4)]), none, some (.gen 75 3 v4_0), none, none, none, none, none, none, none, none, none, none, none, none, none, none, none, none, none, none, none, none, none, none, none, none, none, none, none, none, none, none, none, none, none, none, none, none, none, none, none, none, none, none, none, none, none, none, none, none, none, none]⟩
def vc_ref06_Positions (J : Inv) (g0 g1 g2 g3 g4 : Int) (post : DV → Prop) : Prop := ∃ n, J 0 (n :: []) (mk_ref06_Positions_0 g0 g1 g2 g3 g4 ([]) 0)
def ann_ref06_Positions : Ann := ⟨fun _ => none, fun b => lookA b [(0, (none, some ⟨[1, 4], [1], [(3, .gen 75 3 [])]⟩)), (2, (none, some ⟨[1, 4, 5], [1], [(3, .gen 75 3 [])]⟩)), (4, (none, some ⟨[1, 4, 5, 6], [1], [(3, .gen 75 3 [])]⟩))], fun _ => [], noIt, true, fun _ => none, fun _ => none⟩
theorem ev_ref06_Positions (J : Inv) (g0 g1 g2 g3 g4 : Int) (post : DV → Prop) : evFn Tryz.prog tab S75 ann_ref06_Positions J Tryz.f44 [.t (.a [.v (.int .i64 g0), .v (.int .i64 g1), .v (.int .i64 g2), .v (.int .i64 g3), .v (.int .i64 g4)])] post = vc_ref06_Positions J g0 g1 g2 g3 g4 post := by kernel_rfl
theorem fit_ref06_Positions : okFn ann_ref06_Positions Tryz.f44 = true := by kernel_rfl
def rd_ref06_Positions_0 (J : Inv) (g0 g1 g2 g3 g4 : Int) (v0_0 : List (List CV)) (v0_1 : Int) (nn0 : Nat) (post : DV → Prop) : Prop := cond (decide (v0_1 < g4)) (∃ n, J 2 (n :: nn0 :: []) (mk_ref06_Positions_2 g0 g1 g2 g3 g4 v0_0 v0_1 0)) (post (.t (.c (.sl 3 v0_0.length (genC v0_0)))))
theorem er_ref06_Positions_0 (J : Inv) (g0 g1 g2 g3 g4 : Int) (v0_0 : List (List CV)) (v0_1 : Int) (nn0 : Nat) (post : DV → Prop) : round Tryz.prog tab S75 ann_ref06_Positions J Tryz.f44 post 0 (nn0 :: []) (mk_ref06_Positions_0 g0 g1 g2 g3 g4 v0_0 v0_1) = rd_ref06_Positions_0 J g0 g1 g2 g3 g4 v0_0 v0_1 nn0 post := by kernel_rfl
def rd_ref06_Positions_2 (J : Inv) (g0 g1 g2 g3 g4 : Int) (v2_0 : List (List CV)) (v2_1 : Int) (v2_2 : Int) (nn2 nn0 : Nat) (post : DV → Prop) : Prop := cond (decide (v2_2 < g4)) (∃ n, J 4 (n :: nn2 :: nn0 :: []) (mk_ref06_Positions_4 g0 g1 g2 g3 g4 v2_0 v2_1 v2_2 0)) (lt (IntKind.i64.wrap (v2_1 + (1 : Int))) fun x1 => J 0 (nn0 :: []) (mk_ref06_Positions_0 g0 g1 g2 g3 g4 v2_0 x1))
theorem er_ref06_Positions_2 (J : Inv) (g0 g1 g2 g3 g4 : Int) (v2_0 : List (List CV)) (v2_1 : Int) (v2_2 : Int) (nn2 nn0 : Nat) (post : DV → Prop) : round Tryz.prog tab S75 ann_ref06_Positions J Tryz.f44 post 1 (nn2 :: nn0 :: []) (mk_ref06_Positions_2 g0 g1 g2 g3 g4 v2_0 v2_1 v2_2) = rd_ref06_Positions_2 J g0 g1 g2 g3 g4 v2_0 v2_1 v2_2 nn2 nn0 post := by kernel_rfl
def rd_ref06_Positions_4 (J : Inv) (g0 g1 g2 g3 g4 : Int) (v4_0 : List (List CV)) (v4_1 : Int) (v4_2 : Int) (v4_3 : Int) (nn4 nn2 nn0 : Nat) (post : DV → Prop) : Prop := cond (decide (v4_3 < g4)) (lt (IntKind.i64.wrap (g3 * v4_1)) fun x1 => lt (IntKind.i64.wrap (g0 + x1)) fun x2 => lt (IntKind.i64.wrap (g3 * v4_2)) fun x3 => lt (IntKind.i64.wrap (g1 + x3)) fun x4 => lt (IntKind.i64.wrap (g3 * v4_3)) fun x5 => lt (IntKind.i64.wrap (g2 + x5)) fun x6 => (roomP 24 (v4_0.length + ([[.v (.int .i64 x2), .v (.int .i64 x4), .v (.int .i64 x6)]] : List (List CV)).length)) ∧ (lt (IntKind.i64.wrap (v4_3 + (1 : Int))) fun x7 => J 4 (nn4 :: nn2 :: nn0 :: []) (mk_ref06_Positions_4 g0 g1 g2 g3 g4 (v4_0 ++ ([[.v (.int .i64 x2), .v (.int .i64 x4), .v (.int .i64 x6)]] : List (List CV))) v4_1 v4_2 x7))) (lt (IntKind.i64.wrap (v4_2 + (1 : Int))) fun x8 => J 2 (nn2 :: nn0 :: []) (mk_ref06_Positions_2 g0 g1 g2 g3 g4 v4_0 v4_1 x8))
theorem er_ref06_Positions_4 (J : Inv) (g0 g1 g2 g3 g4 : Int) (v4_0 : List (List CV)) (v4_1 : Int) (v4_2 : Int) (v4_3 : Int) (nn4 nn2 nn0 : Nat) (post : DV → Prop) : round Tryz.prog tab S75 ann_ref06_Positions J Tryz.f44 post 2 (nn4 :: nn2 :: nn0 :: []) (mk_ref06_Positions_4 g0 g1 g2 g3 g4 v4_0 v4_1 v4_2 v4_3) = rd_ref06_Positions_4 J g0 g1 g2 g3 g4 v4_0 v4_1 v4_2 v4_3 nn4 nn2 nn0 post := by kernel_rfl
theorem lp_ref06_Positions (J : Inv) (post : DV → Prop) : AllG J (loopsFn Tryz.prog tab S75 ann_ref06_Positions J Tryz.f44 post) = (((∀ F s, ¬ J 0 (0 :: F) s) ∧ ∀ n F s, J 0 ((n + 1) :: F) s → round Tryz.prog tab S75 ann_ref06_Positions J Tryz.f44 post 0 (n :: F) s) ∧ ((∀ F s, ¬ J 2 (0 :: F) s) ∧ ∀ n F s, J 2 ((n + 1) :: F) s → round Tryz.prog tab S75 ann_ref06_Positions J Tryz.f44 post 1 (n :: F) s) ∧ ((∀ F s, ¬ J 4 (0 :: F) s) ∧ ∀ n F s, J 4 ((n + 1) :: F) s → round Tryz.prog tab S75 ann_ref06_Positions J Tryz.f44 post 2 (n :: F) s) ∧ True) := by kernel_rfl
def J_ref06_Positions (g0 g1 g2 g3 g4 : Int) : Inv := fun b F s => match b, F with
 | 0, [nn0] => ∃ (v0_0 : List (List CV)) (v0_1 : Int), s = mk_ref06_Positions_0 g0 g1 g2 g3 g4 v0_0 v0_1 ∧ (latE (⟨⟨g0, g1, g2⟩, g3, g4⟩ : Lat) = 0 ∧ 0 ≤ v0_1 ∧ v0_1 ≤ g4 ∧ (nn0 : Int) + v0_1 = g4 + 1 ∧ v0_0 = (((List.range (v0_1 * g4 * g4).toNat).map fun k : Nat => posAt (⟨⟨g0, g1, g2⟩, g3, g4⟩ : Lat) k).map plCv))
 | 2, [nn2, nn0] => ∃ (v2_0 : List (List CV)) (v2_1 : Int) (v2_2 : Int), s = mk_ref06_Positions_2 g0 g1 g2 g3 g4 v2_0 v2_1 v2_2 ∧ (latE (⟨⟨g0, g1, g2⟩, g3, g4⟩ : Lat) = 0 ∧ (0 ≤ v2_1 ∧ v2_1 < g4 ∧ (nn0 : Int) + v2_1 = g4) ∧ 0 ≤ v2_2 ∧ v2_2 ≤ g4 ∧ (nn2 : Int) + v2_2 = g4 + 1 ∧ v2_0 = (((List.range (v2_1 * g4 * g4 + v2_2 * g4).toNat).map fun k : Nat => posAt (⟨⟨g0, g1, g2⟩, g3, g4⟩ : Lat) k).map plCv))
 | 4, [nn4, nn2, nn0] => ∃ (v4_0 : List (List CV)) (v4_1 : Int) (v4_2 : Int) (v4_3 : Int), s = mk_ref06_Positions_4 g0 g1 g2 g3 g4 v4_0 v4_1 v4_2 v4_3 ∧ (latE (⟨⟨g0, g1, g2⟩, g3, g4⟩ : Lat) = 0 ∧ (0 ≤ v4_1 ∧ v4_1 < g4 ∧ (nn0 : Int) + v4_1 = g4) ∧ (0 ≤ v4_2 ∧ v4_2 < g4 ∧ (nn2 : Int) + v4_2 = g4) ∧ 0 ≤ v4_3 ∧ v4_3 ≤ g4 ∧ (nn4 : Int) + v4_3 = g4 + 1 ∧ v4_0 = (((List.range (v4_1 * g4 * g4 + v4_2 * g4 + v4_3).toNat).map fun k : Nat => posAt (⟨⟨g0, g1, g2⟩, g3, g4⟩ : Lat) k).map plCv))
 | _, _ => False
set_option maxHeartbeats 8000000 in
set_option maxRecDepth 100000 in
theorem rnd_ref06_Positions_0 (g0 g1 g2 g3 g4 : Int) (v0_0 : List (List CV)) (v0_1 : Int) (nn0 : Nat) (hp : latE (⟨⟨g0, g1, g2⟩, g3, g4⟩ : Lat) = 0) (hi : latE (⟨⟨g0, g1, g2⟩, g3, g4⟩ : Lat) = 0 ∧ 0 ≤ v0_1 ∧ v0_1 ≤ g4 ∧ ((nn0 + 1) : Int) + v0_1 = g4 + 1 ∧ v0_0 = (((List.range (v0_1 * g4 * g4).toNat).map fun k : Nat => posAt (⟨⟨g0, g1, g2⟩, g3, g4⟩ : Lat) k).map plCv)) : rd_ref06_Positions_0 (J_ref06_Positions g0 g1 g2 g3 g4) g0 g1 g2 g3 g4 v0_0 v0_1 nn0 (fun r => LeD r (.t (.c (.sl 3 ((allP (⟨⟨g0, g1, g2⟩, g3, g4⟩ : Lat)).length) (plsC (allP (⟨⟨g0, g1, g2⟩, g3, g4⟩ : Lat))))))) := by
 obtain ⟨i0, i1, i2, i3, i4⟩ := hi
 unfold rd_ref06_Positions_0
 refine cond_i (fun h => ?_) (fun h => ?_)
 ·have h := of_decide_eq_true h
  exact ⟨g4.toNat + 1, _, _, 0, rfl, i0, by omega, by omega, by omega, by omega, by rw [i4, Int.zero_mul, Int.add_zero]⟩
 ·have h := of_decide_eq_false h
  have e : v0_1 = g4 := by omega
  rw [i4, e]
  exact le_pls _
theorem zero_ref06_Positions_0 (g0 g1 g2 g3 g4 : Int) (v0_0 : List (List CV)) (v0_1 : Int)  (hi : latE (⟨⟨g0, g1, g2⟩, g3, g4⟩ : Lat) = 0 ∧ 0 ≤ v0_1 ∧ v0_1 ≤ g4 ∧ (0 : Int) + v0_1 = g4 + 1 ∧ v0_0 = (((List.range (v0_1 * g4 * g4).toNat).map fun k : Nat => posAt (⟨⟨g0, g1, g2⟩, g3, g4⟩ : Lat) k).map plCv)) : False := by
 omega
set_option maxHeartbeats 8000000 in
set_option maxRecDepth 100000 in
theorem rnd_ref06_Positions_2 (g0 g1 g2 g3 g4 : Int) (v2_0 : List (List CV)) (v2_1 : Int) (v2_2 : Int) (nn2 nn0 : Nat) (hp : latE (⟨⟨g0, g1, g2⟩, g3, g4⟩ : Lat) = 0) (hi : latE (⟨⟨g0, g1, g2⟩, g3, g4⟩ : Lat) = 0 ∧ (0 ≤ v2_1 ∧ v2_1 < g4 ∧ (nn0 : Int) + v2_1 = g4) ∧ 0 ≤ v2_2 ∧ v2_2 ≤ g4 ∧ ((nn2 + 1) : Int) + v2_2 = g4 + 1 ∧ v2_0 = (((List.range (v2_1 * g4 * g4 + v2_2 * g4).toNat).map fun k : Nat => posAt (⟨⟨g0, g1, g2⟩, g3, g4⟩ : Lat) k).map plCv)) : rd_ref06_Positions_2 (J_ref06_Positions g0 g1 g2 g3 g4) g0 g1 g2 g3 g4 v2_0 v2_1 v2_2 nn2 nn0 (fun r => LeD r (.t (.c (.sl 3 ((allP (⟨⟨g0, g1, g2⟩, g3, g4⟩ : Lat)).length) (plsC (allP (⟨⟨g0, g1, g2⟩, g3, g4⟩ : Lat))))))) := by
 obtain ⟨i0, i1, i2, i3, i4, i5⟩ := hi
 obtain ⟨_, _, q1, q2⟩ := lat_ok i0
 simp only at q1 q2
 unfold rd_ref06_Positions_2
 refine cond_i (fun h => ?_) (fun h => lt_i fun x hx => ?_)
 ·have h := of_decide_eq_true h
  exact ⟨g4.toNat + 1, _, _, _, 0, rfl, i0, i1, by omega, by omega, by omega, by omega, by rw [i5, Int.add_zero]⟩
 ·have h := of_decide_eq_false h
  rw [wi (by omega)] at hx
  subst hx
  exact ⟨_, _, rfl, i0, by omega, by omega, by omega, by rw [i5, show v2_2 = g4 by omega, Int.add_mul, Int.add_mul, Int.one_mul]⟩
theorem zero_ref06_Positions_2 (g0 g1 g2 g3 g4 : Int) (v2_0 : List (List CV)) (v2_1 : Int) (v2_2 : Int) (nn0 : Nat) (hi : latE (⟨⟨g0, g1, g2⟩, g3, g4⟩ : Lat) = 0 ∧ (0 ≤ v2_1 ∧ v2_1 < g4 ∧ (nn0 : Int) + v2_1 = g4) ∧ 0 ≤ v2_2 ∧ v2_2 ≤ g4 ∧ (0 : Int) + v2_2 = g4 + 1 ∧ v2_0 = (((List.range (v2_1 * g4 * g4 + v2_2 * g4).toNat).map fun k : Nat => posAt (⟨⟨g0, g1, g2⟩, g3, g4⟩ : Lat) k).map plCv)) : False := by
 omega
set_option maxHeartbeats 8000000 in
set_option maxRecDepth 100000 in
theorem rnd_ref06_Positions_4 (g0 g1 g2 g3 g4 : Int) (v4_0 : List (List CV)) (v4_1 : Int) (v4_2 : Int) (v4_3 : Int) (nn4 nn2 nn0 : Nat) (hp : latE (⟨⟨g0, g1, g2⟩, g3, g4⟩ : Lat) = 0) (hi : latE (⟨⟨g0, g1, g2⟩, g3, g4⟩ : Lat) = 0 ∧ (0 ≤ v4_1 ∧ v4_1 < g4 ∧ (nn0 : Int) + v4_1 = g4) ∧ (0 ≤ v4_2 ∧ v4_2 < g4 ∧ (nn2 : Int) + v4_2 = g4) ∧ 0 ≤ v4_3 ∧ v4_3 ≤ g4 ∧ ((nn4 + 1) : Int) + v4_3 = g4 + 1 ∧ v4_0 = (((List.range (v4_1 * g4 * g4 + v4_2 * g4 + v4_3).toNat).map fun k : Nat => posAt (⟨⟨g0, g1, g2⟩, g3, g4⟩ : Lat) k).map plCv)) : rd_ref06_Positions_4 (J_ref06_Positions g0 g1 g2 g3 g4) g0 g1 g2 g3 g4 v4_0 v4_1 v4_2 v4_3 nn4 nn2 nn0 (fun r => LeD r (.t (.c (.sl 3 ((allP (⟨⟨g0, g1, g2⟩, g3, g4⟩ : Lat)).length) (plsC (allP (⟨⟨g0, g1, g2⟩, g3, g4⟩ : Lat))))))) := by
 obtain ⟨i0, i1, i2, i3, i4, i5, i6⟩ := hi
 obtain ⟨⟨a1, a2, a3⟩, hs, q1, q2⟩ := lat_ok i0
 simp only at a1 a2 a3 hs q1 q2
 unfold rd_ref06_Positions_4
 refine cond_i (fun h => ?_) (fun h => lt_i fun x hx => ?_)
 ·have h := of_decide_eq_true h
  obtain ⟨d1, d2, d3, d4⟩ := digits_of (n := g4) (i := v4_1) (j := v4_2) (k := v4_3) ⟨q1, q2⟩ ⟨i1.1, i1.2.1⟩ ⟨i2.1, i2.2.1⟩ ⟨i3, h⟩
  have e1 := step_rg hs q2 ⟨i1.1, i1.2.1⟩
  have e2 := step_rg hs q2 ⟨i2.1, i2.2.1⟩
  have e3 := step_rg hs q2 ⟨i3, h⟩
  refine lt_i fun x1 h1 => lt_i fun x2 h2 => lt_i fun x3 h3 => lt_i fun x4 h4 => lt_i fun x5 h5 => lt_i fun x6 h6 => ⟨?_, lt_i fun x7 h7 => ?_⟩
  ·rw [i6]; unfold roomP maxLen; simp only [List.length_map, List.length_range, List.length_singleton]; omega
  ·rw [wi (by omega)] at h1 h3 h5 h7
   subst h1 h3 h5 h7
   rw [wi (by omega)] at h2 h4 h6
   subst h2 h4 h6
   refine ⟨_, _, _, _, rfl, i0, i1, i2, by omega, by omega, by omega, ?_⟩
   rw [i6, show (v4_1 * g4 * g4 + v4_2 * g4 + (v4_3 + 1)).toNat = (v4_1 * g4 * g4 + v4_2 * g4 + v4_3).toNat + 1 by omega, List.range_succ, List.map_append, List.map_append]
   congr 1
   simp only [List.map_cons, List.map_nil, plCv, posAt]
   rw [show (((v4_1 * g4 * g4 + v4_2 * g4 + v4_3).toNat : Nat) : Int) = v4_1 * g4 * g4 + v4_2 * g4 + v4_3 by omega, d2, d3, d4]
 ·have h := of_decide_eq_false h
  rw [wi (by omega)] at hx
  subst hx
  exact ⟨_, _, _, rfl, i0, i1, by omega, by omega, by omega, by rw [i6, show v4_3 = g4 by omega, Int.add_mul, Int.one_mul, Int.add_assoc]⟩
theorem zero_ref06_Positions_4 (g0 g1 g2 g3 g4 : Int) (v4_0 : List (List CV)) (v4_1 : Int) (v4_2 : Int) (v4_3 : Int) (nn2 nn0 : Nat) (hi : latE (⟨⟨g0, g1, g2⟩, g3, g4⟩ : Lat) = 0 ∧ (0 ≤ v4_1 ∧ v4_1 < g4 ∧ (nn0 : Int) + v4_1 = g4) ∧ (0 ≤ v4_2 ∧ v4_2 < g4 ∧ (nn2 : Int) + v4_2 = g4) ∧ 0 ≤ v4_3 ∧ v4_3 ≤ g4 ∧ (0 : Int) + v4_3 = g4 + 1 ∧ v4_0 = (((List.range (v4_1 * g4 * g4 + v4_2 * g4 + v4_3).toNat).map fun k : Nat => posAt (⟨⟨g0, g1, g2⟩, g3, g4⟩ : Lat) k).map plCv)) : False := by
 omega
set_option maxHeartbeats 8000000 in
set_option maxRecDepth 100000 in
theorem spec_ref06_Positions (g0 g1 g2 g3 g4 : Int) (hp : latE (⟨⟨g0, g1, g2⟩, g3, g4⟩ : Lat) = 0) : vc_ref06_Positions (J_ref06_Positions g0 g1 g2 g3 g4) g0 g1 g2 g3 g4 (fun r => LeD r (.t (.c (.sl 3 ((allP (⟨⟨g0, g1, g2⟩, g3, g4⟩ : Lat)).length) (plsC (allP (⟨⟨g0, g1, g2⟩, g3, g4⟩ : Lat))))))) := by
 obtain ⟨_, _, q1, q2⟩ := lat_ok hp
 simp only at q1 q2
 unfold vc_ref06_Positions
 exact ⟨g4.toNat + 1, [], 0, rfl, hp, by omega, by omega, by omega, by simp⟩
theorem all_ref06_Positions (g0 g1 g2 g3 g4 : Int) (hp : latE (⟨⟨g0, g1, g2⟩, g3, g4⟩ : Lat) = 0) : AllG (J_ref06_Positions g0 g1 g2 g3 g4) (loopsFn Tryz.prog tab S75 ann_ref06_Positions (J_ref06_Positions g0 g1 g2 g3 g4) Tryz.f44 (fun r => LeD r (.t (.c (.sl 3 ((allP (⟨⟨g0, g1, g2⟩, g3, g4⟩ : Lat)).length) (plsC (allP (⟨⟨g0, g1, g2⟩, g3, g4⟩ : Lat)))))))) := by
 rw [lp_ref06_Positions]
 refine ⟨⟨?_, ?_⟩, ⟨?_, ?_⟩, ⟨?_, ?_⟩, trivial⟩
 ·intro F s h
  obtain _ | ⟨g, F⟩ := F
  case cons => exact h.elim
  obtain ⟨w0, w1, rfl, hi⟩ := h
  exact zero_ref06_Positions_0 g0 g1 g2 g3 g4 w0 w1 hi
 ·intro n F s h
  obtain _ | ⟨g, F⟩ := F
  case cons => exact h.elim
  obtain ⟨w0, w1, rfl, hi⟩ := h
  rw [er_ref06_Positions_0]
  exact rnd_ref06_Positions_0 g0 g1 g2 g3 g4 _ _ _ hp hi
 ·intro F s h
  obtain _ | ⟨f0, F⟩ := F
  ·exact h.elim
  obtain _ | ⟨g, F⟩ := F
  case cons => exact h.elim
  obtain ⟨w0, w1, w2, rfl, hi⟩ := h
  exact zero_ref06_Positions_2 g0 g1 g2 g3 g4 w0 w1 w2 _ hi
 ·intro n F s h
  obtain _ | ⟨f0, F⟩ := F
  ·exact h.elim
  obtain _ | ⟨g, F⟩ := F
  case cons => exact h.elim
  obtain ⟨w0, w1, w2, rfl, hi⟩ := h
  rw [er_ref06_Positions_2]
  exact rnd_ref06_Positions_2 g0 g1 g2 g3 g4 _ _ _ _ _ hp hi
 ·intro F s h
  obtain _ | ⟨f0, F⟩ := F
  ·exact h.elim
  obtain _ | ⟨f1, F⟩ := F
  ·exact h.elim
  obtain _ | ⟨g, F⟩ := F
  case cons => exact h.elim
  obtain ⟨w0, w1, w2, w3, rfl, hi⟩ := h
  exact zero_ref06_Positions_4 g0 g1 g2 g3 g4 w0 w1 w2 w3 _ _ hi
 ·intro n F s h
  obtain _ | ⟨f0, F⟩ := F
  ·exact h.elim
  obtain _ | ⟨f1, F⟩ := F
  ·exact h.elim
  obtain _ | ⟨g, F⟩ := F
  case cons => exact h.elim
  obtain ⟨w0, w1, w2, w3, rfl, hi⟩ := h
  rw [er_ref06_Positions_4]
  exact rnd_ref06_Positions_4 g0 g1 g2 g3 g4 _ _ _ _ _ _ _ hp hi
def con_ref06_Positions : Con := fun args => match args with
 | [.t (.a [.v (.int .i64 g0), .v (.int .i64 g1), .v (.int .i64 g2), .v (.int .i64 g3), .v (.int .i64 g4)])] => some (.t (.c (.sl 3 ((allP (⟨⟨g0, g1, g2⟩, g3, g4⟩ : Lat)).length) (plsC (allP (⟨⟨g0, g1, g2⟩, g3, g4⟩ : Lat))))), some (latE (⟨⟨g0, g1, g2⟩, g3, g4⟩ : Lat) = 0), true)
 | _ => none
theorem ok_ref06_Positions : Ok Tryz.prog 44 con_ref06_Positions := by
 refine Ok.fnFr (ann := ann_ref06_Positions) mixed tabOK VS75 ValidIt.no rfl (fn := Tryz.f44) (by kernel_rfl) (by kernel_rfl) fit_ref06_Positions fun args r pre fresh h hp => ?_
 unfold con_ref06_Positions at h
 split at h
 ·rename_i g0 g1 g2 g3 g4
  cases h
  refine ⟨rfl, (fun i j _ hj => plain_P3 _ i j), J_ref06_Positions g0 g1 g2 g3 g4, _, LeA.refl _, Nat.le_of_ble_eq_true (by kernel_rfl), ?_, ?_⟩
  ·rw [ev_ref06_Positions]; exact spec_ref06_Positions g0 g1 g2 g3 g4 hp
  ·exact all_ref06_Positions g0 g1 g2 g3 g4 hp
 ·cases h
def S76 : Sum := addS S75 44 con_ref06_Positions
theorem VS76 : Valid Tryz.prog S76 := Valid.add VS75 ok_ref06_Positions
def vc_ref06_CopyHits (l : List FHit) (post : DV → Prop) : Prop := (roomP 56 (([] : List (List CV)).length + ((List.range l.length).map fun i => fwd ((hitsC l) i) 0 7).length)) ∧ (post (.t (.c (.sl 7 ((([] : List (List CV)) ++ ((List.range l.length).map fun i => fwd ((hitsC l) i) 0 7)).length) (genC (([] : List (List CV)) ++ ((List.range l.length).map fun i => fwd ((hitsC l) i) 0 7)))))))
def ann_ref06_CopyHits : Ann := ⟨fun _ => none, fun _ => none, fun _ => [], noIt, true, fun _ => none, fun _ => none⟩
theorem ev_ref06_CopyHits (J : Inv) (l : List FHit) (post : DV → Prop) : evFn Tryz.prog tab S76 ann_ref06_CopyHits J Tryz.f32 [.t (.c (.sl 7 l.length (hitsC l)))] post = vc_ref06_CopyHits l post := by kernel_rfl
theorem fit_ref06_CopyHits : okFn ann_ref06_CopyHits Tryz.f32 = true := by kernel_rfl
theorem lp_ref06_CopyHits (J : Inv) (post : DV → Prop) : AllG J (loopsFn Tryz.prog tab S76 ann_ref06_CopyHits J Tryz.f32 post) = (True) := by kernel_rfl
theorem spec_ref06_CopyHits (l : List FHit) (hp : (l).length ≤ 1000) : vc_ref06_CopyHits l (fun r => LeD r (.t (.c (.sl 7 l.length (hitsC l))))) := by
 unfold vc_ref06_CopyHits
 rw [hits_fwd, List.nil_append]
 refine ⟨?_, le_hits l⟩
 unfold roomP maxLen
 simp
 omega
def con_ref06_CopyHits : Con := fun args => match args with
 | [.t (.c (.sl 7 n_l c_l))] => some (.t (.c (.sl 7 ((listC n_l mkHit c_l).length) (hitsC (listC n_l mkHit c_l)))), some (numsP 7 n_l c_l ∧ ((listC n_l mkHit c_l)).length ≤ 1000), true)
 | _ => none
theorem ok_ref06_CopyHits : Ok Tryz.prog 32 con_ref06_CopyHits := by
 refine Ok.fnFr (ann := ann_ref06_CopyHits) mixed tabOK VS76 ValidIt.no rfl (fn := Tryz.f32) (by kernel_rfl) (by kernel_rfl) fit_ref06_CopyHits fun args r pre fresh h hp => ?_
 unfold con_ref06_CopyHits at h
 split at h
 ·rename_i n_l c_l
  cases h
  obtain ⟨hp0, hp⟩ := hp
  refine ⟨rfl, (fun i j _ hj => plain_FHit _ i j), fun _ _ _ => False, [.t (.c (.sl 7 ((listC n_l mkHit c_l).length) (hitsC (listC n_l mkHit c_l))))], ?_, Nat.le_of_ble_eq_true (by kernel_rfl), ?_, ?_⟩
  ·exact (LeA_cons (leT_c ((leL_FHit hp0))) LeA_nil)
  ·rw [ev_ref06_CopyHits]; exact spec_ref06_CopyHits (listC n_l mkHit c_l) hp
  ·rw [lp_ref06_CopyHits]; trivial
 ·cases h
def S77 : Sum := addS S76 32 con_ref06_CopyHits
theorem VS77 : Valid Tryz.prog S77 := Valid.add VS76 ok_ref06_CopyHits
end Go.Proofs.YtdkpgodakmailaaGreatDoor
set_option linter.unusedVariables false
set_option linter.unusedSimpArgs false
namespace Go.Proofs.YtdkpgodakmailaaGreatDoor
open Go.RowKit Ev
theorem getD_mem {l : List Int} {k : Nat} (h : k < l.length) : l.getD k 0 ∈ l := by
 rw [show l.getD k 0 = l[k] by simp [List.getD, h]]; exact List.getElem_mem h
theorem mem_getD {l : List Int} {a : Int} (h : a ∈ l) : ∃ j, j < l.length ∧ l.getD j 0 = a := by
 obtain ⟨j, hj, e⟩ := List.getElem_of_mem h
 exact ⟨j, hj, by simp [List.getD, hj, e]⟩
def S78 : Sum := S77
theorem VS78 : Valid Tryz.prog S78 := VS77
def S79 : Sum := S78
theorem VS79 : Valid Tryz.prog S79 := VS78
def S80 : Sum := S79
theorem VS80 : Valid Tryz.prog S80 := VS79
def S81 : Sum := S80
theorem VS81 : Valid Tryz.prog S81 := VS80
def S82 : Sum := S81
theorem VS82 : Valid Tryz.prog S82 := VS81
def S83 : Sum := S82
theorem VS83 : Valid Tryz.prog S83 := VS82
def mk_base_Has_0 (l : List Int) (a : Int) (v0_0 : Int) : DS := ⟨[some (.t (.c (.sl 1 l.length (intsC l)))), some (.t (.c (.v (.int .i64 a)))), none, none, none, some (.t (.c (.v (.int .i64 v0_0)))), none, none, none, none, none, none, none, none, none, none, none, none], [none, none, none, none, none, none, none, none, none, none, none, none, none, none, none, none, none, none]⟩
def vc_base_Has (J : Inv) (l : List Int) (a : Int) (post : DV → Prop) : Prop := ∃ n, J 0 (n :: []) (mk_base_Has_0 l a 0)
def ann_base_Has : Ann := ⟨fun _ => none, fun b => lookA b [(0, (none, some ⟨[0, 1, 5], [], []⟩))], fun _ => [], noIt, false, fun _ => none, fun _ => none⟩
theorem ev_base_Has (J : Inv) (l : List Int) (a : Int) (post : DV → Prop) : evFn Tryz.prog tab S83 ann_base_Has J Tryz.f58 [.t (.c (.sl 1 l.length (intsC l))), .t (.c (.v (.int .i64 a)))] post = vc_base_Has J l a post := by kernel_rfl
theorem fit_base_Has : okFn ann_base_Has Tryz.f58 = true := by kernel_rfl
def rd_base_Has_0 (J : Inv) (l : List Int) (a : Int) (v0_0 : Int) (nn0 : Nat) (post : DV → Prop) : Prop := cond (decide (v0_0 < ((l.length : Nat) : Int))) ((0 ≤ v0_0 ∧ v0_0 < ((l.length : Nat) : Int)) ∧ (cond ((l.getD v0_0.toNat 0) == a) (post (.t (.c (.v (.bool true))))) (lt (IntKind.i64.wrap (v0_0 + (1 : Int))) fun x1 => J 0 (nn0 :: []) (mk_base_Has_0 l a x1)))) (post (.t (.c (.v (.bool false)))))
theorem er_base_Has_0 (J : Inv) (l : List Int) (a : Int) (v0_0 : Int) (nn0 : Nat) (post : DV → Prop) : round Tryz.prog tab S83 ann_base_Has J Tryz.f58 post 0 (nn0 :: []) (mk_base_Has_0 l a v0_0) = rd_base_Has_0 J l a v0_0 nn0 post := by kernel_rfl
theorem lp_base_Has (J : Inv) (post : DV → Prop) : AllG J (loopsFn Tryz.prog tab S83 ann_base_Has J Tryz.f58 post) = (((∀ F s, ¬ J 0 (0 :: F) s) ∧ ∀ n F s, J 0 ((n + 1) :: F) s → round Tryz.prog tab S83 ann_base_Has J Tryz.f58 post 0 (n :: F) s) ∧ True) := by kernel_rfl
def J_base_Has (l : List Int) (a : Int) : Inv := fun b F s => match b, F with
 | 0, [nn0] => ∃ (v0_0 : Int), s = mk_base_Has_0 l a v0_0 ∧ (l.length ≤ 1000000 ∧ 0 ≤ v0_0 ∧ v0_0 ≤ l.length ∧ (nn0 : Int) + v0_0 = l.length + 1 ∧ ∀ k : Nat, (k : Int) < v0_0 → l.getD k 0 ≠ a)
 | _, _ => False
theorem rnd_base_Has_0 (l : List Int) (a : Int) (v0_0 : Int) (nn0 : Nat) (hp : (l).length ≤ 1000000) (hi : l.length ≤ 1000000 ∧ 0 ≤ v0_0 ∧ v0_0 ≤ l.length ∧ ((nn0 + 1) : Int) + v0_0 = l.length + 1 ∧ ∀ k : Nat, (k : Int) < v0_0 → l.getD k 0 ≠ a) : rd_base_Has_0 (J_base_Has l a) l a v0_0 nn0 (fun r => LeD r (.t (.c (.v (.bool ((l).contains a)))))) := by
 obtain ⟨i0, i1, i2, i3, i4⟩ := hi
 obtain ⟨k, rfl⟩ : ∃ k : Nat, v0_0 = k := ⟨v0_0.toNat, by omega⟩
 have hk : (k : Int).toNat = k := rfl
 unfold rd_base_Has_0
 rw [hk]
 refine cond_i (fun h => ?_) (fun h => leB ?_)
 ·have hlt : k < l.length := by have := of_decide_eq_true h; omega
  refine ⟨by omega, cond_i (fun e => leB ?_) (fun e => lt_i fun x hx => ?_)⟩
  ·have e : l.getD k 0 = a := by simpa using e
   exact (List.contains_iff_mem.2 (e ▸ getD_mem hlt)).symm
  ·rw [wi (by omega)] at hx
   subst hx
   refine ⟨_, rfl, i0, by omega, by omega, by omega, fun j hj => ?_⟩
   by_cases q : j = k
   ·rw [q]; simpa using e
   ·exact i4 j (by omega)
 ·have hge : k = l.length := by have := of_decide_eq_false h; omega
  refine (Bool.eq_false_iff.2 fun q => ?_).symm
  obtain ⟨j, hj, e⟩ := mem_getD (List.contains_iff_mem.1 q)
  exact i4 j (by omega) e
theorem zero_base_Has_0 (l : List Int) (a : Int) (v0_0 : Int)  (hi : l.length ≤ 1000000 ∧ 0 ≤ v0_0 ∧ v0_0 ≤ l.length ∧ (0 : Int) + v0_0 = l.length + 1 ∧ ∀ k : Nat, (k : Int) < v0_0 → l.getD k 0 ≠ a) : False := by
 omega
theorem spec_base_Has (l : List Int) (a : Int) (hp : (l).length ≤ 1000000) : vc_base_Has (J_base_Has l a) l a (fun r => LeD r (.t (.c (.v (.bool ((l).contains a)))))) := by
 unfold vc_base_Has
 exact ⟨l.length + 1, 0, rfl, hp, by omega, by omega, by omega, fun j hj => by omega⟩
theorem all_base_Has (l : List Int) (a : Int) (hp : (l).length ≤ 1000000) : AllG (J_base_Has l a) (loopsFn Tryz.prog tab S83 ann_base_Has (J_base_Has l a) Tryz.f58 (fun r => LeD r (.t (.c (.v (.bool ((l).contains a))))))) := by
 rw [lp_base_Has]
 refine ⟨⟨?_, ?_⟩, trivial⟩
 ·intro F s h
  obtain _ | ⟨g, F⟩ := F
  case cons => exact h.elim
  obtain ⟨w0, rfl, hi⟩ := h
  exact zero_base_Has_0 l a w0 hi
 ·intro n F s h
  obtain _ | ⟨g, F⟩ := F
  case cons => exact h.elim
  obtain ⟨w0, rfl, hi⟩ := h
  rw [er_base_Has_0]
  exact rnd_base_Has_0 l a _ _ hp hi
def con_base_Has : Con := fun args => match args with
 | [.t (.c (.sl 1 n_l c_l)), .t (.c (.v (.int .i64 a)))] => some (.t (.c (.v (.bool (((listC n_l mkInt c_l)).contains a)))), some (numsP 1 n_l c_l ∧ ((listC n_l mkInt c_l)).length ≤ 1000000), false)
 | _ => none
theorem ok_base_Has : Ok Tryz.prog 58 con_base_Has := by
 refine Ok.fn (ann := ann_base_Has) mixed tabOK VS83 ValidIt.no (fn := Tryz.f58) (by kernel_rfl) (by kernel_rfl) fit_base_Has fun args r pre fresh h hp => ?_
 unfold con_base_Has at h
 split at h
 ·rename_i n_l c_l a
  cases h
  obtain ⟨hp0, hp⟩ := hp
  refine ⟨rfl, J_base_Has (listC n_l mkInt c_l) a, [.t (.c (.sl 1 ((listC n_l mkInt c_l).length) (intsC (listC n_l mkInt c_l)))), .t (.c (.v (.int .i64 a)))], ?_, Nat.le_of_ble_eq_true (by kernel_rfl), ?_, ?_⟩
  ·exact (LeA_cons (leT_c ((leL_int hp0))) (LeA_cons (LeD.refl _) LeA_nil))
  ·rw [ev_base_Has]; exact spec_base_Has (listC n_l mkInt c_l) a hp
  ·exact all_base_Has (listC n_l mkInt c_l) a hp
 ·cases h
def S84 : Sum := addS S83 58 con_base_Has
theorem VS84 : Valid Tryz.prog S84 := Valid.add VS83 ok_base_Has
end Go.Proofs.YtdkpgodakmailaaGreatDoor
set_option linter.unusedVariables false
set_option linter.unusedSimpArgs false
namespace Go.Proofs.YtdkpgodakmailaaGreatDoor
open Go.RowKit Ev
def S85 : Sum := S84
theorem VS85 : Valid Tryz.prog S85 := VS84
end Go.Proofs.YtdkpgodakmailaaGreatDoor
set_option linter.unusedVariables false
set_option linter.unusedSimpArgs false
namespace Go.Proofs.YtdkpgodakmailaaGreatDoor
open Go.RowKit Ev
end Go.Proofs.YtdkpgodakmailaaGreatDoor
set_option linter.unusedVariables false
set_option linter.unusedSimpArgs false
namespace Go.Proofs.YtdkpgodakmailaaGreatDoor
open Go.RowKit Ev
end Go.Proofs.YtdkpgodakmailaaGreatDoor
set_option linter.unusedVariables false
set_option linter.unusedSimpArgs false
namespace Go.Proofs.YtdkpgodakmailaaGreatDoor
open Go.RowKit Ev
noncomputable def hd {α : Type} (x : α) : α := Classical.choose (⟨x, rfl⟩ : ∃ y, y = x)
theorem hd_eq {α : Type} (x : α) : hd x = x := Classical.choose_spec (⟨x, rfl⟩ : ∃ y, y = x)
def mdF (a c : Int) : Int := if Int.tmod a c < 0 then IntKind.i64.wrap (Int.tmod a c + c) else Int.tmod a c
def S86 : Sum := S85
theorem VS86 : Valid Tryz.prog S86 := VS85
def S87 : Sum := S86
theorem VS87 : Valid Tryz.prog S87 := VS86
def S88 : Sum := S87
theorem VS88 : Valid Tryz.prog S88 := VS87
def vc_base_Mod (a : Int) (c : Int) (post : DV → Prop) : Prop := lt (Int.tmod a c) fun x1 => (IntKind.i64 = IntKind.i64 ∧ c ≠ 0) ∧ (cond (decide (x1 < (0 : Int))) (lt (IntKind.i64.wrap (x1 + c)) fun x2 => post (.t (.c (.v (.int .i64 x2))))) (post (.t (.c (.v (.int .i64 x1))))))
def ann_base_Mod : Ann := ⟨fun _ => none, fun _ => none, fun _ => [], noIt, false, fun _ => none, fun _ => none⟩
theorem ev_base_Mod (J : Inv) (a : Int) (c : Int) (post : DV → Prop) : evFn Tryz.prog tab S88 ann_base_Mod J Tryz.f45 [.t (.c (.v (.int .i64 a))), .t (.c (.v (.int .i64 c)))] post = vc_base_Mod a c post := by kernel_rfl
theorem fit_base_Mod : okFn ann_base_Mod Tryz.f45 = true := by kernel_rfl
theorem lp_base_Mod (J : Inv) (post : DV → Prop) : AllG J (loopsFn Tryz.prog tab S88 ann_base_Mod J Tryz.f45 post) = (True) := by kernel_rfl
theorem spec_base_Mod (a : Int) (c : Int) (hp : c ≠ 0) : vc_base_Mod a c (fun r => LeD r (.t (.c (.v (.int .i64 (mdF a c)))))) := by
 unfold vc_base_Mod mdF
 refine lt_i fun x1 h1 => ⟨⟨rfl, hp⟩, ?_⟩
 rw [h1]
 refine cond_i (fun h => lt_i fun x2 h2 => leI ?_) (fun h => leI ?_)
 ·rw [if_pos (of_decide_eq_true h)]; exact h2.symm
 ·rw [if_neg (of_decide_eq_false h)]
def con_base_Mod : Con := fun args => match args with
 | [.t (.c (.v (.int .i64 a))), .t (.c (.v (.int .i64 c)))] => some (.t (.c (.v (.int .i64 (mdF a c)))), some (c ≠ 0), false)
 | _ => none
theorem ok_base_Mod : Ok Tryz.prog 45 con_base_Mod := by
 refine Ok.fn (ann := ann_base_Mod) mixed tabOK VS88 ValidIt.no (fn := Tryz.f45) (by kernel_rfl) (by kernel_rfl) fit_base_Mod fun args r pre fresh h hp => ?_
 unfold con_base_Mod at h
 split at h
 ·rename_i a c
  cases h
  refine ⟨rfl, fun _ _ _ => False, _, LeA.refl _, Nat.le_of_ble_eq_true (by kernel_rfl), ?_, ?_⟩
  ·rw [ev_base_Mod]; exact spec_base_Mod a c hp
  ·rw [lp_base_Mod]; trivial
 ·cases h
def S89 : Sum := addS S88 45 con_base_Mod
theorem VS89 : Valid Tryz.prog S89 := Valid.add VS88 ok_base_Mod
def S90 : Sum := S89
theorem VS90 : Valid Tryz.prog S90 := VS89
noncomputable def S91 : Sum := S90
theorem VS91 : Valid Tryz.prog S91 := VS90
noncomputable def conh_flash_PartOf : Con := fun args => match args with
 | [.t (.c (.sl 2 n_m c_m)), .t (.a [.v (.int .i64 f), .sl 1 n_v c_v])] => some (.tu [.a [.v (.int .i64 (hd (prtN (muOf n_m c_m) f (listC n_v mkInt c_v)))), .v (.int .i64 (hd (prtD (muOf n_m c_m) f (listC n_v mkInt c_v))))], .c (.v (.int .i64 (hd (vvE (muOf n_m c_m) f (listC n_v mkInt c_v)))))], some (muP n_m c_m ∧ numsP 1 n_v c_v ∧ muSm (muOf n_m c_m) ∧ ((listC n_v mkInt c_v)).length ≤ 1000000), false)
 | _ => none
theorem okh_flash_PartOf : Ok Tryz.prog 18 conh_flash_PartOf := by
 refine Ok.over ok_flash_PartOf fun args r' pre' fresh h hp => ?_
 unfold conh_flash_PartOf at h
 split at h
 ·cases h
  exact ⟨_, _, rfl, hp, by simp only [hd_eq]⟩
 ·cases h
noncomputable def S92 : Sum := addS S91 18 conh_flash_PartOf
theorem VS92 : Valid Tryz.prog S92 := Valid.add VS91 okh_flash_PartOf
noncomputable def S93 : Sum := S92
theorem VS93 : Valid Tryz.prog S93 := VS92
noncomputable def S94 : Sum := S93
theorem VS94 : Valid Tryz.prog S94 := VS93
noncomputable def S95 : Sum := S94
theorem VS95 : Valid Tryz.prog S95 := VS94
end Go.Proofs.YtdkpgodakmailaaGreatDoor
set_option linter.unusedVariables false
set_option linter.unusedSimpArgs false
namespace Go.Proofs.YtdkpgodakmailaaGreatDoor
open Go.RowKit Ev
def knE (i : Int) (a c : Knot) : Int := firstNZ [unl (inB c.d 0 100000 && inB c.y 0 10000) 2, unl (decide (i = 0) || (decide (c.d > a.d) && decide (c.y ≤ a.y))) 9]
def ktE (t : List Knot) (k : Nat) : Int := knE (k : Int) (knAt t (k - 1)) (knAt t k)
def tabE (t : List Knot) : Int := if cntE t.length 8 = 0 then scan (ktE t) t.length else cntE t.length 8
def tabI (t : List Knot) : Int := if cntE t.length 8 = 0 then scanI (ktE t) t.length else 0
def yldF (x : Int) : List Knot → Int
 | [] => 0
 | c :: l => if c.d ≥ x then c.y else yldF x l
def fstP (x : Int) (c : Knot) : Bool := decide (c.d ≥ x)
theorem idxP_rg {α : Type} (p : α → Bool) (l : List α) : -1 ≤ idxP p l ∧ idxP p l < l.length := by
 unfold idxP
 split <;> omega
theorem yldF_idx (x : Int) : ∀ t : List Knot, (idxP (fstP x) t < 0 → yldF x t = 0) ∧ (0 ≤ idxP (fstP x) t → yldF x t = (knAt t (idxP (fstP x) t).toNat).y)
 | [] => ⟨fun _ => rfl, fun h => by simp [idxP] at h⟩
 | c :: l => by
  obtain ⟨h1, h2⟩ := yldF_idx x l
  unfold yldF
  by_cases hc : c.d ≥ x
  ·have e : idxP (fstP x) (c :: l) = 0 := by unfold idxP; simp [List.findIdx_cons, fstP, hc]
   rw [e, if_pos hc]
   exact ⟨fun h => by omega, fun _ => rfl⟩
  ·rw [if_neg hc]
   have e : List.findIdx (fstP x) (c :: l) = List.findIdx (fstP x) l + 1 := by simp [List.findIdx_cons, fstP, hc]
   unfold idxP at *
   rw [e]
   by_cases hl : List.findIdx (fstP x) l < l.length
   ·rw [if_pos hl] at h1 h2
    rw [if_pos (by rw [List.length_cons]; omega)]
    refine ⟨fun h => by omega, fun _ => ?_⟩
    rw [h2 (by omega)]
    rw [show ((List.findIdx (fstP x) l + 1 : Nat) : Int).toNat = ((List.findIdx (fstP x) l : Nat) : Int).toNat + 1 by omega]
    simp [knAt]
   ·rw [if_neg hl] at h1 h2
    rw [if_neg (by rw [List.length_cons]; omega)]
    exact ⟨fun _ => h1 (by omega), fun h => by omega⟩
theorem tab_ok {t : List Knot} (h : tabE t = 0) : (0 < t.length ∧ t.length ≤ 8) ∧ ∀ i, i < t.length → ktE t i = 0 := by
 unfold tabE at h
 by_cases hc : cntE t.length 8 = 0
 ·rw [if_pos hc] at h
  obtain ⟨h1, h2⟩ := fn2'.1 hc
  rw [unl_0 (by decide)] at h1 h2
  have h1 := of_decide_eq_true h1
  have h2 := of_decide_eq_true h2
  exact ⟨by omega, scan_zero h⟩
 ·rw [if_neg hc] at h; exact (hc h).elim
theorem kn_rg {t : List Knot} (h : tabE t = 0) {i : Nat} (hi : i < t.length) : (0 ≤ (knAt t i).d ∧ (knAt t i).d ≤ 100000) ∧ 0 ≤ (knAt t i).y ∧ (knAt t i).y ≤ 10000 := by
 have h1 := (tab_ok h).2 i hi
 unfold ktE knE at h1
 obtain ⟨h1, _⟩ := fn2'.1 h1
 rw [unl_0 (by decide), Bool.and_eq_true, inB_true, inB_true] at h1
 exact h1
theorem yld_rg {t : List Knot} (h : tabE t = 0) (x : Int) : 0 ≤ yldF x t ∧ yldF x t ≤ 10000 := by
 obtain ⟨h1, h2⟩ := yldF_idx x t
 obtain ⟨h3, h4⟩ := idxP_rg (fstP x) t
 rcases Int.lt_or_le (idxP (fstP x) t) 0 with q | q
 ·rw [h1 q]; omega
 ·rw [h2 q]
  exact (kn_rg h (by omega)).2
def lgtR (t : List Knot) (x e : Int) : Rg := ⟨e * yldF x t / 1000, (e * yldF x t + 999) / 1000⟩
def lgtE (t : List Knot) (x e : Int) : Int := firstNZ [tabE t, unl (inB x 0 100000 && inB e 0 100000) 2]
def lgtV (t : List Knot) (x e : Int) : Rg := if lgtE t x e = 0 then lgtR t x e else ⟨0, 0⟩
def fitG (c : Rg) (y : Int) : Rg := if y = 0 then ⟨if c.lo > 0 then 100001 else 0, 100000⟩ else ⟨if c.lo > 0 then (c.lo - 1) * 1000 / y + 1 else 0, min 100000 (((c.hi + 1) * 1000 - 1) / y)⟩
def fitH (t : List Knot) (p : P3) (h : FHit) : Rg := fitG h.c (yldF (rt (sqD p h.p)) t)
def engE0 (t : List Knot) (l : List FHit) (p : P3) : Int := firstNZ [tabE t, hitsE l, posE p]
def engR (t : List Knot) (l : List FHit) (p : P3) : Rg := comm (l.map (fitH t p))
def engE (t : List Knot) (l : List FHit) (p : P3) : Int := if engE0 t l p = 0 then unl (decide ((engR t l p).lo ≤ (engR t l p).hi)) 12 else engE0 t l p
def engV (t : List Knot) (l : List FHit) (p : P3) : Rg := if engE t l p = 0 then engR t l p else ⟨0, 0⟩
end Go.Proofs.YtdkpgodakmailaaGreatDoor