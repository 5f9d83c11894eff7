/- Texts of this claim, together. -/
import Derived.Test.YtdkpgodakmailaaGreatDoorHS9
import Derived.Test.YtdkpgodakmailaaGreatDoorHS5
import Derived.ProofKit
import Derived.OpenShut
import Derived.ShutString
import Derived.ChangeOld
import Derived.Below
import Derived.Lib.SmallJoins
import Derived.Shelf.Strings.Builder1
import Derived.Shelf.Strings.Builder2
import Derived.Shelf.Strings.OnBuilder
import Derived.Shelf.Strconv.Atoi
import Derived.Shelf.Strconv.Itoa0
import Derived.Shelf.Strconv.Itoa1
import Derived.Shelf.LaysM
import Derived.Shelf.Strconv.Itoa2
import Derived.Shelf.Strconv.Itoa3
import Derived.Shelf.Strconv.AtoiErrFast
import Derived.Shelf.Strconv.ParseIntEmpty
import Derived.Shelf.Strconv.AtoiFail
import Derived.Shelf.Strconv.Clone
import Derived.Shelf.Strconv.SyntaxError
import Derived.Shelf.LaysC
import Derived.Shelf.Strconv.ToError
import Derived.Shelf.Strconv.Lower
import Derived.Shelf.Strconv.ParseUint10
import Derived.Shelf.Strconv.ParseUint10Empty
import Derived.Shelf.Strconv.ParseUint10Any
import Derived.Shelf.Strconv.ParseInt10
import Derived.Shelf.Strconv.AtoiLong
import Derived.Shelf.Strconv.AtoiInnerAll
import Derived.Shelf.Strconv.RangeError
import Derived.Shelf.Strconv.ToErrorRange
import Derived.Shelf.Strconv.AtoiAll
import Derived.Shelf.Strings.Search1
import Derived.Shelf.Strings.Search2
import Derived.Shelf.Strings.Search3
import Derived.Shelf.Strings.Count
import Derived.Shelf.Strings.Shaped
import Derived.Shelf.Strings.Prefix
import Derived.Shelf.Strings.Split
import Derived.Shelf.Strings.SplitShaped
import Derived.Shelf.Unicode.DecodeSlow
import Derived.Ground.Names2Prog
import Derived.Shelf.Slices.SearchI
import Derived.Test.YtdkpgodakmailaaGreatDoorProg
import Derived.Lib.AtoiAllCases
import Derived.Lib.AtoiTie
import Derived.Lib.ItoaNum
import Derived.Lib.Split
import Derived.Lib.Join
import Derived.Laws.StructEq
import Derived.RangeFuncLeaves
import Derived.OwnWalkIn
import Derived.TacticsInMore
import Derived.LoopNIn
import Derived.LoopIn

set_option linter.unusedVariables false
set_option linter.unusedSimpArgs false
namespace Go.Proofs.YtdkpgodakmailaaGreatDoor
open Go.RowKit Ev
theorem ints_fwd (l : List Int) : ((List.range l.length).map fun i => fwd ((intsC l) i) 0 1) = l.map fun n => [CV.v (.int .i64 n)] := by
 apply List.ext_getElem?
 intro i
 by_cases hi : i < l.length
 ·simp only [List.getElem?_map, List.getElem?_range hi, Option.map_some, List.getElem?_eq_getElem hi]
  simp [fwd, intsC, List.getD, hi]
 ·rw [List.getElem?_eq_none (by simpa using hi), List.getElem?_eq_none (by simpa using hi)]
theorem le_ints (l : List Int) : LeD (.t (.c (.sl 1 (l.map fun n => [CV.v (.int .i64 n)]).length (genC (l.map fun n => [CV.v (.int .i64 n)]))))) (.t (.c (.sl 1 l.length (intsC l)))) := by
 rw [List.length_map]
 refine leSl fun i j hi hj => ?_
 unfold genC intsC
 rw [show j = 0 by omega]
 simp [List.getD, hi]
def vc_base_CopyInts (l : List Int) (post : DV → Prop) : Prop := (roomP 8 (([] : List (List CV)).length + ((List.range l.length).map fun i => fwd ((intsC l) i) 0 1).length)) ∧ (post (.t (.c (.sl 1 ((([] : List (List CV)) ++ ((List.range l.length).map fun i => fwd ((intsC l) i) 0 1)).length) (genC (([] : List (List CV)) ++ ((List.range l.length).map fun i => fwd ((intsC l) i) 0 1)))))))
def ann_base_CopyInts : Ann := ⟨fun _ => none, fun _ => none, fun _ => [], noIt, true, fun _ => none, fun _ => none⟩
theorem ev_base_CopyInts (J : Inv) (l : List Int) (post : DV → Prop) : evFn Tryz.prog tab S77 ann_base_CopyInts J Tryz.f16 [.t (.c (.sl 1 l.length (intsC l)))] post = vc_base_CopyInts l post := by kernel_rfl
theorem fit_base_CopyInts : okFn ann_base_CopyInts Tryz.f16 = true := by kernel_rfl
theorem lp_base_CopyInts (J : Inv) (post : DV → Prop) : AllG J (loopsFn Tryz.prog tab S77 ann_base_CopyInts J Tryz.f16 post) = (True) := by kernel_rfl
theorem spec_base_CopyInts (l : List Int) (hp : (l).length ≤ 1000000) : vc_base_CopyInts l (fun r => LeD r (.t (.c (.sl 1 l.length (intsC l))))) := by
 unfold vc_base_CopyInts
 rw [ints_fwd, List.nil_append]
 refine ⟨?_, le_ints l⟩
 unfold roomP maxLen
 simp
 omega
def con_base_CopyInts : Con := fun args => match args with
 | [.t (.c (.sl 1 n_l c_l))] => some (.t (.c (.sl 1 ((listC n_l mkInt c_l).length) (intsC (listC n_l mkInt c_l)))), some (numsP 1 n_l c_l ∧ ((listC n_l mkInt c_l)).length ≤ 1000000), true)
 | _ => none
theorem ok_base_CopyInts : Ok Tryz.prog 16 con_base_CopyInts := by
 refine Ok.fnFr (ann := ann_base_CopyInts) mixed tabOK VS77 ValidIt.no rfl (fn := Tryz.f16) (by kernel_rfl) (by kernel_rfl) fit_base_CopyInts fun args r pre fresh h hp => ?_
 unfold con_base_CopyInts at h
 split at h
 ·rename_i n_l c_l
  cases h
  obtain ⟨hp0, hp⟩ := hp
  refine ⟨rfl, (fun i j _ hj => plain_int _ i j), fun _ _ _ => False, [.t (.c (.sl 1 ((listC n_l mkInt c_l).length) (intsC (listC n_l mkInt c_l))))], ?_, Nat.le_of_ble_eq_true (by kernel_rfl), ?_, ?_⟩
  ·exact (LeA_cons (leT_c ((leL_int hp0))) LeA_nil)
  ·rw [ev_base_CopyInts]; exact spec_base_CopyInts (listC n_l mkInt c_l) hp
  ·rw [lp_base_CopyInts]; trivial
 ·cases h
def S78 : Sum := addS S77 16 con_base_CopyInts
theorem VS78 : Valid Tryz.prog S78 := Valid.add VS77 ok_base_CopyInts
def S79 : Sum := S78
theorem VS79 : Valid Tryz.prog S79 := VS78
def vc_ref06_CopyVeto (f : Int) (v : List Int) (post : DV → Prop) : Prop := (numsP 1 v.length (intsC v) ∧ ((listC v.length mkInt (intsC v))).length ≤ 1000000) ∧ (post (.t (.a [.v (.int .i64 f), .sl 1 ((listC v.length mkInt (intsC v)).length) (intsC (listC v.length mkInt (intsC v)))])))
def ann_ref06_CopyVeto : Ann := ⟨fun r => lookA r [(1, ([[], [0], [], [2], [2, 3], [0, 1, 2, 3, 4], [0, 1, 2, 3, 4, 5]], [[7], [7], [7], [7], [], [], []]))], fun _ => none, fun _ => [], noIt, false, fun _ => none, fun _ => none⟩
theorem ev_ref06_CopyVeto (J : Inv) (f : Int) (v : List Int) (post : DV → Prop) : evFn Tryz.prog tab S79 ann_ref06_CopyVeto J Tryz.f12 [.t (.a [.v (.int .i64 f), .sl 1 v.length (intsC v)])] post = vc_ref06_CopyVeto f v post := by kernel_rfl
theorem fit_ref06_CopyVeto : okFn ann_ref06_CopyVeto Tryz.f12 = true := by kernel_rfl
theorem lp_ref06_CopyVeto (J : Inv) (post : DV → Prop) : AllG J (loopsFn Tryz.prog tab S79 ann_ref06_CopyVeto J Tryz.f12 post) = (True) := by kernel_rfl
theorem spec_ref06_CopyVeto (f : Int) (v : List Int) (hp : (v).length ≤ 1000000) : vc_ref06_CopyVeto f v (fun r => LeD r (.t (.a [.v (.int .i64 f), .sl 1 v.length (intsC v)]))) := by
 unfold vc_ref06_CopyVeto
 rw [ints_listC]
 exact ⟨⟨numsP_ints v, hp⟩, LeD.refl _⟩
def con_ref06_CopyVeto : Con := fun args => match args with
 | [.t (.a [.v (.int .i64 f), .sl 1 n_v c_v])] => some (.t (.a [.v (.int .i64 f), .sl 1 ((listC n_v mkInt c_v).length) (intsC (listC n_v mkInt c_v))]), some (numsP 1 n_v c_v ∧ ((listC n_v mkInt c_v)).length ≤ 1000000), false)
 | _ => none
theorem ok_ref06_CopyVeto : Ok Tryz.prog 12 con_ref06_CopyVeto := by
 refine Ok.fn (ann := ann_ref06_CopyVeto) mixed tabOK VS79 ValidIt.no (fn := Tryz.f12) (by kernel_rfl) (by kernel_rfl) fit_ref06_CopyVeto fun args r pre fresh h hp => ?_
 unfold con_ref06_CopyVeto at h
 split at h
 ·rename_i f n_v c_v
  cases h
  obtain ⟨hp0, hp⟩ := hp
  refine ⟨rfl, fun _ _ _ => False, [.t (.a [.v (.int .i64 f), .sl 1 ((listC n_v mkInt c_v).length) (intsC (listC n_v mkInt c_v))])], ?_, Nat.le_of_ble_eq_true (by kernel_rfl), ?_, ?_⟩
  ·exact (LeA_cons (leT_a (LeCs.cons (LeC1.refl _) (LeCs.cons ((leL_int hp0)) LeCs.nil))) LeA_nil)
  ·rw [ev_ref06_CopyVeto]; exact spec_ref06_CopyVeto f (listC n_v mkInt c_v) hp
  ·rw [lp_ref06_CopyVeto]; trivial
 ·cases h
def S80 : Sum := addS S79 12 con_ref06_CopyVeto
theorem VS80 : Valid Tryz.prog S80 := Valid.add VS79 ok_ref06_CopyVeto
def S81 : Sum := S80
theorem VS81 : Valid Tryz.prog S81 := VS80
def S82 : Sum := S81
theorem VS82 : Valid Tryz.prog S82 := VS81
def mk_ref06_VetoErr_0 (f : Int) (v : List Int) (v0_0 : Int) : DS := ⟨[none, some (.t (.c (.p 1 0))), none, some (.t (.c (.v (.int .i64 v0_0)))), none, none, none, none, none, none, none, none, none, none, none, none, none, none, none, none, none, none, none, none, none, none, none, none, none, none, none, none, none, none, none, none, none, none, none, none, none, none], [none, some (.box 25 [.v (.int .i64 f), .sl 1 v.length (intsC v)]), none, none, none, none, none, none, none, none, none, none, none, none, none, none, none, none, none, none, none, none, none, none, none, none, none, none, none, none, none, none, none, none, none, none, none, none, none, none, none, none]⟩
def vc_ref06_VetoErr (J : Inv) (f : Int) (v : List Int) (post : DV → Prop) : Prop := cond (!(inB f (0 : Int) (8 : Int))) (post (.t (.c (.v (.int .i64 2))))) (cond (decide (((v.length : Nat) : Int) > (8 : Int))) (post (.t (.c (.v (.int .i64 8))))) (∃ n, J 0 (n :: []) (mk_ref06_VetoErr_0 f v 0)))
def ann_ref06_VetoErr : Ann := ⟨fun r => lookA r [(10, ([[], [0], [0, 1], [0, 1, 2], [0, 1, 2, 3], [0, 1, 2], [0, 1, 2, 3, 4, 5], [0, 1, 2, 3, 4, 5, 6], [0, 1, 2], [0, 1, 2, 8], [0, 1, 2], [0, 1, 2, 10], [0, 1, 2, 8, 9, 10, 11], [0, 1, 2, 8, 9, 10, 11, 12], [0, 1, 2, 3, 4, 5, 6, 7, 8, 9, 10, 11, 12, 13], [0, 1, 2, 3, 4, 5, 6, 7, 8, 9, 10, 11, 12, 13, 14]], [[], [], [], [], [], [], [], [], [], [], [], [], [], [], [], []]))], fun b => lookA b [(0, (none, some ⟨[1, 3], [1], []⟩))], fun _ => [], noIt, false, fun _ => none, fun _ => none⟩
theorem ev_ref06_VetoErr (J : Inv) (f : Int) (v : List Int) (post : DV → Prop) : evFn Tryz.prog tab S82 ann_ref06_VetoErr J Tryz.f8 [.t (.a [.v (.int .i64 f), .sl 1 v.length (intsC v)])] post = vc_ref06_VetoErr J f v post := by kernel_rfl
theorem fit_ref06_VetoErr : okFn ann_ref06_VetoErr Tryz.f8 = true := by kernel_rfl
def rd_ref06_VetoErr_0 (J : Inv) (f : Int) (v : List Int) (v0_0 : Int) (nn0 : Nat) (post : DV → Prop) : Prop := cond (decide (v0_0 < ((v.length : Nat) : Int))) ((0 ≤ v0_0 ∧ v0_0 < ((v.length : Nat) : Int)) ∧ (cond (!(inB (v.getD v0_0.toNat 0) (0 : Int) (7 : Int))) (post (.t (.c (.v (.int .i64 6))))) (cond (decide (v0_0 > (0 : Int))) ((0 ≤ v0_0 ∧ v0_0 < ((v.length : Nat) : Int)) ∧ (lt (IntKind.i64.wrap (v0_0 - (1 : Int))) fun x1 => (0 ≤ x1 ∧ x1 < ((v.length : Nat) : Int)) ∧ (cond (decide ((v.getD v0_0.toNat 0) ≤ (v.getD x1.toNat 0))) (post (.t (.c (.v (.int .i64 9))))) (lt (IntKind.i64.wrap (v0_0 + (1 : Int))) fun x2 => J 0 (nn0 :: []) (mk_ref06_VetoErr_0 f v x2))))) ((false = false) ∧ (lt (IntKind.i64.wrap (v0_0 + (1 : Int))) fun x3 => J 0 (nn0 :: []) (mk_ref06_VetoErr_0 f v x3)))))) (post (.t (.c (.v (.int .i64 0)))))
theorem er_ref06_VetoErr_0 (J : Inv) (f : Int) (v : List Int) (v0_0 : Int) (nn0 : Nat) (post : DV → Prop) : round Tryz.prog tab S82 ann_ref06_VetoErr J Tryz.f8 post 0 (nn0 :: []) (mk_ref06_VetoErr_0 f v v0_0) = rd_ref06_VetoErr_0 J f v v0_0 nn0 post := by kernel_rfl
theorem lp_ref06_VetoErr (J : Inv) (post : DV → Prop) : AllG J (loopsFn Tryz.prog tab S82 ann_ref06_VetoErr J Tryz.f8 post) = (((∀ F s, ¬ J 0 (0 :: F) s) ∧ ∀ n F s, J 0 ((n + 1) :: F) s → round Tryz.prog tab S82 ann_ref06_VetoErr J Tryz.f8 post 0 (n :: F) s) ∧ True) := by kernel_rfl
def J_ref06_VetoErr (f : Int) (v : List Int) : Inv := fun b F s => match b, F with
 | 0, [nn0] => ∃ (v0_0 : Int), s = mk_ref06_VetoErr_0 f v v0_0 ∧ ((inB f 0 8 = true ∧ v.length ≤ 8) ∧ 0 ≤ v0_0 ∧ v0_0 ≤ v.length ∧ (nn0 : Int) + v0_0 = v.length + 1 ∧ ∀ j : Nat, (j : Int) < v0_0 → senE v j = 0)
 | _, _ => False
theorem rnd_ref06_VetoErr_0 (f : Int) (v : List Int) (v0_0 : Int) (nn0 : Nat) (hi : (inB f 0 8 = true ∧ v.length ≤ 8) ∧ 0 ≤ v0_0 ∧ v0_0 ≤ v.length ∧ ((nn0 + 1) : Int) + v0_0 = v.length + 1 ∧ ∀ j : Nat, (j : Int) < v0_0 → senE v j = 0) : rd_ref06_VetoErr_0 (J_ref06_VetoErr f v) f v v0_0 nn0 (fun r => LeD r (.t (.c (.v (.int .i64 (vetE f v)))))) := by
 obtain ⟨⟨i0, i00⟩, i1, i2, i3, i4⟩ := hi
 obtain ⟨k, rfl⟩ : ∃ k : Nat, v0_0 = k := ⟨v0_0.toNat, by omega⟩
 have hk : (k : Int).toNat = k := rfl
 have hz : ∀ j, j < k → senE v j = 0 := fun j hj => i4 j (by omega)
 have eV : vetE f v = scan (senE v) v.length := by
  unfold vetE; rw [i0, decide_eq_true (by omega)]
  unfold unl firstNZ firstNZ firstNZ firstNZ
  simp
  intro h; rw [h]
 unfold rd_ref06_VetoErr_0
 rw [hk]
 refine cond_i (fun h => ?_) (fun h => leI ?_)
 ·have hlt : k < v.length := by have := of_decide_eq_true h; omega
  have eS : senE v k = firstNZ [unl (senB (v.getD k 0)) 6, unl (decide ((k : Int) = 0) || decide (v.getD k 0 > v.getD (k - 1) 0)) 9] := rfl
  have bad : ∀ e, e ≠ 0 → senE v k = e → LeD (.t (.c (.v (.int .i64 e)))) (.t (.c (.v (.int .i64 (vetE f v))))) := fun e he q => by
   subst q
   rw [eV, scan_at (f := senE v) hz hlt he]
   exact LeD.refl _
  have good : senE v k = 0 → ∀ x, IntKind.i64.wrap ((k : Int) + 1) = x → J_ref06_VetoErr f v 0 [nn0] (mk_ref06_VetoErr_0 f v x) := fun q x hx => by
   rw [wi (by omega)] at hx
   subst hx
   refine ⟨_, rfl, ⟨i0, i00⟩, by omega, by omega, by omega, fun j hj => ?_⟩
   by_cases c : j = k
   ·rw [c]; exact q
   ·exact i4 j (by omega)
  refine ⟨by omega, cond_i (fun a => bad 6 (by decide) ?_) (fun a => cond_i (fun c => ⟨by omega, lt_i fun x1 h1 => ?_⟩) (fun c => ⟨rfl, lt_i fun x hx => good ?_ x hx⟩))⟩
  ·have a : senB (v.getD k 0) = false := by simpa [senB] using a
   rw [eS, a]; rfl
  ·have a : senB (v.getD k 0) = true := by simpa [senB] using a
   have c := of_decide_eq_true c
   rw [wi (by omega)] at h1
   subst h1
   rw [show ((k : Int) - 1).toNat = k - 1 by omega]
   rw [a, decide_eq_false (show ¬ (k : Int) = 0 by omega), Bool.false_or] at eS
   refine ⟨by omega, cond_i (fun d => bad 9 (by decide) ?_) (fun d => lt_i fun x hx => good ?_ x hx)⟩
   ·have d := of_decide_eq_true d
    rw [eS, decide_eq_false (by omega)]; rfl
   ·have d := of_decide_eq_false d
    rw [eS, decide_eq_true (by omega)]; rfl
  ·have a : senB (v.getD k 0) = true := by simpa [senB] using a
   have c := of_decide_eq_false c
   rw [eS, a, decide_eq_true (show (k : Int) = 0 by omega)]; rfl
 ·have hge : k = v.length := by have := of_decide_eq_false h; omega
  subst hge
  rw [eV, scan_end (f := senE v) hz]
theorem zero_ref06_VetoErr_0 (f : Int) (v : List Int) (v0_0 : Int)  (hi : (inB f 0 8 = true ∧ v.length ≤ 8) ∧ 0 ≤ v0_0 ∧ v0_0 ≤ v.length ∧ (0 : Int) + v0_0 = v.length + 1 ∧ ∀ j : Nat, (j : Int) < v0_0 → senE v j = 0) : False := by
 omega
theorem spec_ref06_VetoErr (f : Int) (v : List Int) : vc_ref06_VetoErr (J_ref06_VetoErr f v) f v (fun r => LeD r (.t (.c (.v (.int .i64 (vetE f v)))))) := by
 unfold vc_ref06_VetoErr
 unfold vetE
 refine cond_i (fun h => leI ?_) (fun h => cond_i (fun h2 => leI ?_) (fun h2 => ?_))
 ·have h : inB f 0 8 = false := by simpa using h
  rw [h]; rfl
 ·have h : inB f 0 8 = true := by simpa using h
  have h2 := of_decide_eq_true h2
  rw [h, decide_eq_false (by omega)]; rfl
 ·have h : inB f 0 8 = true := by simpa using h
  have h2 := of_decide_eq_false h2
  exact ⟨v.length + 1, 0, rfl, ⟨h, by omega⟩, by omega, by omega, by omega, fun j hj => by omega⟩
theorem all_ref06_VetoErr (f : Int) (v : List Int) : AllG (J_ref06_VetoErr f v) (loopsFn Tryz.prog tab S82 ann_ref06_VetoErr (J_ref06_VetoErr f v) Tryz.f8 (fun r => LeD r (.t (.c (.v (.int .i64 (vetE f v))))))) := by
 rw [lp_ref06_VetoErr]
 refine ⟨⟨?_, ?_⟩, trivial⟩
 ·intro F s h
  obtain _ | ⟨g, F⟩ := F
  case cons => exact h.elim
  obtain ⟨w0, rfl, hi⟩ := h
  exact zero_ref06_VetoErr_0 f v w0 hi
 ·intro n F s h
  obtain _ | ⟨g, F⟩ := F
  case cons => exact h.elim
  obtain ⟨w0, rfl, hi⟩ := h
  rw [er_ref06_VetoErr_0]
  exact rnd_ref06_VetoErr_0 f v _ _ hi
def con_ref06_VetoErr : Con := fun args => match args with
 | [.t (.a [.v (.int .i64 f), .sl 1 n_v c_v])] => some (.t (.c (.v (.int .i64 (vetE f (listC n_v mkInt c_v))))), some (numsP 1 n_v c_v), false)
 | _ => none
theorem ok_ref06_VetoErr : Ok Tryz.prog 8 con_ref06_VetoErr := by
 refine Ok.fn (ann := ann_ref06_VetoErr) mixed tabOK VS82 ValidIt.no (fn := Tryz.f8) (by kernel_rfl) (by kernel_rfl) fit_ref06_VetoErr fun args r pre fresh h hp => ?_
 unfold con_ref06_VetoErr at h
 split at h
 ·rename_i f n_v c_v
  cases h
  have hp0 := hp
  refine ⟨rfl, J_ref06_VetoErr f (listC n_v mkInt c_v), [.t (.a [.v (.int .i64 f), .sl 1 ((listC n_v mkInt c_v).length) (intsC (listC n_v mkInt c_v))])], ?_, Nat.le_of_ble_eq_true (by kernel_rfl), ?_, ?_⟩
  ·exact (LeA_cons (leT_a (LeCs.cons (LeC1.refl _) (LeCs.cons ((leL_int hp0)) LeCs.nil))) LeA_nil)
  ·rw [ev_ref06_VetoErr]; exact spec_ref06_VetoErr f (listC n_v mkInt c_v)
  ·exact all_ref06_VetoErr f (listC n_v mkInt c_v)
 ·cases h
def S83 : Sum := addS S82 8 con_ref06_VetoErr
theorem VS83 : Valid Tryz.prog S83 := Valid.add VS82 ok_ref06_VetoErr
def S84 : Sum := S83
theorem VS84 : Valid Tryz.prog S84 := VS83
end Go.Proofs.YtdkpgodakmailaaGreatDoor
set_option linter.unusedVariables false
set_option linter.unusedSimpArgs false
namespace Go.Proofs.YtdkpgodakmailaaGreatDoor
open Go.RowKit
section
variable {H : Type} {enc : TypeId × Value → H} {P : Program} {w : World} {base : Nat} {spare : Nat → Bool} {held : Bool}
theorem cell_lt {w : World} {a : Addr} {v : Value} (h : w.cell? a = some v) : a.block < w.heap.size := by
 unfold World.cell? at h
 cases e : w.heap[a.block]? with
 | none => simp [e] at h
 | some o => exact (Array.getElem?_eq_some_iff.1 e).1
theorem list_of {α : Type} (d : α) : ∀ (n : Nat) {R : Nat → α → Prop}, (∀ i, i < n → ∃ x, R i x) → ∃ l : List α, l.length = n ∧ ∀ i, i < n → R i (l.getD i d) := by
 intro n
 induction n with
 | zero => intro R _; exact ⟨[], rfl, fun i hi => absurd hi (by omega)⟩
 | succ n ih =>
  intro R h
  obtain ⟨l, hl, hr⟩ := ih (fun i hi => h i (by omega))
  obtain ⟨x, hx⟩ := h n (by omega)
  refine ⟨l ++ [x], by simp [hl], fun i hi => ?_⟩
  rcases Nat.lt_or_ge i n with h1 | h1
  ·have : (l ++ [x]).getD i d = l.getD i d := by simp [List.getD, List.getElem?_append_left (show i < l.length by omega)]
   rw [this]; exact hr i h1
  ·have e : i = n := by omega
   subst e
   have : (l ++ [x]).getD i d = x := by rw [← hl]; simp [List.getD]
   rw [this]; exact hx
theorem SlAt.congr {w : World} {v : Value} {n sz : Nat} {c d : Nat → Nat → Value} (h : SlAt w v n sz c) (e : ∀ i j, i < n → j < sz → c i j = d i j) : SlAt w v n sz d := by
 obtain ⟨ao, cap, rfl, h1, h2, h3, h4⟩ := h
 refine ⟨ao, cap, rfl, h1, h2, fun h0 => ?_, h4⟩
 obtain ⟨b, off, e1, hlt, hc⟩ := h3 h0
 exact ⟨b, off, e1, hlt, fun i j hi hj => by rw [hc i j hi hj, e i j hi hj]⟩
theorem slAt_of_trod {t e : TypeId} {sz fuel : Nat} {v : Value} {x : DataW H × List MemPlace} (ht : P.underlying t = some (.slice e)) (hc : P.cellsOf e = sz) (hsz : 0 < sz)
  (h : DataW.trod enc P w base spare held fuel t [v] = some x) :
  ∃ (n : Nat) (css : Nat → List Value), SlAt w v n sz (fun i j => (css i).getD j undef) ∧ ∀ i, i < n → (css i).length = sz ∧ ∃ m y, DataW.trod enc P w base spare held m e (css i) = some y := by
 rcases DataW.trod_slice ht h with ⟨h0, _⟩ | ⟨a, len, cap, elems, rest, m, _, h0, _, hb, hl, hm, hlen, hel, _, _⟩
 ·obtain rfl : v = .slice none 0 0 := by simpa using h0
  exact ⟨0, fun _ => [], ⟨none, 0, rfl, by simp, by simp, fun h => absurd h (by omega), fun _ => rfl⟩, fun i hi => absurd hi (by omega)⟩
 ·obtain rfl : v = .slice (some a) len cap := by simpa using h0
  have each : ∀ i, i < len → ∃ cs : List Value, w.cells? base (a.add (i * sz)) sz = some cs ∧ ∃ y, DataW.trod enc P w base spare held m e cs = some y := by
   intro i hi
   have h1 := hel i hi
   rw [hc] at h1
   have h2 : elems[i]? = some elems[i] := by simp
   rw [h2, Option.bind_eq_some_iff] at h1
   obtain ⟨cs, h3, h4⟩ := h1
   exact ⟨cs, h3, _, h4⟩
  obtain ⟨css, hcl, hcs⟩ := list_of ([] : List Value) len each
  have hcell : ∀ i j, i < len → j < sz → w.cell? ((a.add (i * sz)).add j) = some ((css.getD i []).getD j undef) := by
   intro i j hi hj
   obtain ⟨_, h2, h3⟩ := World.cells?_some (hcs i hi).1
   rw [h3 j hj]
   generalize css.getD i [] = c at h2 ⊢
   rw [List.getElem?_eq_getElem (by omega)]
   simp [List.getD, List.getElem?_eq_getElem (show j < c.length by omega)]
  refine ⟨len, fun i => css.getD i [], ⟨some a, cap, rfl, hl, hm, fun hp => ?_, fun h => by cases h⟩, fun i hi => ⟨(World.cells?_some (hcs i hi).1).2.1, m, (hcs i hi).2⟩⟩
  obtain ⟨b, off, spot⟩ := a
  have hspot : spot = none := by simpa [Addr.add] using World.cell?_spot (hcell 0 0 hp hsz)
  subst hspot
  refine ⟨b, off, rfl, by simpa [Addr.add] using cell_lt (hcell 0 0 hp hsz), fun i j hi hj => ?_⟩
  have := hcell i j hi hj
  rw [add_plain', add_plain'] at this
  exact this
end
end Go.Proofs.YtdkpgodakmailaaGreatDoor
set_option linter.unusedVariables false
set_option linter.unusedSimpArgs false
namespace Go.Proofs.YtdkpgodakmailaaGreatDoor.Ev
open Go.RowKit
inductive CK where
 | int (k : IntKind)
 | bool
 | str
 | sl (e : TypeId)
def findF (P : Program) (go : TypeId → Nat → Option CK) (j : Nat) : List Field → Option CK
 | [] => none
 | f :: l => bif Nat.ble f.offset j && Nat.blt j (f.offset + P.cellsOf f.type) then go f.type (j - f.offset) else findF P go j l
def kindAt (P : Program) : Nat → TypeId → Nat → Option CK
 | 0, _, _ => none
 | k + 1, t, j => match P.underlying t with
  | some (.int ik) => bif Nat.beq j 0 then some (.int ik) else none
  | some .bool => bif Nat.beq j 0 then some .bool else none
  | some .string => bif Nat.beq j 0 then some .str else none
  | some (.slice e) => bif Nat.beq j 0 then some (.sl e) else none
  | some (.array n e) => bif Nat.blt j (n * P.cellsOf e) then kindAt P k e (j % P.cellsOf e) else none
  | some (.struct fs) => findF P (kindAt P k) j fs.toList
  | _ => none
def kindB (P : Program) : Nat → TypeId → Bool
 | 0, _ => false
 | d + 1, t => (List.range (P.cellsOf t)).all fun j => match kindAt P 20 t j with
  | some (.sl e) => Nat.blt 0 (P.cellsOf e) && kindB P d e
  | some _ => true
  | none => false
def okK (P : Program) : Nat → CK → CV → Prop
 | _, .int ik, c => ∃ n, c = .v (.int ik n) ∧ (Lit.int ik n).wf = true
 | _, .bool, c => ∃ b, c = .v (.bool b)
 | _, .str, c => ∃ s, c = .v (.string s) ∧ s.size ≤ maxLen
 | 0, .sl e, c => False
 | d + 1, .sl e, c => ∃ n cc, c = .sl (P.cellsOf e) n cc ∧ n ≤ maxLen ∧ ∀ i j, i < n → j < P.cellsOf e → ∃ κ, kindAt P 20 e j = some κ ∧ okK P d κ (cc i j)
section
variable {H : Type} {enc : TypeId × Value → H} {P : Program} {w : World} {base : Nat} {spare : Nat → Bool} {held : Bool}
def leaf (H : Type) (enc : TypeId × Value → H) (P : Program) (w : World) (base : Nat) (spare : Nat → Bool) (held : Bool) : CK → Value → Prop
 | .int ik, u => ∃ n, u = .int ik n ∧ (Lit.int ik n).wf = true
 | .bool, u => ∃ b, u = .bool b
 | .str, u => ∃ s : ByteArray, u = .string s ∧ s.size ≤ maxLen
 | .sl e, u => ∃ t m y, P.underlying t = some (.slice e) ∧ DataW.trod enc P w base spare held m t [u] = some y
theorem leaf_of : ∀ (k : Nat) (t : TypeId) (fuel : Nat) (cs : List Value) (x : DataW H × List MemPlace) (j : Nat) (κ : CK), kindAt P k t j = some κ → DataW.trod enc P w base spare held fuel t cs = some x → ∃ u, cs[j]? = some u ∧ leaf H enc P w base spare held κ u := by
 intro k
 induction k with
 | zero => intro t fuel cs x j κ h; cases h
 | succ k ih =>
  intro t fuel cs x j κ hk h
  unfold kindAt at hk
  have zero : ∀ {κ' : CK}, (bif Nat.beq j 0 then some κ' else none) = some κ → j = 0 ∧ κ' = κ := by
   intro κ' e
   cases hb : Nat.beq j 0 with
   | false => rw [hb] at e; cases e
   | true => rw [hb] at e; cases e; exact ⟨Nat.eq_of_beq_eq_true hb, rfl⟩
  split at hk
  ·rename_i ik ht
   obtain ⟨rfl, rfl⟩ := zero hk
   obtain ⟨n, rfl, _, h2⟩ := DataW.trod_int ht h
   exact ⟨_, rfl, n, rfl, h2⟩
  ·rename_i ht
   obtain ⟨rfl, rfl⟩ := zero hk
   obtain ⟨b, rfl, _⟩ := DataW.trod_bool ht h
   exact ⟨_, rfl, b, rfl⟩
  ·rename_i ht
   obtain ⟨rfl, rfl⟩ := zero hk
   obtain ⟨s, rfl, _, h2⟩ := DataW.trod_string ht h
   exact ⟨_, rfl, s, rfl, h2⟩
  ·rename_i e ht
   obtain ⟨rfl, rfl⟩ := zero hk
   rcases DataW.trod_slice ht h with ⟨rfl, _⟩ | ⟨a, len, cap, elems, rest, m, _, rfl, _⟩
   ·exact ⟨_, rfl, t, fuel, x, ht, h⟩
   ·exact ⟨_, rfl, t, fuel, x, ht, h⟩
  ·rename_i n e ht
   cases hb : Nat.blt j (n * P.cellsOf e) with
   | false => rw [hb] at hk; cases hk
   | true =>
    rw [hb] at hk
    simp only [cond_true] at hk
    have hj : j < n * P.cellsOf e := Nat.le_of_ble_eq_true hb
    have hpos : 0 < P.cellsOf e := by
     rcases Nat.eq_zero_or_pos (P.cellsOf e) with q | q
     ·rw [q, Nat.mul_zero] at hj; omega
     ·exact q
    obtain ⟨xs, m, _, _, hl, hxs, hf⟩ := DataW.trod_array ht h
    have hi : j / P.cellsOf e < n := Nat.div_lt_of_lt_mul (by rwa [Nat.mul_comm])
    have h5 := hf _ hi
    rw [show xs[j / P.cellsOf e]? = some xs[j / P.cellsOf e] from List.getElem?_eq_getElem (by omega)] at h5
    obtain ⟨u, h6, h7⟩ := ih e _ _ _ _ _ hk h5
    refine ⟨u, ?_, h7⟩
    rw [List.getElem?_take, if_pos (Nat.mod_lt _ hpos), List.getElem?_drop] at h6
    rwa [Nat.div_add_mod' j (P.cellsOf e)] at h6
  ·rename_i fs ht
   obtain ⟨xs, m, _, _, hl, hxs, hf⟩ := DataW.trod_struct ht h
   have find : ∀ l : List Field, (∀ f ∈ l, ∃ i : Nat, fs[i]? = some f) → findF P (kindAt P k) j l = some κ → ∃ (f : Field) (i : Nat), fs[i]? = some f ∧ f.offset ≤ j ∧ j < f.offset + P.cellsOf f.type ∧ kindAt P k f.type (j - f.offset) = some κ := by
    intro l
    induction l with
    | nil => intro _ h; cases h
    | cons f l ihl =>
     intro hm h
     unfold findF at h
     cases hb : (Nat.ble f.offset j && Nat.blt j (f.offset + P.cellsOf f.type)) with
     | false => rw [hb] at h; exact ihl (fun g hg => hm g (by simp [hg])) h
     | true =>
      rw [hb] at h
      simp only [Bool.and_eq_true] at hb
      obtain ⟨i, hi⟩ := hm f (by simp)
      exact ⟨f, i, hi, Nat.le_of_ble_eq_true hb.1, Nat.le_of_ble_eq_true hb.2, h⟩
   obtain ⟨f, i, hi, h1, h2, h3⟩ := find fs.toList (fun f hf => by
    obtain ⟨i, hi, e⟩ := List.getElem_of_mem hf
    exact ⟨i, by rw [← e]; simp at hi ⊢⟩) hk
   have h5 := hf i f hi
   have hlt : i < fs.size := by
    rcases Nat.lt_or_ge i fs.size with q | q
    ·exact q
    ·rw [Array.getElem?_eq_none q] at hi; cases hi
   rw [show xs[i]? = some xs[i] from List.getElem?_eq_getElem (by omega)] at h5
   obtain ⟨u, h6, h7⟩ := ih _ _ _ _ _ _ h3 h5
   refine ⟨u, ?_, h7⟩
   rw [List.getElem?_take, if_pos (by omega), List.getElem?_drop] at h6
   rwa [show f.offset + (j - f.offset) = j by omega] at h6
  ·cases hk
theorem open_cell : ∀ (d : Nat) (t : TypeId) (fuel : Nat) (cs : List Value) (x : DataW H × List MemPlace), kindB P d t = true → DataW.trod enc P w base spare held fuel t cs = some x → ∀ j, j < P.cellsOf t → ∃ κ c u, kindAt P 20 t j = some κ ∧ cs[j]? = some u ∧ RelF w (fun _ => True) c u ∧ okK P d κ c := by
 intro d
 induction d with
 | zero => intro t fuel cs x h; cases h
 | succ d ih =>
  intro t fuel cs x hB h j hj
  have hB' := hB
  unfold kindB at hB
  have h1 := List.all_eq_true.1 hB j (List.mem_range.2 hj)
  cases hk : kindAt P 20 t j with
  | none => rw [hk] at h1; cases h1
  | some κ =>
   rw [hk] at h1
   obtain ⟨u, h2, h3⟩ := leaf_of 20 t fuel cs x j κ hk h
   cases κ with
   | int ik =>
    obtain ⟨n, rfl, hw⟩ := h3
    exact ⟨_, .v (.int ik n), _, rfl, h2, ⟨rfl, rfl⟩, by simp only [okK]; exact ⟨n, rfl, hw⟩⟩
   | bool =>
    obtain ⟨b, rfl⟩ := h3
    exact ⟨_, .v (.bool b), _, rfl, h2, ⟨rfl, rfl⟩, by simp only [okK]; exact ⟨b, rfl⟩⟩
   | str =>
    obtain ⟨s, rfl, hs⟩ := h3
    exact ⟨_, .v (.string s), _, rfl, h2, ⟨rfl, rfl⟩, by simp only [okK]; exact ⟨s, rfl, hs⟩⟩
   | sl e =>
    simp only [Bool.and_eq_true] at h1
    have hpos : 0 < P.cellsOf e := Nat.le_of_ble_eq_true h1.1
    obtain ⟨t', m, y, ht, hy⟩ := h3
    obtain ⟨n, css, ⟨ao, cap, rfl, g1, g2, g3, g4⟩, hel⟩ := slAt_of_trod ht rfl hpos hy
    have each : ∀ i j, i < n → j < P.cellsOf e → ∃ c : CV, ∃ κ u, kindAt P 20 e j = some κ ∧ (css i)[j]? = some u ∧ RelF w (fun _ => True) c u ∧ okK P d κ c := by
     intro i j hi hj
     obtain ⟨_, m', y', h6⟩ := hel i hi
     obtain ⟨κ, c, u, q⟩ := ih e m' (css i) y' h1.2 h6 j hj
     exact ⟨c, κ, u, q⟩
    classical
    let cc : Nat → Nat → CV := fun i j => if h : i < n ∧ j < P.cellsOf e then Classical.choose (each i j h.1 h.2) else .v (.bool false)
    have hcc : ∀ i j, i < n → j < P.cellsOf e → ∃ κ u, kindAt P 20 e j = some κ ∧ (css i)[j]? = some u ∧ RelF w (fun _ => True) (cc i j) u ∧ okK P d κ (cc i j) := by
     intro i j hi hj
     have : cc i j = Classical.choose (each i j hi hj) := dif_pos ⟨hi, hj⟩
     rw [this]
     exact Classical.choose_spec (each i j hi hj)
    refine ⟨_, .sl (P.cellsOf e) n cc, _, rfl, h2, ⟨ao, cap, rfl, g1, g2, g4, fun h0 => ?_⟩, by
     simp only [okK]
     exact ⟨n, cc, rfl, Nat.le_trans g1 g2, fun i j hi hj => by obtain ⟨κ, u, q1, _, _, q4⟩ := hcc i j hi hj; exact ⟨κ, q1, q4⟩⟩⟩
    obtain ⟨b, off, e1, hlt, hc⟩ := g3 h0
    refine ⟨b, off, e1, hlt, trivial, fun i j hi hj => ?_⟩
    obtain ⟨κ, u, q1, q2, q3, _⟩ := hcc i j hi hj
    refine ⟨u, ?_, q3⟩
    rw [hc i j hi hj]
    simp [List.getD, q2]
theorem open_cells {d : Nat} {t : TypeId} {fuel : Nat} {cs : List Value} {x : DataW H × List MemPlace} (hB : kindB P d t = true) (hl : cs.length = P.cellsOf t) (h : DataW.trod enc P w base spare held fuel t cs = some x) :
  ∃ l : List CV, l.length = P.cellsOf t ∧ All2 (RelF w (fun _ => True)) l cs ∧ ∀ j, j < P.cellsOf t → ∃ κ, kindAt P 20 t j = some κ ∧ okK P d κ (l.getD j (.v (.bool false))) := by
 have each := open_cell d t fuel cs x hB h
 obtain ⟨l, h1, h2⟩ := list_of (CV.v (.bool false)) (P.cellsOf t) (R := fun j c => ∃ κ u, kindAt P 20 t j = some κ ∧ cs[j]? = some u ∧ RelF w (fun _ => True) c u ∧ okK P d κ c) (fun j hj => by obtain ⟨κ, c, u, q⟩ := each j hj; exact ⟨c, κ, u, q⟩)
 refine ⟨l, h1, All2.of_get (by omega) fun i a b ha hb => ?_, fun j hj => ?_⟩
 ·have hi : i < P.cellsOf t := by
   rcases Nat.lt_or_ge i l.length with q | q
   ·omega
   ·rw [List.getElem?_eq_none q] at ha; cases ha
  obtain ⟨κ, u, _, q2, q3, _⟩ := h2 i hi
  rw [hb] at q2
  cases q2
  rw [show l.getD i (.v (.bool false)) = a by simp [List.getD, ha]] at q3
  exact q3
 ·obtain ⟨κ, u, q1, _, _, q4⟩ := h2 j hj
  exact ⟨κ, q1, q4⟩
theorem open_agg {d : Nat} {t : TypeId} {cs : Array Value} {y : DataW H} {ps : List MemPlace} (hB : kindB P d t = true) (hl : cs.size = P.cellsOf t) (h : DataW.Trod enc P w base spare held t (.agg cs) y ps) :
  ∃ l : List CV, l.length = P.cellsOf t ∧ All2 (RelF w (fun _ => True)) l cs.toList ∧ ∀ j, j < P.cellsOf t → ∃ κ, kindAt P 20 t j = some κ ∧ okK P d κ (l.getD j (.v (.bool false))) := by
 obtain ⟨fuel, hf⟩ := h
 exact open_cells hB (by simpa using hl) (by simpa [Value.cells] using hf)
end
theorem open_i64 {P : Program} {d : Nat} {t : TypeId} {j : Nat} {c : CV} (hk : kindAt P 20 t j = some (.int .i64)) (h : ∃ κ, kindAt P 20 t j = some κ ∧ okK P d κ c) : ∃ n : Int, c = .v (.int .i64 n) ∧ -9223372036854775808 ≤ n ∧ n ≤ 9223372036854775807 := by
 obtain ⟨κ, h1, h2⟩ := h
 rw [hk] at h1
 cases h1
 have h3 : ∃ n, c = .v (.int .i64 n) ∧ (Lit.int .i64 n).wf = true := by cases d <;> exact h2
 obtain ⟨n, e, hw⟩ := h3
 have := bounds_i64 hw
 exact ⟨n, e, this.1, this.2⟩
theorem open_sl {P : Program} {d : Nat} {t e : TypeId} {j : Nat} {c : CV} (hk : kindAt P 20 t j = some (.sl e)) (h : ∃ κ, kindAt P 20 t j = some κ ∧ okK P (d + 1) κ c) : ∃ n cc, c = .sl (P.cellsOf e) n cc ∧ n ≤ maxLen ∧ ∀ i j, i < n → j < P.cellsOf e → ∃ κ, kindAt P 20 e j = some κ ∧ okK P d κ (cc i j) := by
 obtain ⟨κ, h1, h2⟩ := h
 rw [hk] at h1
 cases h1
 exact h2
def allI (P : Program) (e : TypeId) : Bool := (List.range (P.cellsOf e)).all fun j => match kindAt P 20 e j with
 | some (.int .i64) => true
 | _ => false
theorem nums_of {P : Program} {d : Nat} {e : TypeId} {n : Nat} {cc : Nat → Nat → CV} (hk : allI P e = true) (h : ∀ i j, i < n → j < P.cellsOf e → ∃ κ, kindAt P 20 e j = some κ ∧ okK P d κ (cc i j)) : numsP (P.cellsOf e) n cc := by
 intro i j hi hj
 have h1 := List.all_eq_true.1 hk j (List.mem_range.2 hj)
 split at h1
 ·rename_i hq
  obtain ⟨m, e1, _⟩ := open_i64 hq (h i j hi hj)
  rw [e1]; rfl
 ·cases h1
end Go.Proofs.YtdkpgodakmailaaGreatDoor.Ev
namespace Go.Proofs
open Go.Shelf
def Tryz.lays156_ren : Go.Shelf.Ren := ⟨fun | 156 => 87 | 165 => 135 | 166 => 136 | 169 => 137 | 240 => 167 | 241 => 168 | 276 => 188 | 277 => 189 | n => n, fun | 31 => 144 | 9 => 9 | 3 => 3 | 4 => 4 | 0 => 0 | 20 => 20 | 72 => 194 | 76 => 176 | 70 => 191 | 37 => 192 | 75 => 175 | 127 => 223 | 164 => 242 | 5 => 5 | 80 => 196 | n => n, fun | n => n⟩
theorem Tryz.lays156 : Go.Proofs.Lays.n156 Tryz.prog Tryz.lays156_ren := {
 mixed := by kernel_rfl
 f156 := Tryz.func87.trans (congrArg some (by kernel_rfl))
 f165 := Tryz.func135.trans (congrArg some (by kernel_rfl))
 f166 := Tryz.func136.trans (congrArg some (by kernel_rfl))
 f169 := Tryz.func137.trans (congrArg some (by kernel_rfl))
 f240 := Tryz.func167.trans (congrArg some (by kernel_rfl))
 f241 := Tryz.func168.trans (congrArg some (by kernel_rfl))
 f276 := Tryz.func188.trans (congrArg some (by kernel_rfl))
 f277 := Tryz.func189.trans (congrArg some (by kernel_rfl))
 t0 := Tryz.underlying0
 a0 := Tryz.isAgg0
 z0 := Tryz.sizeOf0
 v0 := Tryz.zeroValue0
 t3 := Tryz.underlying3
 a3 := Tryz.isAgg3
 z3 := Tryz.sizeOf3
 v3 := Tryz.zeroValue3
 t4 := Tryz.underlying4
 a4 := Tryz.isAgg4
 z4 := Tryz.sizeOf4
 v4 := Tryz.zeroValue4
 t9 := Tryz.underlying9
 a9 := Tryz.isAgg9
 z9 := Tryz.sizeOf9
 v9 := Tryz.zeroValue9
 t20 := Tryz.underlying20
 a20 := Tryz.isAgg20
 z20 := Tryz.sizeOf20
 v20 := Tryz.zeroValue20
 t31 := Tryz.underlying144
 a31 := Tryz.isAgg144
 z31 := Tryz.sizeOf144
 v31 := Tryz.zeroValue144
 t37 := Tryz.underlying192
 a37 := Tryz.isAgg192
 z37 := Tryz.sizeOf192
 v37 := Tryz.zeroValue192
 t70 := Tryz.underlying191
 a70 := Tryz.isAgg191
 z70 := Tryz.sizeOf191
 v70 := Tryz.zeroValue191
 t72 := Tryz.underlying194
 a72 := Tryz.isAgg194
 z72 := Tryz.sizeOf194
 v72 := Tryz.zeroValue194
 t75 := Tryz.underlying175
 a75 := Tryz.isAgg175
 z75 := Tryz.sizeOf175
 v75 := Tryz.zeroValue175
 t76 := Tryz.underlying176
 a76 := Tryz.isAgg176
 z76 := Tryz.sizeOf176
 v76 := Tryz.zeroValue176
 t127 := Tryz.underlying223
 a127 := Tryz.isAgg223
 z127 := Tryz.sizeOf223
 v127 := Tryz.zeroValue223
 t164 := Tryz.underlying242
 a164 := Tryz.isAgg242
 z164 := Tryz.sizeOf242
 v164 := Tryz.zeroValue242 }
theorem Tryz.Builder_Extra_156 : Builder.Extra Tryz.prog Tryz.lays156_ren := {
 sizeBuilder := by kernel_rfl
 liesBuilder := by kernel_rfl
 t5 := Tryz.underlying5
 a5 := Tryz.isAgg5
 z5 := Tryz.sizeOf5
 v5 := Tryz.zeroValue5
 infoByte := by kernel_rfl
 cellsByte := by kernel_rfl
 sizeByte := by kernel_rfl
 neB5 := by decide }
open Go.RowKit in
theorem Tryz.strings_Join_none (a : Option Addr) (c : Nat) (sep : ByteArray) (w : World) :
  Calls Tryz.prog 87 #[.slice a 0 c, .string sep] w fun e w' => e = .returned (.string ⟨#[]⟩) ∧ w' = w := Any.strings_Join_none Tryz.lays156 Tryz.Builder_Extra_156 a c sep w
open Go.RowKit in
theorem Tryz.strings_Join (bk o c : Nat) (xs : List ByteArray) (sep : ByteArray) (w : World) (hcells : ∀ (j : Nat) x, xs[j]? = some x → w.cell? ⟨bk, o + j, none⟩ = some (.string x)) (hbk : bk < w.heap.size) (hN : xs.length ≤ 140737488355328) (hcap : xs.length ≤ c) (hlen : (Lib.join (xs.map (·.data.toList)) sep.data.toList).length ≤ 140737488355328) :
  Calls Tryz.prog 87 #[.slice (some ⟨bk, o, none⟩) xs.length c, .string sep] w fun e w' => e = .returned (.string ⟨(Lib.join (xs.map (·.data.toList)) sep.data.toList).toArray⟩) ∧ Below w.heap.size w w' := Any.strings_Join Tryz.lays156 Tryz.Builder_Extra_156 bk o c xs sep w hcells hbk hN hcap hlen
def Tryz.laysM171_ren : Go.Shelf.Ren := ⟨fun | 171 => 115 | 243 => 155 | 246 => 183 | 283 => 199 | 284 => 200 | 285 => 201 | 286 => 202 | 129 => 210 | 317 => 209 | 318 => 211 | 319 => 212 | 320 => 165 | 337 => 185 | 338 => 186 | n => n, fun | 3 => 3 | 9 => 9 | 2 => 2 | 4 => 4 | 171 => 257 | 0 => 0 | 53 => 241 | 37 => 192 | 5 => 5 | 173 => 259 | 212 => 271 | 51 => 239 | 20 => 20 | 213 => 272 | 46 => 189 | 232 => 261 | 233 => 262 | n => n, fun | 17 => 7 | 18 => 5 | 19 => 6 | n => n⟩
theorem Tryz.laysM171 : Go.Proofs.LaysM.n171 Tryz.prog Tryz.laysM171_ren := {
 mixed := by kernel_rfl
 f129 := Tryz.func210.trans (congrArg some (by kernel_rfl))
 f171 := Tryz.func115.trans (congrArg some (by kernel_rfl))
 f243 := Tryz.func155.trans (congrArg some (by kernel_rfl))
 f246 := Tryz.func183.trans (congrArg some (by kernel_rfl))
 f283 := Tryz.func199.trans (congrArg some (by kernel_rfl))
 f284 := Tryz.func200.trans (congrArg some (by kernel_rfl))
 f285 := Tryz.func201.trans (congrArg some (by kernel_rfl))
 f286 := Tryz.func202.trans (congrArg some (by kernel_rfl))
 f317 := Tryz.func209.trans (congrArg some (by kernel_rfl))
 f318 := Tryz.func211.trans (congrArg some (by kernel_rfl))
 f319 := Tryz.func212.trans (congrArg some (by kernel_rfl))
 f320 := Tryz.func165.trans (congrArg some (by kernel_rfl))
 f337 := Tryz.func185.trans (congrArg some (by kernel_rfl))
 f338 := Tryz.func186.trans (congrArg some (by kernel_rfl))
 t0 := Tryz.underlying0
 a0 := Tryz.isAgg0
 z0 := Tryz.sizeOf0
 v0 := Tryz.zeroValue0
 t2 := Tryz.underlying2
 a2 := Tryz.isAgg2
 z2 := Tryz.sizeOf2
 v2 := Tryz.zeroValue2
 t3 := Tryz.underlying3
 a3 := Tryz.isAgg3
 z3 := Tryz.sizeOf3
 v3 := Tryz.zeroValue3
 t4 := Tryz.underlying4
 a4 := Tryz.isAgg4
 z4 := Tryz.sizeOf4
 v4 := Tryz.zeroValue4
 t5 := Tryz.underlying5
 a5 := Tryz.isAgg5
 z5 := Tryz.sizeOf5
 v5 := Tryz.zeroValue5
 t9 := Tryz.underlying9
 a9 := Tryz.isAgg9
 z9 := Tryz.sizeOf9
 v9 := Tryz.zeroValue9
 t20 := Tryz.underlying20
 a20 := Tryz.isAgg20
 z20 := Tryz.sizeOf20
 v20 := Tryz.zeroValue20
 t37 := Tryz.underlying192
 a37 := Tryz.isAgg192
 z37 := Tryz.sizeOf192
 v37 := Tryz.zeroValue192
 t46 := Tryz.underlying189
 a46 := Tryz.isAgg189
 z46 := Tryz.sizeOf189
 v46 := Tryz.zeroValue189
 t51 := Tryz.underlying239
 a51 := Tryz.isAgg239
 z51 := Tryz.sizeOf239
 v51 := Tryz.zeroValue239
 t53 := Tryz.underlying241
 a53 := Tryz.isAgg241
 z53 := Tryz.sizeOf241
 v53 := Tryz.zeroValue241
 t171 := Tryz.underlying257
 a171 := Tryz.isAgg257
 z171 := Tryz.sizeOf257
 v171 := Tryz.zeroValue257
 t173 := Tryz.underlying259
 a173 := Tryz.isAgg259
 z173 := Tryz.sizeOf259
 v173 := Tryz.zeroValue259
 t212 := Tryz.underlying271
 a212 := Tryz.isAgg271
 z212 := Tryz.sizeOf271
 v212 := Tryz.zeroValue271
 t213 := Tryz.underlying272
 a213 := Tryz.isAgg272
 z213 := Tryz.sizeOf272
 t232 := Tryz.underlying261
 a232 := Tryz.isAgg261
 z232 := Tryz.sizeOf261
 v232 := Tryz.zeroValue261
 t233 := Tryz.underlying262
 a233 := Tryz.isAgg262
 z233 := Tryz.sizeOf262
 v233 := Tryz.zeroValue262
 g17 := by kernel_rfl
 g18 := by kernel_rfl
 g19 := by kernel_rfl
 i0 := by kernel_rfl
 i2 := by kernel_rfl
 i3 := by kernel_rfl
 i4 := by kernel_rfl
 i5 := by kernel_rfl
 i9 := by kernel_rfl
 i20 := by kernel_rfl
 i37 := by kernel_rfl
 i46 := by kernel_rfl
 i51 := by kernel_rfl
 i53 := by kernel_rfl
 i171 := by kernel_rfl
 i173 := by kernel_rfl
 i212 := by kernel_rfl
 i232 := by kernel_rfl
 i233 := by kernel_rfl
 m17 := by kernel_rfl
 m18 := by kernel_rfl
 m19 := by kernel_rfl }
open Go.RowKit Go.Sort Go.Lib in
theorem Tryz.strconv_Itoa (n : Int) (h0 : -9223372036854775808 ≤ n) (h1 : n ≤ 9223372036854775807) (w : World) (htab : Lib.TabIs Tryz.prog w "internal/strconv.uint64pow10" .u64 Lib.pow10Tab) :
  Calls Tryz.prog 115 #[.int .i64 n] w fun e w' => e = .returned (.string ⟨(Lib.itoa n).toArray⟩) ∧ ∃ k os, w' = grow (w.drewN k) os := Any.strconv_Itoa Tryz.laysM171 n h0 h1 w htab
def Tryz.laysC172_ren : Go.Shelf.Ren := ⟨fun | 172 => 114 | 244 => 153 | 245 => 154 | 247 => 178 | 279 => 179 | 280 => 180 | 281 => 181 | 282 => 182 | 287 => 196 | 316 => 197 | 171 => 115 | 205 => 198 | 321 => 207 | 322 => 208 | 243 => 155 | 246 => 183 | 283 => 199 | 284 => 200 | 285 => 201 | 286 => 202 | 129 => 210 | 317 => 209 | 318 => 211 | 319 => 212 | 320 => 165 | 337 => 185 | 338 => 186 | n => n, fun | 9 => 9 | 3 => 3 | 75 => 175 | 76 => 176 | 4 => 4 | 5 => 5 | 167 => 230 | 37 => 192 | 0 => 0 | 85 => 231 | 2 => 2 | 168 => 233 | 53 => 241 | 175 => 251 | 46 => 189 | 210 => 255 | 127 => 223 | 145 => 269 | 143 => 267 | 21 => 21 | 171 => 257 | 173 => 259 | 212 => 271 | 51 => 239 | 20 => 20 | 213 => 272 | 232 => 261 | 233 => 262 | 80 => 196 | n => n, fun | 15 => 3 | 16 => 4 | 17 => 7 | 18 => 5 | 19 => 6 | n => n⟩
theorem Tryz.laysC172 : Go.Proofs.LaysC.n172 Tryz.prog Tryz.laysC172_ren := {
 mixed := by kernel_rfl
 f129 := Tryz.func210.trans (congrArg some (by kernel_rfl))
 f171 := Tryz.func115.trans (congrArg some (by kernel_rfl))
 f172 := Tryz.func114.trans (congrArg some (by kernel_rfl))
 f205 := Tryz.func198.trans (congrArg some (by kernel_rfl))
 f243 := Tryz.func155.trans (congrArg some (by kernel_rfl))
 f244 := Tryz.func153.trans (congrArg some (by kernel_rfl))
 f245 := Tryz.func154.trans (congrArg some (by kernel_rfl))
 f246 := Tryz.func183.trans (congrArg some (by kernel_rfl))
 f247 := Tryz.func178.trans (congrArg some (by kernel_rfl))
 f279 := Tryz.func179.trans (congrArg some (by kernel_rfl))
 f280 := Tryz.func180.trans (congrArg some (by kernel_rfl))
 f281 := Tryz.func181.trans (congrArg some (by kernel_rfl))
 f282 := Tryz.func182.trans (congrArg some (by kernel_rfl))
 f283 := Tryz.func199.trans (congrArg some (by kernel_rfl))
 f284 := Tryz.func200.trans (congrArg some (by kernel_rfl))
 f285 := Tryz.func201.trans (congrArg some (by kernel_rfl))
 f286 := Tryz.func202.trans (congrArg some (by kernel_rfl))
 f287 := Tryz.func196.trans (congrArg some (by kernel_rfl))
 f316 := Tryz.func197.trans (congrArg some (by kernel_rfl))
 f317 := Tryz.func209.trans (congrArg some (by kernel_rfl))
 f318 := Tryz.func211.trans (congrArg some (by kernel_rfl))
 f319 := Tryz.func212.trans (congrArg some (by kernel_rfl))
 f320 := Tryz.func165.trans (congrArg some (by kernel_rfl))
 f321 := Tryz.func207.trans (congrArg some (by kernel_rfl))
 f322 := Tryz.func208.trans (congrArg some (by kernel_rfl))
 f337 := Tryz.func185.trans (congrArg some (by kernel_rfl))
 f338 := Tryz.func186.trans (congrArg some (by kernel_rfl))
 t0 := Tryz.underlying0
 a0 := Tryz.isAgg0
 z0 := Tryz.sizeOf0
 v0 := Tryz.zeroValue0
 t2 := Tryz.underlying2
 a2 := Tryz.isAgg2
 z2 := Tryz.sizeOf2
 v2 := Tryz.zeroValue2
 t3 := Tryz.underlying3
 a3 := Tryz.isAgg3
 z3 := Tryz.sizeOf3
 v3 := Tryz.zeroValue3
 t4 := Tryz.underlying4
 a4 := Tryz.isAgg4
 z4 := Tryz.sizeOf4
 v4 := Tryz.zeroValue4
 t5 := Tryz.underlying5
 a5 := Tryz.isAgg5
 z5 := Tryz.sizeOf5
 v5 := Tryz.zeroValue5
 t9 := Tryz.underlying9
 a9 := Tryz.isAgg9
 z9 := Tryz.sizeOf9
 v9 := Tryz.zeroValue9
 t20 := Tryz.underlying20
 a20 := Tryz.isAgg20
 z20 := Tryz.sizeOf20
 v20 := Tryz.zeroValue20
 t21 := Tryz.underlying21
 a21 := Tryz.isAgg21
 z21 := Tryz.sizeOf21
 v21 := Tryz.zeroValue21
 t37 := Tryz.underlying192
 a37 := Tryz.isAgg192
 z37 := Tryz.sizeOf192
 v37 := Tryz.zeroValue192
 t46 := Tryz.underlying189
 a46 := Tryz.isAgg189
 z46 := Tryz.sizeOf189
 v46 := Tryz.zeroValue189
 t51 := Tryz.underlying239
 a51 := Tryz.isAgg239
 z51 := Tryz.sizeOf239
 v51 := Tryz.zeroValue239
 t53 := Tryz.underlying241
 a53 := Tryz.isAgg241
 z53 := Tryz.sizeOf241
 v53 := Tryz.zeroValue241
 t75 := Tryz.underlying175
 a75 := Tryz.isAgg175
 z75 := Tryz.sizeOf175
 v75 := Tryz.zeroValue175
 t76 := Tryz.underlying176
 a76 := Tryz.isAgg176
 z76 := Tryz.sizeOf176
 v76 := Tryz.zeroValue176
 t85 := Tryz.underlying231
 a85 := Tryz.isAgg231
 z85 := Tryz.sizeOf231
 v85 := Tryz.zeroValue231
 t127 := Tryz.underlying223
 a127 := Tryz.isAgg223
 z127 := Tryz.sizeOf223
 v127 := Tryz.zeroValue223
 t143 := Tryz.underlying267
 a143 := Tryz.isAgg267
 z143 := Tryz.sizeOf267
 v143 := Tryz.zeroValue267
 t145 := Tryz.underlying269
 a145 := Tryz.isAgg269
 z145 := Tryz.sizeOf269
 v145 := Tryz.zeroValue269
 t167 := Tryz.underlying230
 a167 := Tryz.isAgg230
 z167 := Tryz.sizeOf230
 v167 := Tryz.zeroValue230
 t168 := Tryz.underlying233
 a168 := Tryz.isAgg233
 z168 := Tryz.sizeOf233
 v168 := Tryz.zeroValue233
 t171 := Tryz.underlying257
 a171 := Tryz.isAgg257
 z171 := Tryz.sizeOf257
 v171 := Tryz.zeroValue257
 t173 := Tryz.underlying259
 a173 := Tryz.isAgg259
 z173 := Tryz.sizeOf259
 v173 := Tryz.zeroValue259
 t175 := Tryz.underlying251
 a175 := Tryz.isAgg251
 z175 := Tryz.sizeOf251
 v175 := Tryz.zeroValue251
 t210 := Tryz.underlying255
 a210 := Tryz.isAgg255
 z210 := Tryz.sizeOf255
 v210 := Tryz.zeroValue255
 t212 := Tryz.underlying271
 a212 := Tryz.isAgg271
 z212 := Tryz.sizeOf271
 v212 := Tryz.zeroValue271
 t213 := Tryz.underlying272
 a213 := Tryz.isAgg272
 z213 := Tryz.sizeOf272
 t232 := Tryz.underlying261
 a232 := Tryz.isAgg261
 z232 := Tryz.sizeOf261
 v232 := Tryz.zeroValue261
 t233 := Tryz.underlying262
 a233 := Tryz.isAgg262
 z233 := Tryz.sizeOf262
 v233 := Tryz.zeroValue262
 g15 := by kernel_rfl
 g16 := by kernel_rfl
 g17 := by kernel_rfl
 g18 := by kernel_rfl
 g19 := by kernel_rfl
 t80 := Tryz.underlying196
 a80 := Tryz.isAgg196
 z80 := Tryz.sizeOf196
 v80 := Tryz.zeroValue196
 i0 := by kernel_rfl
 i2 := by kernel_rfl
 i3 := by kernel_rfl
 i4 := by kernel_rfl
 i5 := by kernel_rfl
 i9 := by kernel_rfl
 i20 := by kernel_rfl
 i21 := by kernel_rfl
 i37 := by kernel_rfl
 i46 := by kernel_rfl
 i51 := by kernel_rfl
 i53 := by kernel_rfl
 i75 := by kernel_rfl
 i76 := by kernel_rfl
 i80 := by kernel_rfl
 i85 := by kernel_rfl
 i127 := by kernel_rfl
 i143 := by kernel_rfl
 i145 := by kernel_rfl
 i167 := by kernel_rfl
 i168 := by kernel_rfl
 i171 := by kernel_rfl
 i173 := by kernel_rfl
 i175 := by kernel_rfl
 i210 := by kernel_rfl
 i212 := by kernel_rfl
 i232 := by kernel_rfl
 i233 := by kernel_rfl
 m15 := by kernel_rfl
 m16 := by kernel_rfl
 m17 := by kernel_rfl
 m18 := by kernel_rfl
 m19 := by kernel_rfl
 c0 := by kernel_rfl
 c2 := by kernel_rfl
 c3 := by kernel_rfl
 c4 := by kernel_rfl
 c5 := by kernel_rfl
 c9 := by kernel_rfl
 c20 := by kernel_rfl
 c21 := by kernel_rfl
 c37 := by kernel_rfl
 c46 := by kernel_rfl
 c51 := by kernel_rfl
 c53 := by kernel_rfl
 c75 := by kernel_rfl
 c76 := by kernel_rfl
 c80 := by kernel_rfl
 c85 := by kernel_rfl
 c127 := by kernel_rfl
 c143 := by kernel_rfl
 c145 := by kernel_rfl
 c167 := by kernel_rfl
 c168 := by kernel_rfl
 c171 := by kernel_rfl
 c173 := by kernel_rfl
 c175 := by kernel_rfl
 c210 := by kernel_rfl
 c212 := by kernel_rfl
 c213 := by kernel_rfl
 c232 := by kernel_rfl
 c233 := by kernel_rfl }
open Go.RowKit in
theorem Tryz.strconv_Atoi_ok (s : ByteArray) (hmax : s.size ≤ 9223372036854775806) (v : Int) (h : Lib.atoiAll s.data.toList = .ok v) (w : World) :
  Calls Tryz.prog 114 #[.string s] w fun e w' => e = .returned (.tuple #[.int .i64 v, .nilIface]) ∧ (w' = w ∨ ∃ t, w' = Lib.bytesWorld w 5 t) := Any.strconv_Atoi_ok Tryz.laysC172 s hmax v h w
open Go.RowKit in
theorem Tryz.strconv_Atoi_syntax (s : ByteArray) (hlim : s.size ≤ 281474976710656) (h : Lib.atoiAll s.data.toList = Lib.atoiAll []) (ev : Value) (w : World) (hv : w.cell? ⟨3, 0, none⟩ = some ev) (hev : ev = .nilIface ∨ ∃ te pe, ev = .iface te pe) :
  Calls Tryz.prog 114 #[.string s] w fun e w' => ∃ N, e = .returned (.tuple #[.int .i64 (0), .iface 233 (.pointer (some ⟨N, 0, none⟩))]) ∧ w.heap.size ≤ N ∧ w'.heap[N]? = some (.cells #[.string ⟨#[65, 116, 111, 105]⟩, .string s, ev] 255 (0, 0)) ∧ Below w.heap.size w w' := Any.strconv_Atoi_syntax Tryz.laysC172 s hlim h ev w hv hev
open Go.RowKit in
theorem Tryz.strconv_Atoi_range (s : ByteArray) (hlim : s.size ≤ 281474976710656) (h : Lib.atoiAll s.data.toList = .range) (ev : Value) (w : World) (hv : w.cell? ⟨4, 0, none⟩ = some ev) (hev : ev = .nilIface ∨ ∃ te pe, ev = .iface te pe) :
  Calls Tryz.prog 114 #[.string s] w fun e w' => ∃ N, e = .returned (.tuple #[.int .i64 (Lib.atoiSat s.data.toList), .iface 233 (.pointer (some ⟨N, 0, none⟩))]) ∧ w.heap.size ≤ N ∧ w'.heap[N]? = some (.cells #[.string ⟨#[65, 116, 111, 105]⟩, .string s, ev] 255 (0, 0)) ∧ Below w.heap.size w w' := Any.strconv_Atoi_range Tryz.laysC172 s hlim h ev w hv hev
def Tryz.lays143_ren : Go.Shelf.Ren := ⟨fun | 143 => 152 | 219 => 177 | 217 => 192 | 225 => 193 | 224 => 194 | 267 => 195 | 266 => 205 | 314 => 206 | n => n, fun | 9 => 9 | 3 => 3 | 4 => 4 | 5 => 5 | 46 => 189 | 146 => 264 | 51 => 239 | n => n, fun | 1 => 2 | n => n⟩
theorem Tryz.lays143 : Go.Proofs.Lays.n143 Tryz.prog Tryz.lays143_ren := {
 mixed := by kernel_rfl
 f143 := Tryz.func152.trans (congrArg some (by kernel_rfl))
 f217 := Tryz.func192.trans (congrArg some (by kernel_rfl))
 f219 := Tryz.func177.trans (congrArg some (by kernel_rfl))
 f224 := Tryz.func194.trans (congrArg some (by kernel_rfl))
 f225 := Tryz.func193.trans (congrArg some (by kernel_rfl))
 f266 := Tryz.func205.trans (congrArg some (by kernel_rfl))
 f267 := Tryz.func195.trans (congrArg some (by kernel_rfl))
 f314 := Tryz.func206.trans (congrArg some (by kernel_rfl))
 t3 := Tryz.underlying3
 a3 := Tryz.isAgg3
 z3 := Tryz.sizeOf3
 v3 := Tryz.zeroValue3
 t4 := Tryz.underlying4
 a4 := Tryz.isAgg4
 z4 := Tryz.sizeOf4
 v4 := Tryz.zeroValue4
 t5 := Tryz.underlying5
 a5 := Tryz.isAgg5
 z5 := Tryz.sizeOf5
 v5 := Tryz.zeroValue5
 t9 := Tryz.underlying9
 a9 := Tryz.isAgg9
 z9 := Tryz.sizeOf9
 v9 := Tryz.zeroValue9
 t46 := Tryz.underlying189
 a46 := Tryz.isAgg189
 z46 := Tryz.sizeOf189
 v46 := Tryz.zeroValue189
 t51 := Tryz.underlying239
 a51 := Tryz.isAgg239
 z51 := Tryz.sizeOf239
 v51 := Tryz.zeroValue239
 t146 := Tryz.underlying264
 a146 := Tryz.isAgg264
 z146 := Tryz.sizeOf264
 v146 := Tryz.zeroValue264
 g1 := by kernel_rfl }
open Go.RowKit Go.Lib in
theorem Tryz.strings_Index (s sub : ByteArray) (m : Int) (w : World) (hs : s.size < 4294967281) (hm : w.cell? ⟨2, 0, none⟩ = some (.int .i64 m)) :
  Calls Tryz.prog 152 #[.string s, .string sub] w fun e w' => e = .returned (.int .i64 (Lib.index s.data.toList sub.data.toList)) ∧ w' = w := Any.strings_Index Tryz.lays143 s sub m w hs hm
def Tryz.lays101_ren : Go.Shelf.Ren := ⟨fun | 101 => 116 | 208 => 156 | 206 => 184 | n => n, fun | 9 => 9 | 4 => 4 | 3 => 3 | n => n, fun | n => n⟩
theorem Tryz.lays101 : Go.Proofs.Lays.n101 Tryz.prog Tryz.lays101_ren := {
 mixed := by kernel_rfl
 f101 := Tryz.func116.trans (congrArg some (by kernel_rfl))
 f206 := Tryz.func184.trans (congrArg some (by kernel_rfl))
 f208 := Tryz.func156.trans (congrArg some (by kernel_rfl))
 t3 := Tryz.underlying3
 a3 := Tryz.isAgg3
 z3 := Tryz.sizeOf3
 v3 := Tryz.zeroValue3
 t4 := Tryz.underlying4
 a4 := Tryz.isAgg4
 z4 := Tryz.sizeOf4
 v4 := Tryz.zeroValue4
 t9 := Tryz.underlying9
 a9 := Tryz.isAgg9
 z9 := Tryz.sizeOf9
 v9 := Tryz.zeroValue9 }
open Go.RowKit Go.Lib in
theorem Tryz.strings_TrimPrefix (s p : ByteArray) (w : World) :
  Calls Tryz.prog 116 #[.string s, .string p] w fun e w' => e = .returned (.string ⟨(Lib.trimPrefix s.data.toList p.data.toList).toArray⟩) ∧ w' = w := Any.strings_TrimPrefix Tryz.lays101 s p w
def Tryz.lays146_ren : Go.Shelf.Ren := ⟨fun | 146 => 138 | 221 => 169 | 268 => 190 | 138 => 191 | 143 => 152 | 195 => 203 | 197 => 151 | 218 => 204 | 219 => 177 | 260 => 176 | 217 => 192 | 225 => 193 | 224 => 194 | 267 => 195 | 266 => 205 | 314 => 206 | n => n, fun | 9 => 9 | 31 => 144 | 3 => 3 | 4 => 4 | 0 => 0 | 105 => 214 | 21 => 21 | 5 => 5 | 46 => 189 | 119 => 246 | 139 => 249 | 138 => 248 | 146 => 264 | 51 => 239 | n => n, fun | 1 => 2 | 3 => 0 | 4 => 1 | n => n⟩
theorem Tryz.lays146 : Go.Proofs.Lays.n146 Tryz.prog Tryz.lays146_ren := {
 mixed := by kernel_rfl
 f138 := Tryz.func191.trans (congrArg some (by kernel_rfl))
 f143 := Tryz.func152.trans (congrArg some (by kernel_rfl))
 f146 := Tryz.func138.trans (congrArg some (by kernel_rfl))
 f195 := Tryz.func203.trans (congrArg some (by kernel_rfl))
 f197 := Tryz.func151.trans (congrArg some (by kernel_rfl))
 f217 := Tryz.func192.trans (congrArg some (by kernel_rfl))
 f218 := Tryz.func204.trans (congrArg some (by kernel_rfl))
 f219 := Tryz.func177.trans (congrArg some (by kernel_rfl))
 f221 := Tryz.func169.trans (congrArg some (by kernel_rfl))
 f224 := Tryz.func194.trans (congrArg some (by kernel_rfl))
 f225 := Tryz.func193.trans (congrArg some (by kernel_rfl))
 f260 := Tryz.func176.trans (congrArg some (by kernel_rfl))
 f266 := Tryz.func205.trans (congrArg some (by kernel_rfl))
 f267 := Tryz.func195.trans (congrArg some (by kernel_rfl))
 f268 := Tryz.func190.trans (congrArg some (by kernel_rfl))
 f314 := Tryz.func206.trans (congrArg some (by kernel_rfl))
 t0 := Tryz.underlying0
 a0 := Tryz.isAgg0
 z0 := Tryz.sizeOf0
 v0 := Tryz.zeroValue0
 t3 := Tryz.underlying3
 a3 := Tryz.isAgg3
 z3 := Tryz.sizeOf3
 v3 := Tryz.zeroValue3
 t4 := Tryz.underlying4
 a4 := Tryz.isAgg4
 z4 := Tryz.sizeOf4
 v4 := Tryz.zeroValue4
 t5 := Tryz.underlying5
 a5 := Tryz.isAgg5
 z5 := Tryz.sizeOf5
 v5 := Tryz.zeroValue5
 t9 := Tryz.underlying9
 a9 := Tryz.isAgg9
 z9 := Tryz.sizeOf9
 v9 := Tryz.zeroValue9
 t21 := Tryz.underlying21
 a21 := Tryz.isAgg21
 z21 := Tryz.sizeOf21
 v21 := Tryz.zeroValue21
 t31 := Tryz.underlying144
 a31 := Tryz.isAgg144
 z31 := Tryz.sizeOf144
 v31 := Tryz.zeroValue144
 t46 := Tryz.underlying189
 a46 := Tryz.isAgg189
 z46 := Tryz.sizeOf189
 v46 := Tryz.zeroValue189
 t51 := Tryz.underlying239
 a51 := Tryz.isAgg239
 z51 := Tryz.sizeOf239
 v51 := Tryz.zeroValue239
 t105 := Tryz.underlying214
 a105 := Tryz.isAgg214
 z105 := Tryz.sizeOf214
 v105 := Tryz.zeroValue214
 t119 := Tryz.underlying246
 a119 := Tryz.isAgg246
 z119 := Tryz.sizeOf246
 t138 := Tryz.underlying248
 a138 := Tryz.isAgg248
 z138 := Tryz.sizeOf248
 v138 := Tryz.zeroValue248
 t139 := Tryz.underlying249
 a139 := Tryz.isAgg249
 z139 := Tryz.sizeOf249
 v139 := Tryz.zeroValue249
 t146 := Tryz.underlying264
 a146 := Tryz.isAgg264
 z146 := Tryz.sizeOf264
 v146 := Tryz.zeroValue264
 g1 := by kernel_rfl
 g3 := by kernel_rfl
 g4 := by kernel_rfl }
open Go.RowKit Go.Lib in
theorem Tryz.strings_Split (s sep : ByteArray) (m : Int) (w : World) (hs : s.size < 4294967281) (hm : w.cell? ⟨2, 0, none⟩ = some (.int .i64 m)) (h1 : 1 ≤ sep.size) :
  Calls Tryz.prog 138 #[.string s, .string sep] w fun e w' =>
   e = .returned (.slice (some ⟨w.heap.size, 0, none⟩) (Lib.countB s sep + 1) (Lib.countB s sep + 1)) ∧ w' = w.alloc (.cells ((Lib.splitB sep 0 (Lib.countB s sep) s).map Value.string).toArray 9) := Any.strings_Split Tryz.lays146 (by kernel_rfl) s sep m w hs hm h1
end Go.Proofs
set_option linter.unusedVariables false
set_option linter.unusedSimpArgs false
namespace Go.Proofs.YtdkpgodakmailaaGreatDoor
open Go.Lib
theorem decFrom_append : ∀ (l m : List UInt8) (a : Nat), decFrom a (l ++ m) = (decFrom a l).bind fun n => decFrom n m
 | [], m, a => rfl
 | b :: l, m, a => by
  simp only [List.cons_append, decFrom]
  cases digitVal b with
  | none => rfl
  | some d => exact decFrom_append l m _
theorem digitVal_of {d : Nat} (h : d < 10) : digitVal (UInt8.ofNat (48 + d)) = some d := by
 unfold digitVal
 have e : (UInt8.ofNat (48 + d)).toNat = 48 + d := by rw [UInt8.toNat_ofNat']; omega
 rw [e, if_pos (by omega)]
 congr 1
 omega
theorem digitVal_back {b : UInt8} {d : Nat} (h : digitVal b = some d) : d < 10 ∧ b = UInt8.ofNat (48 + d) ∧ b.toNat = 48 + d := by
 unfold digitVal at h
 split at h
 ·rename_i hb
  cases h
  refine ⟨by omega, ?_, by omega⟩
  apply UInt8.toNat_inj.1
  rw [UInt8.toNat_ofNat']; omega
 ·cases h
theorem dec_small {u : Nat} (h : u < 10) : decDigits u = [UInt8.ofNat (48 + u)] := by rw [decDigits, dif_pos h]
theorem dec_big {u : Nat} (h : ¬ u < 10) : decDigits u = decDigits (u / 10) ++ [UInt8.ofNat (48 + u % 10)] := by rw [decDigits, dif_neg h]
theorem dec_ne (u : Nat) : decDigits u ≠ [] := by
 by_cases h : u < 10
 ·rw [dec_small h]; simp
 ·rw [dec_big h]; simp
theorem dec_val (u : Nat) : decFrom 0 (decDigits u) = some u := by
 induction u using Nat.strongRecOn with
 | _ u ih =>
  by_cases h : u < 10
  ·rw [dec_small h]
   simp only [decFrom, digitVal_of h]
   congr 1
   omega
  ·rw [dec_big h, decFrom_append, ih (u / 10) (by omega)]
   simp only [Option.bind_some, decFrom, digitVal_of (show u % 10 < 10 by omega)]
   congr 1
   omega
theorem dec_dig (u : Nat) : ∀ b ∈ decDigits u, 48 ≤ b.toNat ∧ b.toNat ≤ 57 := by
 induction u using Nat.strongRecOn with
 | _ u ih =>
  intro b hb
  by_cases h : u < 10
  ·rw [dec_small h] at hb
   obtain rfl := List.mem_singleton.1 hb
   rw [UInt8.toNat_ofNat']; omega
  ·rw [dec_big h] at hb
   rcases List.mem_append.1 hb with hb | hb
   ·exact ih (u / 10) (by omega) b hb
   ·obtain rfl := List.mem_singleton.1 hb
    rw [UInt8.toNat_ofNat']; omega
theorem dec_head {u : Nat} (h : 1 ≤ u) : ∀ b, (decDigits u).head? = some b → b.toNat ≠ 48 := by
 induction u using Nat.strongRecOn with
 | _ u ih =>
  intro b hb
  by_cases h10 : u < 10
  ·rw [dec_small h10] at hb
   simp only [List.head?_cons, Option.some.injEq] at hb
   subst hb
   rw [UInt8.toNat_ofNat']; omega
  ·rw [dec_big h10] at hb
   have hne := dec_ne (u / 10)
   obtain ⟨x, r, e⟩ := List.exists_cons_of_ne_nil hne
   rw [e] at hb
   simp only [List.cons_append, List.head?_cons, Option.some.injEq] at hb
   subst hb
   exact ih (u / 10) (by omega) (by omega) x (by rw [e]; rfl)
theorem dec_canon : ∀ (k : Nat) (r : List UInt8) (m : Nat), r.length = k → r ≠ [] → decFrom 0 r = some m → (r.length = 1 ∨ ∀ b, r.head? = some b → b.toNat ≠ 48) → decDigits m = r := by
 intro k
 induction k with
 | zero => intro r m hk hr; exact absurd (List.eq_nil_of_length_eq_zero hk) hr
 | succ k ih =>
  intro r m hk hr hd hc
  obtain ⟨r', b, rfl⟩ : ∃ r' b, r = r' ++ [b] := ⟨r.dropLast, r.getLast hr, (List.dropLast_concat_getLast hr).symm⟩
  rw [decFrom_append] at hd
  cases h1 : decFrom 0 r' with
  | none => rw [h1] at hd; cases hd
  | some m' =>
   rw [h1] at hd
   simp only [Option.bind_some, decFrom] at hd
   cases h2 : digitVal b with
   | none => rw [h2] at hd; cases hd
   | some d =>
    rw [h2] at hd
    simp only [Option.some.injEq] at hd
    obtain ⟨hd10, hb, _⟩ := digitVal_back h2
    by_cases h0 : r' = []
    ·subst h0
     have : m' = 0 := by simp only [decFrom, Option.some.injEq] at h1; exact h1.symm
     subst this
     rw [← hd, Nat.zero_mul, Nat.zero_add, dec_small hd10, hb]
     rfl
    ·have hl : 1 ≤ r'.length := by cases r' with
      | nil => exact absurd rfl h0
      | cons _ _ => simp
     have hc : ∀ b, r'.head? = some b → b.toNat ≠ 48 := by
      rcases hc with hc | hc
      ·rw [List.length_append, List.length_singleton] at hc; omega
      ·intro x hx
       refine hc x ?_
       cases r' with
       | nil => cases hx
       | cons y r'' => exact hx
     have hi := ih r' m' (by simpa using hk) h0 h1 (Or.inr hc)
     have hm : 1 ≤ m' := by
      rcases Nat.eq_zero_or_pos m' with e | e
      ·exfalso
       rw [e, dec_small (u := 0) (by omega)] at hi
       exact hc (UInt8.ofNat (48 + 0)) (by rw [← hi]; rfl) (by decide)
      ·exact e
     rw [← hd, dec_big (u := m' * 10 + d) (by omega), show (m' * 10 + d) / 10 = m' by omega, show (m' * 10 + d) % 10 = d by omega, hi, hb]
theorem decFrom_lt : ∀ (r : List UInt8) (a m : Nat), decFrom a r = some m → m < (a + 1) * 10 ^ r.length
 | [], a, m, h => by simp only [decFrom, Option.some.injEq] at h; subst h; simp
 | b :: r, a, m, h => by
  simp only [decFrom] at h
  cases hd : digitVal b with
  | none => rw [hd] at h; cases h
  | some d =>
   rw [hd] at h
   have h2 := decFrom_lt r _ _ h
   have h3 := (digitVal_back hd).1
   rw [List.length_cons, Nat.pow_succ, Nat.mul_comm (10 ^ r.length) 10, ← Nat.mul_assoc]
   refine Nat.lt_of_lt_of_le h2 (Nat.mul_le_mul_right _ ?_)
   omega
def numR (l : List UInt8) (dg : Nat) : Option Int :=
 if l.head? = some 45 then (if l.drop 1 = [] ∨ (l.drop 1).length > dg ∨ (l.drop 1).head? = some 48 then none else (decFrom 0 (l.drop 1)).map fun m : Nat => -(m : Int))
 else (if l = [] ∨ l.length > dg ∨ (l.head? = some 48 ∧ 1 < l.length) then none else (decFrom 0 l).map fun m : Nat => (m : Int))
def numG (l : List UInt8) (dg : Nat) : Option Int := match atoiAll l with
 | .ok v => if itoa v = l ∧ (if l.head? = some 45 then l.drop 1 else l).length ≤ dg then some v else none
 | _ => none
theorem itoa_neg {n : Int} (h : n < 0) : itoa n = 45 :: decDigits n.natAbs := if_pos h
theorem itoa_pos {n : Int} (h : 0 ≤ n) : itoa n = decDigits n.toNat := if_neg (by omega)
theorem dec_head45 (u : Nat) : (decDigits u).head? ≠ some 45 := by
 intro h
 have : (45 : UInt8) ∈ decDigits u := List.mem_of_head? h
 have := dec_dig u 45 this
 have e : (45 : UInt8).toNat = 45 := by decide
 omega
theorem dec_len48 {u : Nat} (h : (decDigits u).head? = some 48) : decDigits u = [48] := by
 rcases Nat.eq_zero_or_pos u with e | e
 ·subst e; rw [dec_small (by omega)]; rfl
 ·exact absurd (by decide) (dec_head e 48 h)
theorem numR_itoa {v : Int} {dg : Nat} (h : (if (itoa v).head? = some 45 then (itoa v).drop 1 else itoa v).length ≤ dg) : numR (itoa v) dg = some v := by
 unfold numR
 by_cases hv : v < 0
 ·rw [itoa_neg hv] at h ⊢
  simp only [List.head?_cons, List.drop_succ_cons, List.drop_zero, if_true] at h ⊢
  rw [if_neg, dec_val]
  ·simp only [Option.map_some, Option.some.injEq]; omega
  ·rintro (c | c | c)
   ·exact dec_ne _ c
   ·omega
   ·exact dec_head (show 1 ≤ v.natAbs by omega) 48 c (by decide)
 ·have hv : 0 ≤ v := by omega
  rw [itoa_pos hv] at h ⊢
  rw [if_neg (dec_head45 _)] at h ⊢
  rw [if_neg, dec_val]
  ·simp only [Option.map_some, Option.some.injEq]; omega
  ·rintro (c | c | ⟨c, d⟩)
   ·exact dec_ne _ c
   ·omega
   ·rw [dec_len48 c] at d; simp at d
theorem numR_some {l : List UInt8} {dg : Nat} {v : Int} (h : numR l dg = some v) : itoa v = l ∧ (if l.head? = some 45 then l.drop 1 else l).length ≤ dg ∧ ∃ m, decFrom 0 (if l.head? = some 45 then l.drop 1 else l) = some m ∧ (if l.head? = some 45 then l.drop 1 else l) ≠ [] ∧ v = (if l.head? = some 45 then -(m : Int) else m) := by
 unfold numR at h
 split at h
 ·rename_i hh
  split at h
  ·cases h
  ·rename_i hc
   simp only [not_or] at hc
   obtain ⟨c1, c2, c3⟩ := hc
   simp only [Option.map_eq_some_iff] at h
   obtain ⟨m, h1, rfl⟩ := h
   have hcan := dec_canon _ _ m rfl c1 h1 (Or.inr fun b hb e => c3 (by rw [hb]; exact congrArg some (UInt8.toNat_inj.1 (by rw [e]; decide))))
   have hm : 1 ≤ m := by
    rcases Nat.eq_zero_or_pos m with e | e
    ·exfalso
     rw [e, dec_small (u := 0) (by omega)] at hcan
     exact c3 (by rw [← hcan]; rfl)
    ·exact e
   obtain ⟨r, rfl⟩ : ∃ r, l = 45 :: r := by
    cases l with
    | nil => cases hh
    | cons b r => simp only [List.head?_cons, Option.some.injEq] at hh; exact ⟨r, by rw [hh]⟩
   simp only [List.drop_succ_cons, List.drop_zero, List.head?_cons, if_true] at *
   refine ⟨?_, by omega, m, h1, c1, rfl⟩
   rw [itoa_neg (by omega), show (-(m : Int)).natAbs = m by omega, hcan]
 ·rename_i hh
  split at h
  ·cases h
  ·rename_i hc
   simp only [not_or] at hc
   obtain ⟨c1, c2, c3⟩ := hc
   simp only [Option.map_eq_some_iff] at h
   obtain ⟨m, h1, rfl⟩ := h
   have hcan := dec_canon _ _ m rfl c1 h1 (by
    by_cases e1 : l.length = 1
    ·exact Or.inl e1
    ·refine Or.inr fun b hb e => c3 ⟨by rw [hb]; exact congrArg some (UInt8.toNat_inj.1 (by rw [e]; decide)), ?_⟩
     cases l with
     | nil => exact absurd rfl c1
     | cons x r => simp only [List.length_cons] at e1 ⊢; omega)
   simp only [if_neg hh]
   exact ⟨by rw [itoa_pos (by omega), Int.toNat_natCast, hcan], by omega, m, h1, c1, rfl⟩
theorem atoi_of {l : List UInt8} {m : Nat} (h1 : decFrom 0 (if l.head? = some 45 then l.drop 1 else l) = some m) (h2 : (if l.head? = some 45 then l.drop 1 else l) ≠ []) (h43 : l.head? ≠ some 43) : atoi l = some (if l.head? = some 45 then -(m : Int) else m) := by
 cases l with
 | nil => simp at h2
 | cons b r =>
  simp only [List.head?_cons, Option.some.injEq, List.drop_succ_cons, List.drop_zero] at *
  rw [show atoi (b :: r) = if (b == 45) = true then (decNat r).map (fun m : Nat => -(m : Int)) else if (b == 43) = true then (decNat r).map (fun m : Nat => (m : Int)) else (decNat (b :: r)).map (fun m : Nat => (m : Int)) from rfl]
  by_cases e : b = 45
  ·rw [if_pos e] at h1 h2 ⊢
   rw [if_pos (by rw [e]; rfl)]
   unfold decNat
   rw [if_neg (by simpa using h2), h1]
   rfl
  ·rw [if_neg e] at h1 h2 ⊢
   rw [if_neg (by simpa using e), if_neg (by simpa using h43)]
   unfold decNat
   rw [if_neg (by simp), h1]
   rfl
theorem numG_eq {l : List UInt8} {dg : Nat} (hd : dg ≤ 17) : numG l dg = numR l dg := by
 cases h : numR l dg with
 | some v =>
  obtain ⟨a1, a2, m, a3, a4, a5⟩ := numR_some h
  have hl : l.length ≤ 18 := by
   by_cases e : l.head? = some 45
   ·rw [if_pos e] at a2
    simp at a2; omega
   ·rw [if_neg e] at a2
    omega
  have h43 : l.head? ≠ some 43 := by
   intro e
   have e2 : l.head? ≠ some 45 := by rw [e]; decide
   rw [if_neg e2] at a3 a4
   cases l with
   | nil => cases e
   | cons b r =>
    simp only [List.head?_cons, Option.some.injEq] at e
    subst e
    simp only [decFrom, show digitVal 43 = none from by decide] at a3
    cases a3
  have e1 := atoi_of a3 a4 h43
  unfold numG
  rw [atoiAll_short l hl, e1, ← a5]
  show (if itoa v = l ∧ _ then some v else none) = some v
  rw [if_pos ⟨a1, a2⟩]
 | none =>
  unfold numG
  cases h2 : atoiAll l with
  | ok v =>
   by_cases c : itoa v = l ∧ (if l.head? = some 45 then l.drop 1 else l).length ≤ dg
   ·obtain ⟨c1, c2⟩ := c
    rw [← c1] at c2
    have := numR_itoa c2
    rw [c1, h] at this
    cases this
   ·show (if _ then some v else none) = none
    rw [if_neg c]
  | range => rfl
  | _ => rfl
def hasC (c : UInt8) (l : List UInt8) : Bool := l.contains c
def befC (c : UInt8) (l : List UInt8) : List UInt8 := l.takeWhile (· != c)
def aftC (c : UInt8) (l : List UInt8) : List UInt8 := (l.dropWhile (· != c)).drop 1
def pcs (c : UInt8) : List UInt8 → List (List UInt8)
 | [] => [[]]
 | b :: l => if b = c then [] :: pcs c l else match pcs c l with
  | h :: t => (b :: h) :: t
  | [] => [[b]]
theorem pcs_ne (c : UInt8) : ∀ l, pcs c l ≠ []
 | [] => by simp [pcs]
 | b :: l => by
  unfold pcs
  split
  ·simp
  ·split <;> simp
theorem pcs_eq (c : UInt8) : ∀ l, pcs c l = if hasC c l = true then befC c l :: pcs c (aftC c l) else [l]
 | [] => rfl
 | b :: l => by
  rw [show pcs c (b :: l) = if b = c then [] :: pcs c l else match pcs c l with
   | h :: t => (b :: h) :: t
   | [] => [[b]] from rfl]
  by_cases h : b = c
  ·subst h
   rw [if_pos rfl, if_pos (by simp [hasC])]
   simp [befC, aftC]
  ·rw [if_neg h, pcs_eq c l]
   have hb : (b != c) = true := by simpa using h
   have e1 : hasC c (b :: l) = hasC c l := by
    unfold hasC
    rw [List.contains_cons, show (c == b) = false from by simpa using fun e => h e.symm, Bool.false_or]
   rw [e1]
   by_cases h2 : hasC c l = true
   ·rw [if_pos h2, if_pos h2]
    have e2 : befC c (b :: l) = b :: befC c l := by simp [befC, hb]
    have e3 : aftC c (b :: l) = aftC c l := by simp [aftC, hb]
    rw [e2, e3]
   ·rw [if_neg h2, if_neg h2]
theorem bef_aft {c : UInt8} {l : List UInt8} (h : hasC c l = true) : l = befC c l ++ c :: aftC c l := by
 induction l with
 | nil => simp [hasC] at h
 | cons b l ih =>
  by_cases e : b = c
  ·subst e; simp [befC, aftC]
  ·have hb : (b != c) = true := by simpa using e
   have h2 : hasC c l = true := by
    unfold hasC at h ⊢
    rw [List.contains_cons, show (c == b) = false from by simpa using fun x => e x.symm, Bool.false_or] at h
    exact h
   have := ih h2
   simp only [befC, aftC, List.takeWhile_cons, List.dropWhile_cons, hb, if_true] at this ⊢
   rw [List.cons_append]
   congr 1
theorem aft_len {c : UInt8} {l : List UInt8} (h : hasC c l = true) : (aftC c l).length < l.length := by
 have := congrArg List.length (bef_aft h)
 rw [List.length_append, List.length_cons] at this
 omega
theorem pcs_len (c : UInt8) : ∀ l, (pcs c l).length = l.count c + 1
 | [] => rfl
 | b :: l => by
  have := pcs_len c l
  unfold pcs
  by_cases h : b = c
  ·subst h
   rw [if_pos rfl, List.length_cons, this, List.count_cons_self]
  ·rw [if_neg h, List.count_cons_of_ne h]
   split
   ·rename_i x t e; rw [e] at this; simpa using this
   ·rename_i e; exact absurd e (pcs_ne c l)
theorem pcs_part {c : UInt8} {l : List UInt8} {p : List UInt8} (h : p ∈ pcs c l) : p.length ≤ l.length := by
 have key : ∀ l, ∀ p ∈ pcs c l, p.length ≤ l.length := by
  intro l
  induction l with
  | nil => intro p h; simp [pcs] at h; subst h; simp
  | cons b l ih =>
   intro p h
   unfold pcs at h
   by_cases e : b = c
   ·rw [if_pos e] at h
    rcases List.mem_cons.1 h with rfl | h
    ·simp
    ·have := ih p h; simp; omega
   ·rw [if_neg e] at h
    split at h
    ·rename_i x t ex
     rcases List.mem_cons.1 h with rfl | h
     ·have := ih x (by rw [ex]; simp); simp; omega
     ·have := ih p (by rw [ex]; simp [h]); simp; omega
    ·rename_i ex; exact absurd ex (pcs_ne c l)
 exact key l p h
def jnC (c : UInt8) : List (List UInt8) → List UInt8
 | [] => []
 | [p] => p
 | p :: q :: r => p ++ c :: jnC c (q :: r)
theorem jn_join (c : UInt8) : ∀ ps, join ps [c] = jnC c ps
 | [] => rfl
 | [p] => by rw [join_one]; rfl
 | p :: q :: r => by
  have ih := jn_join c (q :: r)
  rw [join_cons] at ih ⊢
  unfold jnC
  rw [← ih]
  simp [joinTail]
theorem pcs_app {c : UInt8} : ∀ {p : List UInt8} (l : List UInt8), hasC c p = false → pcs c (p ++ c :: l) = p :: pcs c l
 | [], l, _ => by rw [List.nil_append, pcs, if_pos rfl]
 | b :: p, l, h => by
  unfold hasC at h
  rw [List.contains_cons, Bool.or_eq_false_iff] at h
  have hb : ¬ b = c := fun e => by have := h.1; rw [e] at this; simp at this
  rw [List.cons_append, pcs, if_neg hb, pcs_app l h.2]
theorem pcs_one {c : UInt8} {p : List UInt8} (h : hasC c p = false) : pcs c p = [p] := by
 rw [pcs_eq, if_neg (by rw [h]; simp)]
theorem pcs_jn {c : UInt8} : ∀ {ps : List (List UInt8)}, ps ≠ [] → (∀ p ∈ ps, hasC c p = false) → pcs c (jnC c ps) = ps
 | [], h, _ => absurd rfl h
 | [p], _, h => pcs_one (h p (by simp))
 | p :: q :: r, _, h => by
  unfold jnC
  rw [pcs_app _ (h p (by simp)), pcs_jn (by simp) fun x hx => h x (List.mem_cons_of_mem _ hx)]
theorem idx_has (c : UInt8) : ∀ l, (index l [c] = -1 ∧ hasC c l = false) ∨ (hasC c l = true ∧ index l [c] = (befC c l).length) := by
 intro l
 rw [index_one]
 induction l with
 | nil => exact Or.inl ⟨rfl, rfl⟩
 | cons b l ih =>
  unfold indexByte
  by_cases e : b = c
  ·subst e
   right
   simp [hasC, befC]
  ·have hb : (b == c) = false := by simpa using e
   have hb2 : (b != c) = true := by simpa using e
   have e1 : hasC c (b :: l) = hasC c l := by
    unfold hasC
    rw [List.contains_cons, show (c == b) = false from by simpa using fun z => e z.symm, Bool.false_or]
   have e2 : befC c (b :: l) = b :: befC c l := by simp [befC, hb2]
   rw [hb, e1, e2]
   rcases ih with ⟨h1, h2⟩ | ⟨h1, h2⟩
   ·left; rw [h1]; exact ⟨rfl, h2⟩
   ·right
    rw [h2]
    have : (((befC c l).length : Int) == -1) = false := by rw [beq_eq_false_iff_ne]; omega
    refine ⟨h1, ?_⟩
    rw [this]
    simp
theorem cut_one (c : UInt8) (l : List UInt8) : cut l [c] = if hasC c l = true then (befC c l, aftC c l, true) else (l, [], false) := by
 unfold cut
 rcases idx_has c l with ⟨h1, h2⟩ | ⟨h1, h2⟩
 ·rw [h1, h2, if_neg (by omega), if_neg (by simp)]
 ·rw [h2, h1, if_pos (by omega), if_pos rfl]
  have e := bef_aft h1
  have e3 : l.take (befC c l).length = befC c l := by
   have h := congrArg (List.take (befC c l).length) e
   rwa [List.take_left] at h
  have e4 : l.drop ((befC c l).length + 1) = aftC c l := by
   have h := congrArg (List.drop ((befC c l).length + 1)) e
   rw [h, List.drop_append]
   simp
  rw [Int.toNat_natCast, List.length_singleton, e3, e4]
theorem trim_one (l : List UInt8) : trimPrefix l [45] = if l.head? = some 45 then l.drop 1 else l := by
 unfold trimPrefix hasPrefix
 cases l with
 | nil => rfl
 | cons b r =>
  simp only [List.head?_cons, Option.some.injEq]
  by_cases e : b = 45
  ·subst e; simp [List.isPrefixOf]
  ·rw [if_neg e, if_neg]
   simp [List.isPrefixOf]
   exact fun h => e h.symm
end Go.Proofs.YtdkpgodakmailaaGreatDoor
set_option linter.unusedVariables false
set_option linter.unusedSimpArgs false
namespace Go.Proofs.YtdkpgodakmailaaGreatDoor
open Go.RowKit Ev
def txAt (l : List ByteArray) (i : Nat) : ByteArray := l.getD i ByteArray.empty
instance lawfulBytes : LawfulBEq ByteArray where
 eq_of_beq {a b} h := by
  rw [beq_toListBytes, ByteArray.toList_eq, ByteArray.toList_eq] at h
  exact ByteArray.ext (Array.toList_inj.1 (eq_of_beq h))
 rfl {a} := by rw [beq_toListBytes]; simp
def cvStr : CV → ByteArray
 | .v (.string s) => s
 | _ => ByteArray.empty
def txsC (l : List ByteArray) : Nat → Nat → CV := fun i _ => .v (.string (txAt l i))
def txOf (n : Nat) (c : Nat → Nat → CV) : List ByteArray := (List.range n).map fun i => cvStr (c i 0)
def txP (n : Nat) (c : Nat → Nat → CV) : Prop := ∀ i, i < n → c i 0 = .v (.string (cvStr (c i 0)))
theorem txOf_len {n : Nat} {c : Nat → Nat → CV} : (txOf n c).length = n := by simp [txOf]
theorem leSlT {sz n : Nat} {c c' : Nat → Nat → CV} (h : ∀ i j, i < n → j < sz → LeC1 (c i j) (c' i j)) : LeC1 (.sl sz n c) (.sl sz n c') := by
 rintro w N v ⟨ao, cap, h1, h2, h3, h4, h5⟩
 refine ⟨ao, cap, h1, h2, h3, h4, fun h0 => ?_⟩
 obtain ⟨b, off, g1, g2, g3, g4⟩ := h5 h0
 refine ⟨b, off, g1, g2, g3, fun i j hi hj => ?_⟩
 obtain ⟨x, e1, e2⟩ := g4 i j hi hj
 exact ⟨x, e1, h i j hi hj _ _ _ e2⟩
theorem plain_str (l : List ByteArray) (i j : Nat) : ∃ y, txsC l i j = .v y := ⟨_, rfl⟩
end Go.Proofs.YtdkpgodakmailaaGreatDoor
set_option linter.unusedVariables false
set_option linter.unusedSimpArgs false
namespace Go.Proofs.YtdkpgodakmailaaGreatDoor
open Go.RowKit Ev
def ofL (l : List UInt8) : ByteArray := ⟨l.toArray⟩
theorem ofL_data (l : List UInt8) : (ofL l).data.toList = l := rfl
theorem ofL_back (s : ByteArray) : ofL s.data.toList = s := by
 obtain ⟨⟨l⟩⟩ := s
 rfl
theorem ofL_size (l : List UInt8) : (ofL l).size = l.length := by
 show l.toArray.size = _
 simp
theorem ofL_inj {l m : List UInt8} (h : ofL l = ofL m) : l = m := by rw [← ofL_data l, h, ofL_data]
theorem size_data (s : ByteArray) : s.data.toList.length = s.size := Array.length_toList
def itoaB (n : Int) : ByteArray := ofL (Lib.itoa n)
def joinB (l : List ByteArray) (sep : ByteArray) : ByteArray := ofL (Lib.join (l.map (·.data.toList)) sep.data.toList)
def trimB (s p : ByteArray) : ByteArray := ofL (Lib.trimPrefix s.data.toList p.data.toList)
def cutA (s sep : ByteArray) : ByteArray := ofL (Lib.cut s.data.toList sep.data.toList).1
def cutZ (s sep : ByteArray) : ByteArray := ofL (Lib.cut s.data.toList sep.data.toList).2.1
def cutH (s sep : ByteArray) : Bool := (Lib.cut s.data.toList sep.data.toList).2.2
def splB (s sep : ByteArray) : List ByteArray := Lib.splitB sep 0 (Lib.countB s sep) s
def atoB (s : ByteArray) : Bool := match Lib.atoiAll s.data.toList with
 | .ok _ => true
 | _ => false
def atoV (s : ByteArray) : Int := match Lib.atoiAll s.data.toList with
 | .ok v => v
 | .range => Lib.atoiSat s.data.toList
 | _ => 0
theorem pow_is {W : World} (h : Gd W) : Lib.TabIs Tryz.prog W "internal/strconv.uint64pow10" .u64 Lib.pow10Tab := by
 unfold Lib.TabIs World.var?
 rw [show Tryz.prog.globalNamed "internal/strconv.uint64pow10" = some 7 from by kernel_rfl]
 exact h.2.pow
theorem below_grow (w : World) (os : Array Obj) : Below w.heap.size w (Go.Sort.grow w os) :=
 ⟨rfl, rfl, rfl, by simp, fun k hk => by simp [Go.Sort.grow, Array.getElem?_append_left hk]⟩
theorem below_dn (w : World) (n : Nat) : Below w.heap.size w (w.drewN n) := ⟨rfl, rfl, rfl, Nat.le_refl _, fun _ _ => rfl⟩
def con_Itoa : Con := fun args => match args with
 | [.t (.c (.v (.int .i64 n)))] => some (.t (.c (.v (.string (itoaB n)))), some (-9223372036854775808 ≤ n ∧ n ≤ 9223372036854775807), .no)
 | _ => none
theorem ok_Itoa : Ok Tryz.prog 115 con_Itoa := by
 refine Ok.oldGd (Enters.of (fn := Tryz.f115) (by kernel_rfl) (by kernel_rfl) (by kernel_rfl)) fun args r pre fresh h hp => ?_
 unfold con_Itoa at h
 split at h
 ·rename_i n
  cases h
  refine ⟨rfl, _, rfl, fun W N vs hG hv => ?_⟩
  obtain ⟨u0, ws0, rfl, g0, hv0⟩ := hv.cons_inv
  obtain rfl := hv0.nil_inv
  obtain rfl : u0 = .int .i64 n := g0.1
  refine (Tryz.strconv_Itoa n hp.1 hp.2 W (pow_is hG)).mono ?_
  rintro e w' ⟨rfl, k, os, rfl⟩
  exact ⟨rfl, (below_dn W k).trans ((below_grow (W.drewN k) os).mono (Nat.le_refl _))⟩
 ·cases h
def con_Trim : Con := fun args => match args with
 | [.t (.c (.v (.string s))), .t (.c (.v (.string p)))] => some (.t (.c (.v (.string (trimB s p)))), none, .no)
 | _ => none
theorem ok_Trim : Ok Tryz.prog 116 con_Trim := by
 refine Ok.oldGd (Enters.of (fn := Tryz.f116) (by kernel_rfl) (by kernel_rfl) (by kernel_rfl)) fun args r pre fresh h hp => ?_
 unfold con_Trim at h
 split at h
 ·rename_i s p
  cases h
  refine ⟨rfl, _, rfl, fun W N vs hG hv => ?_⟩
  obtain ⟨u0, ws0, rfl, g0, hv0⟩ := hv.cons_inv
  obtain ⟨u1, ws1, rfl, g1, hv1⟩ := hv0.cons_inv
  obtain rfl := hv1.nil_inv
  obtain rfl : u0 = .string s := g0.1
  obtain rfl : u1 = .string p := g1.1
  refine (Tryz.strings_TrimPrefix s p W).mono ?_
  rintro e w' ⟨rfl, rfl⟩
  exact ⟨rfl, Below.refl _ _⟩
 ·cases h
def con_Atoi : Con := fun args => match args with
 | [.t (.c (.v (.string s)))] => some (.tu [.c (.v (.int .i64 (atoV s))), .c (.er (atoB s))], some (s.size ≤ 1000000000), .no)
 | _ => none
theorem ok_Atoi : Ok Tryz.prog 114 con_Atoi := by
 intro args r pre fresh h hp
 unfold con_Atoi at h
 split at h
 ·rename_i s
  cases h
  refine ⟨Enters.of (fn := Tryz.f114) (by kernel_rfl) (by kernel_rfl) (by kernel_rfl), fun W N vs hG hv => ?_⟩
  have hv : All2 (RelD (RelF W N)) [.t (.c (.v (.string s)))] vs := hv
  obtain ⟨u0, ws0, rfl, g0, hv0⟩ := hv.cons_inv
  obtain rfl := hv0.nil_inv
  obtain rfl : u0 = .string s := g0.1
  have hp : s.size ≤ 1000000000 := hp
  cases ha : Lib.atoiAll s.data.toList with
  | ok v =>
   refine (Tryz.strconv_Atoi_ok s (by omega) v ha W).mono ?_
   rintro e w' ⟨rfl, hw⟩
   have e1 : atoB s = true := by unfold atoB; rw [ha]
   have e2 : atoV s = v := by unfold atoV; rw [ha]
   refine ⟨_, rfl, ⟨[_, _], rfl, ⟨by rw [e2], rfl⟩, Or.inl ⟨e1, rfl⟩, trivial⟩, ?_⟩
   rcases hw with rfl | ⟨t, rfl⟩
   ·exact Below.refl _ _
   ·exact Go.Joins.below_bytesWorld _ _ _ _ (Nat.le_refl _)
  | range =>
   obtain ⟨t, p, hc⟩ := hG.2.rng
   refine (Tryz.strconv_Atoi_range s (by omega) ha _ W hc (Or.inr ⟨t, p, rfl⟩)).mono ?_
   rintro e w' ⟨n, rfl, _, _, hb⟩
   have e1 : atoB s = false := by unfold atoB; rw [ha]
   have e2 : atoV s = Lib.atoiSat s.data.toList := by unfold atoV; rw [ha]
   exact ⟨_, rfl, ⟨[_, _], rfl, ⟨by rw [e2], rfl⟩, Or.inr ⟨e1, _, _, rfl⟩, trivial⟩, hb⟩
  | _ =>
   obtain ⟨t, p, hc⟩ := hG.2.syn
   refine (Tryz.strconv_Atoi_syntax s (by omega) ha _ W hc (Or.inr ⟨t, p, rfl⟩)).mono ?_
   rintro e w' ⟨n, rfl, _, _, hb⟩
   have e1 : atoB s = false := by unfold atoB; rw [ha]
   have e2 : atoV s = 0 := by unfold atoV; rw [ha]
   exact ⟨_, rfl, ⟨[_, _], rfl, ⟨by rw [e2], rfl⟩, Or.inr ⟨e1, _, _, rfl⟩, trivial⟩, hb⟩
 ·cases h
def con_Join : Con := fun args => match args with
 | [.t (.c (.sl 1 n c)), .t (.c (.v (.string p)))] => some (.t (.c (.v (.string (joinB (txOf n c) p)))), some (txP n c ∧ (txOf n c).length ≤ 1000000 ∧ (joinB (txOf n c) p).size ≤ 1000000000), .no)
 | _ => none
theorem ok_Join : Ok Tryz.prog 87 con_Join := by
 refine Ok.oldGd (Enters.of (fn := Tryz.f87) (by kernel_rfl) (by kernel_rfl) (by kernel_rfl)) fun args r pre fresh h hp => ?_
 unfold con_Join at h
 split at h
 ·rename_i n c p
  cases h
  obtain ⟨hp1, hp2, hp3⟩ := hp
  refine ⟨rfl, _, rfl, fun W N vs hG hv => ?_⟩
  obtain ⟨u0, ws0, rfl, g0, hv0⟩ := hv.cons_inv
  obtain ⟨u1, ws1, rfl, g1, hv1⟩ := hv0.cons_inv
  obtain rfl := hv1.nil_inv
  obtain rfl : u1 = .string p := g1.1
  have g0 : RelF W N (.sl 1 n c) u0 := g0
  obtain ⟨ao, cap, rfl, hcap, hmx, hnil, hcells⟩ := g0
  rw [txOf_len] at hp2
  rcases Nat.eq_zero_or_pos n with rfl | hn
  ·refine (Tryz.strings_Join_none ao cap p W).mono ?_
   rintro e w' ⟨rfl, rfl⟩
   exact ⟨rfl, Below.refl _ _⟩
  ·obtain ⟨b, off, rfl, hb, hN, hc⟩ := hcells hn
   have hj : (Lib.join ((txOf n c).map (·.data.toList)) p.data.toList).length ≤ 140737488355328 := by
    unfold joinB at hp3
    rw [ofL_size] at hp3
    omega
   have hq := Tryz.strings_Join b off cap (txOf n c) p W (fun j x hx => by
    have hj : j < n := by have := (List.getElem?_eq_some_iff.1 hx).1; rwa [txOf_len] at this
    obtain ⟨y, y1, y2⟩ := hc j 0 hj (by omega)
    rw [hp1 j hj] at y2
    rw [show off + j = off + j * 1 + 0 by omega, y1, y2.1]
    have : (txOf n c)[j]? = some (cvStr (c j 0)) := by simp [txOf, hj]
    rw [this] at hx
    cases hx
    rfl) hb (by rw [txOf_len]; omega) (by rw [txOf_len]; exact hcap) hj
   rw [txOf_len] at hq
   refine hq.mono ?_
   rintro e w' ⟨rfl, hb⟩
   exact ⟨rfl, hb⟩
 ·cases h
def con_Split : Con := fun args => match args with
 | [.t (.c (.v (.string s))), .t (.c (.v (.string p)))] => some (.t (.c (.sl 1 (splB s p).length (txsC (splB s p)))), some (s.size ≤ 1000000000 ∧ 1 ≤ p.size ∧ (splB s p).length = Lib.countB s p + 1), .new)
 | _ => none
theorem ok_Split : Ok Tryz.prog 138 con_Split := by
 intro args r pre fresh h hp
 unfold con_Split at h
 split at h
 ·rename_i s p
  cases h
  obtain ⟨hp1, hp2, hp3⟩ := hp
  refine ⟨Enters.of (fn := Tryz.f138) (by kernel_rfl) (by kernel_rfl) (by kernel_rfl), fun W N vs hG hv => ?_⟩
  have hv : All2 (RelD (RelF W N)) [.t (.c (.v (.string s))), .t (.c (.v (.string p)))] vs := hv
  obtain ⟨u0, ws0, rfl, g0, hv0⟩ := hv.cons_inv
  obtain ⟨u1, ws1, rfl, g1, hv1⟩ := hv0.cons_inv
  obtain rfl := hv1.nil_inv
  obtain rfl : u0 = .string s := g0.1
  obtain rfl : u1 = .string p := g1.1
  obtain ⟨m, hm⟩ := hG.2.len
  refine (Tryz.strings_Split s p m W (by omega) hm hp2).mono ?_
  rintro e w' ⟨rfl, rfl⟩
  refine ⟨_, rfl, ?_, (Below.refl _ _).alloc (Nat.le_refl _) _⟩
  show RelF _ _ (.sl 1 (splB s p).length (txsC (splB s p))) _
  rw [hp3]
  refine ⟨_, _, rfl, Nat.le_refl _, ?_, (fun h => by cases h), fun _ => ⟨W.heap.size, 0, rfl, by simp, Or.inr (Nat.le_refl _), fun i j hi hj => ?_⟩⟩
  ·have : Lib.countB s p ≤ s.size + 1 := by have := Lib.count_le s.data.toList p.data.toList; rw [size_data] at this; exact this
   unfold maxLen; omega
  ·obtain rfl : j = 0 := by omega
   refine ⟨.string (txAt (splB s p) i), ?_, rfl, rfl⟩
   have hi' : i < (splB s p).length := by rw [hp3]; exact hi
   have hnew : (W.alloc (.cells ((splB s p).map Value.string).toArray 9)).heap[W.heap.size]? = some (.cells ((splB s p).map Value.string).toArray 9) := World.alloc_heap_new W _
   have e : (((splB s p).map Value.string).toArray)[0 + i * 1 + 0]? = some (.string (txAt (splB s p) i)) := by
    simp [txAt, List.getD, hi']
   show World.cell? (W.alloc (.cells ((splB s p).map Value.string).toArray 9)) _ = _
   simp only [World.cell?, hnew]
   exact e
 ·cases h
end Go.Proofs.YtdkpgodakmailaaGreatDoor
set_option linter.unusedVariables false
set_option linter.unusedSimpArgs false
namespace Go.Proofs.YtdkpgodakmailaaGreatDoor
open Go.RowKit Ev
def remC (c : UInt8) (l : List UInt8) : Nat → List UInt8
 | 0 => l
 | i + 1 => aftC c (remC c l i)
theorem rem_pcs (c : UInt8) (l : List UInt8) : ∀ i, i < (pcs c l).length → (pcs c (remC c l i)).length + i = (pcs c l).length
 | 0, _ => rfl
 | i + 1, h => by
  have ih := rem_pcs c l i (by omega)
  have e := pcs_eq c (remC c l i)
  by_cases hh : hasC c (remC c l i) = true
  ·rw [if_pos hh] at e
   rw [e, List.length_cons] at ih
   show (pcs c (aftC c (remC c l i))).length + (i + 1) = _
   omega
  ·rw [if_neg hh] at e
   rw [e, List.length_singleton] at ih
   omega
theorem rem_has {c : UInt8} {l : List UInt8} {i : Nat} (h : i < (pcs c l).length) : hasC c (remC c l i) = true ↔ i + 1 < (pcs c l).length := by
 have ih := rem_pcs c l i h
 have e := pcs_eq c (remC c l i)
 by_cases hh : hasC c (remC c l i) = true
 ·rw [if_pos hh] at e
  rw [e, List.length_cons] at ih
  have := List.length_pos_iff.2 (pcs_ne c (aftC c (remC c l i)))
  exact ⟨fun _ => by omega, fun _ => hh⟩
 ·rw [if_neg hh] at e
  rw [e, List.length_singleton] at ih
  exact ⟨fun h => absurd h hh, fun _ => by omega⟩
theorem rem_len (c : UInt8) (l : List UInt8) : ∀ i, (remC c l i).length ≤ l.length
 | 0 => Nat.le_refl _
 | i + 1 => by
  have := rem_len c l i
  show (aftC c (remC c l i)).length ≤ _
  unfold aftC
  have h1 := (List.dropWhile_sublist (l := remC c l i) (· != c)).length_le
  rw [List.length_drop]
  omega
theorem rem_at {c : UInt8} {l : List UInt8} {i : Nat} (h : i < (pcs c l).length) : (pcs c l).drop i = pcs c (remC c l i) := by
 induction i with
 | zero => rfl
 | succ i ih =>
  have hi := ih (by omega)
  have hh := (rem_has (show i < (pcs c l).length by omega)).2 h
  rw [← List.drop_drop, hi, pcs_eq c (remC c l i), if_pos hh]
  rfl
theorem cutA_one (c : UInt8) (l : List UInt8) : cutA (ofL l) ⟨#[c]⟩ = ofL (if hasC c l = true then befC c l else l) := by
 unfold cutA
 rw [ofL_data, show (⟨#[c]⟩ : ByteArray).data.toList = [c] from rfl, cut_one]
 split <;> rfl
theorem cutZ_one (c : UInt8) (l : List UInt8) : cutZ (ofL l) ⟨#[c]⟩ = ofL (if hasC c l = true then aftC c l else []) := by
 unfold cutZ
 rw [ofL_data, show (⟨#[c]⟩ : ByteArray).data.toList = [c] from rfl, cut_one]
 split <;> rfl
theorem cutH_one (c : UInt8) (l : List UInt8) : cutH (ofL l) ⟨#[c]⟩ = hasC c l := by
 unfold cutH
 rw [ofL_data, show (⟨#[c]⟩ : ByteArray).data.toList = [c] from rfl, cut_one]
 split
 ·rename_i h; rw [h]
 ·rename_i h; simpa using h
def strAt (w : World) (B : Nat) : Nat := match w.cell? ⟨B, 0, none⟩ with
 | some (.string s) => s.size
 | _ => 0
theorem strAt_of {w : World} {B : Nat} {s : ByteArray} {ty : TypeId} {p : Nat × Nat} (h : w.heap[B]? = some (.cells #[.string s] ty p)) : strAt w B = s.size := by
 unfold strAt World.cell?
 simp [h]
theorem ext_take (l : List UInt8) (a : Nat) : (ofL l).extract 0 a = ofL (l.take a) := by
 rw [← ofL_back ((ofL l).extract 0 a), Lib.extract_from_zero, ofL_data]
theorem ext_drop (l : List UInt8) (a : Nat) : (ofL l).extract a (ofL l).size = ofL (l.drop a) := by
 rw [← ofL_back ((ofL l).extract a (ofL l).size), Lib.extract_to_end, ofL_data]
theorem take_bef {c : UInt8} {l : List UInt8} (h : hasC c l = true) : befC c l = l.take (befC c l).length := by
 have e := congrArg (List.take (befC c l).length) (bef_aft h)
 rw [List.take_left] at e
 exact e.symm
theorem drop_bef {c : UInt8} {l : List UInt8} (h : hasC c l = true) : l.drop ((befC c l).length + 1) = aftC c l := by
 have e := congrArg (List.drop ((befC c l).length + 1)) (bef_aft h)
 rw [e, List.drop_append]
 simp
theorem setCell_row {w : World} {B : Nat} {x v : Value} {ty : TypeId} {p : Nat × Nat} (h : w.heap[B]? = some (.cells #[x] ty p)) : w.setCell ⟨B, 0, none⟩ v = w.setRow B #[v] := by
 unfold World.setCell World.setRow
 congr 1
 apply Array.ext_getElem?
 intro i
 rw [Array.getElem?_modify, Array.getElem?_modify]
 by_cases e : B = i
 ·subst e
  simp [h]
 ·simp [e]
set_option maxRecDepth 100000 in
set_option maxHeartbeats 4000000 in
theorem seq_split (w : World) (N : Nat → Prop) (us vs : List Value) (B : Nat) (c : UInt8) (l : List UInt8) (hl : l.length ≤ 1000000000)
  (hu : All2 (RelF w N) [.px 1 0 (fun _ => .v (.string ⟨#[c]⟩))] us) (hv : All2 (RelF w N) [.px 1 0 (fun _ => .v (.int .i64 0))] vs) (hB : w.heap[B]? = some (.cells #[.string (ofL l)] 9 (0, 0))) (hNB : ¬ N B) :
  SeqItM Tryz.prog 150 #[] (us ++ .pointer (some ⟨B, 0, none⟩) :: vs).toArray B 9 (fun i => .string (ofL (remC c l i))) (pcs c l).length (fun i => #[.string (cutA (ofL (remC c l i)) ⟨#[c]⟩)]) N w := by
 intro ly J Jb Jx W hb hJ hJb hJx hgJ hgB hgX hc hcb hY hnext h0
 refine callsIn_of_wp Tryz.func150 rfl trivial ?_ rfl
 obtain ⟨v0, us0, rfl, r0, hu0⟩ := hu.cons_inv
 obtain rfl := hu0.nil_inv
 obtain ⟨v2, vs0, rfl, r2, hv0⟩ := hv.cons_inv
 obtain rfl := hv0.nil_inv
 obtain ⟨b0, o0, rfl, hb0, hN0, hc0⟩ := r0
 obtain ⟨b2, o2, rfl, hb2, hN2, hc2⟩ := r2
 obtain ⟨x0, hx0, rfl, _⟩ := hc0 0 (by omega)
 obtain ⟨x2, hx2, rfl, _⟩ := hc2 0 (by omega)
 rw [Nat.add_zero] at hx0 hx2
 simp only [Nat.add_zero]
 simp only [Tryz.ntmps150, List.size_toArray, List.length_cons, List.length_nil, Nat.reduceAdd, Nat.reduceSub, Array.replicate_succ, Array.replicate_zero, List.push_toArray, List.append_toArray, List.nil_append, List.cons_append]
 have hW := hb.size
 have cell0 : ∀ wr : World, (∀ b, b < w.heap.size → N b → wr.heap[b]? = W.heap[b]?) → wr.cell? ⟨b0, o0, none⟩ = some (.string ⟨#[c]⟩) := fun wr h => (World.cell?_of_block (w := w) (a := ⟨b0, o0, none⟩) ((h b0 hb0 hN0).trans (hb.block b0 hb0))).trans hx0
 have cell2 : ∀ wr : World, (∀ b, b < w.heap.size → N b → wr.heap[b]? = W.heap[b]?) → wr.cell? ⟨b2, o2, none⟩ = some (.int .i64 0) := fun wr h => (World.cell?_of_block (w := w) (a := ⟨b2, o2, none⟩) ((h b2 hb2 hN2).trans (hb.block b2 hb2))).trans hx2
 have cellW := cell0 W (fun _ _ _ => rfl)
 have HC0 := hid cell0
 have HC2 := hid cell2
 have HY := hid hY
 have HJ := hid hJ
 have HG := hid hgJ
 have HCC := hid hc
 have HCB2 := hid hcb
 have HNX := hid hnext
 have HL := hid hl
 clear cell0 cell2 hY hl hJ hJb hgJ hgB hgX hJx hc0 hc2 hu hv hu0 hv0 hc hcb hnext hx0 hx2 hB
 gi_wp2
 gi_loopw [7] (fun iv wr => ∃ k : Nat, k < (pcs c l).length ∧ J k wr ∧ W.heap.size ≤ wr.heap.size ∧ Hid (∀ b, b < w.heap.size → N b → wr.heap[b]? = W.heap[b]?)) (fun _ wr => strAt wr B)
 case atStart => exact ⟨0, List.length_pos_iff.2 (pcs_ne c l), h0, Nat.le_refl _, hid fun b hb0 _ => rfl⟩
 case round =>
  obtain ⟨k, hk, hJs, hsz, HK⟩ := hrel
  have hcB := HCC.out k wr hJs
  have cB : wr.cell? ⟨B, 0, none⟩ = some (.string (ofL (remC c l k))) := by simp [World.cell?, hcB]
  have c0 := HC0.out wr HK.out
  have c2 := HC2.out wr HK.out
  obtain ⟨mx, hmx⟩ := (HG.out k wr hJs).2.len
  have hr9 : (remC c l k).length ≤ 1000000000 := Nat.le_trans (rem_len c l k) HL.out
  have HIX := hid (Tryz.strings_Index (ofL (remC c l k)) ⟨#[c]⟩ mx wr (by rw [ofL_size]; omega) hmx)
  have hst : strAt wr B = (remC c l k).length := by rw [strAt_of hcB, ofL_size]
  have HST := hid hst
  have HCB := hid hcB
  clear hmx hst hcB
  rw [ofL_data, show (⟨#[c]⟩ : ByteArray).data.toList = [c] from rfl] at HIX
  have hcA := cutA_one c (remC c l k)
  have HRM := hid (rem_has hk)
  have hnx : remC c l (k + 1) = aftC c (remC c l k) := rfl
  have HRN := hid hnx
  clear hnx
  obtain ⟨fn, tmps, assign, body, hy, hR⟩ := HY.out k wr hk hJs
  have HK2 := hid hk
  clear hk
  generalize hr : remC c l k = r at HIX HST HCB HRM HRN hy hR cB hcA hr9
  have HR := hid hr
  clear hr
  rcases idx_has c r with ⟨h1, h2⟩ | ⟨h2, h1⟩
  ·rw [h2, if_neg (by simp)] at hcA
   rw [h1] at HIX
   have hkn : k + 1 = (pcs c l).length := by
    have h3 := HK2.out
    rcases Nat.lt_or_ge (k + 1) (pcs c l).length with h | h
    ·have := (HRM.out).2 h; rw [h2] at this; cases this
    ·omega
   have HKN := hid hkn
   rw [hcA] at hy
   clear h1 h2 hcA hkn
   gi_wp2
   refine ⟨trivial, rfl, callsIn_wide.2 (HIX.out.mono ?_)⟩
   rintro _ w1 ⟨rfl, rfl⟩
   gi_wp2
   refine ⟨rfl, hR.mono ?_⟩
   rintro e W3 (⟨rfl, hJ3, ⟨hs3, hk3⟩, _⟩ | ⟨rfl, hJx3⟩)
   ·gi_wp2
    go_end0
    refine ⟨⟨_, rfl⟩, .inl ?_⟩
    rw [← HKN.out]
    exact hJ3
   ·gi_wp2
    go_end0
    exact ⟨⟨_, rfl⟩, .inr hJx3⟩
  ·rw [h2, if_pos rfl] at hcA
   rw [h1] at HIX
   have he := bef_aft h2
   obtain ⟨m, hm⟩ : ∃ m, m = (befC c r).length := ⟨_, rfl⟩
   rw [← hm] at HIX
   have HM := hid hm
   have hrl : m + 1 + (aftC c r).length = r.length := by
    have := congrArg List.length he
    rw [List.length_append, List.length_cons] at this
    omega
   have HRL := hid hrl
   have HE := hid he
   have HCA := hid hcA
   have HH := hid h2
   clear hm he hcA h2 h1 hrl
   gi_wp2
   refine ⟨trivial, rfl, callsIn_wide.2 (HIX.out.mono ?_)⟩
   rintro _ w1 ⟨rfl, rfl⟩
   have hm9 : m + 1 ≤ 1000000000 := by have := HRL.out; omega
   have hw : wrap64 (m : Int) = m := IntWalk.wrap64_in _ (by omega)
   have hmr : m ≤ (ofL r).size := by rw [ofL_size]; have := HRL.out; omega
   have hx : cutA (ofL r) ⟨#[c]⟩ = (ofL r).extract 0 m := by rw [HCA.out, HM.out, ext_take, ← take_bef HH.out]
   rw [hx] at hy
   have hx2 : (ofL r).extract (m + 1) (ofL r).size = ofL (remC c l (k + 1)) := by rw [HRN.out, HM.out, ext_drop, drop_bef HH.out]
   have HX2 := hid hx2
   have hw1 : wrap64 ((m : Int) + 1) = (m : Int) + 1 := IntWalk.wrap64_in _ (by omega)
   have hmr1 : m + 1 ≤ (ofL r).size := by rw [ofL_size]; have := HRL.out; omega
   clear hx hx2
   gi_wp2
   refine ⟨rfl, hR.mono ?_⟩
   rintro e W3 (⟨rfl, hJ3, ⟨hs3, hk3⟩, _⟩ | ⟨rfl, hJx3⟩)
   ·have hb3 := HCB2.out k W3 hJ3
    rw [HR.out] at hb3
    have d1 : W3.cell? ⟨B, 0, none⟩ = some (.string (ofL r)) := by simp [World.cell?, hb3]
    have d2 : W3.frozen? ⟨B, 0, none⟩ = false := by simp [World.frozen?, hb3]
    have hkW : ∀ b, b < w.heap.size → N b → W3.heap[b]? = W.heap[b]? := fun b h1 h2 => (hk3 b h1 h2).trans (HK.out b h1 h2)
    have d0 := HC0.out W3 hkW
    have HB3 := hid hb3
    have HKW := hid hkW
    have HS3 := hid hs3
    clear hb3 hkW hk3 hs3
    gi_wp2
    go_roundw
    case rel =>
     have e1 := (HRM.out).1 HH.out
     have e2 := HNX.out k W3 e1 hJ3
     rw [← setCell_row HB3.out, ← HX2.out] at e2
     refine ⟨k + 1, e1, e2, ?_, hid fun b h1 h2 => ?_⟩
     ·have := HS3.out
      rw [World.size_setCell]
      omega
     ·rw [Below.heap_setCell _ _ _ _ (fun e => hNB (by have e : b = B := e; rw [← e]; exact h2)), HKW.out b h1 h2]
    case measure =>
     have e3 : (W3.setCell ⟨B, 0, none⟩ (Value.string ((ofL r).extract (m + 1) (ofL r).size))).heap[B]? = some (.cells #[Value.string ((ofL r).extract (m + 1) (ofL r).size)] 9 (0, 0)) := by
      rw [setCell_row HB3.out]; exact setRow_heap _ _ _ _ _ _ HB3.out
     rw [strAt_of e3, HST.out, HX2.out, HRN.out, ofL_size]
     exact aft_len HH.out
   ·gi_wp2
    refine bodyPost_ret (results_none rfl _ _ _) rfl ?_
    exact ⟨⟨_, rfl⟩, .inr hJx3⟩
end Go.Proofs.YtdkpgodakmailaaGreatDoor
set_option linter.unusedVariables false
set_option linter.unusedSimpArgs false
namespace Go.Proofs.YtdkpgodakmailaaGreatDoor
open Go.RowKit Ev
set_option maxRecDepth 100000 in
theorem walk_SplitSeq (W : World) (s p : ByteArray) : Calls Tryz.prog 63 #[.string s, .string p] W fun e w' => e = .returned (.func (.func 150) #[] #[.pointer (some ⟨W.heap.size + 1, 0, none⟩), .pointer (some ⟨W.heap.size, 0, none⟩), .pointer (some ⟨W.heap.size + 2, 0, none⟩)]) ∧ w' = ((W.alloc (.cells #[.string s] 9)).alloc (.cells #[.string p] 9)).alloc (.cells #[.int .i64 0] 3) := by
 go_enter Tryz.func63, Tryz.ntmps63
 go_wp2
 go_ret
 exact ⟨rfl, rfl⟩
def con_SplitSeq : Con := fun args => match args with
 | [.t (.c (.v (.string s))), .t (.c (.v (.string p)))] => some (.t (.fn 150 [.px 1 0 (fun _ => .v (.string p)), .p 0 0, .px 1 0 (fun _ => .v (.int .i64 0))]), none, .clo 9 [.v (.string s)])
 | _ => none
theorem ok_SplitSeq : Ok Tryz.prog 63 con_SplitSeq := by
 intro args r pre fresh h hp
 unfold con_SplitSeq at h
 split at h
 ·rename_i s p
  cases h
  refine ⟨Enters.of (fn := Tryz.f63) (by kernel_rfl) (by kernel_rfl) (by kernel_rfl), fun W N vs hG hv => ?_⟩
  have hv : All2 (RelD (RelF W N)) [.t (.c (.v (.string s))), .t (.c (.v (.string p)))] vs := hv
  obtain ⟨u0, ws0, rfl, g0, hv0⟩ := hv.cons_inv
  obtain ⟨u1, ws1, rfl, g1, hv1⟩ := hv0.cons_inv
  obtain rfl := hv1.nil_inv
  obtain rfl : u0 = .string s := g0.1
  obtain rfl : u1 = .string p := g1.1
  refine (walk_SplitSeq W s p).mono ?_
  rintro e w' ⟨rfl, rfl⟩
  obtain ⟨W1, hW1⟩ : ∃ W1, W1 = W.alloc (.cells #[.string s] 9) := ⟨_, rfl⟩
  obtain ⟨W2, hW2⟩ : ∃ W2, W2 = W1.alloc (.cells #[.string p] 9) := ⟨_, rfl⟩
  obtain ⟨W3, hW3⟩ : ∃ W3, W3 = W2.alloc (.cells #[.int .i64 0] 3) := ⟨_, rfl⟩
  rw [← hW1, ← hW2, ← hW3]
  have s1 : W1.heap.size = W.heap.size + 1 := by rw [hW1]; simp
  have s2 : W2.heap.size = W.heap.size + 2 := by rw [hW2]; simp [s1]
  have s3 : W3.heap.size = W.heap.size + 3 := by rw [hW3]; simp [s2]
  have b1 : W1.heap[W.heap.size]? = some (.cells #[.string s] 9) := by rw [hW1]; exact World.alloc_heap_new W _
  have b2 : W2.heap[W.heap.size + 1]? = some (.cells #[.string p] 9) := by rw [hW2, ← s1]; exact World.alloc_heap_new W1 _
  have b3 : W3.heap[W.heap.size + 2]? = some (.cells #[.int .i64 0] 3) := by rw [hW3, ← s2]; exact World.alloc_heap_new W2 _
  have b1' : W3.heap[W.heap.size]? = some (.cells #[.string s] 9) := by rw [hW3, Below.heap_alloc _ _ _ (by omega), hW2, Below.heap_alloc _ _ _ (by omega)]; exact b1
  have b2' : W3.heap[W.heap.size + 1]? = some (.cells #[.string p] 9) := by rw [hW3, Below.heap_alloc _ _ _ (by omega)]; exact b2
  have hbl : Below W.heap.size W W3 := by
   rw [hW3, hW2, hW1]
   exact (((Below.refl _ _).alloc (Nat.le_refl _) _).alloc (by simp) _).alloc (by simp; omega) _
  refine ⟨_, rfl, ⟨W.heap.size, _, Nat.le_refl _, b1', ⟨⟨rfl, rfl⟩, trivial⟩, ⟨_, rfl, ?_, ⟨W.heap.size, rfl, rfl⟩, ?_, trivial⟩⟩, hbl⟩
  ·refine ⟨W.heap.size + 1, 0, rfl, by omega, ⟨by omega, by omega⟩, fun j hj => ⟨.string p, ?_, rfl, rfl⟩⟩
   obtain rfl : j = 0 := by omega
   simp [World.cell?, b2']
  ·refine ⟨W.heap.size + 2, 0, rfl, by omega, ⟨by omega, by omega⟩, fun j hj => ⟨.int .i64 0, ?_, rfl, rfl⟩⟩
   obtain rfl : j = 0 := by omega
   simp [World.cell?, b3]
 ·cases h
def sepP (x : CV) : Prop := ∃ c, x = .v (.string ⟨#[c]⟩)
def it_Split : ItC := fun l => match l with
 | [.px 1 0 c1, .px 1 0 c2, .px 1 0 c3] => some ⟨1, 1, fun _ => [.c (.v (.string (cutA (cvStr (c2 0)) (cvStr (c1 0)))))], some (sepP (c1 0) ∧ c2 0 = .v (.string (cvStr (c2 0))) ∧ (cvStr (c2 0)).size ≤ 1000000000 ∧ c3 0 = .v (.int .i64 0)), false, none, some ⟨1, 9, cutH (cvStr (c2 0)) (cvStr (c1 0)), .string (cutZ (cvStr (c2 0)) (cvStr (c1 0)))⟩⟩
 | _ => none
theorem ok_itSplit : OkItM Tryz.prog 150 it_Split := by
 intro l R h hp
 unfold it_Split at h
 split at h
 rotate_left
 ·cases h
 rename_i c1 c2 c3
 cases h
 obtain ⟨⟨c, h1⟩, h2, h3, h4⟩ := hp
 refine ⟨Enters.of (fn := Tryz.f150) (by kernel_rfl) (by kernel_rfl) (by kernel_rfl), _, rfl, fun x a l' ha he => ?_⟩
 have ha : a.length = 1 := ha
 obtain ⟨y, rfl⟩ : ∃ y, a = [y] := by
  match a, ha with
  | [y], _ => exact ⟨y, rfl⟩
 simp only [List.cons_append, List.nil_append, List.cons.injEq, CV.px.injEq, true_and] at he
 obtain ⟨rfl, rfl, rfl⟩ := he
 have h2 : CV.v x = .v (.string (cvStr (.v x))) := h2
 obtain ⟨s, rfl⟩ : ∃ s, x = .string s := ⟨_, by injection h2⟩
 have h3 : s.size ≤ 1000000000 := h3
 have hl : s.data.toList.length ≤ 1000000000 := by rw [size_data]; exact h3
 have hs : ofL s.data.toList = s := ofL_back s
 refine ⟨(pcs c s.data.toList).length, fun i => .string (ofL (remC c s.data.toList i)), fun i => [.c (.v (.string (cutA (ofL (remC c s.data.toList i)) ⟨#[c]⟩)))], List.length_pos_iff.2 (pcs_ne _ _), by rw [← hs]; rfl, fun i hi => ?_, fun w N us vs B hB hNB hu hv => ?_⟩
 ·have e1 : cvStr (c1 0) = ⟨#[c]⟩ := by rw [h1]; rfl
  refine ⟨_, _, rfl, rfl, rfl, rfl, ⟨rfl, rfl⟩, ?_, rfl, fun w N => ⟨⟨rfl, rfl⟩, trivial⟩, fun hm => ?_, fun hm => ?_⟩
  ·show [TV.c (.v (.string (cutA (ofL (remC c s.data.toList i)) (cvStr (c1 0)))))] = _
   rw [e1]
  ·have hm : cutH (ofL (remC c s.data.toList i)) (cvStr (c1 0)) = true := hm
   rw [e1, cutH_one] at hm
   refine ⟨(rem_has hi).1 hm, ?_, rfl⟩
   show Value.string (cutZ (ofL (remC c s.data.toList i)) (cvStr (c1 0))) = _
   rw [e1, cutZ_one, if_pos hm]
   rfl
  ·have hm : cutH (ofL (remC c s.data.toList i)) (cvStr (c1 0)) = false := hm
   rw [e1, cutH_one] at hm
   have := rem_has hi
   rw [hm] at this
   have : ¬ i + 1 < (pcs c s.data.toList).length := fun h => by have := this.2 h; cases this
   omega
 ·have hu : All2 (RelF w N) [.px 1 0 (fun _ => .v (.string ⟨#[c]⟩))] us := by
   obtain ⟨v0, us0, rfl, r0, hu0⟩ := hu.cons_inv
   exact ⟨RelF.px_eq (fun j hj => by obtain rfl : j = 0 := (by omega); exact h1) r0, hu0⟩
  have hv : All2 (RelF w N) [.px 1 0 (fun _ => .v (.int .i64 0))] vs := by
   obtain ⟨v0, us0, rfl, r0, hu0⟩ := hv.cons_inv
   exact ⟨RelF.px_eq (fun j hj => by obtain rfl : j = 0 := (by omega); exact h4) r0, hu0⟩
  rw [← hs] at hB
  exact seq_split w N us vs B c s.data.toList hl hu hv hB hNB
end Go.Proofs.YtdkpgodakmailaaGreatDoor
set_option linter.unusedVariables false
set_option linter.unusedSimpArgs false
namespace Go.Proofs.YtdkpgodakmailaaGreatDoor
open Go.RowKit Ev
theorem beq_txt (a b : ByteArray) : (a.toList == b.toList) = decide (a = b) := by
 rw [← beq_toListBytes]
 by_cases h : a = b
 ·subst h; simp
 ·rw [decide_eq_false h]; exact beq_eq_false_iff_ne.2 h
theorem ofL_eq {l m : List UInt8} : ofL l = ofL m ↔ l = m := ⟨ofL_inj, fun h => by rw [h]⟩
def wAt (c : UInt8) (s : ByteArray) (i : Nat) : List UInt8 := (pcs c s.data.toList).getD i []
def nPc (c : UInt8) (s : ByteArray) : Nat := (pcs c s.data.toList).length
def goodW (s : ByteArray) (dg sg i : Nat) : Bool := match numR (wAt 32 s i) dg with
 | some v => !(decide (v < 0) && decide (i < sg))
 | none => false
def allW (s : ByteArray) (dg sg : Nat) : Bool := (List.range (nPc 32 s)).all (goodW s dg sg)
def okW (s : ByteArray) (cnt dg sg : Nat) : Bool := allW s dg sg && Nat.beq (nPc 32 s) cnt
theorem nPc_le (c : UInt8) (s : ByteArray) : nPc c s ≤ s.size + 1 := by
 unfold nPc
 rw [pcs_len, ← size_data]
 have := List.count_le_length (a := c) (l := s.data.toList)
 omega
theorem rem_head {c : UInt8} {s : ByteArray} {i : Nat} (h : i < nPc c s) : (if hasC c (remC c s.data.toList i) = true then befC c (remC c s.data.toList i) else remC c s.data.toList i) = wAt c s i := by
 have e := rem_at (c := c) (l := s.data.toList) h
 have g : wAt c s i = ((pcs c s.data.toList).drop i).head?.getD [] := by
  unfold wAt
  rw [List.head?_drop]
  simp [List.getD]
 rw [g, e, pcs_eq c (remC c s.data.toList i)]
 split <;> rfl
theorem cutA_rem {c : UInt8} {s : ByteArray} {i : Nat} (h : i < nPc c s) : cutA (ofL (remC c s.data.toList i)) ⟨#[c]⟩ = ofL (wAt c s i) := by
 rw [cutA_one, rem_head h]
theorem cutH_rem {c : UInt8} {s : ByteArray} {i : Nat} (h : i < nPc c s) : cutH (ofL (remC c s.data.toList i)) ⟨#[c]⟩ = decide (i + 1 < nPc c s) := by
 rw [cutH_one]
 have := rem_has h
 unfold nPc
 by_cases g : i + 1 < (pcs c s.data.toList).length
 ·rw [decide_eq_true g]; exact this.2 g
 ·rw [decide_eq_false g]
  cases e : hasC c (remC c s.data.toList i)
  ·rfl
  ·exact absurd (this.1 e) g
theorem cutZ_rem {c : UInt8} {s : ByteArray} {i : Nat} (h : i + 1 < nPc c s) : cutZ (ofL (remC c s.data.toList i)) ⟨#[c]⟩ = ofL (remC c s.data.toList (i + 1)) := by
 have := (rem_has (c := c) (l := s.data.toList) (i := i) (by unfold nPc at h; omega)).2 h
 rw [cutZ_one, if_pos this]
 rfl
theorem wAt_len {c : UInt8} {s : ByteArray} {i : Nat} : (wAt c s i).length ≤ s.size := by
 by_cases h : i < nPc c s
 ·unfold wAt
  rw [← size_data]
  refine pcs_part (c := c) ?_
  have h : i < (pcs c s.data.toList).length := h
  have e : (pcs c s.data.toList).getD i [] = (pcs c s.data.toList)[i] := by simp [List.getD, h]
  rw [e]
  exact List.getElem_mem h
 ·unfold wAt
  unfold nPc at h
  simp [List.getD, List.getElem?_eq_none (Nat.le_of_not_lt h)]
theorem ato_bd {w : List UInt8} (h : atoB (ofL w) = true) : -9223372036854775808 ≤ atoV (ofL w) ∧ atoV (ofL w) ≤ 9223372036854775807 := by
 unfold atoB at h
 unfold atoV
 split at h
 ·rename_i v e
  rw [e]
  exact Lib.atoiAll_bounds e
 ·cases h
theorem test_w (w : List UInt8) {dg : Nat} (h : dg ≤ 17) : (bif atoB (ofL w) then (bif ((itoaB (atoV (ofL w))).toList == (ofL w).toList) then decide ((((trimB (ofL w) ⟨#[45]⟩).size : Nat) : Int) ≤ (dg : Int)) else false) else false) = (numR w dg).isSome ∧ ∀ v, numR w dg = some v → atoV (ofL w) = v := by
 rw [← numG_eq h]
 have e45 : (trimB (ofL w) ⟨#[45]⟩).size = (if w.head? = some 45 then w.drop 1 else w).length := by
  unfold trimB
  rw [ofL_size, ofL_data]
  rw [show (⟨#[45]⟩ : ByteArray).data.toList = [45] from rfl, trim_one]
 rw [e45]
 unfold numG atoB
 rw [ofL_data]
 generalize (if w.head? = some 45 then w.drop 1 else w).length = q
 cases e : Lib.atoiAll w with
 | ok v =>
  have ev : atoV (ofL w) = v := by unfold atoV; rw [ofL_data, e]
  rw [ev, beq_txt]
  simp only [cond_true]
  have ed : decide (itoaB v = ofL w) = decide (Lib.itoa v = w) := by
   unfold itoaB
   by_cases g : Lib.itoa v = w
   ·rw [decide_eq_true g, decide_eq_true (ofL_eq.2 g)]
   ·rw [decide_eq_false g, decide_eq_false (fun q => g (ofL_eq.1 q))]
  rw [ed]
  by_cases g : Lib.itoa v = w
  ·by_cases g2 : q ≤ dg
   ·rw [if_pos ⟨g, g2⟩, decide_eq_true g, decide_eq_true (by omega)]
    exact ⟨rfl, fun x hx => by injection hx⟩
   ·rw [if_neg (fun z => g2 z.2), decide_eq_true g, decide_eq_false (by omega)]
    exact ⟨rfl, fun x hx => by cases hx⟩
  ·rw [if_neg (fun z => g z.1), decide_eq_false g]
   exact ⟨rfl, fun x hx => by cases hx⟩
 | range => exact ⟨rfl, fun x hx => by cases hx⟩
 | _ => exact ⟨rfl, fun x hx => by cases hx⟩
def ttCv (t : ByteArray) : List CV := [.v (.string t)]
theorem ttg_cell (l : List ByteArray) {i j : Nat} (hi : i < (l.map ttCv).length) (hj : j < 1) : genC (l.map ttCv) i j = .v (.string (txAt l i)) := by
 obtain rfl : j = 0 := by omega
 rw [List.length_map] at hi
 simp [genC, ttCv, txAt, List.getD, hi]
theorem txP_ttg (l : List ByteArray) : txP (l.map ttCv).length (genC (l.map ttCv)) := fun i hi => by rw [ttg_cell l hi (by omega)]; rfl
theorem ttg_of (l : List ByteArray) : txOf (l.map ttCv).length (genC (l.map ttCv)) = l := by
 apply List.ext_getElem?
 intro i
 by_cases hi : i < l.length
 ·simp [txOf, genC, ttCv, List.getD, hi, cvStr]
 ·rw [List.getElem?_eq_none (by simp [txOf]; omega), List.getElem?_eq_none (by omega)]
theorem le_ttg (l : List ByteArray) : LeD (.t (.c (.sl 1 (l.map ttCv).length (genC (l.map ttCv))))) (.t (.c (.sl 1 l.length (txsC l)))) := by
 rw [List.length_map]
 refine leT_c (leSlT fun i j hi hj => ?_)
 rw [ttg_cell l (by rw [List.length_map]; exact hi) hj]
 exact LeC1.refl _
theorem map_snoc {α β : Type} (f : α → β) (l : List α) (x : α) : l.map f ++ [f x] = (l ++ [x]).map f := by simp
theorem ttCv_snoc (l : List ByteArray) (x : ByteArray) : l.map ttCv ++ [[.v (.string x)]] = (l ++ [x]).map ttCv := by simp [ttCv]
theorem dec_len : ∀ (k u : Nat), u < 10 ^ (k + 1) → (Lib.decDigits u).length ≤ k + 1
 | 0, u, h => by rw [dec_small (by simpa using h)]; simp
 | k + 1, u, h => by
  by_cases g : u < 10
  ·rw [dec_small g]; simp
  ·rw [dec_big g, List.length_append, List.length_singleton]
   have := dec_len k (u / 10) (by rw [Nat.div_lt_iff_lt_mul (by decide)]; rw [Nat.pow_succ] at h; exact h)
   omega
theorem itoa_len {n : Int} (h : -9223372036854775808 ≤ n ∧ n ≤ 9223372036854775807) : (Lib.itoa n).length ≤ 20 := by
 by_cases g : n < 0
 ·rw [itoa_neg g, List.length_cons]
  have := dec_len 18 n.natAbs (by omega)
  omega
 ·rw [itoa_pos (by omega)]
  have := dec_len 18 n.toNat (by omega)
  omega
theorem jn_len {c : UInt8} {m : Nat} : ∀ (ps : List (List UInt8)), (∀ p ∈ ps, p.length ≤ m) → (jnC c ps).length ≤ ps.length * (m + 1)
 | [], _ => by simp [jnC]
 | [p], h => by have := h p (by simp); simp [jnC]; omega
 | p :: q :: r, h => by
  have h1 := h p (by simp)
  have h2 := jn_len (c := c) (q :: r) (fun x hx => h x (by simp [hx]))
  have e : (jnC c (p :: q :: r)).length = p.length + 1 + (jnC c (q :: r)).length := by simp [jnC]; omega
  rw [e, List.length_cons, Nat.succ_mul]
  omega
theorem joinB_one (l : List ByteArray) (c : UInt8) : joinB l ⟨#[c]⟩ = ofL (jnC c (l.map (·.data.toList))) := by
 unfold joinB
 rw [show (⟨#[c]⟩ : ByteArray).data.toList = [c] from rfl, jn_join]
theorem joinB_len (l : List ByteArray) (c : UInt8) {m : Nat} (h : ∀ t ∈ l, t.size ≤ m) : (joinB l ⟨#[c]⟩).size ≤ l.length * (m + 1) := by
 rw [joinB_one, ofL_size]
 have := jn_len (c := c) (m := m) (l.map (·.data.toList)) (fun p hp => by obtain ⟨t, ht, rfl⟩ := List.mem_map.1 hp; rw [size_data]; exact h t ht)
 rwa [List.length_map] at this
def wordsB (l : List Int) : ByteArray := joinB (l.map itoaB) ⟨#[32]⟩
theorem itoaB_len {n : Int} (h : -9223372036854775808 ≤ n ∧ n ≤ 9223372036854775807) : (itoaB n).size ≤ 20 := by
 unfold itoaB
 rw [ofL_size]; exact itoa_len h
theorem wordsB_len {l : List Int} (h : ∀ i, i < l.length → -9223372036854775808 ≤ l.getD i 0 ∧ l.getD i 0 ≤ 9223372036854775807) : (wordsB l).size ≤ l.length * 21 := by
 have := joinB_len (l.map itoaB) 32 (m := 20) (fun t ht => by
  obtain ⟨n, hn, rfl⟩ := List.mem_map.1 ht
  obtain ⟨i, hi, e⟩ := List.mem_iff_getElem.1 hn
  have := h i hi
  rw [show l.getD i 0 = n by simp [List.getD, hi, e]] at this
  exact itoaB_len this)
 rwa [List.length_map] at this
theorem take_snoc {α : Type} (l : List α) (d : α) {k : Nat} (h : k < l.length) : l.take (k + 1) = l.take k ++ [l.getD k d] := by
 rw [List.take_add_one, List.getElem?_eq_getElem h]
 simp [List.getD, h]
end Go.Proofs.YtdkpgodakmailaaGreatDoor
set_option linter.unusedVariables false
set_option linter.unusedSimpArgs false
namespace Go.Proofs.YtdkpgodakmailaaGreatDoor
open Go.RowKit Ev
theorem splK_one (c : UInt8) : ∀ (k : Nat) (l : List UInt8), (pcs c l).length ≤ k + 1 → Lib.splitK [c] 0 k l = pcs c l
 | 0, l, h => by
  have e := pcs_eq c l
  by_cases g : hasC c l = true
  ·rw [if_pos g] at e
   have := List.length_pos_iff.2 (pcs_ne c (aftC c l))
   rw [e, List.length_cons] at h
   omega
  ·rw [if_neg g] at e
   rw [e]; rfl
 | k + 1, l, h => by
  have e := pcs_eq c l
  unfold Lib.splitK
  rcases idx_has c l with ⟨h1, h2⟩ | ⟨h1, h2⟩
  ·rw [h1, if_pos (by rfl), e, if_neg (by rw [h2]; simp)]
  ·rw [if_pos h1] at e
   rw [h2, if_neg (by simp [beq_iff_eq]), e]
   have t := take_bef h1
   have d := drop_bef h1
   simp only [Int.toNat_natCast, Nat.add_zero, List.length_singleton]
   rw [← t, d, splK_one c k (aftC c l) (by rw [e, List.length_cons] at h; omega)]
theorem cnt_one (c : UInt8) : ∀ (n : Nat) (l : List UInt8), l.length ≤ n → Lib.countB (ofL l) ⟨#[c]⟩ + 1 = (pcs c l).length := by
 intro n
 induction n with
 | zero =>
  intro l h
  have e : l = [] := List.length_eq_zero_iff.1 (by omega)
  subst e
  rw [Lib.countB_miss _ _ (by rfl)]; rfl
 | succ n ih =>
  intro l h
  have e := pcs_eq c l
  rcases idx_has c l with ⟨h1, h2⟩ | ⟨h1, h2⟩
  ·rw [Lib.countB_miss _ _ h1, e, if_neg (by rw [h2]; simp)]; rfl
  ·rw [Lib.countB_hit (ofL l) ⟨#[c]⟩ _ (Nat.le_refl 1) h2]
   have d := drop_bef h1
   rw [show (⟨#[c]⟩ : ByteArray).size = 1 from rfl, ext_drop, d, e, if_pos h1, List.length_cons]
   have := ih (aftC c l) (by have := aft_len h1; omega)
   omega
theorem splB_one (c : UInt8) (l : List UInt8) : splB (ofL l) ⟨#[c]⟩ = (pcs c l).map ofL := by
 have h := Lib.splitB_data ⟨#[c]⟩ 0 (Lib.countB (ofL l) ⟨#[c]⟩) (ofL l)
 have n := cnt_one c _ l (Nat.le_refl _)
 rw [ofL_data, show (⟨#[c]⟩ : ByteArray).data.toList = [c] from rfl, splK_one c _ l (by omega)] at h
 unfold splB
 rw [← h, List.map_map]
 conv => lhs; rw [← List.map_id (Lib.splitB _ _ _ _)]
 exact List.map_congr_left fun s _ => (ofL_back s).symm
theorem splB_count (s : ByteArray) (c : UInt8) : (splB s ⟨#[c]⟩).length = Lib.countB s ⟨#[c]⟩ + 1 := by
 have e := ofL_back s
 rw [← e, splB_one, List.length_map, cnt_one c _ _ (Nat.le_refl _)]
def inI (n : Int) : Prop := -9223372036854775808 ≤ n ∧ n ≤ 9223372036854775807
theorem nPc_pos (c : UInt8) (s : ByteArray) : 0 < nPc c s := List.length_pos_iff.2 (pcs_ne _ _)
end Go.Proofs.YtdkpgodakmailaaGreatDoor
set_option linter.unusedVariables false
set_option linter.unusedSimpArgs false
namespace Go.Proofs.YtdkpgodakmailaaGreatDoor
open Go.RowKit Ev
open Lib (decFrom digitVal)
theorem dget (s : ByteArray) (i : Nat) : s.data.getD i 0 = s.data.toList.getD i 0 := by
 obtain ⟨⟨l⟩⟩ := s
 simp [Array.getD, List.getD]
 split <;> rename_i h
 ·simp [h]
 ·simp [Nat.le_of_not_lt h]
theorem ext_mid (l : List UInt8) (a b : Nat) : (ofL l).extract a b = ofL ((l.drop a).take (b - a)) := by
 rw [← ofL_back ((ofL l).extract a b), ByteArray.data_extract, Array.toList_extract, ofL_data]
def cutL (s : ByteArray) (c : UInt8) : List ByteArray := (pcs c s.data.toList).map ofL
theorem cutL_len {s : ByteArray} {c : UInt8} : (cutL s c).length = nPc c s := by simp [cutL, nPc]
theorem cutL_at {s : ByteArray} {c : UInt8} {i : Nat} (h : i < nPc c s) : txAt (cutL s c) i = ofL (wAt c s i) := by
 have h : i < (pcs c s.data.toList).length := h
 simp [txAt, cutL, wAt, List.getD, h]
def CutI (s : ByteArray) (c : UInt8) (rows : List (List CV)) (a i : Nat) : Prop :=
 a ≤ i ∧ ∃ os : List (List UInt8), pcs c s.data.toList = os ++ pcs c (s.data.toList.drop a) ∧ hasC c ((s.data.toList.drop a).take (i - a)) = false ∧ rows = (os.map ofL).map ttCv ∧ os.length ≤ a
theorem cut_0 (s : ByteArray) (c : UInt8) : CutI s c [] 0 0 := ⟨Nat.le_refl _, [], rfl, rfl, rfl, Nat.le_refl _⟩
theorem drop_split {l : List UInt8} {a i : Nat} (ha : a ≤ i) (hi : i < l.length) : l.drop a = (l.drop a).take (i - a) ++ l.getD i 0 :: l.drop (i + 1) := by
 conv => lhs; rw [← List.take_append_drop (i - a) (l.drop a)]
 rw [List.drop_drop, show a + (i - a) = i by omega, List.drop_eq_getElem_cons hi]
 simp [List.getD, hi]
theorem take_split {l : List UInt8} {a i : Nat} (ha : a ≤ i) (hi : i < l.length) : (l.drop a).take (i + 1 - a) = (l.drop a).take (i - a) ++ [l.getD i 0] := by
 rw [show i + 1 - a = (i - a) + 1 by omega, List.take_add_one, List.getElem?_drop, show a + (i - a) = i by omega, List.getElem?_eq_getElem hi]
 simp [List.getD, hi]
theorem cut_miss {s : ByteArray} {c : UInt8} {rows : List (List CV)} {a i : Nat} (h : CutI s c rows a i) (hi : i < s.size) (hc : s.data.toList.getD i 0 ≠ c) : CutI s c rows a (i + 1) := by
 obtain ⟨h1, os, h2, h3, h4, h5⟩ := h
 have hi : i < s.data.toList.length := by rw [size_data]; exact hi
 refine ⟨by omega, os, h2, ?_, h4, h5⟩
 rw [take_split h1 hi]
 unfold hasC at h3 ⊢
 simp only [List.elem_eq_mem, decide_eq_false_iff_not, List.mem_append, List.mem_singleton, List.contains_eq_mem] at h3 ⊢
 rintro (q | q)
 ·exact h3 q
 ·exact hc q.symm
theorem cut_hit {s : ByteArray} {c : UInt8} {rows : List (List CV)} {a i : Nat} (h : CutI s c rows a i) (hi : i < s.size) (hc : s.data.toList.getD i 0 = c) : CutI s c (rows ++ [[.v (.string (s.extract a i))]]) (i + 1) (i + 1) := by
 obtain ⟨h1, os, h2, h3, h4, h5⟩ := h
 have hi : i < s.data.toList.length := by rw [size_data]; exact hi
 have e := drop_split h1 hi
 rw [hc] at e
 refine ⟨Nat.le_refl _, os ++ [(s.data.toList.drop a).take (i - a)], ?_, by simp [hasC], ?_, by simp; omega⟩
 ·have p := pcs_app (s.data.toList.drop (i + 1)) h3
  rw [← e] at p
  rw [h2, p, List.append_assoc]; rfl
 ·have x := ext_mid s.data.toList a i
  rw [ofL_back] at x
  rw [h4, x, ttCv_snoc, map_snoc]
theorem cut_end {s : ByteArray} {c : UInt8} {rows : List (List CV)} {a : Nat} (h : CutI s c rows a s.size) : rows ++ [[.v (.string (s.extract a s.size))]] = (cutL s c).map ttCv := by
 obtain ⟨h1, os, h2, h3, h4, h5⟩ := h
 have x := ext_drop s.data.toList a
 rw [ofL_back] at x
 rw [List.take_of_length_le (by rw [List.length_drop, size_data]; omega)] at h3
 unfold cutL
 rw [h2, h4, x, ttCv_snoc, map_snoc, pcs_one h3]
def numAt (l : List UInt8) : Nat := if l.head? = some 45 then 1 else 0
def numBad (l : List UInt8) (dg : Nat) : Prop := l.length = numAt l ∨ l.length - numAt l > dg ∨ (l.getD (numAt l) 0 = 48 ∧ 1 < l.length)
theorem numAt_le (l : List UInt8) : numAt l ≤ l.length := by
 unfold numAt
 cases l with
 | nil => simp
 | cons b r => split <;> simp
theorem numR_bad {l : List UInt8} {dg : Nat} (h : numBad l dg) : numR l dg = none := by
 unfold numBad at h
 unfold numR
 by_cases e : l.head? = some 45
 ·rw [show numAt l = 1 from if_pos e] at h
  rw [if_pos e, if_pos]
  obtain ⟨r, rfl⟩ : ∃ r, l = 45 :: r := by
   cases l with
   | nil => cases e
   | cons b r => exact ⟨r, by simpa using e⟩
  rcases h with h | h | ⟨h, g⟩
  ·exact .inl (List.length_eq_zero_iff.1 (by simpa using h))
  ·exact .inr (.inl (by simpa using h))
  ·refine .inr (.inr ?_)
   cases r with
   | nil => simp at g
   | cons x r => simpa [List.getD] using h
 ·rw [show numAt l = 0 from if_neg e] at h
  rw [if_neg e, if_pos]
  rcases h with h | h | ⟨h, g⟩
  ·exact .inl (List.length_eq_zero_iff.1 h)
  ·exact .inr (.inl (by simpa using h))
  ·refine .inr (.inr ⟨?_, g⟩)
   cases l with
   | nil => simp at g
   | cons x r => simpa [List.getD] using h
theorem numR_ok {l : List UInt8} {dg : Nat} (h : ¬ numBad l dg) : numR l dg = (decFrom 0 (l.drop (numAt l))).map fun m : Nat => if numAt l = 1 then -(m : Int) else m := by
 unfold numBad at h
 unfold numR
 by_cases e : l.head? = some 45
 ·rw [show numAt l = 1 from if_pos e] at h ⊢
  rw [if_pos e, if_neg]
  ·rfl
  ·obtain ⟨r, rfl⟩ : ∃ r, l = 45 :: r := by
    cases l with
    | nil => cases e
    | cons b r => exact ⟨r, by simpa using e⟩
   rintro (g | g | g)
   ·exact h (.inl (by simpa using g))
   ·exact h (.inr (.inl (by simpa using g)))
   ·refine h (.inr (.inr ?_))
    cases r with
    | nil => simp at g
    | cons x r => simpa [List.getD] using g
 ·rw [show numAt l = 0 from if_neg e] at h ⊢
  rw [if_neg e, if_neg]
  ·simp
  ·rintro (g | g | ⟨g, g2⟩)
   ·exact h (.inl (by rw [g]; rfl))
   ·exact h (.inr (.inl (by simpa using g)))
   ·refine h (.inr (.inr ⟨?_, g2⟩))
    cases l with
    | nil => simp at g
    | cons x r => simpa [List.getD] using g
theorem dec_stop {l : List UInt8} {a i : Nat} (ha : a ≤ i) (hi : i < l.length) (h : digitVal (l.getD i 0) = none) : decFrom 0 (l.drop a) = none := by
 rw [drop_split ha hi, decFrom_append]
 generalize l.getD i 0 = b at h ⊢
 cases decFrom 0 ((l.drop a).take (i - a)) with
 | none => rfl
 | some m => simp [decFrom, h]
theorem dec_step {l : List UInt8} {a i m d : Nat} (ha : a ≤ i) (hi : i < l.length) (h : digitVal (l.getD i 0) = some d) (g : decFrom 0 ((l.drop a).take (i - a)) = some m) : decFrom 0 ((l.drop a).take (i + 1 - a)) = some (m * 10 + d) := by
 rw [take_split ha hi, decFrom_append, g]
 generalize l.getD i 0 = b at h ⊢
 simp [decFrom, h]
end Go.Proofs.YtdkpgodakmailaaGreatDoor