/- Texts of this claim, together. -/
import Derived.Test.YtlapeoboekchpaaGreatDoorTS12

set_option linter.unusedVariables false
set_option linter.unusedSimpArgs false
namespace Go.Proofs.YtlapeoboekchpaaGreatDoor
open Go.RowKit Ev
def mk_base_Cut_0 (tx : ByteArray) (c : Int) (v0_0 : List (List CV)) (v0_1 : Int) (v0_2 : Int) : DS := ⟨[some (.t (.c (.v (.string tx)))), some (.t (.c (.v (.int .u8 c)))), none, none, none, some (.t (.c (.os 5))), some (.t (.c (.v (.int .i64 v0_1)))), some (.t (.c (.v (.int .i64 v0_2)))), none, none, none, none, none, none, none, none, none, none, none, none, none, none, none, none, none, none, none, none, none, none, none, none, none, none], [none, none, none, none, none, some (.gen 9 1 v0_0), none, none, none, none, none, none, none, none, none, none, none, none, none, none, none, none, none, none, none, none, none, none, none, none, none, none, none, none]⟩
def vc_base_Cut (J : Inv) (tx : ByteArray) (c : Int) (post : DV → Prop) : Prop := ∃ n, J 0 (n :: []) (mk_base_Cut_0 tx c ([]) 0 0)
def ann_base_Cut : Ann := ⟨fun _ => none, fun b => lookA b [(0, (none, some ⟨[0, 1, 6, 7], [], [(5, .gen 9 1 [])]⟩))], fun _ => [], Ilib, true, fun _ => none, fun _ => none⟩
theorem ev_base_Cut (J : Inv) (tx : ByteArray) (c : Int) (post : DV → Prop) : evFn Tryz.prog tab Su79 ann_base_Cut J Tryz.f55 [.t (.c (.v (.string tx))), .t (.c (.v (.int .u8 c)))] post = vc_base_Cut J tx c post := by kernel_rfl
theorem fit_base_Cut : okFn ann_base_Cut Tryz.f55 = true := by kernel_rfl
def rd_base_Cut_0 (J : Inv) (tx : ByteArray) (c : Int) (v0_0 : List (List CV)) (v0_1 : Int) (v0_2 : Int) (nn0 : Nat) (post : DV → Prop) : Prop := cond (decide (v0_2 < (((tx : ByteArray).size : Nat) : Int))) ((0 ≤ v0_2 ∧ v0_2 < (((tx : ByteArray).size : Nat) : Int)) ∧ (cond ((((tx : ByteArray).data.getD (v0_2).toNat 0).toNat : Int) == c) ((0 ≤ v0_1 ∧ v0_1 ≤ v0_2 ∧ v0_2 ≤ (((tx : ByteArray).size : Nat) : Int)) ∧ ((roomP 16 (v0_0.length + ([[.v (.string (ByteArray.extract tx v0_1.toNat v0_2.toNat))]] : List (List CV)).length)) ∧ (lt (IntKind.i64.wrap (v0_2 + (1 : Int))) fun x1 => lt (IntKind.i64.wrap (v0_2 + (1 : Int))) fun x2 => J 0 (nn0 :: []) (mk_base_Cut_0 tx c (v0_0 ++ ([[.v (.string (ByteArray.extract tx v0_1.toNat v0_2.toNat))]] : List (List CV))) x1 x2)))) (lt (IntKind.i64.wrap (v0_2 + (1 : Int))) fun x3 => J 0 (nn0 :: []) (mk_base_Cut_0 tx c v0_0 v0_1 x3)))) ((0 ≤ v0_1 ∧ v0_1 ≤ (((tx : ByteArray).size : Nat) : Int) ∧ (((tx : ByteArray).size : Nat) : Int) ≤ (((tx : ByteArray).size : Nat) : Int)) ∧ ((roomP 16 (v0_0.length + ([[.v (.string (ByteArray.extract tx v0_1.toNat (((tx : ByteArray).size : Nat) : Int).toNat))]] : List (List CV)).length)) ∧ (post (.t (.c (.sl 1 ((v0_0 ++ ([[.v (.string (ByteArray.extract tx v0_1.toNat (((tx : ByteArray).size : Nat) : Int).toNat))]] : List (List CV))).length) (genC (v0_0 ++ ([[.v (.string (ByteArray.extract tx v0_1.toNat (((tx : ByteArray).size : Nat) : Int).toNat))]] : List (List CV))))))))))
theorem er_base_Cut_0 (J : Inv) (tx : ByteArray) (c : Int) (v0_0 : List (List CV)) (v0_1 : Int) (v0_2 : Int) (nn0 : Nat) (post : DV → Prop) : round Tryz.prog tab Su79 ann_base_Cut J Tryz.f55 post 0 (nn0 :: []) (mk_base_Cut_0 tx c v0_0 v0_1 v0_2) = rd_base_Cut_0 J tx c v0_0 v0_1 v0_2 nn0 post := by kernel_rfl
theorem lp_base_Cut (J : Inv) (post : DV → Prop) : AllG J (loopsFn Tryz.prog tab Su79 ann_base_Cut J Tryz.f55 post) = (((∀ F s, ¬ J 0 (0 :: F) s) ∧ ∀ n F s, J 0 ((n + 1) :: F) s → round Tryz.prog tab Su79 ann_base_Cut J Tryz.f55 post 0 (n :: F) s) ∧ True) := by kernel_rfl
def J_base_Cut (tx : ByteArray) (c : Int) : Inv := fun b F s => match b, F with
 | 0, [nn0] => ∃ (v0_0 : List (List CV)) (v0_1 : Int) (v0_2 : Int), s = mk_base_Cut_0 tx c v0_0 v0_1 v0_2 ∧ ((0 ≤ c ∧ c < 256 ∧ (tx).size ≤ 100000000) ∧ 0 ≤ v0_1 ∧ 0 ≤ v0_2 ∧ v0_2 ≤ tx.size ∧ (nn0 : Int) + v0_2 = tx.size + 1 ∧ CutI tx (UInt8.ofNat c.toNat) v0_0 v0_1.toNat v0_2.toNat)
 | _, _ => False
theorem rnd_base_Cut_0 (tx : ByteArray) (c : Int) (v0_0 : List (List CV)) (v0_1 : Int) (v0_2 : Int) (nn0 : Nat) (hp : 0 ≤ c ∧ c < 256 ∧ (tx).size ≤ 100000000) (hi : (0 ≤ c ∧ c < 256 ∧ (tx).size ≤ 100000000) ∧ 0 ≤ v0_1 ∧ 0 ≤ v0_2 ∧ v0_2 ≤ tx.size ∧ ((nn0 + 1) : Int) + v0_2 = tx.size + 1 ∧ CutI tx (UInt8.ofNat c.toNat) v0_0 v0_1.toNat v0_2.toNat) : rd_base_Cut_0 (J_base_Cut tx c) tx c v0_0 v0_1 v0_2 nn0 (fun r => LeD r (.t (.c (.sl 1 ((cutL tx (UInt8.ofNat (c).toNat)).length) (txsC (cutL tx (UInt8.ofNat (c).toNat))))))) := by
 obtain ⟨q, i0, i1, i2, i3, i4⟩ := hi
 obtain ⟨a, rfl⟩ : ∃ d : Nat, v0_1 = d := ⟨v0_1.toNat, by omega⟩
 obtain ⟨k, rfl⟩ : ∃ d : Nat, v0_2 = d := ⟨v0_2.toNat, by omega⟩
 obtain ⟨ch, rfl⟩ : ∃ d : Nat, c = d := ⟨c.toNat, by omega⟩
 simp only [Int.toNat_natCast] at i4
 have hch : (UInt8.ofNat ch).toNat = ch := by rw [UInt8.toNat_ofNat']; omega
 have ha := i4.1
 obtain ⟨os, _, _, e4, e5⟩ := i4.2
 have hl : v0_0.length ≤ 100000000 := by rw [e4]; simp; omega
 unfold rd_base_Cut_0
 simp only [Int.toNat_natCast, dget]
 refine cond_i (fun h => ?_) (fun h => ?_)
 ·have hlt : k < tx.size := by have := of_decide_eq_true h; omega
  refine ⟨⟨by omega, by omega⟩, ?_⟩
  refine cond_i (fun g => ?_) (fun g => ?_)
  ·have g : (tx.data.toList.getD k 0).toNat = ch := by have := eq_of_beq g; omega
   have g : tx.data.toList.getD k 0 = UInt8.ofNat ch := UInt8.toNat_inj.1 (by rw [hch]; exact g)
   refine ⟨⟨by omega, by omega, by omega⟩, ⟨by simp; omega, by simp [maxLen]; omega⟩, lt_i fun x1 h1 => lt_i fun x2 h2 => ?_⟩
   rw [wi (by omega)] at h1 h2
   subst h1 h2
   exact ⟨_, _, _, rfl, q, by omega, by omega, by omega, by omega, cut_hit i4 hlt g⟩
  ·have g : tx.data.toList.getD k 0 ≠ UInt8.ofNat ch := by
    intro e
    rw [e, hch] at g
    simp at g
   refine lt_i fun x1 h1 => ?_
   rw [wi (by omega)] at h1
   subst h1
   exact ⟨_, _, _, rfl, q, by omega, by omega, by omega, by omega, cut_miss i4 hlt g⟩
 ·have e : k = tx.size := by have := of_decide_eq_false h; omega
  subst e
  refine ⟨⟨by omega, by omega, by omega⟩, ⟨by simp; omega, by simp [maxLen]; omega⟩, ?_⟩
  rw [cut_end i4]
  exact le_ttg _
theorem zero_base_Cut_0 (tx : ByteArray) (c : Int) (v0_0 : List (List CV)) (v0_1 : Int) (v0_2 : Int)  (hi : (0 ≤ c ∧ c < 256 ∧ (tx).size ≤ 100000000) ∧ 0 ≤ v0_1 ∧ 0 ≤ v0_2 ∧ v0_2 ≤ tx.size ∧ (0 : Int) + v0_2 = tx.size + 1 ∧ CutI tx (UInt8.ofNat c.toNat) v0_0 v0_1.toNat v0_2.toNat) : False := by
 omega
theorem spec_base_Cut (tx : ByteArray) (c : Int) (hp : 0 ≤ c ∧ c < 256 ∧ (tx).size ≤ 100000000) : vc_base_Cut (J_base_Cut tx c) tx c (fun r => LeD r (.t (.c (.sl 1 ((cutL tx (UInt8.ofNat (c).toNat)).length) (txsC (cutL tx (UInt8.ofNat (c).toNat))))))) := by
 unfold vc_base_Cut
 exact ⟨tx.size + 1, [], 0, 0, rfl, hp, by omega, by omega, by omega, by omega, cut_0 _ _⟩
theorem all_base_Cut (tx : ByteArray) (c : Int) (hp : 0 ≤ c ∧ c < 256 ∧ (tx).size ≤ 100000000) : AllG (J_base_Cut tx c) (loopsFn Tryz.prog tab Su79 ann_base_Cut (J_base_Cut tx c) Tryz.f55 (fun r => LeD r (.t (.c (.sl 1 ((cutL tx (UInt8.ofNat (c).toNat)).length) (txsC (cutL tx (UInt8.ofNat (c).toNat)))))))) := by
 rw [lp_base_Cut]
 refine ⟨⟨?_, ?_⟩, trivial⟩
 ·intro F s h
  obtain _ | ⟨g, F⟩ := F
  case cons => exact h.elim
  obtain ⟨w0, w1, w2, rfl, hi⟩ := h
  exact zero_base_Cut_0 tx c w0 w1 w2 hi
 ·intro n F s h
  obtain _ | ⟨g, F⟩ := F
  case cons => exact h.elim
  obtain ⟨w0, w1, w2, rfl, hi⟩ := h
  rw [er_base_Cut_0]
  exact rnd_base_Cut_0 tx c _ _ _ _ hp hi
def con_base_Cut : Con := fun args => match args with
 | [.t (.c (.v (.string tx))), .t (.c (.v (.int .u8 c)))] => some (.t (.c (.sl 1 ((cutL tx (UInt8.ofNat (c).toNat)).length) (txsC (cutL tx (UInt8.ofNat (c).toNat))))), some (0 ≤ c ∧ c < 256 ∧ (tx).size ≤ 100000000), true)
 | _ => none
theorem ok_base_Cut : Ok Tryz.prog 55 con_base_Cut := by
 refine Ok.fnFr (ann := ann_base_Cut) mixed tabOK VSu79 VIlib rfl (fn := Tryz.f55) (by kernel_rfl) (by kernel_rfl) fit_base_Cut fun args r pre fresh h hp => ?_
 unfold con_base_Cut at h
 split at h
 ·rename_i tx c
  cases h
  refine ⟨rfl, (fun i j _ hj => plain_str _ i j), J_base_Cut tx c, _, LeA.refl _, Nat.le_of_ble_eq_true (by kernel_rfl), ?_, ?_⟩
  ·rw [ev_base_Cut]; exact spec_base_Cut tx c hp
  ·exact all_base_Cut tx c hp
 ·cases h
def Sv80 : Sum := addS Su79 55 con_base_Cut
theorem VSv80 : Valid Tryz.prog Sv80 := Valid.add VSu79 ok_base_Cut
def mk_base_Number_0 (tx : ByteArray) (digits : Int) (v0_0 : Int) (v0_1 : Int) (v0_2 : Int) : DS := ⟨[some (.t (.c (.v (.string tx)))), none, none, none, none, none, some (.t (.c (.v (.int .i64 v0_0)))), some (.t (.c (.v (.int .i64 v0_1)))), some (.t (.c (.v (.int .i64 v0_2)))), none, none, none, none, none, none, none, none, none, none, none, none, none, none, none, none, none, none, none, none, none, none, none, none, none, none, none, none, none, none, none, none, none, none, none, none, none, none, none, none, none, none, none, none, none, none, none, none, none, none, none, none, none, none, none, none, none, none, none, none, none], [none, none, none, none, none, none, none, none, none, none, none, none, none, none, none, none, none, none, none, none, none, none, none, none, none, none, none, none, none, none, none, none, none, none, none, none, none, none, none, none, none, none, none, none, none, none, none, none, none, none, none, none, none, none, none, none, none, none, none, none, none, none, none, none, none, none, none, none, none, none]⟩
def vc_base_Number (J : Inv) (tx : ByteArray) (digits : Int) (post : DV → Prop) : Prop := (cond (decide ((((tx : ByteArray).size : Nat) : Int) > (0 : Int))) ((0 ≤ (0 : Int) ∧ (0 : Int) < (((tx : ByteArray).size : Nat) : Int)) ∧ (True)) ((false = false) ∧ (True))) ∧ (lt ((bif decide ((((tx : ByteArray).size : Nat) : Int) > (0 : Int)) then ((((tx : ByteArray).data.getD 0 0).toNat : Int) == (45 : Int)) else false)) fun x1 => (cond x1 (True) (True)) ∧ (lt ((bif x1 then (1 : Int) else (0 : Int))) fun x2 => (cond ((((tx : ByteArray).size : Nat) : Int) == x2) ((true = true) ∧ ((true = true) ∧ (True))) (lt (IntKind.i64.wrap ((((tx : ByteArray).size : Nat) : Int) - x2)) fun x4 => cond (decide (x4 > digits)) ((true = true) ∧ (True)) ((0 ≤ x2 ∧ x2 < (((tx : ByteArray).size : Nat) : Int)) ∧ (cond ((((tx : ByteArray).data.getD (x2).toNat 0).toNat : Int) == (48 : Int)) (True) ((false = false) ∧ (True)))))) ∧ (lt ((bif ((((tx : ByteArray).size : Nat) : Int) == x2) then true else (bif decide ((IntKind.i64.wrap ((((tx : ByteArray).size : Nat) : Int) - x2)) > digits) then true else (bif ((((tx : ByteArray).data.getD (x2).toNat 0).toNat : Int) == (48 : Int)) then decide ((((tx : ByteArray).size : Nat) : Int) > (1 : Int)) else false)))) fun x5 => cond x5 (post (.tu [.c (.v (.int .i64 0)), .c (.v (.bool false))])) (∃ n, J 0 (n :: []) (mk_base_Number_0 tx digits x2 0 x2)))))
def ann_base_Number : Ann := ⟨fun _ => none, fun b => lookA b [(0, (none, some ⟨[0, 6, 7, 8], [], []⟩))], fun _ => [], Ilib, false, fun r => lookA r [(2, (4, [16])), (4, (5, [39])), (10, (5, [56]))], fun r => lookA r [(3, [6]), (14, [7])]⟩
theorem ev_base_Number (J : Inv) (tx : ByteArray) (digits : Int) (post : DV → Prop) : evFn Tryz.prog tab Sv80 ann_base_Number J Tryz.f96 [.t (.c (.v (.string tx))), .t (.c (.v (.int .i64 digits)))] post = vc_base_Number J tx digits post := by kernel_rfl
theorem fit_base_Number : okFn ann_base_Number Tryz.f96 = true := by kernel_rfl
def rd_base_Number_0 (J : Inv) (tx : ByteArray) (digits : Int) (v0_0 : Int) (v0_1 : Int) (v0_2 : Int) (nn0 : Nat) (post : DV → Prop) : Prop := cond (decide (v0_2 < (((tx : ByteArray).size : Nat) : Int))) ((0 ≤ v0_2 ∧ v0_2 < (((tx : ByteArray).size : Nat) : Int)) ∧ ((cond (decide ((((tx : ByteArray).data.getD (v0_2).toNat 0).toNat : Int) < (48 : Int))) ((true = true) ∧ (True)) ((0 ≤ v0_2 ∧ v0_2 < (((tx : ByteArray).size : Nat) : Int)) ∧ (True))) ∧ (lt ((bif decide ((((tx : ByteArray).data.getD (v0_2).toNat 0).toNat : Int) < (48 : Int)) then true else decide ((((tx : ByteArray).data.getD (v0_2).toNat 0).toNat : Int) > (57 : Int)))) fun x1 => cond x1 (post (.tu [.c (.v (.int .i64 0)), .c (.v (.bool false))])) (lt (IntKind.i64.wrap ((10 : Int) * v0_1)) fun x2 => (0 ≤ v0_2 ∧ v0_2 < (((tx : ByteArray).size : Nat) : Int)) ∧ (lt (IntKind.u8.wrap ((((tx : ByteArray).data.getD (v0_2).toNat 0).toNat : Int) - (48 : Int))) fun x3 => lt (IntKind.i64.wrap x3) fun x4 => lt (IntKind.i64.wrap (x2 + x4)) fun x5 => lt (IntKind.i64.wrap (v0_2 + (1 : Int))) fun x6 => J 0 (nn0 :: []) (mk_base_Number_0 tx digits v0_0 x5 x6)))))) ((cond (v0_0 == (1 : Int)) (lt (IntKind.i64.wrap ((0 : Int) - v0_1)) fun x8 => True) (True)) ∧ (lt ((bif (v0_0 == (1 : Int)) then (IntKind.i64.wrap ((0 : Int) - v0_1)) else v0_1)) fun x9 => post (.tu [.c (.v (.int .i64 x9)), .c (.v (.bool true))])))
theorem er_base_Number_0 (J : Inv) (tx : ByteArray) (digits : Int) (v0_0 : Int) (v0_1 : Int) (v0_2 : Int) (nn0 : Nat) (post : DV → Prop) : round Tryz.prog tab Sv80 ann_base_Number J Tryz.f96 post 0 (nn0 :: []) (mk_base_Number_0 tx digits v0_0 v0_1 v0_2) = rd_base_Number_0 J tx digits v0_0 v0_1 v0_2 nn0 post := by kernel_rfl
theorem lp_base_Number (J : Inv) (post : DV → Prop) : AllG J (loopsFn Tryz.prog tab Sv80 ann_base_Number J Tryz.f96 post) = (((∀ F s, ¬ J 0 (0 :: F) s) ∧ ∀ n F s, J 0 ((n + 1) :: F) s → round Tryz.prog tab Sv80 ann_base_Number J Tryz.f96 post 0 (n :: F) s) ∧ True) := by kernel_rfl
def J_base_Number (tx : ByteArray) (digits : Int) : Inv := fun b F s => match b, F with
 | 0, [nn0] => ∃ (v0_0 : Int) (v0_1 : Int) (v0_2 : Int), s = mk_base_Number_0 tx digits v0_0 v0_1 v0_2 ∧ ((0 ≤ digits ∧ digits ≤ 17 ∧ (tx).size ≤ 100000000) ∧ ¬ numBad tx.data.toList digits.toNat ∧ v0_0 = numAt tx.data.toList ∧ v0_0 ≤ v0_2 ∧ v0_2 ≤ tx.size ∧ (nn0 : Int) + v0_2 = tx.size + 1 ∧ ∃ m : Nat, v0_1 = m ∧ Lib.decFrom 0 ((tx.data.toList.drop (numAt tx.data.toList)).take (v0_2.toNat - numAt tx.data.toList)) = some m)
 | _, _ => False
theorem rnd_base_Number_0 (tx : ByteArray) (digits : Int) (v0_0 : Int) (v0_1 : Int) (v0_2 : Int) (nn0 : Nat) (hp : 0 ≤ digits ∧ digits ≤ 17 ∧ (tx).size ≤ 100000000) (hi : (0 ≤ digits ∧ digits ≤ 17 ∧ (tx).size ≤ 100000000) ∧ ¬ numBad tx.data.toList digits.toNat ∧ v0_0 = numAt tx.data.toList ∧ v0_0 ≤ v0_2 ∧ v0_2 ≤ tx.size ∧ ((nn0 + 1) : Int) + v0_2 = tx.size + 1 ∧ ∃ m : Nat, v0_1 = m ∧ Lib.decFrom 0 ((tx.data.toList.drop (numAt tx.data.toList)).take (v0_2.toNat - numAt tx.data.toList)) = some m) : rd_base_Number_0 (J_base_Number tx digits) tx digits v0_0 v0_1 v0_2 nn0 (fun r => LeD r (.tu [.c (.v (.int .i64 ((numR (tx).data.toList (digits).toNat).getD 0))), .c (.v (.bool ((numR (tx).data.toList (digits).toNat).isSome)))])) := by
 obtain ⟨q, g, i0, i1, i2, i3, m, i4, i5⟩ := hi
 obtain ⟨k, rfl⟩ : ∃ d : Nat, v0_2 = d := ⟨v0_2.toNat, by omega⟩
 obtain ⟨dg, rfl⟩ : ∃ d : Nat, digits = d := ⟨digits.toNat, by omega⟩
 subst i0 i4
 rw [Int.toNat_natCast] at i5 g
 have hz := size_data tx
 have hn := numAt_le tx.data.toList
 have hm : m < 10 ^ 17 := by
  have := Lib.decFrom_lt _ _ _ i5
  have hlen : ((tx.data.toList.drop (numAt tx.data.toList)).take (k - numAt tx.data.toList)).length ≤ 17 := by
   unfold numBad at g
   rw [List.length_take, List.length_drop]
   omega
  have := Nat.pow_le_pow_right (n := 10) (by decide) hlen
  omega
 unfold rd_base_Number_0
 simp only [Int.toNat_natCast, dget]
 refine cond_i (fun h => ?_) (fun h => ?_)
 ·have hlt : k < tx.size := by have := of_decide_eq_true h; omega
  have hlt' : k < tx.data.toList.length := by omega
  have hb := (tx.data.toList.getD k 0).toNat_lt
  refine ⟨⟨by omega, by omega⟩, cond_i (fun _ => ⟨by trivial, trivial⟩) (fun _ => ⟨⟨by omega, by omega⟩, trivial⟩), lt_i fun x1 h1 => cond_i (fun h => ?_) (fun h => ?_)⟩
  ·subst h1
   have e : Lib.digitVal (tx.data.toList.getD k 0) = none := by
    unfold Lib.digitVal
    rw [if_neg]
    rintro ⟨a, b⟩
    rw [decide_eq_false (by omega), decide_eq_false (by omega)] at h
    cases h
   rw [numR_ok g, dec_stop (by omega) hlt' e]
   exact LeD.refl _
  ·subst h1
   have e : 48 ≤ (tx.data.toList.getD k 0).toNat ∧ (tx.data.toList.getD k 0).toNat ≤ 57 := by
    by_cases a : 48 ≤ (tx.data.toList.getD k 0).toNat
    ·rw [decide_eq_false (by omega)] at h
     have h := of_decide_eq_false h
     omega
    ·rw [decide_eq_true (by omega)] at h; cases h
   have e' : Lib.digitVal (tx.data.toList.getD k 0) = some ((tx.data.toList.getD k 0).toNat - 48) := by unfold Lib.digitVal; rw [if_pos e]
   refine lt_i fun x2 h2 => ⟨⟨by omega, by omega⟩, lt_i fun x3 h3 => lt_i fun x4 h4 => lt_i fun x5 h5 => lt_i fun x6 h6 => ?_⟩
   have w3 : x3 = (tx.data.toList.getD k 0).toNat - 48 := by rw [← h3]; exact IntWalk.u8_in _ (by omega)
   rw [wi (by omega)] at h2
   subst h2
   rw [wi (by omega)] at h4
   subst h4
   rw [wi (by omega)] at h5
   rw [wi (by omega)] at h6
   subst h5 h6
   refine ⟨_, _, _, rfl, q, by rw [Int.toNat_natCast]; exact g, rfl, by omega, by omega, by omega, _, ?_, dec_step (by omega) hlt' e' i5⟩
   rw [w3]; omega
 ·have e : k = tx.size := by have := of_decide_eq_false h; omega
  subst e
  rw [List.take_of_length_le (by rw [List.length_drop]; omega)] at i5
  rw [numR_ok g, i5]
  refine ⟨cond_i (fun _ => lt_i fun _ _ => trivial) (fun _ => trivial), lt_i fun x9 h9 => ?_⟩
  rw [wi (by omega)] at h9
  refine le_tu (leI ?_) (LeD.refl _)
  rw [← h9]
  show _ = (if numAt tx.data.toList = 1 then -(m : Int) else m)
  by_cases c : numAt tx.data.toList = 1
  ·rw [c, if_pos rfl]; simp
  ·rw [if_neg c]
   have : (((numAt tx.data.toList : Nat) : Int) == 1) = false := by simp; omega
   rw [this]; rfl
theorem zero_base_Number_0 (tx : ByteArray) (digits : Int) (v0_0 : Int) (v0_1 : Int) (v0_2 : Int)  (hi : (0 ≤ digits ∧ digits ≤ 17 ∧ (tx).size ≤ 100000000) ∧ ¬ numBad tx.data.toList digits.toNat ∧ v0_0 = numAt tx.data.toList ∧ v0_0 ≤ v0_2 ∧ v0_2 ≤ tx.size ∧ (0 : Int) + v0_2 = tx.size + 1 ∧ ∃ m : Nat, v0_1 = m ∧ Lib.decFrom 0 ((tx.data.toList.drop (numAt tx.data.toList)).take (v0_2.toNat - numAt tx.data.toList)) = some m) : False := by
 omega
theorem spec_base_Number (tx : ByteArray) (digits : Int) (hp : 0 ≤ digits ∧ digits ≤ 17 ∧ (tx).size ≤ 100000000) : vc_base_Number (J_base_Number tx digits) tx digits (fun r => LeD r (.tu [.c (.v (.int .i64 ((numR (tx).data.toList (digits).toNat).getD 0))), .c (.v (.bool ((numR (tx).data.toList (digits).toNat).isSome)))])) := by
 unfold vc_base_Number
 obtain ⟨dg, rfl⟩ : ∃ d : Nat, digits = d := ⟨digits.toNat, by omega⟩
 have hz := size_data tx
 have e1 : (bif decide (((tx.size : Nat) : Int) > (0 : Int)) then (((tx.data.getD 0 0).toNat : Int) == (45 : Int)) else false) = decide (numAt tx.data.toList = 1) := by
  rw [dget]
  unfold numAt
  cases e : tx.data.toList with
  | nil => rw [e] at hz; simp at hz; simp [← hz]
  | cons x r =>
   rw [e] at hz
   rw [decide_eq_true (by simp at hz; omega)]
   by_cases g : x = 45
   ·subst g; rfl
   ·have : x.toNat ≠ 45 := fun q => g (UInt8.toNat_inj.1 q)
    simp [List.getD, g]; omega
 rw [e1]
 have hn := numAt_le tx.data.toList
 have h01 : numAt tx.data.toList = 0 ∨ numAt tx.data.toList = 1 := by unfold numAt; split <;> simp
 refine ⟨cond_i (fun h => ⟨⟨by omega, by have := of_decide_eq_true h; omega⟩, trivial⟩) (fun _ => ⟨rfl, trivial⟩), lt_i fun x1 h1 => ⟨cond_i (fun _ => trivial) (fun _ => trivial), lt_i fun x2 h2 => ?_⟩⟩
 have e2 : x2 = (numAt tx.data.toList : Int) := by
  rw [← h2, ← h1]
  rcases h01 with e | e <;> rw [e] <;> rfl
 subst e2
 rw [wi (by omega), Int.toNat_natCast, dget]
 refine ⟨cond_i (fun _ => ⟨rfl, rfl, trivial⟩) (fun h => lt_i fun x4 h4 => cond_i (fun _ => ⟨rfl, trivial⟩) (fun g => ⟨⟨by omega, (by have h := ne_of_beq_false h; omega)⟩, cond_i (fun _ => trivial) (fun _ => ⟨rfl, trivial⟩)⟩)), lt_i fun x5 h5 => ?_⟩
 have e5 : x5 = true ↔ numBad tx.data.toList dg := by
  rw [← h5]
  unfold numBad
  rw [hz]
  have c1 : (((tx.size : Nat) : Int) == (numAt tx.data.toList : Int)) = decide (tx.size = numAt tx.data.toList) := by
   by_cases g : tx.size = numAt tx.data.toList
   ·rw [decide_eq_true g]; simp; omega
   ·rw [decide_eq_false g]; simp; omega
  have c2 : ((((tx.data.toList.getD (numAt tx.data.toList) 0).toNat : Nat) : Int) == (48 : Int)) = decide (tx.data.toList.getD (numAt tx.data.toList) 0 = 48) := by
   by_cases g : tx.data.toList.getD (numAt tx.data.toList) 0 = 48
   ·rw [decide_eq_true g, g]; rfl
   ·rw [decide_eq_false g]
    have : (tx.data.toList.getD (numAt tx.data.toList) 0).toNat ≠ 48 := fun q => g (UInt8.toNat_inj.1 q)
    simp only [beq_eq_false_iff_ne, ne_eq]; omega
  have c3 : decide (((tx.size : Nat) : Int) - (numAt tx.data.toList : Int) > (dg : Int)) = decide (tx.size - numAt tx.data.toList > dg) := by
   by_cases g : tx.size - numAt tx.data.toList > dg
   ·rw [decide_eq_true g]; simp; omega
   ·rw [decide_eq_false g]; simp; omega
  have c4 : decide (((tx.size : Nat) : Int) > (1 : Int)) = decide (1 < tx.size) := by
   by_cases g : 1 < tx.size
   ·rw [decide_eq_true g]; simp; omega
   ·rw [decide_eq_false g]; simp; omega
  rw [c1, c2, c3, c4]
  by_cases g1 : tx.size = numAt tx.data.toList
  ·simp [g1]
  ·by_cases g2 : tx.size - numAt tx.data.toList > dg
   ·simp [g1, g2]
   ·by_cases g3 : tx.data.toList.getD (numAt tx.data.toList) 0 = 48 <;> simp only [g1, g2, g3, decide_false, decide_true, cond_false, cond_true, false_or, true_and, false_and, decide_eq_true_eq, Bool.false_eq_true]
 refine cond_i (fun g => ?_) (fun g => ?_)
 ·rw [Int.toNat_natCast, numR_bad (e5.1 g)]
  exact LeD.refl _
 ·have g : ¬ numBad tx.data.toList dg := fun q => by rw [e5.2 q] at g; cases g
  refine ⟨tx.size + 1 - numAt tx.data.toList, _, _, _, rfl, hp, g, rfl, by omega, by omega, by omega, 0, rfl, ?_⟩
  rw [Int.toNat_natCast, Nat.sub_self]; rfl
theorem all_base_Number (tx : ByteArray) (digits : Int) (hp : 0 ≤ digits ∧ digits ≤ 17 ∧ (tx).size ≤ 100000000) : AllG (J_base_Number tx digits) (loopsFn Tryz.prog tab Sv80 ann_base_Number (J_base_Number tx digits) Tryz.f96 (fun r => LeD r (.tu [.c (.v (.int .i64 ((numR (tx).data.toList (digits).toNat).getD 0))), .c (.v (.bool ((numR (tx).data.toList (digits).toNat).isSome)))]))) := by
 rw [lp_base_Number]
 refine ⟨⟨?_, ?_⟩, trivial⟩
 ·intro F s h
  obtain _ | ⟨g, F⟩ := F
  case cons => exact h.elim
  obtain ⟨w0, w1, w2, rfl, hi⟩ := h
  exact zero_base_Number_0 tx digits w0 w1 w2 hi
 ·intro n F s h
  obtain _ | ⟨g, F⟩ := F
  case cons => exact h.elim
  obtain ⟨w0, w1, w2, rfl, hi⟩ := h
  rw [er_base_Number_0]
  exact rnd_base_Number_0 tx digits _ _ _ _ hp hi
def con_base_Number : Con := fun args => match args with
 | [.t (.c (.v (.string tx))), .t (.c (.v (.int .i64 digits)))] => some (.tu [.c (.v (.int .i64 ((numR (tx).data.toList (digits).toNat).getD 0))), .c (.v (.bool ((numR (tx).data.toList (digits).toNat).isSome)))], some (0 ≤ digits ∧ digits ≤ 17 ∧ (tx).size ≤ 100000000), false)
 | _ => none
theorem ok_base_Number : Ok Tryz.prog 96 con_base_Number := by
 refine Ok.fn (ann := ann_base_Number) mixed tabOK VSv80 VIlib (fn := Tryz.f96) (by kernel_rfl) (by kernel_rfl) fit_base_Number fun args r pre fresh h hp => ?_
 unfold con_base_Number at h
 split at h
 ·rename_i tx digits
  cases h
  refine ⟨rfl, J_base_Number tx digits, _, LeA.refl _, Nat.le_of_ble_eq_true (by kernel_rfl), ?_, ?_⟩
  ·rw [ev_base_Number]; exact spec_base_Number tx digits hp
  ·exact all_base_Number tx digits hp
 ·cases h
def Sv81 : Sum := addS Sv80 96 con_base_Number
theorem VSv81 : Valid Tryz.prog Sv81 := Valid.add VSv80 ok_base_Number
def mk_base_Texts_0 (ta : List ByteArray) (tb : List ByteArray) (v0_0 : Int) : DS := ⟨[some (.t (.c (.sl 1 ta.length (txsC ta)))), some (.t (.c (.sl 1 tb.length (txsC tb)))), none, none, none, some (.t (.c (.v (.int .i64 v0_0)))), none, none, none, none, none, none, none, none, none, none, none, none, none, none, none, none, none, none, none, none], [none, none, none, none, none, none, none, none, none, none, none, none, none, none, none, none, none, none, none, none, none, none, none, none, none, none]⟩
def vc_base_Texts (J : Inv) (ta : List ByteArray) (tb : List ByteArray) (post : DV → Prop) : Prop := cond (((ta.length : Nat) : Int) != ((tb.length : Nat) : Int)) (post (.t (.c (.v (.bool false))))) (∃ n, J 0 (n :: []) (mk_base_Texts_0 ta tb 0))
def ann_base_Texts : Ann := ⟨fun r => lookA r [(6, ([[], [], [0, 1], [0, 1, 2], [], [], [4, 5], [4, 5, 6], [0, 1, 2, 3, 4, 5, 6, 7]], [[], [], [], [], [], [], [], [], []]))], fun b => lookA b [(0, (none, some ⟨[0, 1, 5], [], []⟩))], fun _ => [], Ilib, false, fun _ => none, fun _ => none⟩
theorem ev_base_Texts (J : Inv) (ta : List ByteArray) (tb : List ByteArray) (post : DV → Prop) : evFn Tryz.prog tab Sv81 ann_base_Texts J Tryz.f57 [.t (.c (.sl 1 ta.length (txsC ta))), .t (.c (.sl 1 tb.length (txsC tb)))] post = vc_base_Texts J ta tb post := by kernel_rfl
theorem fit_base_Texts : okFn ann_base_Texts Tryz.f57 = true := by kernel_rfl
def rd_base_Texts_0 (J : Inv) (ta : List ByteArray) (tb : List ByteArray) (v0_0 : Int) (nn0 : Nat) (post : DV → Prop) : Prop := cond (decide (v0_0 < ((ta.length : Nat) : Int))) ((0 ≤ v0_0 ∧ v0_0 < ((ta.length : Nat) : Int)) ∧ ((0 ≤ v0_0 ∧ v0_0 < ((tb.length : Nat) : Int)) ∧ (cond (!(((txAt ta v0_0.toNat) : ByteArray).toList == ((txAt tb v0_0.toNat) : ByteArray).toList)) (post (.t (.c (.v (.bool false))))) (lt (IntKind.i64.wrap (v0_0 + (1 : Int))) fun x1 => J 0 (nn0 :: []) (mk_base_Texts_0 ta tb x1))))) (post (.t (.c (.v (.bool true)))))
theorem er_base_Texts_0 (J : Inv) (ta : List ByteArray) (tb : List ByteArray) (v0_0 : Int) (nn0 : Nat) (post : DV → Prop) : round Tryz.prog tab Sv81 ann_base_Texts J Tryz.f57 post 0 (nn0 :: []) (mk_base_Texts_0 ta tb v0_0) = rd_base_Texts_0 J ta tb v0_0 nn0 post := by kernel_rfl
theorem lp_base_Texts (J : Inv) (post : DV → Prop) : AllG J (loopsFn Tryz.prog tab Sv81 ann_base_Texts J Tryz.f57 post) = (((∀ F s, ¬ J 0 (0 :: F) s) ∧ ∀ n F s, J 0 ((n + 1) :: F) s → round Tryz.prog tab Sv81 ann_base_Texts J Tryz.f57 post 0 (n :: F) s) ∧ True) := by kernel_rfl
def J_base_Texts (ta : List ByteArray) (tb : List ByteArray) : Inv := fun b F s => match b, F with
 | 0, [nn0] => ∃ (v0_0 : Int), s = mk_base_Texts_0 ta tb v0_0 ∧ (ta.length ≤ 100000000 ∧ 0 ≤ v0_0 ∧ v0_0 ≤ ta.length ∧ (nn0 : Int) + v0_0 = ta.length + 1 ∧ ta.length = tb.length ∧ ∀ j : Nat, (j : Int) < v0_0 → txAt ta j = txAt tb j)
 | _, _ => False
theorem rnd_base_Texts_0 (ta : List ByteArray) (tb : List ByteArray) (v0_0 : Int) (nn0 : Nat) (hp : (ta).length ≤ 100000000) (hi : ta.length ≤ 100000000 ∧ 0 ≤ v0_0 ∧ v0_0 ≤ ta.length ∧ ((nn0 + 1) : Int) + v0_0 = ta.length + 1 ∧ ta.length = tb.length ∧ ∀ j : Nat, (j : Int) < v0_0 → txAt ta j = txAt tb j) : rd_base_Texts_0 (J_base_Texts ta tb) ta tb v0_0 nn0 (fun r => LeD r (.t (.c (.v (.bool (decide (ta = tb))))))) := by
 obtain ⟨q, i1, i2, i3, i4, i5⟩ := hi
 obtain ⟨k, rfl⟩ : ∃ k : Nat, v0_0 = k := ⟨v0_0.toNat, by omega⟩
 have hk : (k : Int).toNat = k := rfl
 unfold rd_base_Texts_0
 rw [hk]
 refine cond_i (fun h => ?_) (fun h => leB ?_)
 ·have hlt : k < ta.length := by have := of_decide_eq_true h; omega
  rw [beq_txt]
  refine ⟨⟨by omega, by omega⟩, ⟨by omega, by omega⟩, cond_i (fun g => leB ?_) (fun g => lt_i fun x1 h1 => ?_)⟩
  ·have g : txAt ta k ≠ txAt tb k := by simpa using g
   exact (decide_eq_false fun e => g (by rw [e])).symm
  ·have g : txAt ta k = txAt tb k := by simpa using g
   rw [wi (by omega)] at h1
   subst h1
   exact ⟨_, rfl, q, by omega, by omega, by omega, i4, fun j hj => by
    by_cases e : j = k
    ·rw [e]; exact g
    ·exact i5 j (by omega)⟩
 ·have h := of_decide_eq_false h
  refine (decide_eq_true (List.ext_getElem i4 fun j h1 h2 => ?_)).symm
  have := i5 j (by omega)
  simpa [txAt, List.getD, h1, h2] using this
theorem zero_base_Texts_0 (ta : List ByteArray) (tb : List ByteArray) (v0_0 : Int)  (hi : ta.length ≤ 100000000 ∧ 0 ≤ v0_0 ∧ v0_0 ≤ ta.length ∧ (0 : Int) + v0_0 = ta.length + 1 ∧ ta.length = tb.length ∧ ∀ j : Nat, (j : Int) < v0_0 → txAt ta j = txAt tb j) : False := by
 omega
theorem spec_base_Texts (ta : List ByteArray) (tb : List ByteArray) (hp : (ta).length ≤ 100000000) : vc_base_Texts (J_base_Texts ta tb) ta tb (fun r => LeD r (.t (.c (.v (.bool (decide (ta = tb))))))) := by
 unfold vc_base_Texts
 refine cond_i (fun h => leB ?_) (fun h => ?_)
 ·have h : ta.length ≠ tb.length := by intro e; rw [e] at h; simp at h
  exact (decide_eq_false fun e => h (by rw [e])).symm
 ·have h : ta.length = tb.length := (by have h : (ta.length : Int) = tb.length := (by simpa using h); omega)
  exact ⟨ta.length + 1, 0, rfl, by simpa [txOf_len, txs_of] using hp, by omega, by omega, by omega, h, fun j hj => by omega⟩
theorem all_base_Texts (ta : List ByteArray) (tb : List ByteArray) (hp : (ta).length ≤ 100000000) : AllG (J_base_Texts ta tb) (loopsFn Tryz.prog tab Sv81 ann_base_Texts (J_base_Texts ta tb) Tryz.f57 (fun r => LeD r (.t (.c (.v (.bool (decide (ta = tb)))))))) := by
 rw [lp_base_Texts]
 refine ⟨⟨?_, ?_⟩, trivial⟩
 ·intro F s h
  obtain _ | ⟨g, F⟩ := F
  case cons => exact h.elim
  obtain ⟨w0, rfl, hi⟩ := h
  exact zero_base_Texts_0 ta tb w0 hi
 ·intro n F s h
  obtain _ | ⟨g, F⟩ := F
  case cons => exact h.elim
  obtain ⟨w0, rfl, hi⟩ := h
  rw [er_base_Texts_0]
  exact rnd_base_Texts_0 ta tb _ _ hp hi
def con_base_Texts : Con := fun args => match args with
 | [.t (.c (.sl 1 n_ta c_ta)), .t (.c (.sl 1 n_tb c_tb))] => some (.t (.c (.v (.bool (decide ((txOf n_ta c_ta) = (txOf n_tb c_tb)))))), some (txP n_ta c_ta ∧ txP n_tb c_tb ∧ ((txOf n_ta c_ta)).length ≤ 100000000), false)
 | _ => none
theorem ok_base_Texts : Ok Tryz.prog 57 con_base_Texts := by
 refine Ok.fn (ann := ann_base_Texts) mixed tabOK VSv81 VIlib (fn := Tryz.f57) (by kernel_rfl) (by kernel_rfl) fit_base_Texts fun args r pre fresh h hp => ?_
 unfold con_base_Texts at h
 split at h
 ·rename_i n_ta c_ta n_tb c_tb
  cases h
  obtain ⟨hp0, hp1, hp⟩ := hp
  refine ⟨rfl, J_base_Texts (txOf n_ta c_ta) (txOf n_tb c_tb), [.t (.c (.sl 1 ((txOf n_ta c_ta).length) (txsC (txOf n_ta c_ta)))), .t (.c (.sl 1 ((txOf n_tb c_tb).length) (txsC (txOf n_tb c_tb))))], ?_, Nat.le_of_ble_eq_true (by kernel_rfl), ?_, ?_⟩
  ·exact (LeA_cons (leT_c ((leL_str hp0))) (LeA_cons (leT_c ((leL_str hp1))) LeA_nil))
  ·rw [ev_base_Texts]; exact spec_base_Texts (txOf n_ta c_ta) (txOf n_tb c_tb) hp
  ·exact all_base_Texts (txOf n_ta c_ta) (txOf n_tb c_tb) hp
 ·cases h
def Sv82 : Sum := addS Sv81 57 con_base_Texts
theorem VSv82 : Valid Tryz.prog Sv82 := Valid.add VSv81 ok_base_Texts
end Go.Proofs.YtlapeoboekchpaaGreatDoor
set_option linter.unusedVariables false
set_option linter.unusedSimpArgs false
namespace Go.Proofs.YtlapeoboekchpaaGreatDoor
open Go.RowKit Ev
theorem names_snoc {l : List ByteArray} {k : Nat} (h : k < l.length) (h0 : 0 < k) : (joinB (l.take k) ⟨#[44]⟩ ++ ⟨#[44]⟩) ++ txAt l k = joinB (l.take (k + 1)) ⟨#[44]⟩ := by
 rw [take_snoc l (txAt l k) h, show l.getD k (txAt l k) = txAt l k by simp [txAt, List.getD, h], joinB_snoc _ _ (by intro e; have := congrArg List.length e; rw [List.length_take, List.length_nil] at this; omega)]
theorem names_one {l : List ByteArray} (h : 0 < l.length) : (⟨#[]⟩ : ByteArray) ++ txAt l 0 = joinB (l.take 1) ⟨#[44]⟩ := by
 rw [empty_app, take_snoc l (txAt l 0) h, List.take_zero, List.nil_append, joinB_single]
 simp [txAt, List.getD, h]
theorem links_snoc (t : ByteArray) {l : List Lnk} {k : Nat} (h : k < l.length) : (joinB (t :: (l.take k).map lnkW) ⟨#[59]⟩ ++ ⟨#[59]⟩) ++ lnkW (lnkAt l k) = joinB (t :: (l.take (k + 1)).map lnkW) ⟨#[59]⟩ := by
 rw [take_snoc l (lnkAt l k) h, show l.getD k (lnkAt l k) = lnkAt l k by simp [lnkAt, List.getD, h], List.map_append, List.map_singleton, ← List.cons_append, joinB_snoc _ _ (by simp)]
theorem names_take {cs : List ByteArray} {k : Nat} (h1 : cs.length ≤ 8) (h3 : ∀ k, k < cs.length → (txAt cs k).size ≤ 20) : (joinB (cs.take k) ⟨#[44]⟩).size ≤ 200 := by
 have := joinB_len (cs.take k) 44 (m := 20) (fun t ht => by
  obtain ⟨i, hi, e⟩ := List.mem_iff_getElem.1 (List.mem_of_mem_take ht)
  have := h3 i hi
  rwa [show txAt cs i = t by simp [txAt, List.getD, hi, e]] at this)
 rw [List.length_take] at this
 omega
theorem links_take {cs : List ByteArray} {ls : List Lnk} {k : Nat} (h1 : cs.length ≤ 8) (h2 : ls.length ≤ 14) (h3 : ∀ k, k < cs.length → (txAt cs k).size ≤ 20) (h4 : ∀ k, k < ls.length → rgI (lnkAt ls k)) : (joinB (joinB cs ⟨#[44]⟩ :: (ls.take k).map lnkW) ⟨#[59]⟩).size ≤ 6000 :=
 (netT_len (cs := cs) (ls := ls.take k) h1 (by rw [List.length_take]; omega) h3 fun i hi => by
  rw [List.length_take] at hi
  have := h4 i (by omega)
  rwa [show lnkAt (ls.take k) i = lnkAt ls i by simp [lnkAt, List.getD, List.getElem?_take, show i < k by omega]]).2
theorem lnk_eqB (x y : Lnk) : (bif (x.frm == y.frm) then (bif (x.to == y.to) then (bif (bif (x.lo == y.lo) then (bif (x.hi == y.hi) then true else false) else false) then true else false) else false) else false) = decide (x = y) := by
 obtain ⟨a, b, c, d⟩ := x
 obtain ⟨a', b', c', d'⟩ := y
 by_cases h1 : a = a'
 ·by_cases h2 : b = b'
  ·by_cases h3 : c = c'
   ·by_cases h4 : d = d'
    ·subst h1 h2 h3 h4; simp
    ·simp [h1, h2, h3, h4]
   ·simp [h1, h2, h3]
  ·simp [h1, h2]
 ·simp [h1]
end Go.Proofs.YtlapeoboekchpaaGreatDoor
set_option linter.unusedVariables false
set_option linter.unusedSimpArgs false
namespace Go.Proofs.YtlapeoboekchpaaGreatDoor
open Go.RowKit Ev
def con_base_Decimal : Con := fun args => match args with
 | [.t (.c (.v (.int .i64 n)))] => some (.t (.c (.v (.string (itoaB n)))), some (-9223372036854775808 ≤ n ∧ n ≤ 9223372036854775807), false)
 | _ => none
theorem ok_base_Decimal : Ok Tryz.prog 97 con_base_Decimal := by
 refine Ok.oldG (Enters.of (fn := Tryz.f97) (by kernel_rfl) (by kernel_rfl) (by kernel_rfl)) fun args r pre fresh h hp => ?_
 unfold con_base_Decimal at h
 split at h
 ·rename_i n
  cases h
  refine ⟨rfl, _, rfl, fun W N vs hv => ?_⟩
  have hp := hp
  obtain ⟨u0, ws0, k0, g0, hv0⟩ := hv.cons_inv
  subst k0
  have e0 := plain_arg rfl g0
  subst e0
  have ev := hv0.nil_inv
  subst ev
  exact walk_Decimal W n hp
 ·cases h
def Sw483 : Sum := addS Sv82 97 con_base_Decimal
theorem VSw483 : Valid Tryz.prog Sw483 := Valid.add VSv82 ok_base_Decimal
def mk_ref01_words_0 (l : List Int) (v0_0 : ByteArray) (v0_1 : Int) : DS := ⟨[some (.t (.c (.sl 1 l.length (intsC l)))), none, none, some (.t (.c (.v (.string v0_0)))), some (.t (.c (.v (.int .i64 v0_1)))), none, none, none, none, none, none, none, none, none, none, none, none, none, none, none, none, none, none], [none, none, none, none, none, none, none, none, none, none, none, none, none, none, none, none, none, none, none, none, none, none, none]⟩
def vc_ref01_words (J : Inv) (l : List Int) (post : DV → Prop) : Prop := ∃ n, J 0 (n :: []) (mk_ref01_words_0 l (⟨#[]⟩) 0)
def ann_ref01_words : Ann := ⟨fun _ => none, fun b => lookA b [(0, (none, some ⟨[0, 3, 4], [], []⟩))], fun _ => [], Ilib, false, fun _ => none, fun _ => none⟩
theorem ev_ref01_words (J : Inv) (l : List Int) (post : DV → Prop) : evFn Tryz.prog tab Sw483 ann_ref01_words J Tryz.f56 [.t (.c (.sl 1 l.length (intsC l)))] post = vc_ref01_words J l post := by kernel_rfl
theorem fit_ref01_words : okFn ann_ref01_words Tryz.f56 = true := by kernel_rfl
def rd_ref01_words_0 (J : Inv) (l : List Int) (v0_0 : ByteArray) (v0_1 : Int) (nn0 : Nat) (post : DV → Prop) : Prop := cond (decide (v0_1 < ((l.length : Nat) : Int))) (cond (decide (v0_1 > (0 : Int))) (((((v0_0 : ByteArray).size + ((⟨#[32]⟩) : ByteArray).size : Nat) : Int) ≤ 9223372036854775807) ∧ ((0 ≤ v0_1 ∧ v0_1 < ((l.length : Nat) : Int)) ∧ ((-9223372036854775808 ≤ (l.getD v0_1.toNat 0) ∧ (l.getD v0_1.toNat 0) ≤ 9223372036854775807) ∧ ((((((v0_0 ++ (⟨#[32]⟩)) : ByteArray).size + ((itoaB (l.getD v0_1.toNat 0)) : ByteArray).size : Nat) : Int) ≤ 9223372036854775807) ∧ (lt (IntKind.i64.wrap (v0_1 + (1 : Int))) fun x1 => J 0 (nn0 :: []) (mk_ref01_words_0 l ((v0_0 ++ (⟨#[32]⟩)) ++ (itoaB (l.getD v0_1.toNat 0))) x1)))))) ((0 ≤ v0_1 ∧ v0_1 < ((l.length : Nat) : Int)) ∧ ((-9223372036854775808 ≤ (l.getD v0_1.toNat 0) ∧ (l.getD v0_1.toNat 0) ≤ 9223372036854775807) ∧ (((((v0_0 : ByteArray).size + ((itoaB (l.getD v0_1.toNat 0)) : ByteArray).size : Nat) : Int) ≤ 9223372036854775807) ∧ (lt (IntKind.i64.wrap (v0_1 + (1 : Int))) fun x2 => J 0 (nn0 :: []) (mk_ref01_words_0 l (v0_0 ++ (itoaB (l.getD v0_1.toNat 0))) x2)))))) (post (.t (.c (.v (.string v0_0)))))
theorem er_ref01_words_0 (J : Inv) (l : List Int) (v0_0 : ByteArray) (v0_1 : Int) (nn0 : Nat) (post : DV → Prop) : round Tryz.prog tab Sw483 ann_ref01_words J Tryz.f56 post 0 (nn0 :: []) (mk_ref01_words_0 l v0_0 v0_1) = rd_ref01_words_0 J l v0_0 v0_1 nn0 post := by kernel_rfl
theorem lp_ref01_words (J : Inv) (post : DV → Prop) : AllG J (loopsFn Tryz.prog tab Sw483 ann_ref01_words J Tryz.f56 post) = (((∀ F s, ¬ J 0 (0 :: F) s) ∧ ∀ n F s, J 0 ((n + 1) :: F) s → round Tryz.prog tab Sw483 ann_ref01_words J Tryz.f56 post 0 (n :: F) s) ∧ True) := by kernel_rfl
def J_ref01_words (l : List Int) : Inv := fun b F s => match b, F with
 | 0, [nn0] => ∃ (v0_0 : ByteArray) (v0_1 : Int), s = mk_ref01_words_0 l v0_0 v0_1 ∧ ((l.length ≤ 100 ∧ (∀ i, i < (l).length → -9223372036854775808 ≤ (l).getD i 0 ∧ (l).getD i 0 ≤ 9223372036854775807)) ∧ 0 ≤ v0_1 ∧ v0_1 ≤ l.length ∧ (nn0 : Int) + v0_1 = l.length + 1 ∧ v0_0 = wordsB (l.take v0_1.toNat))
 | _, _ => False
theorem rnd_ref01_words_0 (l : List Int) (v0_0 : ByteArray) (v0_1 : Int) (nn0 : Nat) (hp : (l).length ≤ 100 ∧ (∀ i, i < (l).length → -9223372036854775808 ≤ (l).getD i 0 ∧ (l).getD i 0 ≤ 9223372036854775807)) (hi : (l.length ≤ 100 ∧ (∀ i, i < (l).length → -9223372036854775808 ≤ (l).getD i 0 ∧ (l).getD i 0 ≤ 9223372036854775807)) ∧ 0 ≤ v0_1 ∧ v0_1 ≤ l.length ∧ ((nn0 + 1) : Int) + v0_1 = l.length + 1 ∧ v0_0 = wordsB (l.take v0_1.toNat)) : rd_ref01_words_0 (J_ref01_words l) l v0_0 v0_1 nn0 (fun r => LeD r (.t (.c (.v (.string (wordsB l)))))) := by
 obtain ⟨q, i1, i2, i3, i4⟩ := hi
 obtain ⟨k, rfl⟩ : ∃ k : Nat, v0_1 = k := ⟨v0_1.toNat, by omega⟩
 have hk : (k : Int).toNat = k := rfl
 rw [hk] at i4
 subst i4
 unfold rd_ref01_words_0
 rw [Int.toNat_natCast]
 have w1 := words_take (k := k) q.1 q.2
 refine cond_i (fun h => ?_) (fun h => ?_)
 ·have hlt : k < l.length := by have := of_decide_eq_true h; omega
  have b := q.2 k hlt
  have w2 := itoaB_len b
  refine cond_i (fun g => ?_) (fun g => ?_)
  ·have g : 0 < k := by have := of_decide_eq_true g; omega
   have w3 : ((wordsB (l.take k) ++ ⟨#[32]⟩ : ByteArray)).size ≤ 2101 := by rw [ByteArray.size_append]; show _ + 1 ≤ _; omega
   refine ⟨by show (((wordsB (l.take k)).size + 1 : Nat) : Int) ≤ _; omega, ⟨by omega, by omega⟩, b, by omega, lt_i fun x1 h1 => ?_⟩
   rw [wi (by omega)] at h1
   subst h1
   exact ⟨_, _, rfl, q, by omega, by omega, by omega, words_snoc hlt g⟩
  ·have g : k = 0 := by have := of_decide_eq_false g; omega
   subst g
   refine ⟨⟨by omega, by omega⟩, b, by omega, lt_i fun x1 h1 => ?_⟩
   rw [wi (by omega)] at h1
   subst h1
   exact ⟨_, _, rfl, q, by omega, by omega, by omega, words_one hlt⟩
 ·have e : k = l.length := by have := of_decide_eq_false h; omega
  subst e
  rw [List.take_length]
  exact LeD.refl _
theorem zero_ref01_words_0 (l : List Int) (v0_0 : ByteArray) (v0_1 : Int)  (hi : (l.length ≤ 100 ∧ (∀ i, i < (l).length → -9223372036854775808 ≤ (l).getD i 0 ∧ (l).getD i 0 ≤ 9223372036854775807)) ∧ 0 ≤ v0_1 ∧ v0_1 ≤ l.length ∧ (0 : Int) + v0_1 = l.length + 1 ∧ v0_0 = wordsB (l.take v0_1.toNat)) : False := by
 omega
theorem spec_ref01_words (l : List Int) (hp : (l).length ≤ 100 ∧ (∀ i, i < (l).length → -9223372036854775808 ≤ (l).getD i 0 ∧ (l).getD i 0 ≤ 9223372036854775807)) : vc_ref01_words (J_ref01_words l) l (fun r => LeD r (.t (.c (.v (.string (wordsB l)))))) := by
 unfold vc_ref01_words
 exact ⟨l.length + 1, _, 0, rfl, hp, by omega, by omega, by omega, rfl⟩
theorem all_ref01_words (l : List Int) (hp : (l).length ≤ 100 ∧ (∀ i, i < (l).length → -9223372036854775808 ≤ (l).getD i 0 ∧ (l).getD i 0 ≤ 9223372036854775807)) : AllG (J_ref01_words l) (loopsFn Tryz.prog tab Sw483 ann_ref01_words (J_ref01_words l) Tryz.f56 (fun r => LeD r (.t (.c (.v (.string (wordsB l))))))) := by
 rw [lp_ref01_words]
 refine ⟨⟨?_, ?_⟩, trivial⟩
 ·intro F s h
  obtain _ | ⟨g, F⟩ := F
  case cons => exact h.elim
  obtain ⟨w0, w1, rfl, hi⟩ := h
  exact zero_ref01_words_0 l w0 w1 hi
 ·intro n F s h
  obtain _ | ⟨g, F⟩ := F
  case cons => exact h.elim
  obtain ⟨w0, w1, rfl, hi⟩ := h
  rw [er_ref01_words_0]
  exact rnd_ref01_words_0 l _ _ _ hp hi
def con_ref01_words : Con := fun args => match args with
 | [.t (.c (.sl 1 n_l c_l))] => some (.t (.c (.v (.string (wordsB (listC n_l mkInt c_l))))), some (numsP 1 n_l c_l ∧ ((listC n_l mkInt c_l)).length ≤ 100 ∧ (∀ i, i < ((listC n_l mkInt c_l)).length → -9223372036854775808 ≤ ((listC n_l mkInt c_l)).getD i 0 ∧ ((listC n_l mkInt c_l)).getD i 0 ≤ 9223372036854775807)), false)
 | _ => none
theorem ok_ref01_words : Ok Tryz.prog 56 con_ref01_words := by
 refine Ok.fn (ann := ann_ref01_words) mixed tabOK VSw483 VIlib (fn := Tryz.f56) (by kernel_rfl) (by kernel_rfl) fit_ref01_words fun args r pre fresh h hp => ?_
 unfold con_ref01_words at h
 split at h
 ·rename_i n_l c_l
  cases h
  obtain ⟨hp0, hp⟩ := hp
  refine ⟨rfl, J_ref01_words (listC n_l mkInt c_l), [.t (.c (.sl 1 ((listC n_l mkInt c_l).length) (intsC (listC n_l mkInt c_l))))], ?_, Nat.le_of_ble_eq_true (by kernel_rfl), ?_, ?_⟩
  ·exact (LeA_cons (leT_c ((leL_int hp0))) LeA_nil)
  ·rw [ev_ref01_words]; exact spec_ref01_words (listC n_l mkInt c_l) hp
  ·exact all_ref01_words (listC n_l mkInt c_l) hp
 ·cases h
def Sw484 : Sum := addS Sw483 56 con_ref01_words
theorem VSw484 : Valid Tryz.prog Sw484 := Valid.add VSw483 ok_ref01_words
def mk_ref01_numbers_0 (tx : ByteArray) (count : Int) (digits : Int) (signed : Int) (v0_0 : List Int) (v0_1 : Int) : DS := ⟨[none, none, some (.t (.c (.v (.int .i64 digits)))), some (.t (.c (.v (.int .i64 signed)))), none, none, none, none, none, none, some (.t (.c (.sl 1 ((cutL tx (UInt8.ofNat ((32 : Int)).toNat)).length) (txsC (cutL tx (UInt8.ofNat ((32 : Int)).toNat)))))), some (.t (.c (.os 11))), some (.t (.c (.v (.int .i64 v0_1)))), none, none, none, none, none, none, none, none, none, none, none, none, none, none, none, none, none, none, none, none, none, none, none, none, none, none, none, none, none, none, none, none, none, none, none, none, none, none, none], [none, none, none, none, none, none, none, none, none, none, none, some (.num 3 .i64 v0_0), none, none, none, none, none, none, none, none, none, none, none, none, none, none, none, none, none, none, none, none, none, none, none, none, none, none, none, none, none, none, none, none, none, none, none, none, none, none, none, none]⟩
def vc_ref01_numbers (J : Inv) (tx : ByteArray) (count : Int) (digits : Int) (signed : Int) (post : DV → Prop) : Prop := (0 ≤ (32 : Int) ∧ (32 : Int) < 256 ∧ (tx).size ≤ 100000000) ∧ (cond ((((cutL tx (UInt8.ofNat ((32 : Int)).toNat)).length : Nat) : Int) != count) (post (.tu [.c (.v (.slice none 0 0)), .c (.v (.bool false))])) (∃ n, J 0 (n :: []) (mk_ref01_numbers_0 tx count digits signed ([]) 0)))
def ann_ref01_numbers : Ann := ⟨fun _ => none, fun b => lookA b [(0, (none, some ⟨[2, 3, 10, 12], [], [(11, .num 3 .i64 ([]))]⟩))], fun _ => [], Ilib, true, fun r => lookA r [(9, (3, [46]))], fun _ => none⟩
theorem ev_ref01_numbers (J : Inv) (tx : ByteArray) (count : Int) (digits : Int) (signed : Int) (post : DV → Prop) : evFn Tryz.prog tab Sw484 ann_ref01_numbers J Tryz.f54 [.t (.c (.v (.string tx))), .t (.c (.v (.int .i64 count))), .t (.c (.v (.int .i64 digits))), .t (.c (.v (.int .i64 signed)))] post = vc_ref01_numbers J tx count digits signed post := by kernel_rfl
theorem fit_ref01_numbers : okFn ann_ref01_numbers Tryz.f54 = true := by kernel_rfl
def rd_ref01_numbers_0 (J : Inv) (tx : ByteArray) (count : Int) (digits : Int) (signed : Int) (v0_0 : List Int) (v0_1 : Int) (nn0 : Nat) (post : DV → Prop) : Prop := cond (decide (v0_1 < (((cutL tx (UInt8.ofNat ((32 : Int)).toNat)).length : Nat) : Int))) ((0 ≤ v0_1 ∧ v0_1 < (((cutL tx (UInt8.ofNat ((32 : Int)).toNat)).length : Nat) : Int)) ∧ ((0 ≤ digits ∧ digits ≤ 17 ∧ ((txAt (cutL tx (UInt8.ofNat ((32 : Int)).toNat)) v0_1.toNat)).size ≤ 100000000) ∧ ((cond (!((numR ((txAt (cutL tx (UInt8.ofNat ((32 : Int)).toNat)) v0_1.toNat)).data.toList (digits).toNat).isSome)) ((true = true) ∧ (True)) (cond (decide (((numR ((txAt (cutL tx (UInt8.ofNat ((32 : Int)).toNat)) v0_1.toNat)).data.toList (digits).toNat).getD 0) < (0 : Int))) (True) ((false = false) ∧ (True)))) ∧ (lt ((bif (!((numR ((txAt (cutL tx (UInt8.ofNat ((32 : Int)).toNat)) v0_1.toNat)).data.toList (digits).toNat).isSome)) then true else (bif decide (((numR ((txAt (cutL tx (UInt8.ofNat ((32 : Int)).toNat)) v0_1.toNat)).data.toList (digits).toNat).getD 0) < (0 : Int)) then decide (v0_1 < signed) else false))) fun x1 => cond x1 (post (.tu [.c (.v (.slice none 0 0)), .c (.v (.bool false))])) (((IntKind.i64 = IntKind.i64 ∧ True) ∧ roomP 8 (v0_0.length + ([(numR ((txAt (cutL tx (UInt8.ofNat ((32 : Int)).toNat)) v0_1.toNat)).data.toList (digits).toNat).getD 0] : List Int).length)) ∧ (lt (IntKind.i64.wrap (v0_1 + (1 : Int))) fun x2 => J 0 (nn0 :: []) (mk_ref01_numbers_0 tx count digits signed (v0_0 ++ ([(numR ((txAt (cutL tx (UInt8.ofNat ((32 : Int)).toNat)) v0_1.toNat)).data.toList (digits).toNat).getD 0])) x2))))))) (post (.tu [.c (.sl 1 v0_0.length (numsC .i64 v0_0)), .c (.v (.bool true))]))
theorem er_ref01_numbers_0 (J : Inv) (tx : ByteArray) (count : Int) (digits : Int) (signed : Int) (v0_0 : List Int) (v0_1 : Int) (nn0 : Nat) (post : DV → Prop) : round Tryz.prog tab Sw484 ann_ref01_numbers J Tryz.f54 post 0 (nn0 :: []) (mk_ref01_numbers_0 tx count digits signed v0_0 v0_1) = rd_ref01_numbers_0 J tx count digits signed v0_0 v0_1 nn0 post := by kernel_rfl
theorem lp_ref01_numbers (J : Inv) (post : DV → Prop) : AllG J (loopsFn Tryz.prog tab Sw484 ann_ref01_numbers J Tryz.f54 post) = (((∀ F s, ¬ J 0 (0 :: F) s) ∧ ∀ n F s, J 0 ((n + 1) :: F) s → round Tryz.prog tab Sw484 ann_ref01_numbers J Tryz.f54 post 0 (n :: F) s) ∧ True) := by kernel_rfl
def J_ref01_numbers (tx : ByteArray) (count : Int) (digits : Int) (signed : Int) : Inv := fun b F s => match b, F with
 | 0, [nn0] => ∃ (v0_0 : List Int) (v0_1 : Int), s = mk_ref01_numbers_0 tx count digits signed v0_0 v0_1 ∧ ((0 ≤ count ∧ 0 ≤ digits ∧ digits ≤ 17 ∧ 0 ≤ signed ∧ (tx).size ≤ 100000000) ∧ ((nPc 32 tx : Nat) : Int) = count ∧ 0 ≤ v0_1 ∧ v0_1 ≤ count ∧ (nn0 : Int) + v0_1 = count + 1 ∧ v0_0 = valsW tx digits.toNat v0_1.toNat ∧ ∀ j, j < v0_1.toNat → goodW tx digits.toNat signed.toNat j = true)
 | _, _ => False
theorem rnd_ref01_numbers_0 (tx : ByteArray) (count : Int) (digits : Int) (signed : Int) (v0_0 : List Int) (v0_1 : Int) (nn0 : Nat) (hp : 0 ≤ count ∧ 0 ≤ digits ∧ digits ≤ 17 ∧ 0 ≤ signed ∧ (tx).size ≤ 100000000) (hi : (0 ≤ count ∧ 0 ≤ digits ∧ digits ≤ 17 ∧ 0 ≤ signed ∧ (tx).size ≤ 100000000) ∧ ((nPc 32 tx : Nat) : Int) = count ∧ 0 ≤ v0_1 ∧ v0_1 ≤ count ∧ ((nn0 + 1) : Int) + v0_1 = count + 1 ∧ v0_0 = valsW tx digits.toNat v0_1.toNat ∧ ∀ j, j < v0_1.toNat → goodW tx digits.toNat signed.toNat j = true) : rd_ref01_numbers_0 (J_ref01_numbers tx count digits signed) tx count digits signed v0_0 v0_1 nn0 (fun r => LeD r (.tu [.c (.sl 1 ((rW tx (count).toNat (digits).toNat (signed).toNat).length) (intsC (rW tx (count).toNat (digits).toNat (signed).toNat))), .c (.v (.bool (okW tx (count).toNat (digits).toNat (signed).toNat)))])) := by
 obtain ⟨⟨q1, q2, q3, q4, q5⟩, i0, i1, i2, i3, i4, i5⟩ := hi
 obtain ⟨dg, rfl⟩ : ∃ d : Nat, digits = d := ⟨digits.toNat, by omega⟩
 obtain ⟨sg, rfl⟩ : ∃ d : Nat, signed = d := ⟨signed.toNat, by omega⟩
 obtain ⟨k, rfl⟩ : ∃ d : Nat, v0_1 = d := ⟨v0_1.toNat, by omega⟩
 subst i0
 simp only [Int.toNat_natCast] at i4 i5
 subst i4
 have np := nPc_le 32 tx
 unfold rd_ref01_numbers_0
 rw [show (UInt8.ofNat ((32 : Int)).toNat) = 32 from rfl, cutL_len]
 simp only [Int.toNat_natCast]
 refine cond_i (fun h => ?_) (fun h => ?_)
 ·have hlt : k < nPc 32 tx := by have := of_decide_eq_true h; omega
  simp only [cutL_at hlt, ofL_data]
  refine ⟨⟨by omega, by omega⟩, ⟨by omega, by omega, by rw [ofL_size]; exact Nat.le_trans wAt_len (by omega)⟩, cond_i (fun _ => ⟨by trivial, trivial⟩) (fun _ => cond_i (fun _ => trivial) (fun _ => ⟨by trivial, trivial⟩)), lt_i fun x1 h1 => ?_⟩
  have e1 : x1 = !goodW tx dg sg k := by
   rw [← h1]
   unfold goodW
   cases e : numR (wAt 32 tx k) dg with
   | none => rfl
   | some v =>
    show (bif decide (v < 0) then decide ((k : Int) < sg) else false) = !(!(decide (v < 0) && decide (k < sg)))
    have : decide ((k : Int) < sg) = decide (k < sg) := by simp
    rw [this]
    cases decide (v < 0) <;> simp
  subst e1
  refine cond_i (fun g => ?_) (fun g => ?_)
  ·have g : goodW tx dg sg k = false := by simpa using g
   have e : okW tx (nPc 32 tx) dg sg = false := by unfold okW; rw [allW_no hlt g]; rfl
   rw [show rW tx (nPc 32 tx) dg sg = [] from if_neg (by rw [e]; simp), e]
   exact le_tu le_nil (LeD.refl _)
  ·have g : goodW tx dg sg k = true := by simpa using g
   refine ⟨⟨⟨by trivial, trivial⟩, by simp [valsW_len]; omega, by simp [valsW_len, maxLen]; omega⟩, lt_i fun x2 h2 => ?_⟩
   rw [wi (by omega)] at h2
   subst h2
   refine ⟨_, _, rfl, ⟨q1, q2, q3, q4, q5⟩, rfl, by omega, by omega, by omega, ?_, fun j hj => ?_⟩
   ·rw [show ((k : Int) + 1).toNat = k + 1 from rfl, Int.toNat_natCast, valsW_succ]; rfl
   ·rw [Int.toNat_natCast, Int.toNat_natCast]
    rcases (by omega : j < k ∨ j = k) with c | rfl
    ·exact i5 j c
    ·exact g
 ·have e : k = nPc 32 tx := by have := of_decide_eq_false h; omega
  have a : allW tx dg sg = true := allW_yes fun j hj => i5 j (by omega)
  have o : okW tx (nPc 32 tx) dg sg = true := by unfold okW; rw [a]; simp
  rw [show rW tx (nPc 32 tx) dg sg = valsW tx dg (nPc 32 tx) from if_pos o, o, e]
  exact LeD.refl _
theorem zero_ref01_numbers_0 (tx : ByteArray) (count : Int) (digits : Int) (signed : Int) (v0_0 : List Int) (v0_1 : Int)  (hi : (0 ≤ count ∧ 0 ≤ digits ∧ digits ≤ 17 ∧ 0 ≤ signed ∧ (tx).size ≤ 100000000) ∧ ((nPc 32 tx : Nat) : Int) = count ∧ 0 ≤ v0_1 ∧ v0_1 ≤ count ∧ (0 : Int) + v0_1 = count + 1 ∧ v0_0 = valsW tx digits.toNat v0_1.toNat ∧ ∀ j, j < v0_1.toNat → goodW tx digits.toNat signed.toNat j = true) : False := by
 omega
theorem spec_ref01_numbers (tx : ByteArray) (count : Int) (digits : Int) (signed : Int) (hp : 0 ≤ count ∧ 0 ≤ digits ∧ digits ≤ 17 ∧ 0 ≤ signed ∧ (tx).size ≤ 100000000) : vc_ref01_numbers (J_ref01_numbers tx count digits signed) tx count digits signed (fun r => LeD r (.tu [.c (.sl 1 ((rW tx (count).toNat (digits).toNat (signed).toNat).length) (intsC (rW tx (count).toNat (digits).toNat (signed).toNat))), .c (.v (.bool (okW tx (count).toNat (digits).toNat (signed).toNat)))])) := by
 unfold vc_ref01_numbers
 refine ⟨⟨by decide, by decide, hp.2.2.2.2⟩, ?_⟩
 rw [show (UInt8.ofNat ((32 : Int)).toNat) = 32 from rfl, cutL_len]
 refine cond_i (fun h => ?_) (fun h => ?_)
 ·have e : okW tx count.toNat digits.toNat signed.toNat = false := by
   unfold okW
   rw [show Nat.beq (nPc 32 tx) count.toNat = false from by
    cases hb : Nat.beq (nPc 32 tx) count.toNat
    ·rfl
    ·have := Nat.eq_of_beq_eq_true hb
     have h : ((nPc 32 tx : Nat) : Int) ≠ count := by simpa using h
     omega]
   simp
  rw [show rW tx count.toNat digits.toNat signed.toNat = [] from if_neg (by rw [e]; simp), e]
  exact le_tu le_nil (LeD.refl _)
 ·have h : ((nPc 32 tx : Nat) : Int) = count := by simpa using h
  exact ⟨nPc 32 tx + 1, [], 0, rfl, hp, h, by omega, by omega, by omega, rfl, fun j hj => absurd hj (Nat.not_lt_zero _)⟩
theorem all_ref01_numbers (tx : ByteArray) (count : Int) (digits : Int) (signed : Int) (hp : 0 ≤ count ∧ 0 ≤ digits ∧ digits ≤ 17 ∧ 0 ≤ signed ∧ (tx).size ≤ 100000000) : AllG (J_ref01_numbers tx count digits signed) (loopsFn Tryz.prog tab Sw484 ann_ref01_numbers (J_ref01_numbers tx count digits signed) Tryz.f54 (fun r => LeD r (.tu [.c (.sl 1 ((rW tx (count).toNat (digits).toNat (signed).toNat).length) (intsC (rW tx (count).toNat (digits).toNat (signed).toNat))), .c (.v (.bool (okW tx (count).toNat (digits).toNat (signed).toNat)))]))) := by
 rw [lp_ref01_numbers]
 refine ⟨⟨?_, ?_⟩, trivial⟩
 ·intro F s h
  obtain _ | ⟨g, F⟩ := F
  case cons => exact h.elim
  obtain ⟨w0, w1, rfl, hi⟩ := h
  exact zero_ref01_numbers_0 tx count digits signed w0 w1 hi
 ·intro n F s h
  obtain _ | ⟨g, F⟩ := F
  case cons => exact h.elim
  obtain ⟨w0, w1, rfl, hi⟩ := h
  rw [er_ref01_numbers_0]
  exact rnd_ref01_numbers_0 tx count digits signed _ _ _ hp hi
def con_ref01_numbers : Con := fun args => match args with
 | [.t (.c (.v (.string tx))), .t (.c (.v (.int .i64 count))), .t (.c (.v (.int .i64 digits))), .t (.c (.v (.int .i64 signed)))] => some (.tu [.c (.sl 1 ((rW tx (count).toNat (digits).toNat (signed).toNat).length) (intsC (rW tx (count).toNat (digits).toNat (signed).toNat))), .c (.v (.bool (okW tx (count).toNat (digits).toNat (signed).toNat)))], some (0 ≤ count ∧ 0 ≤ digits ∧ digits ≤ 17 ∧ 0 ≤ signed ∧ (tx).size ≤ 100000000), true)
 | _ => none
theorem ok_ref01_numbers : Ok Tryz.prog 54 con_ref01_numbers := by
 refine Ok.fnFr (ann := ann_ref01_numbers) mixed tabOK VSw484 VIlib rfl (fn := Tryz.f54) (by kernel_rfl) (by kernel_rfl) fit_ref01_numbers fun args r pre fresh h hp => ?_
 unfold con_ref01_numbers at h
 split at h
 ·rename_i tx count digits signed
  cases h
  refine ⟨rfl, (by intro x hx; simp only [List.mem_cons, List.not_mem_nil, or_false] at hx; rcases hx with rfl | rfl; exact (fun i j _ hj => plain_int _ i j); exact trivial), J_ref01_numbers tx count digits signed, _, LeA.refl _, Nat.le_of_ble_eq_true (by kernel_rfl), ?_, ?_⟩
  ·rw [ev_ref01_numbers]; exact spec_ref01_numbers tx count digits signed hp
  ·exact all_ref01_numbers tx count digits signed hp
 ·cases h
def Sw485 : Sum := addS Sw484 54 con_ref01_numbers
theorem VSw485 : Valid Tryz.prog Sw485 := Valid.add VSw484 ok_ref01_numbers
def mk_ref01_SameNet_0 (cs : List ByteArray) (ls : List Lnk) (ct : List ByteArray) (lu : List Lnk) (v0_0 : Int) : DS := ⟨[none, none, some (.t (.c (.p 2 0))), some (.t (.c (.p 3 0))), none, some (.t (.c (.v (.int .i64 v0_0)))), none, none, none, none, none, none, none, none, none, none, none, none, none, none, none, none, none, none, none, none, none, none, none, none, none, none, none, none, none, none, none, none, none], [none, none, some (.box 27 [.sl 1 cs.length (txsC cs), .sl 4 ls.length (lnksC ls)]), some (.box 27 [.sl 1 ct.length (txsC ct), .sl 4 lu.length (lnksC lu)]), none, none, none, none, none, none, none, none, none, none, none, none, none, none, none, none, none, none, none, none, none, none, none, none, none, none, none, none, none, none, none, none, none, none, none]⟩
def vc_ref01_SameNet (J : Inv) (cs : List ByteArray) (ls : List Lnk) (ct : List ByteArray) (lu : List Lnk) (post : DV → Prop) : Prop := (txP cs.length (txsC cs) ∧ txP ct.length (txsC ct) ∧ ((txOf cs.length (txsC cs))).length ≤ 100000000) ∧ ((cond (!(decide ((txOf cs.length (txsC cs)) = (txOf ct.length (txsC ct))))) ((true = true) ∧ (True)) (True)) ∧ (lt ((bif (!(decide ((txOf cs.length (txsC cs)) = (txOf ct.length (txsC ct))))) then true else (((ls.length : Nat) : Int) != ((lu.length : Nat) : Int)))) fun x1 => cond x1 (post (.t (.c (.v (.bool false))))) (∃ n, J 0 (n :: []) (mk_ref01_SameNet_0 cs ls ct lu 0))))
def ann_ref01_SameNet : Ann := ⟨fun r => lookA r [(6, ([[], [0], [], [0, 1, 2], [0, 1, 2, 3], [], [5], [], [5, 6, 7], [5, 6, 7, 8], [0, 1, 2, 3, 4, 5, 6, 7, 8, 9]], [[], [], [], [], [], [], [], [], [], [], []]))], fun b => lookA b [(0, (none, some ⟨[2, 3, 5], [2, 3], []⟩))], fun _ => [], Ilib, false, fun r => lookA r [(1, (7, [20]))], fun _ => none⟩
theorem ev_ref01_SameNet (J : Inv) (cs : List ByteArray) (ls : List Lnk) (ct : List ByteArray) (lu : List Lnk) (post : DV → Prop) : evFn Tryz.prog tab Sw485 ann_ref01_SameNet J Tryz.f17 [.t (.a [.sl 1 cs.length (txsC cs), .sl 4 ls.length (lnksC ls)]), .t (.a [.sl 1 ct.length (txsC ct), .sl 4 lu.length (lnksC lu)])] post = vc_ref01_SameNet J cs ls ct lu post := by kernel_rfl
theorem fit_ref01_SameNet : okFn ann_ref01_SameNet Tryz.f17 = true := by kernel_rfl
def rd_ref01_SameNet_0 (J : Inv) (cs : List ByteArray) (ls : List Lnk) (ct : List ByteArray) (lu : List Lnk) (v0_0 : Int) (nn0 : Nat) (post : DV → Prop) : Prop := cond (decide (v0_0 < ((ls.length : Nat) : Int))) ((0 ≤ v0_0 ∧ v0_0 < ((ls.length : Nat) : Int)) ∧ ((0 ≤ v0_0 ∧ v0_0 < ((lu.length : Nat) : Int)) ∧ (cond (!(bif (((lnkAt ls v0_0.toNat).frm) == ((lnkAt lu v0_0.toNat).frm)) then (bif (((lnkAt ls v0_0.toNat).«to») == ((lnkAt lu v0_0.toNat).«to»)) then (bif (bif (((lnkAt ls v0_0.toNat).lo) == ((lnkAt lu v0_0.toNat).lo)) then (bif (((lnkAt ls v0_0.toNat).hi) == ((lnkAt lu v0_0.toNat).hi)) then true else false) else false) then true else false) else false) else false)) (post (.t (.c (.v (.bool false))))) (lt (IntKind.i64.wrap (v0_0 + (1 : Int))) fun x1 => J 0 (nn0 :: []) (mk_ref01_SameNet_0 cs ls ct lu x1))))) (post (.t (.c (.v (.bool true)))))
theorem er_ref01_SameNet_0 (J : Inv) (cs : List ByteArray) (ls : List Lnk) (ct : List ByteArray) (lu : List Lnk) (v0_0 : Int) (nn0 : Nat) (post : DV → Prop) : round Tryz.prog tab Sw485 ann_ref01_SameNet J Tryz.f17 post 0 (nn0 :: []) (mk_ref01_SameNet_0 cs ls ct lu v0_0) = rd_ref01_SameNet_0 J cs ls ct lu v0_0 nn0 post := by kernel_rfl
theorem lp_ref01_SameNet (J : Inv) (post : DV → Prop) : AllG J (loopsFn Tryz.prog tab Sw485 ann_ref01_SameNet J Tryz.f17 post) = (((∀ F s, ¬ J 0 (0 :: F) s) ∧ ∀ n F s, J 0 ((n + 1) :: F) s → round Tryz.prog tab Sw485 ann_ref01_SameNet J Tryz.f17 post 0 (n :: F) s) ∧ True) := by kernel_rfl
def J_ref01_SameNet (cs : List ByteArray) (ls : List Lnk) (ct : List ByteArray) (lu : List Lnk) : Inv := fun b F s => match b, F with
 | 0, [nn0] => ∃ (v0_0 : Int), s = mk_ref01_SameNet_0 cs ls ct lu v0_0 ∧ ((cs = ct ∧ ls.length ≤ 100000000) ∧ 0 ≤ v0_0 ∧ v0_0 ≤ ls.length ∧ (nn0 : Int) + v0_0 = ls.length + 1 ∧ ls.length = lu.length ∧ ∀ j : Nat, (j : Int) < v0_0 → lnkAt ls j = lnkAt lu j)
 | _, _ => False
theorem rnd_ref01_SameNet_0 (cs : List ByteArray) (ls : List Lnk) (ct : List ByteArray) (lu : List Lnk) (v0_0 : Int) (nn0 : Nat) (hp : (cs).length ≤ 100000000 ∧ (ls).length ≤ 100000000) (hi : (cs = ct ∧ ls.length ≤ 100000000) ∧ 0 ≤ v0_0 ∧ v0_0 ≤ ls.length ∧ ((nn0 + 1) : Int) + v0_0 = ls.length + 1 ∧ ls.length = lu.length ∧ ∀ j : Nat, (j : Int) < v0_0 → lnkAt ls j = lnkAt lu j) : rd_ref01_SameNet_0 (J_ref01_SameNet cs ls ct lu) cs ls ct lu v0_0 nn0 (fun r => LeD r (.t (.c (.v (.bool (decide (cs = ct ∧ ls = lu))))))) := by
 obtain ⟨q, i1, i2, i3, i4, i5⟩ := hi
 obtain ⟨k, rfl⟩ : ∃ k : Nat, v0_0 = k := ⟨v0_0.toNat, by omega⟩
 have hk : (k : Int).toNat = k := rfl
 unfold rd_ref01_SameNet_0
 rw [hk]
 refine cond_i (fun h => ?_) (fun h => leB ?_)
 ·have hlt : k < ls.length := by have := of_decide_eq_true h; omega
  refine ⟨⟨by omega, by omega⟩, ⟨by omega, by omega⟩, ?_⟩
  rw [lnk_eqB]
  refine cond_i (fun g => leB ?_) (fun g => lt_i fun x1 h1 => ?_)
  ·have g : lnkAt ls k ≠ lnkAt lu k := by simpa using g
   refine (decide_eq_false ?_).symm
   rintro ⟨_, rfl⟩
   exact g rfl
  ·have g : lnkAt ls k = lnkAt lu k := by simpa using g
   rw [wi (by omega)] at h1
   subst h1
   exact ⟨_, rfl, q, by omega, by omega, by omega, i4, fun j hj => by
    by_cases e : j = k
    ·rw [e]; exact g
    ·exact i5 j (by omega)⟩
 ·have h := of_decide_eq_false h
  refine (decide_eq_true ⟨q.1, List.ext_getElem i4 fun j h1 h2 => ?_⟩).symm
  have := i5 j (by omega)
  simpa [lnkAt, List.getD, h1, h2] using this
theorem zero_ref01_SameNet_0 (cs : List ByteArray) (ls : List Lnk) (ct : List ByteArray) (lu : List Lnk) (v0_0 : Int)  (hi : (cs = ct ∧ ls.length ≤ 100000000) ∧ 0 ≤ v0_0 ∧ v0_0 ≤ ls.length ∧ (0 : Int) + v0_0 = ls.length + 1 ∧ ls.length = lu.length ∧ ∀ j : Nat, (j : Int) < v0_0 → lnkAt ls j = lnkAt lu j) : False := by
 omega
theorem spec_ref01_SameNet (cs : List ByteArray) (ls : List Lnk) (ct : List ByteArray) (lu : List Lnk) (hp : (cs).length ≤ 100000000 ∧ (ls).length ≤ 100000000) : vc_ref01_SameNet (J_ref01_SameNet cs ls ct lu) cs ls ct lu (fun r => LeD r (.t (.c (.v (.bool (decide (cs = ct ∧ ls = lu))))))) := by
 unfold vc_ref01_SameNet
 rw [txs_of, txs_of]
 refine ⟨⟨txP_txs _, txP_txs _, hp.1⟩, cond_i (fun _ => ⟨rfl, trivial⟩) (fun _ => trivial), lt_i fun x1 h1 => cond_i (fun h => leB ?_) (fun h => ?_)⟩
 ·subst h1
  refine (decide_eq_false ?_).symm
  rintro ⟨rfl, rfl⟩
  simp at h
 ·subst h1
  by_cases g : cs = ct
  ·subst g
   have h : ls.length = lu.length := by
    have h : (ls.length : Int) = lu.length := by simpa using h
    omega
   exact ⟨ls.length + 1, 0, rfl, ⟨rfl, hp.2⟩, by omega, by omega, by omega, h, fun j hj => by omega⟩
  ·simp [g] at h
theorem all_ref01_SameNet (cs : List ByteArray) (ls : List Lnk) (ct : List ByteArray) (lu : List Lnk) (hp : (cs).length ≤ 100000000 ∧ (ls).length ≤ 100000000) : AllG (J_ref01_SameNet cs ls ct lu) (loopsFn Tryz.prog tab Sw485 ann_ref01_SameNet (J_ref01_SameNet cs ls ct lu) Tryz.f17 (fun r => LeD r (.t (.c (.v (.bool (decide (cs = ct ∧ ls = lu)))))))) := by
 rw [lp_ref01_SameNet]
 refine ⟨⟨?_, ?_⟩, trivial⟩
 ·intro F s h
  obtain _ | ⟨g, F⟩ := F
  case cons => exact h.elim
  obtain ⟨w0, rfl, hi⟩ := h
  exact zero_ref01_SameNet_0 cs ls ct lu w0 hi
 ·intro n F s h
  obtain _ | ⟨g, F⟩ := F
  case cons => exact h.elim
  obtain ⟨w0, rfl, hi⟩ := h
  rw [er_ref01_SameNet_0]
  exact rnd_ref01_SameNet_0 cs ls ct lu _ _ hp hi
def con_ref01_SameNet : Con := fun args => match args with
 | [.t (.a [.sl 1 n_cs c_cs, .sl 4 n_ls c_ls]), .t (.a [.sl 1 n_ct c_ct, .sl 4 n_lu c_lu])] => some (.t (.c (.v (.bool (decide ((txOf n_cs c_cs) = (txOf n_ct c_ct) ∧ (listC n_ls mkLnk c_ls) = (listC n_lu mkLnk c_lu)))))), some (txP n_cs c_cs ∧ numsP 4 n_ls c_ls ∧ txP n_ct c_ct ∧ numsP 4 n_lu c_lu ∧ ((txOf n_cs c_cs)).length ≤ 100000000 ∧ ((listC n_ls mkLnk c_ls)).length ≤ 100000000), false)
 | _ => none
theorem ok_ref01_SameNet : Ok Tryz.prog 17 con_ref01_SameNet := by
 refine Ok.fn (ann := ann_ref01_SameNet) mixed tabOK VSw485 VIlib (fn := Tryz.f17) (by kernel_rfl) (by kernel_rfl) fit_ref01_SameNet fun args r pre fresh h hp => ?_
 unfold con_ref01_SameNet at h
 split at h
 ·rename_i n_cs c_cs n_ls c_ls n_ct c_ct n_lu c_lu
  cases h
  obtain ⟨hp0, hp1, hp2, hp3, hp⟩ := hp
  refine ⟨rfl, J_ref01_SameNet (txOf n_cs c_cs) (listC n_ls mkLnk c_ls) (txOf n_ct c_ct) (listC n_lu mkLnk c_lu), [.t (.a [.sl 1 ((txOf n_cs c_cs).length) (txsC (txOf n_cs c_cs)), .sl 4 ((listC n_ls mkLnk c_ls).length) (lnksC (listC n_ls mkLnk c_ls))]), .t (.a [.sl 1 ((txOf n_ct c_ct).length) (txsC (txOf n_ct c_ct)), .sl 4 ((listC n_lu mkLnk c_lu).length) (lnksC (listC n_lu mkLnk c_lu))])], ?_, Nat.le_of_ble_eq_true (by kernel_rfl), ?_, ?_⟩
  ·exact (LeA_cons (leT_a (LeCs.cons ((leL_str hp0)) (LeCs.cons ((leL_Lnk hp1)) LeCs.nil))) (LeA_cons (leT_a (LeCs.cons ((leL_str hp2)) (LeCs.cons ((leL_Lnk hp3)) LeCs.nil))) LeA_nil))
  ·rw [ev_ref01_SameNet]; exact spec_ref01_SameNet (txOf n_cs c_cs) (listC n_ls mkLnk c_ls) (txOf n_ct c_ct) (listC n_lu mkLnk c_lu) hp
  ·exact all_ref01_SameNet (txOf n_cs c_cs) (listC n_ls mkLnk c_ls) (txOf n_ct c_ct) (listC n_lu mkLnk c_lu) hp
 ·cases h
def Sw486 : Sum := addS Sw485 17 con_ref01_SameNet
theorem VSw486 : Valid Tryz.prog Sw486 := Valid.add VSw485 ok_ref01_SameNet
end Go.Proofs.YtlapeoboekchpaaGreatDoor
set_option linter.unusedVariables false
set_option linter.unusedSimpArgs false
namespace Go.Proofs.YtlapeoboekchpaaGreatDoor
open Go.RowKit Ev
def vc_ref01_FormatPing (p0 p1 p2 p3 : Int) (post : DV → Prop) : Prop := (numsP 1 4 (genC [[.v (.int .i64 p0)], [.v (.int .i64 p1)], [.v (.int .i64 p2)], [.v (.int .i64 p3)]]) ∧ (([p0, p1, p2, p3] : List Int)).length ≤ 100 ∧ (∀ i, i < (([p0, p1, p2, p3] : List Int)).length → -9223372036854775808 ≤ (([p0, p1, p2, p3] : List Int)).getD i 0 ∧ (([p0, p1, p2, p3] : List Int)).getD i 0 ≤ 9223372036854775807)) ∧ (post (.t (.c (.v (.string (wordsB ([p0, p1, p2, p3] : List Int)))))))
def ann_ref01_FormatPing : Ann := ⟨fun _ => none, fun _ => none, fun _ => [], Ilib, false, fun _ => none, fun _ => none⟩
theorem ev_ref01_FormatPing (J : Inv) (p0 p1 p2 p3 : Int) (post : DV → Prop) : evFn Tryz.prog tab Sw486 ann_ref01_FormatPing J Tryz.f15 [.t (.a [.v (.int .i64 p0), .v (.int .i64 p1), .v (.int .i64 p2), .v (.int .i64 p3)])] post = vc_ref01_FormatPing p0 p1 p2 p3 post := by kernel_rfl
theorem fit_ref01_FormatPing : okFn ann_ref01_FormatPing Tryz.f15 = true := by kernel_rfl
theorem lp_ref01_FormatPing (J : Inv) (post : DV → Prop) : AllG J (loopsFn Tryz.prog tab Sw486 ann_ref01_FormatPing J Tryz.f15 post) = (True) := by kernel_rfl
theorem spec_ref01_FormatPing (p0 p1 p2 p3 : Int) (hp : inI p0 ∧ inI p1 ∧ inI p2 ∧ inI p3) : vc_ref01_FormatPing p0 p1 p2 p3 (fun r => LeD r (.t (.c (.v (.string (wordsB [p0, p1, p2, p3])))))) := by
 unfold vc_ref01_FormatPing
 exact ⟨⟨numsP_gen [_, _, _, _], by simp, in4 hp.1 hp.2.1 hp.2.2.1 hp.2.2.2⟩, LeD.refl _⟩
def con_ref01_FormatPing : Con := fun args => match args with
 | [.t (.a [.v (.int .i64 p0), .v (.int .i64 p1), .v (.int .i64 p2), .v (.int .i64 p3)])] => some (.t (.c (.v (.string (wordsB [p0, p1, p2, p3])))), some (inI p0 ∧ inI p1 ∧ inI p2 ∧ inI p3), false)
 | _ => none
theorem ok_ref01_FormatPing : Ok Tryz.prog 15 con_ref01_FormatPing := by
 refine Ok.fn (ann := ann_ref01_FormatPing) mixed tabOK VSw486 VIlib (fn := Tryz.f15) (by kernel_rfl) (by kernel_rfl) fit_ref01_FormatPing fun args r pre fresh h hp => ?_
 unfold con_ref01_FormatPing at h
 split at h
 ·rename_i p0 p1 p2 p3
  cases h
  refine ⟨rfl, fun _ _ _ => False, _, LeA.refl _, Nat.le_of_ble_eq_true (by kernel_rfl), ?_, ?_⟩
  ·rw [ev_ref01_FormatPing]; exact spec_ref01_FormatPing p0 p1 p2 p3 hp
  ·rw [lp_ref01_FormatPing]; trivial
 ·cases h
def Sw587 : Sum := addS Sw486 15 con_ref01_FormatPing
theorem VSw587 : Valid Tryz.prog Sw587 := Valid.add VSw486 ok_ref01_FormatPing
def mk_ref01_FormatNet_0 (cs : List ByteArray) (ls : List Lnk) (v0_0 : ByteArray) (v0_1 : Int) : DS := ⟨[none, some (.t (.c (.p 1 0))), none, some (.t (.c (.v (.string v0_0)))), some (.t (.c (.v (.int .i64 v0_1)))), none, none, none, none, none, none, none, none, none, none, none, none, none, none, none, none, none, none, none, none, none, none, none, none, none, none, none, none, none, none, none, none, none, none, none, none, none, none, none, none, none, none, none, none, none, none, none, none], [none, some (.box 27 [.sl 1 cs.length (txsC cs), .sl 4 ls.length (lnksC ls)]), none, none, none, none, none, none, none, none, none, none, none, none, none, none, none, none, none, none, none, none, none, none, none, none, none, none, none, none, none, none, none, none, none, none, none, none, none, none, none, none, none, none, none, none, none, none, none, none, none, none, none]⟩
def mk_ref01_FormatNet_2 (cs : List ByteArray) (ls : List Lnk) (v2_0 : ByteArray) (v2_1 : Int) : DS := ⟨[none, some (.t (.c (.p 1 0))), none, some (.t (.c (.v (.string v2_0)))), none, some (.t (.c (.v (.int .i64 v2_1)))), none, none, none, none, none, none, none, none, none, none, none, none, none, none, none, none, none, none, none, none, none, none, none, none, none, none, none, none, none, none, none, none, none, none, none, none, none, none, none, none, none, none, none, none, none, none, none], [none, some (.box 27 [.sl 1 cs.length (txsC cs), .sl 4 ls.length (lnksC ls)]), none, none, none, none, none, none, none, none, none, none, none, none, none, none, none, none, none, none, none, none, none, none, none, none, none, none, none, none, none, none, none, none, none, none, none, none, none, none, none, none, none, none, none, none, none, none, none, none, none, none, none]⟩
def vc_ref01_FormatNet (J : Inv) (cs : List ByteArray) (ls : List Lnk) (post : DV → Prop) : Prop := ∃ n, J 0 (n :: []) (mk_ref01_FormatNet_0 cs ls (⟨#[]⟩) 0)
def ann_ref01_FormatNet : Ann := ⟨fun _ => none, fun b => lookA b [(0, (none, some ⟨[1, 3, 4], [1], []⟩)), (2, (none, some ⟨[1, 3, 5], [1], []⟩))], fun _ => [], Ilib, false, fun _ => none, fun _ => none⟩
theorem ev_ref01_FormatNet (J : Inv) (cs : List ByteArray) (ls : List Lnk) (post : DV → Prop) : evFn Tryz.prog tab Sw587 ann_ref01_FormatNet J Tryz.f16 [.t (.a [.sl 1 cs.length (txsC cs), .sl 4 ls.length (lnksC ls)])] post = vc_ref01_FormatNet J cs ls post := by kernel_rfl
theorem fit_ref01_FormatNet : okFn ann_ref01_FormatNet Tryz.f16 = true := by kernel_rfl
def rd_ref01_FormatNet_0 (J : Inv) (cs : List ByteArray) (ls : List Lnk) (v0_0 : ByteArray) (v0_1 : Int) (nn0 : Nat) (post : DV → Prop) : Prop := cond (decide (v0_1 < ((cs.length : Nat) : Int))) (cond (decide (v0_1 > (0 : Int))) (((((v0_0 : ByteArray).size + ((⟨#[44]⟩) : ByteArray).size : Nat) : Int) ≤ 9223372036854775807) ∧ ((0 ≤ v0_1 ∧ v0_1 < ((cs.length : Nat) : Int)) ∧ ((((((v0_0 ++ (⟨#[44]⟩)) : ByteArray).size + ((txAt cs v0_1.toNat) : ByteArray).size : Nat) : Int) ≤ 9223372036854775807) ∧ (lt (IntKind.i64.wrap (v0_1 + (1 : Int))) fun x1 => J 0 (nn0 :: []) (mk_ref01_FormatNet_0 cs ls ((v0_0 ++ (⟨#[44]⟩)) ++ (txAt cs v0_1.toNat)) x1))))) ((0 ≤ v0_1 ∧ v0_1 < ((cs.length : Nat) : Int)) ∧ (((((v0_0 : ByteArray).size + ((txAt cs v0_1.toNat) : ByteArray).size : Nat) : Int) ≤ 9223372036854775807) ∧ (lt (IntKind.i64.wrap (v0_1 + (1 : Int))) fun x2 => J 0 (nn0 :: []) (mk_ref01_FormatNet_0 cs ls (v0_0 ++ (txAt cs v0_1.toNat)) x2))))) (∃ n, J 2 (n :: []) (mk_ref01_FormatNet_2 cs ls v0_0 0))
theorem er_ref01_FormatNet_0 (J : Inv) (cs : List ByteArray) (ls : List Lnk) (v0_0 : ByteArray) (v0_1 : Int) (nn0 : Nat) (post : DV → Prop) : round Tryz.prog tab Sw587 ann_ref01_FormatNet J Tryz.f16 post 0 (nn0 :: []) (mk_ref01_FormatNet_0 cs ls v0_0 v0_1) = rd_ref01_FormatNet_0 J cs ls v0_0 v0_1 nn0 post := by kernel_rfl
def rd_ref01_FormatNet_2 (J : Inv) (cs : List ByteArray) (ls : List Lnk) (v2_0 : ByteArray) (v2_1 : Int) (nn2 : Nat) (post : DV → Prop) : Prop := cond (decide (v2_1 < ((ls.length : Nat) : Int))) ((0 ≤ v2_1 ∧ v2_1 < ((ls.length : Nat) : Int)) ∧ (((((v2_0 : ByteArray).size + ((⟨#[59]⟩) : ByteArray).size : Nat) : Int) ≤ 9223372036854775807) ∧ ((numsP 1 4 (genC [[.v (.int .i64 ((lnkAt ls v2_1.toNat).frm))], [.v (.int .i64 ((lnkAt ls v2_1.toNat).«to»))], [.v (.int .i64 ((lnkAt ls v2_1.toNat).lo))], [.v (.int .i64 ((lnkAt ls v2_1.toNat).hi))]]) ∧ (([((lnkAt ls v2_1.toNat).frm), ((lnkAt ls v2_1.toNat).«to»), ((lnkAt ls v2_1.toNat).lo), ((lnkAt ls v2_1.toNat).hi)] : List Int)).length ≤ 100 ∧ (∀ i, i < (([((lnkAt ls v2_1.toNat).frm), ((lnkAt ls v2_1.toNat).«to»), ((lnkAt ls v2_1.toNat).lo), ((lnkAt ls v2_1.toNat).hi)] : List Int)).length → -9223372036854775808 ≤ (([((lnkAt ls v2_1.toNat).frm), ((lnkAt ls v2_1.toNat).«to»), ((lnkAt ls v2_1.toNat).lo), ((lnkAt ls v2_1.toNat).hi)] : List Int)).getD i 0 ∧ (([((lnkAt ls v2_1.toNat).frm), ((lnkAt ls v2_1.toNat).«to»), ((lnkAt ls v2_1.toNat).lo), ((lnkAt ls v2_1.toNat).hi)] : List Int)).getD i 0 ≤ 9223372036854775807)) ∧ ((((((v2_0 ++ (⟨#[59]⟩)) : ByteArray).size + ((wordsB ([((lnkAt ls v2_1.toNat).frm), ((lnkAt ls v2_1.toNat).«to»), ((lnkAt ls v2_1.toNat).lo), ((lnkAt ls v2_1.toNat).hi)] : List Int)) : ByteArray).size : Nat) : Int) ≤ 9223372036854775807) ∧ (lt (IntKind.i64.wrap (v2_1 + (1 : Int))) fun x1 => J 2 (nn2 :: []) (mk_ref01_FormatNet_2 cs ls ((v2_0 ++ (⟨#[59]⟩)) ++ (wordsB ([((lnkAt ls v2_1.toNat).frm), ((lnkAt ls v2_1.toNat).«to»), ((lnkAt ls v2_1.toNat).lo), ((lnkAt ls v2_1.toNat).hi)] : List Int))) x1)))))) (post (.t (.c (.v (.string v2_0)))))
theorem er_ref01_FormatNet_2 (J : Inv) (cs : List ByteArray) (ls : List Lnk) (v2_0 : ByteArray) (v2_1 : Int) (nn2 : Nat) (post : DV → Prop) : round Tryz.prog tab Sw587 ann_ref01_FormatNet J Tryz.f16 post 1 (nn2 :: []) (mk_ref01_FormatNet_2 cs ls v2_0 v2_1) = rd_ref01_FormatNet_2 J cs ls v2_0 v2_1 nn2 post := by kernel_rfl
theorem lp_ref01_FormatNet (J : Inv) (post : DV → Prop) : AllG J (loopsFn Tryz.prog tab Sw587 ann_ref01_FormatNet J Tryz.f16 post) = (((∀ F s, ¬ J 0 (0 :: F) s) ∧ ∀ n F s, J 0 ((n + 1) :: F) s → round Tryz.prog tab Sw587 ann_ref01_FormatNet J Tryz.f16 post 0 (n :: F) s) ∧ ((∀ F s, ¬ J 2 (0 :: F) s) ∧ ∀ n F s, J 2 ((n + 1) :: F) s → round Tryz.prog tab Sw587 ann_ref01_FormatNet J Tryz.f16 post 1 (n :: F) s) ∧ True) := by kernel_rfl
def J_ref01_FormatNet (cs : List ByteArray) (ls : List Lnk) : Inv := fun b F s => match b, F with
 | 0, [nn0] => ∃ (v0_0 : ByteArray) (v0_1 : Int), s = mk_ref01_FormatNet_0 cs ls v0_0 v0_1 ∧ (((cs).length ≤ 8 ∧ (ls).length ≤ 14 ∧ (∀ k, k < (cs).length → (txAt cs k).size ≤ 20) ∧ ∀ k, k < (ls).length → rgI (lnkAt ls k)) ∧ 0 ≤ v0_1 ∧ v0_1 ≤ cs.length ∧ (nn0 : Int) + v0_1 = cs.length + 1 ∧ v0_0 = joinB (cs.take v0_1.toNat) ⟨#[44]⟩)
 | 2, [nn2] => ∃ (v2_0 : ByteArray) (v2_1 : Int), s = mk_ref01_FormatNet_2 cs ls v2_0 v2_1 ∧ (((cs).length ≤ 8 ∧ (ls).length ≤ 14 ∧ (∀ k, k < (cs).length → (txAt cs k).size ≤ 20) ∧ ∀ k, k < (ls).length → rgI (lnkAt ls k)) ∧ 0 ≤ v2_1 ∧ v2_1 ≤ ls.length ∧ (nn2 : Int) + v2_1 = ls.length + 1 ∧ v2_0 = joinB (joinB cs ⟨#[44]⟩ :: (ls.take v2_1.toNat).map lnkW) ⟨#[59]⟩)
 | _, _ => False
theorem rnd_ref01_FormatNet_0 (cs : List ByteArray) (ls : List Lnk) (v0_0 : ByteArray) (v0_1 : Int) (nn0 : Nat) (hp : (cs).length ≤ 8 ∧ (ls).length ≤ 14 ∧ (∀ k, k < (cs).length → (txAt cs k).size ≤ 20) ∧ ∀ k, k < (ls).length → rgI (lnkAt ls k)) (hi : ((cs).length ≤ 8 ∧ (ls).length ≤ 14 ∧ (∀ k, k < (cs).length → (txAt cs k).size ≤ 20) ∧ ∀ k, k < (ls).length → rgI (lnkAt ls k)) ∧ 0 ≤ v0_1 ∧ v0_1 ≤ cs.length ∧ ((nn0 + 1) : Int) + v0_1 = cs.length + 1 ∧ v0_0 = joinB (cs.take v0_1.toNat) ⟨#[44]⟩) : rd_ref01_FormatNet_0 (J_ref01_FormatNet cs ls) cs ls v0_0 v0_1 nn0 (fun r => LeD r (.t (.c (.v (.string (netT cs ls)))))) := by
 obtain ⟨q, i1, i2, i3, i4⟩ := hi
 obtain ⟨k, rfl⟩ : ∃ k : Nat, v0_1 = k := ⟨v0_1.toNat, by omega⟩
 have hk : (k : Int).toNat = k := rfl
 rw [hk] at i4
 subst i4
 have w1 := names_take (k := k) q.1 q.2.2.1
 unfold rd_ref01_FormatNet_0
 rw [Int.toNat_natCast]
 refine cond_i (fun h => ?_) (fun h => ?_)
 ·have hlt : k < cs.length := by have := of_decide_eq_true h; omega
  have w2 := q.2.2.1 k hlt
  refine cond_i (fun g => ?_) (fun g => ?_)
  ·have g : 0 < k := by have := of_decide_eq_true g; omega
   have w3 : ((joinB (cs.take k) ⟨#[44]⟩ ++ ⟨#[44]⟩ : ByteArray)).size ≤ 201 := by rw [ByteArray.size_append]; show _ + 1 ≤ _; omega
   refine ⟨by show (((joinB (cs.take k) ⟨#[44]⟩).size + 1 : Nat) : Int) ≤ _; omega, ⟨by omega, by omega⟩, by omega, lt_i fun x1 h1 => ?_⟩
   rw [wi (by omega)] at h1
   subst h1
   exact ⟨_, _, rfl, q, by omega, by omega, by omega, names_snoc hlt g⟩
  ·have g : k = 0 := by have := of_decide_eq_false g; omega
   subst g
   refine ⟨⟨by omega, by omega⟩, by omega, lt_i fun x1 h1 => ?_⟩
   rw [wi (by omega)] at h1
   subst h1
   exact ⟨_, _, rfl, q, by omega, by omega, by omega, names_one hlt⟩
 ·have e : k = cs.length := by have := of_decide_eq_false h; omega
  subst e
  exact ⟨ls.length + 1, _, 0, rfl, q, by omega, by omega, by omega, by rw [List.take_length]; exact (joinB_single _ _).symm⟩
theorem zero_ref01_FormatNet_0 (cs : List ByteArray) (ls : List Lnk) (v0_0 : ByteArray) (v0_1 : Int)  (hi : ((cs).length ≤ 8 ∧ (ls).length ≤ 14 ∧ (∀ k, k < (cs).length → (txAt cs k).size ≤ 20) ∧ ∀ k, k < (ls).length → rgI (lnkAt ls k)) ∧ 0 ≤ v0_1 ∧ v0_1 ≤ cs.length ∧ (0 : Int) + v0_1 = cs.length + 1 ∧ v0_0 = joinB (cs.take v0_1.toNat) ⟨#[44]⟩) : False := by
 omega
theorem rnd_ref01_FormatNet_2 (cs : List ByteArray) (ls : List Lnk) (v2_0 : ByteArray) (v2_1 : Int) (nn2 : Nat) (hp : (cs).length ≤ 8 ∧ (ls).length ≤ 14 ∧ (∀ k, k < (cs).length → (txAt cs k).size ≤ 20) ∧ ∀ k, k < (ls).length → rgI (lnkAt ls k)) (hi : ((cs).length ≤ 8 ∧ (ls).length ≤ 14 ∧ (∀ k, k < (cs).length → (txAt cs k).size ≤ 20) ∧ ∀ k, k < (ls).length → rgI (lnkAt ls k)) ∧ 0 ≤ v2_1 ∧ v2_1 ≤ ls.length ∧ ((nn2 + 1) : Int) + v2_1 = ls.length + 1 ∧ v2_0 = joinB (joinB cs ⟨#[44]⟩ :: (ls.take v2_1.toNat).map lnkW) ⟨#[59]⟩) : rd_ref01_FormatNet_2 (J_ref01_FormatNet cs ls) cs ls v2_0 v2_1 nn2 (fun r => LeD r (.t (.c (.v (.string (netT cs ls)))))) := by
 obtain ⟨q, i1, i2, i3, i4⟩ := hi
 obtain ⟨k, rfl⟩ : ∃ k : Nat, v2_1 = k := ⟨v2_1.toNat, by omega⟩
 have hk : (k : Int).toNat = k := rfl
 rw [hk] at i4
 subst i4
 have w1 := links_take (k := k) q.1 q.2.1 q.2.2.1 q.2.2.2
 unfold rd_ref01_FormatNet_2
 rw [Int.toNat_natCast]
 refine cond_i (fun h => ?_) (fun h => ?_)
 ·have hlt : k < ls.length := by have := of_decide_eq_true h; omega
  have b := q.2.2.2 k hlt
  have w2 := lnkW_len b
  have w3 : ((joinB (joinB cs ⟨#[44]⟩ :: (ls.take k).map lnkW) ⟨#[59]⟩ ++ ⟨#[59]⟩ : ByteArray)).size ≤ 6001 := by rw [ByteArray.size_append]; show _ + 1 ≤ _; omega
  refine ⟨⟨by omega, by omega⟩, by show (((joinB (joinB cs ⟨#[44]⟩ :: (ls.take k).map lnkW) ⟨#[59]⟩).size + 1 : Nat) : Int) ≤ _; omega, ⟨numsP_gen [_, _, _, _], by simp, in4 b.1 b.2.1 b.2.2.1 b.2.2.2⟩, by unfold lnkW at w2; omega, lt_i fun x1 h1 => ?_⟩
  rw [wi (by omega)] at h1
  subst h1
  exact ⟨_, _, rfl, q, by omega, by omega, by omega, links_snoc _ hlt⟩
 ·have e : k = ls.length := by have := of_decide_eq_false h; omega
  subst e
  rw [List.take_length]
  exact LeD.refl _
theorem zero_ref01_FormatNet_2 (cs : List ByteArray) (ls : List Lnk) (v2_0 : ByteArray) (v2_1 : Int)  (hi : ((cs).length ≤ 8 ∧ (ls).length ≤ 14 ∧ (∀ k, k < (cs).length → (txAt cs k).size ≤ 20) ∧ ∀ k, k < (ls).length → rgI (lnkAt ls k)) ∧ 0 ≤ v2_1 ∧ v2_1 ≤ ls.length ∧ (0 : Int) + v2_1 = ls.length + 1 ∧ v2_0 = joinB (joinB cs ⟨#[44]⟩ :: (ls.take v2_1.toNat).map lnkW) ⟨#[59]⟩) : False := by
 omega
theorem spec_ref01_FormatNet (cs : List ByteArray) (ls : List Lnk) (hp : (cs).length ≤ 8 ∧ (ls).length ≤ 14 ∧ (∀ k, k < (cs).length → (txAt cs k).size ≤ 20) ∧ ∀ k, k < (ls).length → rgI (lnkAt ls k)) : vc_ref01_FormatNet (J_ref01_FormatNet cs ls) cs ls (fun r => LeD r (.t (.c (.v (.string (netT cs ls)))))) := by
 unfold vc_ref01_FormatNet
 exact ⟨cs.length + 1, _, 0, rfl, hp, by omega, by omega, by omega, rfl⟩
theorem all_ref01_FormatNet (cs : List ByteArray) (ls : List Lnk) (hp : (cs).length ≤ 8 ∧ (ls).length ≤ 14 ∧ (∀ k, k < (cs).length → (txAt cs k).size ≤ 20) ∧ ∀ k, k < (ls).length → rgI (lnkAt ls k)) : AllG (J_ref01_FormatNet cs ls) (loopsFn Tryz.prog tab Sw587 ann_ref01_FormatNet (J_ref01_FormatNet cs ls) Tryz.f16 (fun r => LeD r (.t (.c (.v (.string (netT cs ls))))))) := by
 rw [lp_ref01_FormatNet]
 refine ⟨⟨?_, ?_⟩, ⟨?_, ?_⟩, trivial⟩
 ·intro F s h
  obtain _ | ⟨g, F⟩ := F
  case cons => exact h.elim
  obtain ⟨w0, w1, rfl, hi⟩ := h
  exact zero_ref01_FormatNet_0 cs ls w0 w1 hi
 ·intro n F s h
  obtain _ | ⟨g, F⟩ := F
  case cons => exact h.elim
  obtain ⟨w0, w1, rfl, hi⟩ := h
  rw [er_ref01_FormatNet_0]
  exact rnd_ref01_FormatNet_0 cs ls _ _ _ hp hi
 ·intro F s h
  obtain _ | ⟨g, F⟩ := F
  case cons => exact h.elim
  obtain ⟨w0, w1, rfl, hi⟩ := h
  exact zero_ref01_FormatNet_2 cs ls w0 w1 hi
 ·intro n F s h
  obtain _ | ⟨g, F⟩ := F
  case cons => exact h.elim
  obtain ⟨w0, w1, rfl, hi⟩ := h
  rw [er_ref01_FormatNet_2]
  exact rnd_ref01_FormatNet_2 cs ls _ _ _ hp hi
def con_ref01_FormatNet : Con := fun args => match args with
 | [.t (.a [.sl 1 n_cs c_cs, .sl 4 n_ls c_ls])] => some (.t (.c (.v (.string (netT (txOf n_cs c_cs) (listC n_ls mkLnk c_ls))))), some (txP n_cs c_cs ∧ numsP 4 n_ls c_ls ∧ ((txOf n_cs c_cs)).length ≤ 8 ∧ ((listC n_ls mkLnk c_ls)).length ≤ 14 ∧ (∀ k, k < ((txOf n_cs c_cs)).length → (txAt (txOf n_cs c_cs) k).size ≤ 20) ∧ ∀ k, k < ((listC n_ls mkLnk c_ls)).length → rgI (lnkAt (listC n_ls mkLnk c_ls) k)), false)
 | _ => none
theorem ok_ref01_FormatNet : Ok Tryz.prog 16 con_ref01_FormatNet := by
 refine Ok.fn (ann := ann_ref01_FormatNet) mixed tabOK VSw587 VIlib (fn := Tryz.f16) (by kernel_rfl) (by kernel_rfl) fit_ref01_FormatNet fun args r pre fresh h hp => ?_
 unfold con_ref01_FormatNet at h
 split at h
 ·rename_i n_cs c_cs n_ls c_ls
  cases h
  obtain ⟨hp0, hp1, hp⟩ := hp
  refine ⟨rfl, J_ref01_FormatNet (txOf n_cs c_cs) (listC n_ls mkLnk c_ls), [.t (.a [.sl 1 ((txOf n_cs c_cs).length) (txsC (txOf n_cs c_cs)), .sl 4 ((listC n_ls mkLnk c_ls).length) (lnksC (listC n_ls mkLnk c_ls))])], ?_, Nat.le_of_ble_eq_true (by kernel_rfl), ?_, ?_⟩
  ·exact (LeA_cons (leT_a (LeCs.cons ((leL_str hp0)) (LeCs.cons ((leL_Lnk hp1)) LeCs.nil))) LeA_nil)
  ·rw [ev_ref01_FormatNet]; exact spec_ref01_FormatNet (txOf n_cs c_cs) (listC n_ls mkLnk c_ls) hp
  ·exact all_ref01_FormatNet (txOf n_cs c_cs) (listC n_ls mkLnk c_ls) hp
 ·cases h
def Sw588 : Sum := addS Sw587 16 con_ref01_FormatNet
theorem VSw588 : Valid Tryz.prog Sw588 := Valid.add VSw587 ok_ref01_FormatNet
def vc_ref01_ParsePing (tx : ByteArray) (post : DV → Prop) : Prop := (0 ≤ (4 : Int) ∧ 0 ≤ (13 : Int) ∧ (13 : Int) ≤ 17 ∧ 0 ≤ (4 : Int) ∧ (tx).size ≤ 100000000) ∧ (cond (!(okW tx ((4 : Int)).toNat ((13 : Int)).toNat ((4 : Int)).toNat)) (post (.tu [.a [.v (.int .i64 0), .v (.int .i64 0), .v (.int .i64 0), .v (.int .i64 0)], .c (.v (.int .i64 7))])) ((0 ≤ (0 : Int) ∧ (0 : Int) < (((rW tx ((4 : Int)).toNat ((13 : Int)).toNat ((4 : Int)).toNat).length : Nat) : Int)) ∧ ((0 ≤ (1 : Int) ∧ (1 : Int) < (((rW tx ((4 : Int)).toNat ((13 : Int)).toNat ((4 : Int)).toNat).length : Nat) : Int)) ∧ ((0 ≤ (2 : Int) ∧ (2 : Int) < (((rW tx ((4 : Int)).toNat ((13 : Int)).toNat ((4 : Int)).toNat).length : Nat) : Int)) ∧ ((0 ≤ (3 : Int) ∧ (3 : Int) < (((rW tx ((4 : Int)).toNat ((13 : Int)).toNat ((4 : Int)).toNat).length : Nat) : Int)) ∧ (cond ((pngE (⟨((rW tx ((4 : Int)).toNat ((13 : Int)).toNat ((4 : Int)).toNat).getD 0 0), ((rW tx ((4 : Int)).toNat ((13 : Int)).toNat ((4 : Int)).toNat).getD 1 0), ((rW tx ((4 : Int)).toNat ((13 : Int)).toNat ((4 : Int)).toNat).getD 2 0), ((rW tx ((4 : Int)).toNat ((13 : Int)).toNat ((4 : Int)).toNat).getD 3 0)⟩ : Png)) != (0 : Int)) (post (.tu [.a [.v (.int .i64 0), .v (.int .i64 0), .v (.int .i64 0), .v (.int .i64 0)], .c (.v (.int .i64 (pngE (⟨((rW tx ((4 : Int)).toNat ((13 : Int)).toNat ((4 : Int)).toNat).getD 0 0), ((rW tx ((4 : Int)).toNat ((13 : Int)).toNat ((4 : Int)).toNat).getD 1 0), ((rW tx ((4 : Int)).toNat ((13 : Int)).toNat ((4 : Int)).toNat).getD 2 0), ((rW tx ((4 : Int)).toNat ((13 : Int)).toNat ((4 : Int)).toNat).getD 3 0)⟩ : Png))))])) (post (.tu [.a [.v (.int .i64 ((rW tx ((4 : Int)).toNat ((13 : Int)).toNat ((4 : Int)).toNat).getD 0 0)), .v (.int .i64 ((rW tx ((4 : Int)).toNat ((13 : Int)).toNat ((4 : Int)).toNat).getD 1 0)), .v (.int .i64 ((rW tx ((4 : Int)).toNat ((13 : Int)).toNat ((4 : Int)).toNat).getD 2 0)), .v (.int .i64 ((rW tx ((4 : Int)).toNat ((13 : Int)).toNat ((4 : Int)).toNat).getD 3 0))], .c (.v (.int .i64 0))]))))))))
def ann_ref01_ParsePing : Ann := ⟨fun r => lookA r [(4, ([[], [0], [0, 1], [], [3], [3, 4], [], [6], [6, 7], [], [9], [9, 10], [0, 1, 2, 3, 4, 5, 6, 7, 8, 9, 10, 11], [], [0, 1, 2, 3, 4, 5, 6, 7, 8, 9, 10, 11, 12, 13]], [[6], [6], [6], [6], [6], [6], [6], [6], [6], [6], [6], [6], [6], [], []]))], fun _ => none, fun _ => [], Ilib, false, fun _ => none, fun _ => none⟩
theorem ev_ref01_ParsePing (J : Inv) (tx : ByteArray) (post : DV → Prop) : evFn Tryz.prog tab Sw588 ann_ref01_ParsePing J Tryz.f13 [.t (.c (.v (.string tx)))] post = vc_ref01_ParsePing tx post := by kernel_rfl
theorem fit_ref01_ParsePing : okFn ann_ref01_ParsePing Tryz.f13 = true := by kernel_rfl
theorem lp_ref01_ParsePing (J : Inv) (post : DV → Prop) : AllG J (loopsFn Tryz.prog tab Sw588 ann_ref01_ParsePing J Tryz.f13 post) = (True) := by kernel_rfl
theorem spec_ref01_ParsePing (tx : ByteArray) (hp : (tx).size ≤ 100000000) : vc_ref01_ParsePing tx (fun r => LeD r (.tu [.a [.v (.int .i64 ((ppV tx).sent)), .v (.int .i64 ((ppV tx).arr)), .v (.int .i64 ((ppV tx).ans)), .v (.int .i64 ((ppV tx).back))], .c (.v (.int .i64 (ppE tx)))])) := by
 unfold vc_ref01_ParsePing
 refine ⟨⟨by decide, by decide, by decide, by decide, hp⟩, cond_i (fun g => ?_) (fun g => ?_)⟩
 ·have g : okW tx 4 13 4 = false := by simpa using g
  have e : ppE tx = 7 := if_pos g
  rw [show ppV tx = ⟨0, 0, 0, 0⟩ from if_neg (by rw [e]; decide), e]
  exact LeD.refl _
 ·have g : okW tx 4 13 4 = true := by simpa using g
  rw [show ((13 : Int)).toNat = 13 from rfl, show ((4 : Int)).toNat = 4 from rfl, show rW tx 4 13 4 = valsW tx 13 4 from if_pos g, valsW_len]
  have e : ppE tx = pngE ⟨(valsW tx 13 4).getD 0 0, (valsW tx 13 4).getD 1 0, (valsW tx 13 4).getD 2 0, (valsW tx 13 4).getD 3 0⟩ := if_neg (by rw [g]; simp)
  refine ⟨⟨by omega, by omega⟩, ⟨by omega, by omega⟩, ⟨by omega, by omega⟩, ⟨by omega, by omega⟩, ?_⟩
  rw [← e]
  refine cond_i (fun h => ?_) (fun h => ?_)
  ·have h : ppE tx ≠ 0 := by simpa using h
   rw [show ppV tx = ⟨0, 0, 0, 0⟩ from if_neg h]
   exact LeD.refl _
  ·have h : ppE tx = 0 := by simpa using h
   rw [show ppV tx = ⟨(valsW tx 13 4).getD 0 0, (valsW tx 13 4).getD 1 0, (valsW tx 13 4).getD 2 0, (valsW tx 13 4).getD 3 0⟩ from if_pos h, h]
   exact LeD.refl _
def con_ref01_ParsePing : Con := fun args => match args with
 | [.t (.c (.v (.string tx)))] => some (.tu [.a [.v (.int .i64 ((ppV tx).sent)), .v (.int .i64 ((ppV tx).arr)), .v (.int .i64 ((ppV tx).ans)), .v (.int .i64 ((ppV tx).back))], .c (.v (.int .i64 (ppE tx)))], some ((tx).size ≤ 100000000), false)
 | _ => none
theorem ok_ref01_ParsePing : Ok Tryz.prog 13 con_ref01_ParsePing := by
 refine Ok.fn (ann := ann_ref01_ParsePing) mixed tabOK VSw588 VIlib (fn := Tryz.f13) (by kernel_rfl) (by kernel_rfl) fit_ref01_ParsePing fun args r pre fresh h hp => ?_
 unfold con_ref01_ParsePing at h
 split at h
 ·rename_i tx
  cases h
  refine ⟨rfl, fun _ _ _ => False, _, LeA.refl _, Nat.le_of_ble_eq_true (by kernel_rfl), ?_, ?_⟩
  ·rw [ev_ref01_ParsePing]; exact spec_ref01_ParsePing tx hp
  ·rw [lp_ref01_ParsePing]; trivial
 ·cases h
def Sw589 : Sum := addS Sw588 13 con_ref01_ParsePing
theorem VSw589 : Valid Tryz.prog Sw589 := Valid.add VSw588 ok_ref01_ParsePing
def mk_ref01_ParseNet_0 (tx : ByteArray) (v0_0 : List (List CV)) (v0_1 : List (List CV)) (v0_2 : List (List CV)) (v0_3 : Int) : DS := ⟨[none, none, some (.t (.c (.p 2 0))), none, some (.t (.c (.p 4 0))), some (.t (.c (.sl 1 ((cutL tx (UInt8.ofNat ((59 : Int)).toNat)).length) (txsC (cutL tx (UInt8.ofNat ((59 : Int)).toNat)))))), some (.t (.c (.p 6 0))), some (.t (.c (.v (.int .i64 v0_3)))), none, none, none, none, none, none, none, none, none, none, none, none, none, none, none, none, none, none, none, none, none, none, none, none, none, none, none, none, none, none, none, none, none, none, none, none, none, none, none, none, none, none, none, none, none, none, none, none, none, none, none, none, none, none, none, none, none, none], [some (.gen 53 4 v0_0), some (.gen 53 4 v0_1), some (.box 27 [.v (.slice none 0 0), .os 0]), some (.gen 53 4 v0_2), some (.box 27 [.v (.slice none 0 0), .os 1]), none, some (.box 27 [.sl 1 ((cutL (txAt (cutL tx (UInt8.ofNat ((59 : Int)).toNat)) 0) (UInt8.ofNat ((44 : Int)).toNat)).length) (txsC (cutL (txAt (cutL tx (UInt8.ofNat ((59 : Int)).toNat)) 0) (UInt8.ofNat ((44 : Int)).toNat))), .os 3]), none, none, none, none, none, none, none, none, none, none, none, none, none, none, none, none, none, none, none, none, none, none, none, none, none, none, none, none, none, none, none, none, none, none, none, none, none, none, none, none, none, none, none, none, none, none, none, none, none, none, none, none, none, none, none, none, none, none, none]⟩
def vc_ref01_ParseNet (J : Inv) (tx : ByteArray) (post : DV → Prop) : Prop := cond (decide ((((tx : ByteArray).size : Nat) : Int) > (60000 : Int))) (post (.tu [.a [.v (.slice none 0 0), .v (.slice none 0 0)], .c (.v (.int .i64 8))])) ((0 ≤ (59 : Int) ∧ (59 : Int) < 256 ∧ (tx).size ≤ 100000000) ∧ ((0 ≤ (0 : Int) ∧ (0 : Int) < (((cutL tx (UInt8.ofNat ((59 : Int)).toNat)).length : Nat) : Int)) ∧ ((0 ≤ (44 : Int) ∧ (44 : Int) < 256 ∧ ((txAt (cutL tx (UInt8.ofNat ((59 : Int)).toNat)) 0)).size ≤ 100000000) ∧ (∃ n, J 0 (n :: []) (mk_ref01_ParseNet_0 tx ([]) ([]) ([]) 1)))))
def ann_ref01_ParseNet : Ann := ⟨fun r => lookA r [(12, ([[], [0], [], [2], [2, 3], [], [5], [5, 6], [], [8], [8, 9], [], [11], [11, 12], [8, 9, 10, 11, 12, 13], [2, 3, 4, 5, 6, 7, 8, 9, 10, 11, 12, 13, 14], [2, 3, 4, 5, 6, 7, 8, 9, 10, 11, 12, 13, 14, 15], [0, 1, 2, 3, 4, 5, 6, 7, 8, 9, 10, 11, 12, 13, 14, 15, 16], [0, 1, 2, 3, 4, 5, 6, 7, 8, 9, 10, 11, 12, 13, 14, 15, 16, 17], [0, 1, 2, 3, 4, 5, 6, 7, 8, 9, 10, 11, 12, 13, 14, 15, 16, 17, 18]], [[56], [56], [56], [56], [56], [56], [56], [56], [56], [56], [56], [56], [56], [56], [56], [56], [], [], [], []]))], fun b => lookA b [(0, (none, some ⟨[2, 4, 5, 6, 7], [2, 4, 6], []⟩))], fun b => (lookA b [(0, [(2, 1, 0, .gen 53 4 []), (4, 1, 1, .gen 53 4 []), (6, 1, 3, .gen 53 4 [])])]).getD [], Ilib, false, fun _ => none, fun _ => none⟩
theorem ev_ref01_ParseNet (J : Inv) (tx : ByteArray) (post : DV → Prop) : evFn Tryz.prog tab Sw589 ann_ref01_ParseNet J Tryz.f14 [.t (.c (.v (.string tx)))] post = vc_ref01_ParseNet J tx post := by kernel_rfl
theorem fit_ref01_ParseNet : okFn ann_ref01_ParseNet Tryz.f14 = true := by kernel_rfl
def rd_ref01_ParseNet_0 (J : Inv) (tx : ByteArray) (v0_0 : List (List CV)) (v0_1 : List (List CV)) (v0_2 : List (List CV)) (v0_3 : Int) (nn0 : Nat) (post : DV → Prop) : Prop := cond (decide (v0_3 < (((cutL tx (UInt8.ofNat ((59 : Int)).toNat)).length : Nat) : Int))) ((0 ≤ v0_3 ∧ v0_3 < (((cutL tx (UInt8.ofNat ((59 : Int)).toNat)).length : Nat) : Int)) ∧ ((0 ≤ (4 : Int) ∧ 0 ≤ (10 : Int) ∧ (10 : Int) ≤ 17 ∧ 0 ≤ (2 : Int) ∧ ((txAt (cutL tx (UInt8.ofNat ((59 : Int)).toNat)) v0_3.toNat)).size ≤ 100000000) ∧ (cond (!(okW (txAt (cutL tx (UInt8.ofNat ((59 : Int)).toNat)) v0_3.toNat) ((4 : Int)).toNat ((10 : Int)).toNat ((2 : Int)).toNat)) (post (.tu [.a [.v (.slice none 0 0), .sl 4 v0_1.length (genC v0_1)], .c (.v (.int .i64 7))])) ((0 ≤ (0 : Int) ∧ (0 : Int) < (((rW (txAt (cutL tx (UInt8.ofNat ((59 : Int)).toNat)) v0_3.toNat) ((4 : Int)).toNat ((10 : Int)).toNat ((2 : Int)).toNat).length : Nat) : Int)) ∧ ((0 ≤ (1 : Int) ∧ (1 : Int) < (((rW (txAt (cutL tx (UInt8.ofNat ((59 : Int)).toNat)) v0_3.toNat) ((4 : Int)).toNat ((10 : Int)).toNat ((2 : Int)).toNat).length : Nat) : Int)) ∧ ((0 ≤ (2 : Int) ∧ (2 : Int) < (((rW (txAt (cutL tx (UInt8.ofNat ((59 : Int)).toNat)) v0_3.toNat) ((4 : Int)).toNat ((10 : Int)).toNat ((2 : Int)).toNat).length : Nat) : Int)) ∧ ((0 ≤ (3 : Int) ∧ (3 : Int) < (((rW (txAt (cutL tx (UInt8.ofNat ((59 : Int)).toNat)) v0_3.toNat) ((4 : Int)).toNat ((10 : Int)).toNat ((2 : Int)).toNat).length : Nat) : Int)) ∧ ((roomP 32 (v0_2.length + ([[.v (.int .i64 ((rW (txAt (cutL tx (UInt8.ofNat ((59 : Int)).toNat)) v0_3.toNat) ((4 : Int)).toNat ((10 : Int)).toNat ((2 : Int)).toNat).getD 0 0)), .v (.int .i64 ((rW (txAt (cutL tx (UInt8.ofNat ((59 : Int)).toNat)) v0_3.toNat) ((4 : Int)).toNat ((10 : Int)).toNat ((2 : Int)).toNat).getD 1 0)), .v (.int .i64 ((rW (txAt (cutL tx (UInt8.ofNat ((59 : Int)).toNat)) v0_3.toNat) ((4 : Int)).toNat ((10 : Int)).toNat ((2 : Int)).toNat).getD 2 0)), .v (.int .i64 ((rW (txAt (cutL tx (UInt8.ofNat ((59 : Int)).toNat)) v0_3.toNat) ((4 : Int)).toNat ((10 : Int)).toNat ((2 : Int)).toNat).getD 3 0))]] : List (List CV)).length)) ∧ (lt (IntKind.i64.wrap (v0_3 + (1 : Int))) fun x1 => J 0 (nn0 :: []) (mk_ref01_ParseNet_0 tx v0_0 v0_1 (v0_2 ++ ([[.v (.int .i64 ((rW (txAt (cutL tx (UInt8.ofNat ((59 : Int)).toNat)) v0_3.toNat) ((4 : Int)).toNat ((10 : Int)).toNat ((2 : Int)).toNat).getD 0 0)), .v (.int .i64 ((rW (txAt (cutL tx (UInt8.ofNat ((59 : Int)).toNat)) v0_3.toNat) ((4 : Int)).toNat ((10 : Int)).toNat ((2 : Int)).toNat).getD 1 0)), .v (.int .i64 ((rW (txAt (cutL tx (UInt8.ofNat ((59 : Int)).toNat)) v0_3.toNat) ((4 : Int)).toNat ((10 : Int)).toNat ((2 : Int)).toNat).getD 2 0)), .v (.int .i64 ((rW (txAt (cutL tx (UInt8.ofNat ((59 : Int)).toNat)) v0_3.toNat) ((4 : Int)).toNat ((10 : Int)).toNat ((2 : Int)).toNat).getD 3 0))]] : List (List CV))) x1)))))))))) ((txP ((cutL (txAt (cutL tx (UInt8.ofNat ((59 : Int)).toNat)) 0) (UInt8.ofNat ((44 : Int)).toNat)).length) (txsC (cutL (txAt (cutL tx (UInt8.ofNat ((59 : Int)).toNat)) 0) (UInt8.ofNat ((44 : Int)).toNat))) ∧ numsP 4 v0_2.length (genC v0_2) ∧ (∀ k, k < ((txOf ((cutL (txAt (cutL tx (UInt8.ofNat ((59 : Int)).toNat)) 0) (UInt8.ofNat ((44 : Int)).toNat)).length) (txsC (cutL (txAt (cutL tx (UInt8.ofNat ((59 : Int)).toNat)) 0) (UInt8.ofNat ((44 : Int)).toNat))))).length → (txAt (txOf ((cutL (txAt (cutL tx (UInt8.ofNat ((59 : Int)).toNat)) 0) (UInt8.ofNat ((44 : Int)).toNat)).length) (txsC (cutL (txAt (cutL tx (UInt8.ofNat ((59 : Int)).toNat)) 0) (UInt8.ofNat ((44 : Int)).toNat)))) k).size ≤ 1000000)) ∧ (cond ((ntE (txOf ((cutL (txAt (cutL tx (UInt8.ofNat ((59 : Int)).toNat)) 0) (UInt8.ofNat ((44 : Int)).toNat)).length) (txsC (cutL (txAt (cutL tx (UInt8.ofNat ((59 : Int)).toNat)) 0) (UInt8.ofNat ((44 : Int)).toNat)))) (listC v0_2.length mkLnk (genC v0_2))) != (0 : Int)) (post (.tu [.a [.v (.slice none 0 0), .sl 4 v0_1.length (genC v0_1)], .c (.v (.int .i64 (ntE (txOf ((cutL (txAt (cutL tx (UInt8.ofNat ((59 : Int)).toNat)) 0) (UInt8.ofNat ((44 : Int)).toNat)).length) (txsC (cutL (txAt (cutL tx (UInt8.ofNat ((59 : Int)).toNat)) 0) (UInt8.ofNat ((44 : Int)).toNat)))) (listC v0_2.length mkLnk (genC v0_2)))))])) (post (.tu [.a [.sl 1 ((cutL (txAt (cutL tx (UInt8.ofNat ((59 : Int)).toNat)) 0) (UInt8.ofNat ((44 : Int)).toNat)).length) (txsC (cutL (txAt (cutL tx (UInt8.ofNat ((59 : Int)).toNat)) 0) (UInt8.ofNat ((44 : Int)).toNat))), .sl 4 v0_2.length (genC v0_2)], .c (.v (.int .i64 0))]))))
theorem er_ref01_ParseNet_0 (J : Inv) (tx : ByteArray) (v0_0 : List (List CV)) (v0_1 : List (List CV)) (v0_2 : List (List CV)) (v0_3 : Int) (nn0 : Nat) (post : DV → Prop) : round Tryz.prog tab Sw589 ann_ref01_ParseNet J Tryz.f14 post 0 (nn0 :: []) (mk_ref01_ParseNet_0 tx v0_0 v0_1 v0_2 v0_3) = rd_ref01_ParseNet_0 J tx v0_0 v0_1 v0_2 v0_3 nn0 post := by kernel_rfl
theorem lp_ref01_ParseNet (J : Inv) (post : DV → Prop) : AllG J (loopsFn Tryz.prog tab Sw589 ann_ref01_ParseNet J Tryz.f14 post) = (((∀ F s, ¬ J 0 (0 :: F) s) ∧ ∀ n F s, J 0 ((n + 1) :: F) s → round Tryz.prog tab Sw589 ann_ref01_ParseNet J Tryz.f14 post 0 (n :: F) s) ∧ True) := by kernel_rfl
def J_ref01_ParseNet (tx : ByteArray) : Inv := fun b F s => match b, F with
 | 0, [nn0] => ∃ (v0_0 : List (List CV)) (v0_1 : List (List CV)) (v0_2 : List (List CV)) (v0_3 : Int), s = mk_ref01_ParseNet_0 tx v0_0 v0_1 v0_2 v0_3 ∧ (tx.size ≤ 60000 ∧ v0_1 = [] ∧ 1 ≤ v0_3 ∧ v0_3 ≤ nPc 59 tx ∧ (nn0 : Int) + v0_3 = nPc 59 tx + 1 ∧ v0_2 = (lksK tx (v0_3.toNat - 1)).map lnkCv ∧ ∀ i, i + 1 < v0_3.toNat → okW (partB tx (i + 1)) 4 10 2 = true)
 | _, _ => False
theorem rnd_ref01_ParseNet_0 (tx : ByteArray) (v0_0 : List (List CV)) (v0_1 : List (List CV)) (v0_2 : List (List CV)) (v0_3 : Int) (nn0 : Nat) (hi : tx.size ≤ 60000 ∧ v0_1 = [] ∧ 1 ≤ v0_3 ∧ v0_3 ≤ nPc 59 tx ∧ ((nn0 + 1) : Int) + v0_3 = nPc 59 tx + 1 ∧ v0_2 = (lksK tx (v0_3.toNat - 1)).map lnkCv ∧ ∀ i, i + 1 < v0_3.toNat → okW (partB tx (i + 1)) 4 10 2 = true) : rd_ref01_ParseNet_0 (J_ref01_ParseNet tx) tx v0_0 v0_1 v0_2 v0_3 nn0 (fun r => LeD r (.tu [.a [.sl 1 ((pnC tx).length) (txsC (pnC tx)), .sl 4 ((pnL tx).length) (lnksC (pnL tx))], .c (.v (.int .i64 (pnE tx)))])) := by
 obtain ⟨q, rfl, i1, i2, i3, i4, i5⟩ := hi
 obtain ⟨k, rfl⟩ : ∃ d : Nat, v0_3 = ((d + 1 : Nat) : Int) := ⟨v0_3.toNat - 1, by omega⟩
 simp only [Int.toNat_natCast, Nat.add_sub_cancel] at i4 i5
 subst i4
 have np := nPc_le 59 tx
 have n0 := nPc_pos 59 tx
 unfold rd_ref01_ParseNet_0
 rw [show (UInt8.ofNat ((59 : Int)).toNat) = 59 from rfl, show (UInt8.ofNat ((44 : Int)).toNat) = 44 from rfl]
 simp only [cutL_len (s := tx) (c := 59), cutL_at n0, Int.toNat_natCast]
 refine cond_i (fun h => ?_) (fun h => ?_)
 ·have h : k + 1 < nPc 59 tx := by have := of_decide_eq_true h; omega
  simp only [cutL_at h, show ofL (wAt 59 tx (k + 1)) = partB tx (k + 1) from rfl]
  refine ⟨⟨by omega, by omega⟩, ⟨by decide, by decide, by decide, by decide, by unfold partB; rw [ofL_size]; exact Nat.le_trans wAt_len (by omega)⟩, cond_i (fun g => ?_) (fun g => ?_)⟩
  ·have g : okW (partB tx (k + 1)) 4 10 2 = false := by simpa using g
   have e : pnE tx = 7 := by unfold pnE; rw [if_neg (by omega), if_pos (synB_no h g)]
   rw [show pnC tx = [] from if_neg (by rw [e]; decide), show pnL tx = [] from if_neg (by rw [e]; decide), e]
   exact le_tu (leT_a (LeCs.cons leC_nil (LeCs.cons (leC_lnks []) LeCs.nil))) (LeD.refl _)
  ·have g : okW (partB tx (k + 1)) 4 10 2 = true := by simpa using g
   simp only [show ((10 : Int)).toNat = 10 from rfl, show ((4 : Int)).toNat = 4 from rfl, show ((2 : Int)).toNat = 2 from rfl, show rW (partB tx (k + 1)) 4 10 2 = valsW (partB tx (k + 1)) 10 4 from if_pos g, valsW_len]
   refine ⟨⟨by omega, by omega⟩, ⟨by omega, by omega⟩, ⟨by omega, by omega⟩, ⟨by omega, by omega⟩, ⟨by simp [lksK_len]; omega, by simp [lksK_len, maxLen]; omega⟩, lt_i fun x1 h1 => ?_⟩
   rw [wi (by omega)] at h1
   subst h1
   refine ⟨_, _, _, _, rfl, q, rfl, by omega, by omega, by omega, ?_, fun i hi => ?_⟩
   ·rw [show ((((k + 1 : Nat) : Int) + 1).toNat - 1) = k + 1 from rfl, lksK_succ, List.map_append]; rfl
   ·rcases (by omega : i < k ∨ i = k) with c | rfl
    ·exact i5 i (by omega)
    ·exact g
 ·have h := of_decide_eq_false h
  have ek : k = nPc 59 tx - 1 := by omega
  have sy : synB tx = true := synB_yes fun i hi => i5 i (by omega)
  have e : pnE tx = ntE (nmsB tx) (lksK tx (nPc 59 tx - 1)) := by unfold pnE; rw [if_neg (by omega), if_neg (by rw [sy]; simp)]
  have en : cutL (ofL (wAt 59 tx 0)) 44 = nmsB tx := by unfold cutL nmsB; rw [ofL_data]
  subst ek
  rw [en, txs_of, lnkg_listC]
  refine ⟨⟨txP_txs _, numsP_lnkg _, fun i hi => Nat.le_trans (nmsB_size i hi) (by omega)⟩, cond_i (fun g => ?_) (fun g => ?_)⟩
  ·have g : pnE tx ≠ 0 := by rw [e]; simpa using g
   rw [show pnC tx = [] from if_neg g, show pnL tx = [] from if_neg g, ← e]
   exact le_tu (leT_a (LeCs.cons leC_nil (LeCs.cons (leC_lnks []) LeCs.nil))) (LeD.refl _)
  ·have g : pnE tx = 0 := by rw [e]; simpa using g
   rw [show pnC tx = nmsB tx from if_pos g, show pnL tx = lksK tx (nPc 59 tx - 1) from if_pos g, g]
   exact le_tu (leT_a (LeCs.cons (LeC1.refl _) (LeCs.cons (leC_lnks _) LeCs.nil))) (LeD.refl _)
theorem zero_ref01_ParseNet_0 (tx : ByteArray) (v0_0 : List (List CV)) (v0_1 : List (List CV)) (v0_2 : List (List CV)) (v0_3 : Int)  (hi : tx.size ≤ 60000 ∧ v0_1 = [] ∧ 1 ≤ v0_3 ∧ v0_3 ≤ nPc 59 tx ∧ (0 : Int) + v0_3 = nPc 59 tx + 1 ∧ v0_2 = (lksK tx (v0_3.toNat - 1)).map lnkCv ∧ ∀ i, i + 1 < v0_3.toNat → okW (partB tx (i + 1)) 4 10 2 = true) : False := by
 omega
theorem spec_ref01_ParseNet (tx : ByteArray) : vc_ref01_ParseNet (J_ref01_ParseNet tx) tx (fun r => LeD r (.tu [.a [.sl 1 ((pnC tx).length) (txsC (pnC tx)), .sl 4 ((pnL tx).length) (lnksC (pnL tx))], .c (.v (.int .i64 (pnE tx)))])) := by
 unfold vc_ref01_ParseNet
 rw [show (UInt8.ofNat ((59 : Int)).toNat) = 59 from rfl]
 refine cond_i (fun h => ?_) (fun h => ?_)
 ·have h := of_decide_eq_true h
  have e : pnE tx = 8 := if_pos (by omega)
  rw [show pnC tx = [] from if_neg (by rw [e]; decide), show pnL tx = [] from if_neg (by rw [e]; decide), e]
  exact le_tu (leT_a (LeCs.cons leC_nil (LeCs.cons leC_nil LeCs.nil))) (LeD.refl _)
 ·have h := of_decide_eq_false h
  have np := nPc_pos 59 tx
  rw [cutL_len, cutL_at np]
  exact ⟨⟨by decide, by decide, by omega⟩, ⟨by omega, by omega⟩, ⟨by decide, by decide, by rw [ofL_size]; exact Nat.le_trans wAt_len (by omega)⟩, nPc 59 tx, _, _, _, 1, rfl, by omega, rfl, by omega, by omega, by omega, rfl, fun i hi => by omega⟩
theorem all_ref01_ParseNet (tx : ByteArray) : AllG (J_ref01_ParseNet tx) (loopsFn Tryz.prog tab Sw589 ann_ref01_ParseNet (J_ref01_ParseNet tx) Tryz.f14 (fun r => LeD r (.tu [.a [.sl 1 ((pnC tx).length) (txsC (pnC tx)), .sl 4 ((pnL tx).length) (lnksC (pnL tx))], .c (.v (.int .i64 (pnE tx)))]))) := by
 rw [lp_ref01_ParseNet]
 refine ⟨⟨?_, ?_⟩, trivial⟩
 ·intro F s h
  obtain _ | ⟨g, F⟩ := F
  case cons => exact h.elim
  obtain ⟨w0, w1, w2, w3, rfl, hi⟩ := h
  exact zero_ref01_ParseNet_0 tx w0 w1 w2 w3 hi
 ·intro n F s h
  obtain _ | ⟨g, F⟩ := F
  case cons => exact h.elim
  obtain ⟨w0, w1, w2, w3, rfl, hi⟩ := h
  rw [er_ref01_ParseNet_0]
  exact rnd_ref01_ParseNet_0 tx _ _ _ _ _ hi
def con_ref01_ParseNet : Con := fun args => match args with
 | [.t (.c (.v (.string tx)))] => some (.tu [.a [.sl 1 ((pnC tx).length) (txsC (pnC tx)), .sl 4 ((pnL tx).length) (lnksC (pnL tx))], .c (.v (.int .i64 (pnE tx)))], none, false)
 | _ => none
theorem ok_ref01_ParseNet : Ok Tryz.prog 14 con_ref01_ParseNet := by
 refine Ok.fn (ann := ann_ref01_ParseNet) mixed tabOK VSw589 VIlib (fn := Tryz.f14) (by kernel_rfl) (by kernel_rfl) fit_ref01_ParseNet fun args r pre fresh h hp => ?_
 unfold con_ref01_ParseNet at h
 split at h
 ·rename_i tx
  cases h
  refine ⟨rfl, J_ref01_ParseNet tx, _, LeA.refl _, Nat.le_of_ble_eq_true (by kernel_rfl), ?_, ?_⟩
  ·rw [ev_ref01_ParseNet]; exact spec_ref01_ParseNet tx
  ·exact all_ref01_ParseNet tx
 ·cases h
def Sw590 : Sum := addS Sw589 14 con_ref01_ParseNet
theorem VSw590 : Valid Tryz.prog Sw590 := Valid.add VSw589 ok_ref01_ParseNet
end Go.Proofs.YtlapeoboekchpaaGreatDoor
set_option linter.unusedVariables false
set_option linter.unusedSimpArgs false
namespace Go.Proofs.YtlapeoboekchpaaGreatDoor
open Go.RowKit Ev
def vc_clock_ParsePing (tx : ByteArray) (post : DV → Prop) : Prop := (0 ≤ (4 : Int) ∧ 0 ≤ (13 : Int) ∧ (13 : Int) ≤ 17 ∧ 0 ≤ (4 : Int) ∧ (tx).size ≤ 100000000) ∧ (cond (!(okW tx ((4 : Int)).toNat ((13 : Int)).toNat ((4 : Int)).toNat)) (post (.tu [.a [.v (.int .i64 0), .v (.int .i64 0), .v (.int .i64 0), .v (.int .i64 0)], .c (.v (.int .i64 7))])) ((4 ≤ (outW tx ((13 : Int)).toNat ((4 : Int)).toNat).length) ∧ ((0 ≤ (0 : Int) ∧ (0 : Int) < ((4 : Nat) : Int)) ∧ ((0 ≤ (1 : Int) ∧ (1 : Int) < ((4 : Nat) : Int)) ∧ ((0 ≤ (2 : Int) ∧ (2 : Int) < ((4 : Nat) : Int)) ∧ ((0 ≤ (3 : Int) ∧ (3 : Int) < ((4 : Nat) : Int)) ∧ (cond ((pngE (⟨((outW tx ((13 : Int)).toNat ((4 : Int)).toNat).getD 0 0), ((outW tx ((13 : Int)).toNat ((4 : Int)).toNat).getD 1 0), ((outW tx ((13 : Int)).toNat ((4 : Int)).toNat).getD 2 0), ((outW tx ((13 : Int)).toNat ((4 : Int)).toNat).getD 3 0)⟩ : Png)) != (0 : Int)) (post (.tu [.a [.v (.int .i64 0), .v (.int .i64 0), .v (.int .i64 0), .v (.int .i64 0)], .c (.v (.int .i64 (pngE (⟨((outW tx ((13 : Int)).toNat ((4 : Int)).toNat).getD 0 0), ((outW tx ((13 : Int)).toNat ((4 : Int)).toNat).getD 1 0), ((outW tx ((13 : Int)).toNat ((4 : Int)).toNat).getD 2 0), ((outW tx ((13 : Int)).toNat ((4 : Int)).toNat).getD 3 0)⟩ : Png))))])) (post (.tu [.a [.v (.int .i64 ((outW tx ((13 : Int)).toNat ((4 : Int)).toNat).getD 0 0)), .v (.int .i64 ((outW tx ((13 : Int)).toNat ((4 : Int)).toNat).getD 1 0)), .v (.int .i64 ((outW tx ((13 : Int)).toNat ((4 : Int)).toNat).getD 2 0)), .v (.int .i64 ((outW tx ((13 : Int)).toNat ((4 : Int)).toNat).getD 3 0))], .c (.v (.int .i64 0))])))))))))
def ann_clock_ParsePing : Ann := ⟨fun _ => none, fun _ => none, fun _ => [], Ilib, false, fun _ => none, fun _ => none⟩
theorem ev_clock_ParsePing (J : Inv) (tx : ByteArray) (post : DV → Prop) : evFn Tryz.prog tab Sw590 ann_clock_ParsePing J Tryz.f11 [.t (.c (.v (.string tx)))] post = vc_clock_ParsePing tx post := by kernel_rfl
theorem fit_clock_ParsePing : okFn ann_clock_ParsePing Tryz.f11 = true := by kernel_rfl
theorem lp_clock_ParsePing (J : Inv) (post : DV → Prop) : AllG J (loopsFn Tryz.prog tab Sw590 ann_clock_ParsePing J Tryz.f11 post) = (True) := by kernel_rfl
theorem spec_clock_ParsePing (tx : ByteArray) (hp : (tx).size ≤ 100000000) : vc_clock_ParsePing tx (fun r => LeD r (.tu [.a [.v (.int .i64 ((ppV tx).sent)), .v (.int .i64 ((ppV tx).arr)), .v (.int .i64 ((ppV tx).ans)), .v (.int .i64 ((ppV tx).back))], .c (.v (.int .i64 (ppE tx)))])) := by
 unfold vc_clock_ParsePing
 refine ⟨⟨by decide, by decide, by decide, by decide, hp⟩, cond_i (fun g => ?_) (fun g => ?_)⟩
 ·have g : okW tx 4 13 4 = false := by simpa using g
  have e : ppE tx = 7 := if_pos g
  rw [show ppV tx = ⟨0, 0, 0, 0⟩ from if_neg (by rw [e]; decide), e]
  exact LeD.refl _
 ·have g : okW tx 4 13 4 = true := by simpa using g
  rw [show ((13 : Int)).toNat = 13 from rfl, show ((4 : Int)).toNat = 4 from rfl, (okW_out g).2, valsW_len]
  have e : ppE tx = pngE ⟨(valsW tx 13 4).getD 0 0, (valsW tx 13 4).getD 1 0, (valsW tx 13 4).getD 2 0, (valsW tx 13 4).getD 3 0⟩ := if_neg (by rw [g]; simp)
  refine ⟨by omega, ⟨by omega, by omega⟩, ⟨by omega, by omega⟩, ⟨by omega, by omega⟩, ⟨by omega, by omega⟩, ?_⟩
  rw [← e]
  refine cond_i (fun h => ?_) (fun h => ?_)
  ·have h : ppE tx ≠ 0 := by simpa using h
   rw [show ppV tx = ⟨0, 0, 0, 0⟩ from if_neg h]
   exact LeD.refl _
  ·have h : ppE tx = 0 := by simpa using h
   rw [show ppV tx = ⟨(valsW tx 13 4).getD 0 0, (valsW tx 13 4).getD 1 0, (valsW tx 13 4).getD 2 0, (valsW tx 13 4).getD 3 0⟩ from if_pos h, h]
   exact LeD.refl _
def con_clock_ParsePing : Con := fun args => match args with
 | [.t (.c (.v (.string tx)))] => some (.tu [.a [.v (.int .i64 ((ppV tx).sent)), .v (.int .i64 ((ppV tx).arr)), .v (.int .i64 ((ppV tx).ans)), .v (.int .i64 ((ppV tx).back))], .c (.v (.int .i64 (ppE tx)))], some ((tx).size ≤ 100000000), false)
 | _ => none
theorem ok_clock_ParsePing : Ok Tryz.prog 11 con_clock_ParsePing := by
 refine Ok.fn (ann := ann_clock_ParsePing) mixed tabOK VSw590 VIlib (fn := Tryz.f11) (by kernel_rfl) (by kernel_rfl) fit_clock_ParsePing fun args r pre fresh h hp => ?_
 unfold con_clock_ParsePing at h
 split at h
 ·rename_i tx
  cases h
  refine ⟨rfl, fun _ _ _ => False, _, LeA.refl _, Nat.le_of_ble_eq_true (by kernel_rfl), ?_, ?_⟩
  ·rw [ev_clock_ParsePing]; exact spec_clock_ParsePing tx hp
  ·rw [lp_clock_ParsePing]; trivial
 ·cases h
def Sw691 : Sum := addS Sw590 11 con_clock_ParsePing
theorem VSw691 : Valid Tryz.prog Sw691 := Valid.add VSw590 ok_clock_ParsePing
end Go.Proofs.YtlapeoboekchpaaGreatDoor