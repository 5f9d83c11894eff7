/- Texts of this claim, together. -/
import Derived.Test.YtdkpgodakmailaaGreatDoorHS11

set_option linter.unusedVariables false
set_option linter.unusedSimpArgs false
namespace Go.Proofs.YtdkpgodakmailaaGreatDoor
open Go.RowKit Ev
def mk_base_Cut_0 (tx : ByteArray) (c : Int) (v0_0 : List (List CV)) (v0_1 : Int) (v0_2 : Int) : DS := ⟨[some (.t (.c (.v (.string tx)))), some (.t (.c (.v (.int .u8 c)))), none, none, none, some (.t (.c (.os 5))), some (.t (.c (.v (.int .i64 v0_1)))), some (.t (.c (.v (.int .i64 v0_2)))), none, none, none, none, none, none, none, none, none, none, none, none, none, none, none, none, none, none, none, none, none, none, none, none, none, none], [none, none, none, none, none, some (.gen 9 1 v0_0), none, none, none, none, none, none, none, none, none, none, none, none, none, none, none, none, none, none, none, none, none, none, none, none, none, none, none, none]⟩
def vc_base_Cut (J : Inv) (tx : ByteArray) (c : Int) (post : DV → Prop) : Prop := ∃ n, J 0 (n :: []) (mk_base_Cut_0 tx c ([]) 0 0)
def ann_base_Cut : Ann := ⟨fun _ => none, fun b => lookA b [(0, (none, some ⟨[0, 1, 6, 7], [], [(5, .gen 9 1 [])]⟩))], fun _ => [], Ilib, true, fun _ => none, fun _ => none⟩
theorem ev_base_Cut (J : Inv) (tx : ByteArray) (c : Int) (post : DV → Prop) : evFn Tryz.prog tab Sha97 ann_base_Cut J Tryz.f90 [.t (.c (.v (.string tx))), .t (.c (.v (.int .u8 c)))] post = vc_base_Cut J tx c post := by kernel_rfl
theorem fit_base_Cut : okFn ann_base_Cut Tryz.f90 = true := by kernel_rfl
def rd_base_Cut_0 (J : Inv) (tx : ByteArray) (c : Int) (v0_0 : List (List CV)) (v0_1 : Int) (v0_2 : Int) (nn0 : Nat) (post : DV → Prop) : Prop := cond (decide (v0_2 < (((tx : ByteArray).size : Nat) : Int))) ((0 ≤ v0_2 ∧ v0_2 < (((tx : ByteArray).size : Nat) : Int)) ∧ (cond ((((tx : ByteArray).data.getD (v0_2).toNat 0).toNat : Int) == c) ((0 ≤ v0_1 ∧ v0_1 ≤ v0_2 ∧ v0_2 ≤ (((tx : ByteArray).size : Nat) : Int)) ∧ ((roomP 16 (v0_0.length + ([[.v (.string (ByteArray.extract tx v0_1.toNat v0_2.toNat))]] : List (List CV)).length)) ∧ (lt (IntKind.i64.wrap (v0_2 + (1 : Int))) fun x1 => lt (IntKind.i64.wrap (v0_2 + (1 : Int))) fun x2 => J 0 (nn0 :: []) (mk_base_Cut_0 tx c (v0_0 ++ ([[.v (.string (ByteArray.extract tx v0_1.toNat v0_2.toNat))]] : List (List CV))) x1 x2)))) (lt (IntKind.i64.wrap (v0_2 + (1 : Int))) fun x3 => J 0 (nn0 :: []) (mk_base_Cut_0 tx c v0_0 v0_1 x3)))) ((0 ≤ v0_1 ∧ v0_1 ≤ (((tx : ByteArray).size : Nat) : Int) ∧ (((tx : ByteArray).size : Nat) : Int) ≤ (((tx : ByteArray).size : Nat) : Int)) ∧ ((roomP 16 (v0_0.length + ([[.v (.string (ByteArray.extract tx v0_1.toNat (((tx : ByteArray).size : Nat) : Int).toNat))]] : List (List CV)).length)) ∧ (post (.t (.c (.sl 1 ((v0_0 ++ ([[.v (.string (ByteArray.extract tx v0_1.toNat (((tx : ByteArray).size : Nat) : Int).toNat))]] : List (List CV))).length) (genC (v0_0 ++ ([[.v (.string (ByteArray.extract tx v0_1.toNat (((tx : ByteArray).size : Nat) : Int).toNat))]] : List (List CV))))))))))
theorem er_base_Cut_0 (J : Inv) (tx : ByteArray) (c : Int) (v0_0 : List (List CV)) (v0_1 : Int) (v0_2 : Int) (nn0 : Nat) (post : DV → Prop) : round Tryz.prog tab Sha97 ann_base_Cut J Tryz.f90 post 0 (nn0 :: []) (mk_base_Cut_0 tx c v0_0 v0_1 v0_2) = rd_base_Cut_0 J tx c v0_0 v0_1 v0_2 nn0 post := by kernel_rfl
theorem lp_base_Cut (J : Inv) (post : DV → Prop) : AllG J (loopsFn Tryz.prog tab Sha97 ann_base_Cut J Tryz.f90 post) = (((∀ F s, ¬ J 0 (0 :: F) s) ∧ ∀ n F s, J 0 ((n + 1) :: F) s → round Tryz.prog tab Sha97 ann_base_Cut J Tryz.f90 post 0 (n :: F) s) ∧ True) := by kernel_rfl
def J_base_Cut (tx : ByteArray) (c : Int) : Inv := fun b F s => match b, F with
 | 0, [nn0] => ∃ (v0_0 : List (List CV)) (v0_1 : Int) (v0_2 : Int), s = mk_base_Cut_0 tx c v0_0 v0_1 v0_2 ∧ ((0 ≤ c ∧ c < 256 ∧ (tx).size ≤ 100000000) ∧ 0 ≤ v0_1 ∧ 0 ≤ v0_2 ∧ v0_2 ≤ tx.size ∧ (nn0 : Int) + v0_2 = tx.size + 1 ∧ CutI tx (UInt8.ofNat c.toNat) v0_0 v0_1.toNat v0_2.toNat)
 | _, _ => False
theorem rnd_base_Cut_0 (tx : ByteArray) (c : Int) (v0_0 : List (List CV)) (v0_1 : Int) (v0_2 : Int) (nn0 : Nat) (hp : 0 ≤ c ∧ c < 256 ∧ (tx).size ≤ 100000000) (hi : (0 ≤ c ∧ c < 256 ∧ (tx).size ≤ 100000000) ∧ 0 ≤ v0_1 ∧ 0 ≤ v0_2 ∧ v0_2 ≤ tx.size ∧ ((nn0 + 1) : Int) + v0_2 = tx.size + 1 ∧ CutI tx (UInt8.ofNat c.toNat) v0_0 v0_1.toNat v0_2.toNat) : rd_base_Cut_0 (J_base_Cut tx c) tx c v0_0 v0_1 v0_2 nn0 (fun r => LeD r (.t (.c (.sl 1 ((cutL tx (UInt8.ofNat (c).toNat)).length) (txsC (cutL tx (UInt8.ofNat (c).toNat))))))) := by
 obtain ⟨q, i0, i1, i2, i3, i4⟩ := hi
 obtain ⟨a, rfl⟩ : ∃ d : Nat, v0_1 = d := ⟨v0_1.toNat, by omega⟩
 obtain ⟨k, rfl⟩ : ∃ d : Nat, v0_2 = d := ⟨v0_2.toNat, by omega⟩
 obtain ⟨ch, rfl⟩ : ∃ d : Nat, c = d := ⟨c.toNat, by omega⟩
 simp only [Int.toNat_natCast] at i4
 have hch : (UInt8.ofNat ch).toNat = ch := by rw [UInt8.toNat_ofNat']; omega
 have ha := i4.1
 obtain ⟨os, _, _, e4, e5⟩ := i4.2
 have hl : v0_0.length ≤ 100000000 := by rw [e4]; simp; omega
 unfold rd_base_Cut_0
 simp only [Int.toNat_natCast, dget]
 refine cond_i (fun h => ?_) (fun h => ?_)
 ·have hlt : k < tx.size := by have := of_decide_eq_true h; omega
  refine ⟨⟨by omega, by omega⟩, ?_⟩
  refine cond_i (fun g => ?_) (fun g => ?_)
  ·have g : (tx.data.toList.getD k 0).toNat = ch := by have := eq_of_beq g; omega
   have g : tx.data.toList.getD k 0 = UInt8.ofNat ch := UInt8.toNat_inj.1 (by rw [hch]; exact g)
   refine ⟨⟨by omega, by omega, by omega⟩, ⟨by simp; omega, by simp [maxLen]; omega⟩, lt_i fun x1 h1 => lt_i fun x2 h2 => ?_⟩
   rw [wi (by omega)] at h1 h2
   subst h1 h2
   exact ⟨_, _, _, rfl, q, by omega, by omega, by omega, by omega, cut_hit i4 hlt g⟩
  ·have g : tx.data.toList.getD k 0 ≠ UInt8.ofNat ch := by
    intro e
    rw [e, hch] at g
    simp at g
   refine lt_i fun x1 h1 => ?_
   rw [wi (by omega)] at h1
   subst h1
   exact ⟨_, _, _, rfl, q, by omega, by omega, by omega, by omega, cut_miss i4 hlt g⟩
 ·have e : k = tx.size := by have := of_decide_eq_false h; omega
  subst e
  refine ⟨⟨by omega, by omega, by omega⟩, ⟨by simp; omega, by simp [maxLen]; omega⟩, ?_⟩
  rw [cut_end i4]
  exact le_ttg _
theorem zero_base_Cut_0 (tx : ByteArray) (c : Int) (v0_0 : List (List CV)) (v0_1 : Int) (v0_2 : Int)  (hi : (0 ≤ c ∧ c < 256 ∧ (tx).size ≤ 100000000) ∧ 0 ≤ v0_1 ∧ 0 ≤ v0_2 ∧ v0_2 ≤ tx.size ∧ (0 : Int) + v0_2 = tx.size + 1 ∧ CutI tx (UInt8.ofNat c.toNat) v0_0 v0_1.toNat v0_2.toNat) : False := by
 omega
theorem spec_base_Cut (tx : ByteArray) (c : Int) (hp : 0 ≤ c ∧ c < 256 ∧ (tx).size ≤ 100000000) : vc_base_Cut (J_base_Cut tx c) tx c (fun r => LeD r (.t (.c (.sl 1 ((cutL tx (UInt8.ofNat (c).toNat)).length) (txsC (cutL tx (UInt8.ofNat (c).toNat))))))) := by
 unfold vc_base_Cut
 exact ⟨tx.size + 1, [], 0, 0, rfl, hp, by omega, by omega, by omega, by omega, cut_0 _ _⟩
theorem all_base_Cut (tx : ByteArray) (c : Int) (hp : 0 ≤ c ∧ c < 256 ∧ (tx).size ≤ 100000000) : AllG (J_base_Cut tx c) (loopsFn Tryz.prog tab Sha97 ann_base_Cut (J_base_Cut tx c) Tryz.f90 (fun r => LeD r (.t (.c (.sl 1 ((cutL tx (UInt8.ofNat (c).toNat)).length) (txsC (cutL tx (UInt8.ofNat (c).toNat)))))))) := by
 rw [lp_base_Cut]
 refine ⟨⟨?_, ?_⟩, trivial⟩
 ·intro F s h
  obtain _ | ⟨g, F⟩ := F
  case cons => exact h.elim
  obtain ⟨w0, w1, w2, rfl, hi⟩ := h
  exact zero_base_Cut_0 tx c w0 w1 w2 hi
 ·intro n F s h
  obtain _ | ⟨g, F⟩ := F
  case cons => exact h.elim
  obtain ⟨w0, w1, w2, rfl, hi⟩ := h
  rw [er_base_Cut_0]
  exact rnd_base_Cut_0 tx c _ _ _ _ hp hi
def con_base_Cut : Con := fun args => match args with
 | [.t (.c (.v (.string tx))), .t (.c (.v (.int .u8 c)))] => some (.t (.c (.sl 1 ((cutL tx (UInt8.ofNat (c).toNat)).length) (txsC (cutL tx (UInt8.ofNat (c).toNat))))), some (0 ≤ c ∧ c < 256 ∧ (tx).size ≤ 100000000), true)
 | _ => none
theorem ok_base_Cut : Ok Tryz.prog 90 con_base_Cut := by
 refine Ok.fnFr (ann := ann_base_Cut) mixed tabOK VSha97 VIlib rfl (fn := Tryz.f90) (by kernel_rfl) (by kernel_rfl) fit_base_Cut fun args r pre fresh h hp => ?_
 unfold con_base_Cut at h
 split at h
 ·rename_i tx c
  cases h
  refine ⟨rfl, (fun i j _ hj => plain_str _ i j), J_base_Cut tx c, _, LeA.refl _, Nat.le_of_ble_eq_true (by kernel_rfl), ?_, ?_⟩
  ·rw [ev_base_Cut]; exact spec_base_Cut tx c hp
  ·exact all_base_Cut tx c hp
 ·cases h
def Shb98 : Sum := addS Sha97 90 con_base_Cut
theorem VShb98 : Valid Tryz.prog Shb98 := Valid.add VSha97 ok_base_Cut
def mk_base_Number_0 (tx : ByteArray) (digits : Int) (v0_0 : Int) (v0_1 : Int) (v0_2 : Int) : DS := ⟨[some (.t (.c (.v (.string tx)))), none, none, none, none, none, some (.t (.c (.v (.int .i64 v0_0)))), some (.t (.c (.v (.int .i64 v0_1)))), some (.t (.c (.v (.int .i64 v0_2)))), none, none, none, none, none, none, none, none, none, none, none, none, none, none, none, none, none, none, none, none, none, none, none, none, none, none, none, none, none, none, none, none, none, none, none, none, none, none, none, none, none, none, none, none, none, none, none, none, none, none, none, none, none, none, none, none, none, none, none, none, none], [none, none, none, none, none, none, none, none, none, none, none, none, none, none, none, none, none, none, none, none, none, none, none, none, none, none, none, none, none, none, none, none, none, none, none, none, none, none, none, none, none, none, none, none, none, none, none, none, none, none, none, none, none, none, none, none, none, none, none, none, none, none, none, none, none, none, none, none, none, none]⟩
def vc_base_Number (J : Inv) (tx : ByteArray) (digits : Int) (post : DV → Prop) : Prop := (cond (decide ((((tx : ByteArray).size : Nat) : Int) > (0 : Int))) ((0 ≤ (0 : Int) ∧ (0 : Int) < (((tx : ByteArray).size : Nat) : Int)) ∧ (True)) ((false = false) ∧ (True))) ∧ (lt ((bif decide ((((tx : ByteArray).size : Nat) : Int) > (0 : Int)) then ((((tx : ByteArray).data.getD 0 0).toNat : Int) == (45 : Int)) else false)) fun x1 => (cond x1 (True) (True)) ∧ (lt ((bif x1 then (1 : Int) else (0 : Int))) fun x2 => (cond ((((tx : ByteArray).size : Nat) : Int) == x2) ((true = true) ∧ ((true = true) ∧ (True))) (lt (IntKind.i64.wrap ((((tx : ByteArray).size : Nat) : Int) - x2)) fun x4 => cond (decide (x4 > digits)) ((true = true) ∧ (True)) ((0 ≤ x2 ∧ x2 < (((tx : ByteArray).size : Nat) : Int)) ∧ (cond ((((tx : ByteArray).data.getD (x2).toNat 0).toNat : Int) == (48 : Int)) (True) ((false = false) ∧ (True)))))) ∧ (lt ((bif ((((tx : ByteArray).size : Nat) : Int) == x2) then true else (bif decide ((IntKind.i64.wrap ((((tx : ByteArray).size : Nat) : Int) - x2)) > digits) then true else (bif ((((tx : ByteArray).data.getD (x2).toNat 0).toNat : Int) == (48 : Int)) then decide ((((tx : ByteArray).size : Nat) : Int) > (1 : Int)) else false)))) fun x5 => cond x5 (post (.tu [.c (.v (.int .i64 0)), .c (.v (.bool false))])) (∃ n, J 0 (n :: []) (mk_base_Number_0 tx digits x2 0 x2)))))
def ann_base_Number : Ann := ⟨fun _ => none, fun b => lookA b [(0, (none, some ⟨[0, 6, 7, 8], [], []⟩))], fun _ => [], Ilib, false, fun r => lookA r [(2, (4, [16])), (4, (5, [39])), (10, (5, [56]))], fun r => lookA r [(3, [6]), (14, [7])]⟩
theorem ev_base_Number (J : Inv) (tx : ByteArray) (digits : Int) (post : DV → Prop) : evFn Tryz.prog tab Shb98 ann_base_Number J Tryz.f91 [.t (.c (.v (.string tx))), .t (.c (.v (.int .i64 digits)))] post = vc_base_Number J tx digits post := by kernel_rfl
theorem fit_base_Number : okFn ann_base_Number Tryz.f91 = true := by kernel_rfl
def rd_base_Number_0 (J : Inv) (tx : ByteArray) (digits : Int) (v0_0 : Int) (v0_1 : Int) (v0_2 : Int) (nn0 : Nat) (post : DV → Prop) : Prop := cond (decide (v0_2 < (((tx : ByteArray).size : Nat) : Int))) ((0 ≤ v0_2 ∧ v0_2 < (((tx : ByteArray).size : Nat) : Int)) ∧ ((cond (decide ((((tx : ByteArray).data.getD (v0_2).toNat 0).toNat : Int) < (48 : Int))) ((true = true) ∧ (True)) ((0 ≤ v0_2 ∧ v0_2 < (((tx : ByteArray).size : Nat) : Int)) ∧ (True))) ∧ (lt ((bif decide ((((tx : ByteArray).data.getD (v0_2).toNat 0).toNat : Int) < (48 : Int)) then true else decide ((((tx : ByteArray).data.getD (v0_2).toNat 0).toNat : Int) > (57 : Int)))) fun x1 => cond x1 (post (.tu [.c (.v (.int .i64 0)), .c (.v (.bool false))])) (lt (IntKind.i64.wrap ((10 : Int) * v0_1)) fun x2 => (0 ≤ v0_2 ∧ v0_2 < (((tx : ByteArray).size : Nat) : Int)) ∧ (lt (IntKind.u8.wrap ((((tx : ByteArray).data.getD (v0_2).toNat 0).toNat : Int) - (48 : Int))) fun x3 => lt (IntKind.i64.wrap x3) fun x4 => lt (IntKind.i64.wrap (x2 + x4)) fun x5 => lt (IntKind.i64.wrap (v0_2 + (1 : Int))) fun x6 => J 0 (nn0 :: []) (mk_base_Number_0 tx digits v0_0 x5 x6)))))) ((cond (v0_0 == (1 : Int)) (lt (IntKind.i64.wrap ((0 : Int) - v0_1)) fun x8 => True) (True)) ∧ (lt ((bif (v0_0 == (1 : Int)) then (IntKind.i64.wrap ((0 : Int) - v0_1)) else v0_1)) fun x9 => post (.tu [.c (.v (.int .i64 x9)), .c (.v (.bool true))])))
theorem er_base_Number_0 (J : Inv) (tx : ByteArray) (digits : Int) (v0_0 : Int) (v0_1 : Int) (v0_2 : Int) (nn0 : Nat) (post : DV → Prop) : round Tryz.prog tab Shb98 ann_base_Number J Tryz.f91 post 0 (nn0 :: []) (mk_base_Number_0 tx digits v0_0 v0_1 v0_2) = rd_base_Number_0 J tx digits v0_0 v0_1 v0_2 nn0 post := by kernel_rfl
theorem lp_base_Number (J : Inv) (post : DV → Prop) : AllG J (loopsFn Tryz.prog tab Shb98 ann_base_Number J Tryz.f91 post) = (((∀ F s, ¬ J 0 (0 :: F) s) ∧ ∀ n F s, J 0 ((n + 1) :: F) s → round Tryz.prog tab Shb98 ann_base_Number J Tryz.f91 post 0 (n :: F) s) ∧ True) := by kernel_rfl
def J_base_Number (tx : ByteArray) (digits : Int) : Inv := fun b F s => match b, F with
 | 0, [nn0] => ∃ (v0_0 : Int) (v0_1 : Int) (v0_2 : Int), s = mk_base_Number_0 tx digits v0_0 v0_1 v0_2 ∧ ((0 ≤ digits ∧ digits ≤ 17 ∧ (tx).size ≤ 100000000) ∧ ¬ numBad tx.data.toList digits.toNat ∧ v0_0 = numAt tx.data.toList ∧ v0_0 ≤ v0_2 ∧ v0_2 ≤ tx.size ∧ (nn0 : Int) + v0_2 = tx.size + 1 ∧ ∃ m : Nat, v0_1 = m ∧ Lib.decFrom 0 ((tx.data.toList.drop (numAt tx.data.toList)).take (v0_2.toNat - numAt tx.data.toList)) = some m)
 | _, _ => False
theorem rnd_base_Number_0 (tx : ByteArray) (digits : Int) (v0_0 : Int) (v0_1 : Int) (v0_2 : Int) (nn0 : Nat) (hp : 0 ≤ digits ∧ digits ≤ 17 ∧ (tx).size ≤ 100000000) (hi : (0 ≤ digits ∧ digits ≤ 17 ∧ (tx).size ≤ 100000000) ∧ ¬ numBad tx.data.toList digits.toNat ∧ v0_0 = numAt tx.data.toList ∧ v0_0 ≤ v0_2 ∧ v0_2 ≤ tx.size ∧ ((nn0 + 1) : Int) + v0_2 = tx.size + 1 ∧ ∃ m : Nat, v0_1 = m ∧ Lib.decFrom 0 ((tx.data.toList.drop (numAt tx.data.toList)).take (v0_2.toNat - numAt tx.data.toList)) = some m) : rd_base_Number_0 (J_base_Number tx digits) tx digits v0_0 v0_1 v0_2 nn0 (fun r => LeD r (.tu [.c (.v (.int .i64 ((numR (tx).data.toList (digits).toNat).getD 0))), .c (.v (.bool ((numR (tx).data.toList (digits).toNat).isSome)))])) := by
 obtain ⟨q, g, i0, i1, i2, i3, m, i4, i5⟩ := hi
 obtain ⟨k, rfl⟩ : ∃ d : Nat, v0_2 = d := ⟨v0_2.toNat, by omega⟩
 obtain ⟨dg, rfl⟩ : ∃ d : Nat, digits = d := ⟨digits.toNat, by omega⟩
 subst i0 i4
 rw [Int.toNat_natCast] at i5 g
 have hz := size_data tx
 have hn := numAt_le tx.data.toList
 have hm : m < 10 ^ 17 := by
  have := Lib.decFrom_lt _ _ _ i5
  have hlen : ((tx.data.toList.drop (numAt tx.data.toList)).take (k - numAt tx.data.toList)).length ≤ 17 := by
   unfold numBad at g
   rw [List.length_take, List.length_drop]
   omega
  have := Nat.pow_le_pow_right (n := 10) (by decide) hlen
  omega
 unfold rd_base_Number_0
 simp only [Int.toNat_natCast, dget]
 refine cond_i (fun h => ?_) (fun h => ?_)
 ·have hlt : k < tx.size := by have := of_decide_eq_true h; omega
  have hlt' : k < tx.data.toList.length := by omega
  have hb := (tx.data.toList.getD k 0).toNat_lt
  refine ⟨⟨by omega, by omega⟩, cond_i (fun _ => ⟨by trivial, trivial⟩) (fun _ => ⟨⟨by omega, by omega⟩, trivial⟩), lt_i fun x1 h1 => cond_i (fun h => ?_) (fun h => ?_)⟩
  ·subst h1
   have e : Lib.digitVal (tx.data.toList.getD k 0) = none := by
    unfold Lib.digitVal
    rw [if_neg]
    rintro ⟨a, b⟩
    rw [decide_eq_false (by omega), decide_eq_false (by omega)] at h
    cases h
   rw [numR_ok g, dec_stop (by omega) hlt' e]
   exact LeD.refl _
  ·subst h1
   have e : 48 ≤ (tx.data.toList.getD k 0).toNat ∧ (tx.data.toList.getD k 0).toNat ≤ 57 := by
    by_cases a : 48 ≤ (tx.data.toList.getD k 0).toNat
    ·rw [decide_eq_false (by omega)] at h
     have h := of_decide_eq_false h
     omega
    ·rw [decide_eq_true (by omega)] at h; cases h
   have e' : Lib.digitVal (tx.data.toList.getD k 0) = some ((tx.data.toList.getD k 0).toNat - 48) := by unfold Lib.digitVal; rw [if_pos e]
   refine lt_i fun x2 h2 => ⟨⟨by omega, by omega⟩, lt_i fun x3 h3 => lt_i fun x4 h4 => lt_i fun x5 h5 => lt_i fun x6 h6 => ?_⟩
   have w3 : x3 = (tx.data.toList.getD k 0).toNat - 48 := by rw [← h3]; exact IntWalk.u8_in _ (by omega)
   rw [wi (by omega)] at h2
   subst h2
   rw [wi (by omega)] at h4
   subst h4
   rw [wi (by omega)] at h5
   rw [wi (by omega)] at h6
   subst h5 h6
   refine ⟨_, _, _, rfl, q, by rw [Int.toNat_natCast]; exact g, rfl, by omega, by omega, by omega, _, ?_, dec_step (by omega) hlt' e' i5⟩
   rw [w3]; omega
 ·have e : k = tx.size := by have := of_decide_eq_false h; omega
  subst e
  rw [List.take_of_length_le (by rw [List.length_drop]; omega)] at i5
  rw [numR_ok g, i5]
  refine ⟨cond_i (fun _ => lt_i fun _ _ => trivial) (fun _ => trivial), lt_i fun x9 h9 => ?_⟩
  rw [wi (by omega)] at h9
  refine le_tu (leI ?_) (LeD.refl _)
  rw [← h9]
  show _ = (if numAt tx.data.toList = 1 then -(m : Int) else m)
  by_cases c : numAt tx.data.toList = 1
  ·rw [c, if_pos rfl]; simp
  ·rw [if_neg c]
   have : (((numAt tx.data.toList : Nat) : Int) == 1) = false := by simp; omega
   rw [this]; rfl
theorem zero_base_Number_0 (tx : ByteArray) (digits : Int) (v0_0 : Int) (v0_1 : Int) (v0_2 : Int)  (hi : (0 ≤ digits ∧ digits ≤ 17 ∧ (tx).size ≤ 100000000) ∧ ¬ numBad tx.data.toList digits.toNat ∧ v0_0 = numAt tx.data.toList ∧ v0_0 ≤ v0_2 ∧ v0_2 ≤ tx.size ∧ (0 : Int) + v0_2 = tx.size + 1 ∧ ∃ m : Nat, v0_1 = m ∧ Lib.decFrom 0 ((tx.data.toList.drop (numAt tx.data.toList)).take (v0_2.toNat - numAt tx.data.toList)) = some m) : False := by
 omega
theorem spec_base_Number (tx : ByteArray) (digits : Int) (hp : 0 ≤ digits ∧ digits ≤ 17 ∧ (tx).size ≤ 100000000) : vc_base_Number (J_base_Number tx digits) tx digits (fun r => LeD r (.tu [.c (.v (.int .i64 ((numR (tx).data.toList (digits).toNat).getD 0))), .c (.v (.bool ((numR (tx).data.toList (digits).toNat).isSome)))])) := by
 unfold vc_base_Number
 obtain ⟨dg, rfl⟩ : ∃ d : Nat, digits = d := ⟨digits.toNat, by omega⟩
 have hz := size_data tx
 have e1 : (bif decide (((tx.size : Nat) : Int) > (0 : Int)) then (((tx.data.getD 0 0).toNat : Int) == (45 : Int)) else false) = decide (numAt tx.data.toList = 1) := by
  rw [dget]
  unfold numAt
  cases e : tx.data.toList with
  | nil => rw [e] at hz; simp at hz; simp [← hz]
  | cons x r =>
   rw [e] at hz
   rw [decide_eq_true (by simp at hz; omega)]
   by_cases g : x = 45
   ·subst g; rfl
   ·have : x.toNat ≠ 45 := fun q => g (UInt8.toNat_inj.1 q)
    simp [List.getD, g]; omega
 rw [e1]
 have hn := numAt_le tx.data.toList
 have h01 : numAt tx.data.toList = 0 ∨ numAt tx.data.toList = 1 := by unfold numAt; split <;> simp
 refine ⟨cond_i (fun h => ⟨⟨by omega, by have := of_decide_eq_true h; omega⟩, trivial⟩) (fun _ => ⟨rfl, trivial⟩), lt_i fun x1 h1 => ⟨cond_i (fun _ => trivial) (fun _ => trivial), lt_i fun x2 h2 => ?_⟩⟩
 have e2 : x2 = (numAt tx.data.toList : Int) := by
  rw [← h2, ← h1]
  rcases h01 with e | e <;> rw [e] <;> rfl
 subst e2
 rw [wi (by omega), Int.toNat_natCast, dget]
 refine ⟨cond_i (fun _ => ⟨rfl, rfl, trivial⟩) (fun h => lt_i fun x4 h4 => cond_i (fun _ => ⟨rfl, trivial⟩) (fun g => ⟨⟨by omega, (by have h := ne_of_beq_false h; omega)⟩, cond_i (fun _ => trivial) (fun _ => ⟨rfl, trivial⟩)⟩)), lt_i fun x5 h5 => ?_⟩
 have e5 : x5 = true ↔ numBad tx.data.toList dg := by
  rw [← h5]
  unfold numBad
  rw [hz]
  have c1 : (((tx.size : Nat) : Int) == (numAt tx.data.toList : Int)) = decide (tx.size = numAt tx.data.toList) := by
   by_cases g : tx.size = numAt tx.data.toList
   ·rw [decide_eq_true g]; simp; omega
   ·rw [decide_eq_false g]; simp; omega
  have c2 : ((((tx.data.toList.getD (numAt tx.data.toList) 0).toNat : Nat) : Int) == (48 : Int)) = decide (tx.data.toList.getD (numAt tx.data.toList) 0 = 48) := by
   by_cases g : tx.data.toList.getD (numAt tx.data.toList) 0 = 48
   ·rw [decide_eq_true g, g]; rfl
   ·rw [decide_eq_false g]
    have : (tx.data.toList.getD (numAt tx.data.toList) 0).toNat ≠ 48 := fun q => g (UInt8.toNat_inj.1 q)
    simp only [beq_eq_false_iff_ne, ne_eq]; omega
  have c3 : decide (((tx.size : Nat) : Int) - (numAt tx.data.toList : Int) > (dg : Int)) = decide (tx.size - numAt tx.data.toList > dg) := by
   by_cases g : tx.size - numAt tx.data.toList > dg
   ·rw [decide_eq_true g]; simp; omega
   ·rw [decide_eq_false g]; simp; omega
  have c4 : decide (((tx.size : Nat) : Int) > (1 : Int)) = decide (1 < tx.size) := by
   by_cases g : 1 < tx.size
   ·rw [decide_eq_true g]; simp; omega
   ·rw [decide_eq_false g]; simp; omega
  rw [c1, c2, c3, c4]
  by_cases g1 : tx.size = numAt tx.data.toList
  ·simp [g1]
  ·by_cases g2 : tx.size - numAt tx.data.toList > dg
   ·simp [g1, g2]
   ·by_cases g3 : tx.data.toList.getD (numAt tx.data.toList) 0 = 48 <;> simp only [g1, g2, g3, decide_false, decide_true, cond_false, cond_true, false_or, true_and, false_and, decide_eq_true_eq, Bool.false_eq_true]
 refine cond_i (fun g => ?_) (fun g => ?_)
 ·rw [Int.toNat_natCast, numR_bad (e5.1 g)]
  exact LeD.refl _
 ·have g : ¬ numBad tx.data.toList dg := fun q => by rw [e5.2 q] at g; cases g
  refine ⟨tx.size + 1 - numAt tx.data.toList, _, _, _, rfl, hp, g, rfl, by omega, by omega, by omega, 0, rfl, ?_⟩
  rw [Int.toNat_natCast, Nat.sub_self]; rfl
theorem all_base_Number (tx : ByteArray) (digits : Int) (hp : 0 ≤ digits ∧ digits ≤ 17 ∧ (tx).size ≤ 100000000) : AllG (J_base_Number tx digits) (loopsFn Tryz.prog tab Shb98 ann_base_Number (J_base_Number tx digits) Tryz.f91 (fun r => LeD r (.tu [.c (.v (.int .i64 ((numR (tx).data.toList (digits).toNat).getD 0))), .c (.v (.bool ((numR (tx).data.toList (digits).toNat).isSome)))]))) := by
 rw [lp_base_Number]
 refine ⟨⟨?_, ?_⟩, trivial⟩
 ·intro F s h
  obtain _ | ⟨g, F⟩ := F
  case cons => exact h.elim
  obtain ⟨w0, w1, w2, rfl, hi⟩ := h
  exact zero_base_Number_0 tx digits w0 w1 w2 hi
 ·intro n F s h
  obtain _ | ⟨g, F⟩ := F
  case cons => exact h.elim
  obtain ⟨w0, w1, w2, rfl, hi⟩ := h
  rw [er_base_Number_0]
  exact rnd_base_Number_0 tx digits _ _ _ _ hp hi
def con_base_Number : Con := fun args => match args with
 | [.t (.c (.v (.string tx))), .t (.c (.v (.int .i64 digits)))] => some (.tu [.c (.v (.int .i64 ((numR (tx).data.toList (digits).toNat).getD 0))), .c (.v (.bool ((numR (tx).data.toList (digits).toNat).isSome)))], some (0 ≤ digits ∧ digits ≤ 17 ∧ (tx).size ≤ 100000000), false)
 | _ => none
theorem ok_base_Number : Ok Tryz.prog 91 con_base_Number := by
 refine Ok.fn (ann := ann_base_Number) mixed tabOK VShb98 VIlib (fn := Tryz.f91) (by kernel_rfl) (by kernel_rfl) fit_base_Number fun args r pre fresh h hp => ?_
 unfold con_base_Number at h
 split at h
 ·rename_i tx digits
  cases h
  refine ⟨rfl, J_base_Number tx digits, _, LeA.refl _, Nat.le_of_ble_eq_true (by kernel_rfl), ?_, ?_⟩
  ·rw [ev_base_Number]; exact spec_base_Number tx digits hp
  ·exact all_base_Number tx digits hp
 ·cases h
def Shb99 : Sum := addS Shb98 91 con_base_Number
theorem VShb99 : Valid Tryz.prog Shb99 := Valid.add VShb98 ok_base_Number
end Go.Proofs.YtdkpgodakmailaaGreatDoor
set_option linter.unusedVariables false
set_option linter.unusedSimpArgs false
namespace Go.Proofs.YtdkpgodakmailaaGreatDoor
open Go.RowKit Ev
def preT (l : List FHit) (k : Nat) : ByteArray := if k = 0 then ⟨#[]⟩ else hitsT (l.take k) ++ ⟨#[59]⟩
theorem sz_one (c : UInt8) : (⟨#[c]⟩ : ByteArray).size = 1 := rfl
theorem hits_take {l : List FHit} {k : Nat} (h1 : l.length ≤ 10) (h2 : ∀ k, k < l.length → rgH (hitAt l k)) : (hitsT (l.take k)).size ≤ 1480 := by
 refine hitsT_len (by simp; omega) fun i hi => ?_
 rw [List.length_take] at hi
 rw [show hitAt (l.take k) i = hitAt l i by simp [hitAt, List.getD, List.getElem?_take, show i < k by omega]]
 exact h2 i (by omega)
theorem preT_size {l : List FHit} {k : Nat} (h1 : l.length ≤ 10) (h2 : ∀ k, k < l.length → rgH (hitAt l k)) : (preT l k).size ≤ 1481 := by
 unfold preT
 split
 ·decide
 ·rw [ByteArray.size_append, sz_one]
  have := hits_take (k := k) h1 h2
  omega
theorem preT_word {l : List FHit} {k : Nat} (h : k < l.length) : preT l k ++ hitW (hitAt l k) = hitsT (l.take (k + 1)) := by
 unfold preT
 by_cases c : k = 0
 ·subst c
  rw [if_pos rfl, empty_app]
  unfold hitsT
  rw [show l.take (0 + 1) = [hitAt l 0] by rw [hitAt_take h]; rfl]
  exact (joinB_single _ _).symm
 ·rw [if_neg c]
  unfold hitsT
  rw [hitAt_take h, List.map_append]
  refine (joinB_snoc 59 _ ?_).symm
  intro e
  have := congrArg List.length e
  rw [List.length_map, List.length_take, List.length_nil] at this
  omega
theorem intg_at (l : List Int) {i : Nat} (hi : i < l.length) : genC (l.map fun n => [CV.v (.int .i64 n)]) i 0 = .v (.int .i64 (l.getD i 0)) := by
 unfold genC
 simp only [List.getD_eq_getElem?_getD, List.getElem?_map, List.getElem?_eq_getElem hi, Option.map_some, Option.getD_some]
 rfl
theorem num_pos {w : List UInt8} {dg : Nat} (h : (numR w dg).isSome = true) : 0 < (ofL w).size := by
 rw [ofL_size]
 cases w with
 | nil => rw [numR_bad (l := []) (Or.inl rfl)] at h; cases h
 | cons a l => simp
theorem num_b3 (w : List UInt8) (dg : Nat) : (bif (!((numR w dg).isSome)) then true else false) = !numB w dg true := by
 unfold numB
 cases numR w dg <;> rfl
theorem num_b7 (w : List UInt8) (dg : Nat) : (bif (!((numR w dg).isSome)) then true else ((((ofL w).data.getD 0 0).toNat : Int) == (45 : Int))) = !numB w dg false := by
 unfold numB
 cases e : numR w dg with
 | none => rfl
 | some v =>
  show ((((ofL w).data.getD 0 0).toNat : Int) == (45 : Int)) = !(false || decide (0 ≤ v))
  have h := num_neg e
  rw [dget, ofL_data]
  rcases (by omega : v < 0 ∨ 0 ≤ v) with c | c
  ·rw [h.2 c, decide_eq_false (show ¬ 0 ≤ v by omega)]; rfl
  ·rw [decide_eq_true c]
   have g : (w.getD 0 0).toNat ≠ 45 := fun q => by
    have := h.1 (UInt8.toNat_inj.1 q)
    omega
   show ((((w.getD 0 0).toNat : Nat) : Int) == (45 : Int)) = false
   simp only [beq_eq_false_iff_ne, ne_eq]; omega
theorem hit_eqB (x y : FHit) : (bif (bif (x.p.x == y.p.x) then (bif (x.p.y == y.p.y) then (bif (x.p.z == y.p.z) then true else false) else false) else false) then (bif (bif (x.t.lo == y.t.lo) then (bif (x.t.hi == y.t.hi) then true else false) else false) then (bif (bif (x.c.lo == y.c.lo) then (bif (x.c.hi == y.c.hi) then true else false) else false) then true else false) else false) else false) = decide (x = y) := by
 have key : ∀ a b c d e f g : Bool, (bif (bif a then (bif b then (bif c then true else false) else false) else false) then (bif (bif d then (bif e then true else false) else false) then (bif (bif f then (bif g then true else false) else false) then true else false) else false) else false) = (a && b && c && d && e && f && g) := by decide
 rw [key]
 by_cases h : x = y
 ·subst h; simp
 ·rw [decide_eq_false h, Bool.eq_false_iff]
  intro q
  simp only [Bool.and_eq_true, beq_iff_eq] at q
  obtain ⟨⟨⟨⟨⟨⟨a, b⟩, c⟩, d⟩, e⟩, f⟩, g⟩ := q
  exact h (hit_ext.2 ⟨a, b, c, d, e, f, g⟩)
theorem drop_snoc (s : ByteArray) {k : Nat} (h : 0 < k) : (nvK s k).drop 1 ++ [numV (wAt 32 s k) 3] = (nvK s (k + 1)).drop 1 := by
 rw [nvK_succ, List.drop_append_of_le_length (by rw [nvK_len]; exact h)]
theorem head_snoc (s : ByteArray) {k : Nat} (h : 0 < k) : (nvK s k).getD 0 0 = (nvK s (k + 1)).getD 0 0 := by
 have e : (nvK s k)[0]? = (nvK s (k + 1))[0]? := by
  unfold nvK
  simp [List.getElem?_map, List.getElem?_range, h]
 simp only [List.getD_eq_getElem?_getD, e]
def con_base_Decimal : Con := fun args => match args with
 | [.t (.c (.v (.int .i64 n)))] => some (.t (.c (.v (.string (itoaB n)))), some (-9223372036854775808 ≤ n ∧ n ≤ 9223372036854775807), false)
 | _ => none
theorem ok_base_Decimal : Ok Tryz.prog 92 con_base_Decimal := by
 refine Ok.oldG (Enters.of (fn := Tryz.f92) (by kernel_rfl) (by kernel_rfl) (by kernel_rfl)) fun args r pre fresh h hp => ?_
 unfold con_base_Decimal at h
 split at h
 ·rename_i n
  cases h
  refine ⟨rfl, _, rfl, fun W N vs hv => ?_⟩
  have hp := hp
  obtain ⟨u0, ws0, k0, g0, hv0⟩ := hv.cons_inv
  subst k0
  have e0 := plain_arg rfl g0
  subst e0
  have ev := hv0.nil_inv
  subst ev
  exact walk_Decimal W n hp
 ·cases h
def Shc100 : Sum := addS Shb99 92 con_base_Decimal
theorem VShc100 : Valid Tryz.prog Shc100 := Valid.add VShb99 ok_base_Decimal
def mk_ref06_FormatHits_0 (l : List FHit) (v0_0 : ByteArray) (v0_1 : Int) : DS := ⟨[some (.t (.c (.sl 7 l.length (hitsC l)))), none, none, some (.t (.c (.v (.string v0_0)))), some (.t (.c (.v (.int .i64 v0_1)))), none, none, none, none, none, none, none, none, none, none, none, none, none, none, none, none, none, none, none, none, none, none, none, none, none, none, none, none, none, none, none, none, none, none, none, none, none, none, none, none, none, none, none, none, none, none, none, none, none, none, none, none, none, none, none, none, none], [none, none, none, none, none, none, none, none, none, none, none, none, none, none, none, none, none, none, none, none, none, none, none, none, none, none, none, none, none, none, none, none, none, none, none, none, none, none, none, none, none, none, none, none, none, none, none, none, none, none, none, none, none, none, none, none, none, none, none, none, none, none]⟩
def mk_ref06_FormatHits_2 (l : List FHit) (v2_0 : List (List CV)) (v2_1 : ByteArray) (v2_2 : Int) (v2_3 : Int) : DS := ⟨[some (.t (.c (.sl 7 l.length (hitsC l)))), none, none, some (.t (.c (.v (.string v2_1)))), some (.t (.c (.v (.int .i64 v2_2)))), none, some (.t (.c (.os 6))), some (.t (.c (.v (.int .i64 v2_3)))), none, none, none, none, none, none, none, none, none, none, none, none, none, none, none, none, none, none, none, none, none, none, none, none, none, none, none, none, none, none, none, none, none, none, none, none, none, none, none, none, none, none, none, none, none, none, none, none, none, none, none, none, none, none], [none, none, none, none, none, none, some (.gen 3 1 v2_0), none, none, none, none, none, none, none, none, none, none, none, none, none, none, none, none, none, none, none, none, none, none, none, none, none, none, none, none, none, none, none, none, none, none, none, none, none, none, none, none, none, none, none, none, none, none, none, none, none, none, none, none, none, none, none]⟩
def vc_ref06_FormatHits (J : Inv) (l : List FHit) (post : DV → Prop) : Prop := ∃ n, J 0 (n :: []) (mk_ref06_FormatHits_0 l (⟨#[]⟩) 0)
def ann_ref06_FormatHits : Ann := ⟨fun _ => none, fun b => lookA b [(0, (none, some ⟨[0, 3, 4], [], []⟩)), (2, (none, some ⟨[0, 3, 4, 7], [], [(6, .num 3 .i64 ([]))]⟩))], fun _ => [], Ilib, false, fun _ => none, fun _ => none⟩
theorem ev_ref06_FormatHits (J : Inv) (l : List FHit) (post : DV → Prop) : evFn Tryz.prog tab Shc100 ann_ref06_FormatHits J Tryz.f36 [.t (.c (.sl 7 l.length (hitsC l)))] post = vc_ref06_FormatHits J l post := by kernel_rfl
theorem fit_ref06_FormatHits : okFn ann_ref06_FormatHits Tryz.f36 = true := by kernel_rfl
def rd_ref06_FormatHits_0 (J : Inv) (l : List FHit) (v0_0 : ByteArray) (v0_1 : Int) (nn0 : Nat) (post : DV → Prop) : Prop := cond (decide (v0_1 < ((l.length : Nat) : Int))) (cond (decide (v0_1 > (0 : Int))) (((((v0_0 : ByteArray).size + ((⟨#[59]⟩) : ByteArray).size : Nat) : Int) ≤ 9223372036854775807) ∧ ((0 ≤ v0_1 ∧ v0_1 < ((l.length : Nat) : Int)) ∧ (∃ n, J 2 (n :: nn0 :: []) (mk_ref06_FormatHits_2 l ([[.v (.int .i64 ((hitAt l v0_1.toNat).p.x))], [.v (.int .i64 ((hitAt l v0_1.toNat).p.y))], [.v (.int .i64 ((hitAt l v0_1.toNat).p.z))], [.v (.int .i64 ((hitAt l v0_1.toNat).t.lo))], [.v (.int .i64 ((hitAt l v0_1.toNat).t.hi))], [.v (.int .i64 ((hitAt l v0_1.toNat).c.lo))], [.v (.int .i64 ((hitAt l v0_1.toNat).c.hi))]]) (v0_0 ++ (⟨#[59]⟩)) v0_1 0)))) ((0 ≤ v0_1 ∧ v0_1 < ((l.length : Nat) : Int)) ∧ (∃ n, J 2 (n :: nn0 :: []) (mk_ref06_FormatHits_2 l ([[.v (.int .i64 ((hitAt l v0_1.toNat).p.x))], [.v (.int .i64 ((hitAt l v0_1.toNat).p.y))], [.v (.int .i64 ((hitAt l v0_1.toNat).p.z))], [.v (.int .i64 ((hitAt l v0_1.toNat).t.lo))], [.v (.int .i64 ((hitAt l v0_1.toNat).t.hi))], [.v (.int .i64 ((hitAt l v0_1.toNat).c.lo))], [.v (.int .i64 ((hitAt l v0_1.toNat).c.hi))]]) v0_0 v0_1 0)))) (post (.t (.c (.v (.string v0_0)))))
theorem er_ref06_FormatHits_0 (J : Inv) (l : List FHit) (v0_0 : ByteArray) (v0_1 : Int) (nn0 : Nat) (post : DV → Prop) : round Tryz.prog tab Shc100 ann_ref06_FormatHits J Tryz.f36 post 0 (nn0 :: []) (mk_ref06_FormatHits_0 l v0_0 v0_1) = rd_ref06_FormatHits_0 J l v0_0 v0_1 nn0 post := by kernel_rfl
def rd_ref06_FormatHits_2 (J : Inv) (l : List FHit) (v2_0 : List (List CV)) (v2_1 : ByteArray) (v2_2 : Int) (v2_3 : Int) (nn2 nn0 : Nat) (post : DV → Prop) : Prop := cond (decide (v2_3 < ((v2_0.length : Nat) : Int))) (cond (decide (v2_3 > (0 : Int))) (((((v2_1 : ByteArray).size + ((⟨#[32]⟩) : ByteArray).size : Nat) : Int) ≤ 9223372036854775807) ∧ ((0 ≤ v2_3 ∧ v2_3 < ((v2_0.length : Nat) : Int)) ∧ (((v2_3).toNat < v2_0.length ∧ (((genC v2_0 (v2_3).toNat 0) = .v (.int .i64 (cvInt (genC v2_0 (v2_3).toNat 0)))) ∧ (True))) ∧ ((-9223372036854775808 ≤ (cvInt (genC v2_0 (v2_3).toNat 0)) ∧ (cvInt (genC v2_0 (v2_3).toNat 0)) ≤ 9223372036854775807) ∧ ((((((v2_1 ++ (⟨#[32]⟩)) : ByteArray).size + ((itoaB (cvInt (genC v2_0 (v2_3).toNat 0))) : ByteArray).size : Nat) : Int) ≤ 9223372036854775807) ∧ (lt (IntKind.i64.wrap (v2_3 + (1 : Int))) fun x1 => J 2 (nn2 :: nn0 :: []) (mk_ref06_FormatHits_2 l v2_0 ((v2_1 ++ (⟨#[32]⟩)) ++ (itoaB (cvInt (genC v2_0 (v2_3).toNat 0)))) v2_2 x1))))))) ((0 ≤ v2_3 ∧ v2_3 < ((v2_0.length : Nat) : Int)) ∧ (((v2_3).toNat < v2_0.length ∧ (((genC v2_0 (v2_3).toNat 0) = .v (.int .i64 (cvInt (genC v2_0 (v2_3).toNat 0)))) ∧ (True))) ∧ ((-9223372036854775808 ≤ (cvInt (genC v2_0 (v2_3).toNat 0)) ∧ (cvInt (genC v2_0 (v2_3).toNat 0)) ≤ 9223372036854775807) ∧ (((((v2_1 : ByteArray).size + ((itoaB (cvInt (genC v2_0 (v2_3).toNat 0))) : ByteArray).size : Nat) : Int) ≤ 9223372036854775807) ∧ (lt (IntKind.i64.wrap (v2_3 + (1 : Int))) fun x2 => J 2 (nn2 :: nn0 :: []) (mk_ref06_FormatHits_2 l v2_0 (v2_1 ++ (itoaB (cvInt (genC v2_0 (v2_3).toNat 0)))) v2_2 x2))))))) (lt (IntKind.i64.wrap (v2_2 + (1 : Int))) fun x3 => J 0 (nn0 :: []) (mk_ref06_FormatHits_0 l v2_1 x3))
theorem er_ref06_FormatHits_2 (J : Inv) (l : List FHit) (v2_0 : List (List CV)) (v2_1 : ByteArray) (v2_2 : Int) (v2_3 : Int) (nn2 nn0 : Nat) (post : DV → Prop) : round Tryz.prog tab Shc100 ann_ref06_FormatHits J Tryz.f36 post 1 (nn2 :: nn0 :: []) (mk_ref06_FormatHits_2 l v2_0 v2_1 v2_2 v2_3) = rd_ref06_FormatHits_2 J l v2_0 v2_1 v2_2 v2_3 nn2 nn0 post := by kernel_rfl
theorem lp_ref06_FormatHits (J : Inv) (post : DV → Prop) : AllG J (loopsFn Tryz.prog tab Shc100 ann_ref06_FormatHits J Tryz.f36 post) = (((∀ F s, ¬ J 0 (0 :: F) s) ∧ ∀ n F s, J 0 ((n + 1) :: F) s → round Tryz.prog tab Shc100 ann_ref06_FormatHits J Tryz.f36 post 0 (n :: F) s) ∧ ((∀ F s, ¬ J 2 (0 :: F) s) ∧ ∀ n F s, J 2 ((n + 1) :: F) s → round Tryz.prog tab Shc100 ann_ref06_FormatHits J Tryz.f36 post 1 (n :: F) s) ∧ True) := by kernel_rfl
def J_ref06_FormatHits (l : List FHit) : Inv := fun b F s => match b, F with
 | 0, [nn0] => ∃ (v0_0 : ByteArray) (v0_1 : Int), s = mk_ref06_FormatHits_0 l v0_0 v0_1 ∧ (((l).length ≤ 10 ∧ ∀ k, k < (l).length → rgH (hitAt l k)) ∧ 0 ≤ v0_1 ∧ v0_1 ≤ l.length ∧ (nn0 : Int) + v0_1 = l.length + 1 ∧ v0_0 = hitsT (l.take v0_1.toNat))
 | 2, [nn2, nn0] => ∃ (v2_0 : List (List CV)) (v2_1 : ByteArray) (v2_2 : Int) (v2_3 : Int), s = mk_ref06_FormatHits_2 l v2_0 v2_1 v2_2 v2_3 ∧ (((l).length ≤ 10 ∧ ∀ k, k < (l).length → rgH (hitAt l k)) ∧ (0 ≤ v2_2 ∧ v2_2 < l.length) ∧ (nn0 : Int) + v2_2 = l.length ∧ v2_0 = ((hitN (hitAt l v2_2.toNat)).map fun n => [CV.v (.int .i64 n)]) ∧ 0 ≤ v2_3 ∧ v2_3 ≤ 7 ∧ (nn2 : Int) + v2_3 = 8 ∧ v2_1 = preT l v2_2.toNat ++ wordsB ((hitN (hitAt l v2_2.toNat)).take v2_3.toNat))
 | _, _ => False
theorem rnd_ref06_FormatHits_0 (l : List FHit) (v0_0 : ByteArray) (v0_1 : Int) (nn0 : Nat) (hp : (l).length ≤ 10 ∧ ∀ k, k < (l).length → rgH (hitAt l k)) (hi : ((l).length ≤ 10 ∧ ∀ k, k < (l).length → rgH (hitAt l k)) ∧ 0 ≤ v0_1 ∧ v0_1 ≤ l.length ∧ ((nn0 + 1) : Int) + v0_1 = l.length + 1 ∧ v0_0 = hitsT (l.take v0_1.toNat)) : rd_ref06_FormatHits_0 (J_ref06_FormatHits l) l v0_0 v0_1 nn0 (fun r => LeD r (.t (.c (.v (.string (hitsT l)))))) := by
 obtain ⟨q, i1, i2, i3, i4⟩ := hi
 obtain ⟨k, rfl⟩ : ∃ k : Nat, v0_1 = k := ⟨v0_1.toNat, by omega⟩
 have hk : (k : Int).toNat = k := rfl
 rw [hk] at i4
 subst i4
 have z := hits_take (k := k) q.1 q.2
 unfold rd_ref06_FormatHits_0
 rw [Int.toNat_natCast]
 refine cond_i (fun h => ?_) (fun h => ?_)
 ·have hlt : k < l.length := by have := of_decide_eq_true h; omega
  refine cond_i (fun g => ?_) (fun g => ?_)
  ·have g : 0 < k := by have := of_decide_eq_true g; omega
   refine ⟨by rw [sz_one]; omega, ⟨by omega, by omega⟩, 8, _, _, _, _, rfl, q, ⟨by omega, by omega⟩, by omega, rfl, by omega, by omega, by omega, ?_⟩
   rw [Int.toNat_natCast]
   unfold preT
   rw [if_neg (by omega)]
   exact (ByteArray.append_empty).symm
  ·have g : k = 0 := by have := of_decide_eq_false g; omega
   subst g
   exact ⟨⟨by omega, by omega⟩, 8, _, _, _, _, rfl, q, ⟨by omega, by omega⟩, by omega, rfl, by omega, by omega, by omega, rfl⟩
 ·have e : k = l.length := by have := of_decide_eq_false h; omega
  subst e
  rw [List.take_length]
  exact LeD.refl _
theorem zero_ref06_FormatHits_0 (l : List FHit) (v0_0 : ByteArray) (v0_1 : Int)  (hi : ((l).length ≤ 10 ∧ ∀ k, k < (l).length → rgH (hitAt l k)) ∧ 0 ≤ v0_1 ∧ v0_1 ≤ l.length ∧ (0 : Int) + v0_1 = l.length + 1 ∧ v0_0 = hitsT (l.take v0_1.toNat)) : False := by
 omega
theorem rnd_ref06_FormatHits_2 (l : List FHit) (v2_0 : List (List CV)) (v2_1 : ByteArray) (v2_2 : Int) (v2_3 : Int) (nn2 nn0 : Nat) (hp : (l).length ≤ 10 ∧ ∀ k, k < (l).length → rgH (hitAt l k)) (hi : ((l).length ≤ 10 ∧ ∀ k, k < (l).length → rgH (hitAt l k)) ∧ (0 ≤ v2_2 ∧ v2_2 < l.length) ∧ (nn0 : Int) + v2_2 = l.length ∧ v2_0 = ((hitN (hitAt l v2_2.toNat)).map fun n => [CV.v (.int .i64 n)]) ∧ 0 ≤ v2_3 ∧ v2_3 ≤ 7 ∧ ((nn2 + 1) : Int) + v2_3 = 8 ∧ v2_1 = preT l v2_2.toNat ++ wordsB ((hitN (hitAt l v2_2.toNat)).take v2_3.toNat)) : rd_ref06_FormatHits_2 (J_ref06_FormatHits l) l v2_0 v2_1 v2_2 v2_3 nn2 nn0 (fun r => LeD r (.t (.c (.v (.string (hitsT l)))))) := by
 obtain ⟨q, ⟨i1, i2⟩, i3, i4, i5, i6, i7, i8⟩ := hi
 obtain ⟨k, rfl⟩ : ∃ k : Nat, v2_2 = k := ⟨v2_2.toNat, by omega⟩
 obtain ⟨j, rfl⟩ : ∃ k : Nat, v2_3 = k := ⟨v2_3.toNat, by omega⟩
 simp only [Int.toNat_natCast] at i4 i8
 subst i4 i8
 have b := q.2 k (by omega)
 have hN : (hitN (hitAt l k)).length = 7 := rfl
 have p1 := preT_size (k := k) q.1 q.2
 have w1 := words_take (k := j) (l := hitN (hitAt l k)) (by rw [hN]; decide) (in7 b)
 unfold rd_ref06_FormatHits_2
 simp only [List.length_map, hN, Int.toNat_natCast]
 refine cond_i (fun h => ?_) (fun h => ?_)
 ·have hj : j < 7 := by have := of_decide_eq_true h; omega
  rw [intg_at _ (show j < (hitN (hitAt l k)).length by rw [hN]; exact hj)]
  simp only [cvInt]
  have hb := in7 b j (by rw [hN]; exact hj)
  have w2 := itoaB_len hb
  refine cond_i (fun g => ?_) (fun g => ?_)
  ·have g : 0 < j := by have := of_decide_eq_true g; omega
   refine ⟨by rw [sz_one, ByteArray.size_append]; omega, ⟨by omega, by omega⟩, ⟨by omega, by trivial⟩, hb, by rw [ByteArray.size_append, ByteArray.size_append, sz_one]; omega, lt_i fun x hx => ?_⟩
   rw [wi (by omega)] at hx
   subst hx
   refine ⟨_, _, _, _, rfl, q, ⟨by omega, by omega⟩, by omega, by rw [Int.toNat_natCast], by omega, by omega, by omega, ?_⟩
   rw [Int.toNat_natCast, show ((j : Int) + 1).toNat = j + 1 from rfl, ← words_snoc (l := hitN (hitAt l k)) (by rw [hN]; exact hj) g, ByteArray.append_assoc, ByteArray.append_assoc, ByteArray.append_assoc]
  ·have g : j = 0 := by have := of_decide_eq_false g; omega
   subst g
   refine ⟨⟨by omega, by omega⟩, ⟨by omega, by trivial⟩, hb, by rw [ByteArray.size_append]; omega, lt_i fun x hx => ?_⟩
   rw [wi (by omega)] at hx
   subst hx
   refine ⟨_, _, _, _, rfl, q, ⟨by omega, by omega⟩, by omega, by rw [Int.toNat_natCast], by omega, by omega, by omega, ?_⟩
   rw [Int.toNat_natCast, show (((0 : Nat) : Int) + 1).toNat = 0 + 1 from rfl, ← words_one (l := hitN (hitAt l k)) (by rw [hN]; decide), ByteArray.append_assoc]
   rfl
 ·have e : j = 7 := by have := of_decide_eq_false h; omega
  subst e
  refine lt_i fun x hx => ?_
  rw [wi (by omega)] at hx
  subst hx
  refine ⟨_, _, rfl, q, by omega, by omega, by omega, ?_⟩
  rw [show ((k : Int) + 1).toNat = k + 1 from rfl, ← preT_word (by omega)]
  rfl
theorem zero_ref06_FormatHits_2 (l : List FHit) (v2_0 : List (List CV)) (v2_1 : ByteArray) (v2_2 : Int) (v2_3 : Int) (nn0 : Nat) (hi : ((l).length ≤ 10 ∧ ∀ k, k < (l).length → rgH (hitAt l k)) ∧ (0 ≤ v2_2 ∧ v2_2 < l.length) ∧ (nn0 : Int) + v2_2 = l.length ∧ v2_0 = ((hitN (hitAt l v2_2.toNat)).map fun n => [CV.v (.int .i64 n)]) ∧ 0 ≤ v2_3 ∧ v2_3 ≤ 7 ∧ (0 : Int) + v2_3 = 8 ∧ v2_1 = preT l v2_2.toNat ++ wordsB ((hitN (hitAt l v2_2.toNat)).take v2_3.toNat)) : False := by
 omega
theorem spec_ref06_FormatHits (l : List FHit) (hp : (l).length ≤ 10 ∧ ∀ k, k < (l).length → rgH (hitAt l k)) : vc_ref06_FormatHits (J_ref06_FormatHits l) l (fun r => LeD r (.t (.c (.v (.string (hitsT l)))))) := by
 unfold vc_ref06_FormatHits
 exact ⟨l.length + 1, _, 0, rfl, hp, by omega, by omega, by omega, rfl⟩
theorem all_ref06_FormatHits (l : List FHit) (hp : (l).length ≤ 10 ∧ ∀ k, k < (l).length → rgH (hitAt l k)) : AllG (J_ref06_FormatHits l) (loopsFn Tryz.prog tab Shc100 ann_ref06_FormatHits (J_ref06_FormatHits l) Tryz.f36 (fun r => LeD r (.t (.c (.v (.string (hitsT l))))))) := by
 rw [lp_ref06_FormatHits]
 refine ⟨⟨?_, ?_⟩, ⟨?_, ?_⟩, trivial⟩
 ·intro F s h
  obtain _ | ⟨g, F⟩ := F
  case cons => exact h.elim
  obtain ⟨w0, w1, rfl, hi⟩ := h
  exact zero_ref06_FormatHits_0 l w0 w1 hi
 ·intro n F s h
  obtain _ | ⟨g, F⟩ := F
  case cons => exact h.elim
  obtain ⟨w0, w1, rfl, hi⟩ := h
  rw [er_ref06_FormatHits_0]
  exact rnd_ref06_FormatHits_0 l _ _ _ hp hi
 ·intro F s h
  obtain _ | ⟨f0, F⟩ := F
  ·exact h.elim
  obtain _ | ⟨g, F⟩ := F
  case cons => exact h.elim
  obtain ⟨w0, w1, w2, w3, rfl, hi⟩ := h
  exact zero_ref06_FormatHits_2 l w0 w1 w2 w3 _ hi
 ·intro n F s h
  obtain _ | ⟨f0, F⟩ := F
  ·exact h.elim
  obtain _ | ⟨g, F⟩ := F
  case cons => exact h.elim
  obtain ⟨w0, w1, w2, w3, rfl, hi⟩ := h
  rw [er_ref06_FormatHits_2]
  exact rnd_ref06_FormatHits_2 l _ _ _ _ _ _ hp hi
def con_ref06_FormatHits : Con := fun args => match args with
 | [.t (.c (.sl 7 n_l c_l))] => some (.t (.c (.v (.string (hitsT (listC n_l mkHit c_l))))), some (numsP 7 n_l c_l ∧ ((listC n_l mkHit c_l)).length ≤ 10 ∧ ∀ k, k < ((listC n_l mkHit c_l)).length → rgH (hitAt (listC n_l mkHit c_l) k)), false)
 | _ => none
theorem ok_ref06_FormatHits : Ok Tryz.prog 36 con_ref06_FormatHits := by
 refine Ok.fn (ann := ann_ref06_FormatHits) mixed tabOK VShc100 VIlib (fn := Tryz.f36) (by kernel_rfl) (by kernel_rfl) fit_ref06_FormatHits fun args r pre fresh h hp => ?_
 unfold con_ref06_FormatHits at h
 split at h
 ·rename_i n_l c_l
  cases h
  obtain ⟨hp0, hp⟩ := hp
  refine ⟨rfl, J_ref06_FormatHits (listC n_l mkHit c_l), [.t (.c (.sl 7 ((listC n_l mkHit c_l).length) (hitsC (listC n_l mkHit c_l))))], ?_, Nat.le_of_ble_eq_true (by kernel_rfl), ?_, ?_⟩
  ·exact (LeA_cons (leT_c ((leL_FHit hp0))) LeA_nil)
  ·rw [ev_ref06_FormatHits]; exact spec_ref06_FormatHits (listC n_l mkHit c_l) hp
  ·exact all_ref06_FormatHits (listC n_l mkHit c_l) hp
 ·cases h
def Shc101 : Sum := addS Shc100 36 con_ref06_FormatHits
theorem VShc101 : Valid Tryz.prog Shc101 := Valid.add VShc100 ok_ref06_FormatHits
def mk_ref06_FormatVeto_0 (f : Int) (v : List Int) (v0_0 : ByteArray) (v0_1 : Int) : DS := ⟨[none, some (.t (.c (.p 1 0))), none, some (.t (.c (.v (.string v0_0)))), some (.t (.c (.v (.int .i64 v0_1)))), none, none, none, none, none, none, none, none, none, none, none, none, none, none, none, none, none, none, none, none], [none, some (.box 25 [.v (.int .i64 f), .sl 1 v.length (intsC v)]), none, none, none, none, none, none, none, none, none, none, none, none, none, none, none, none, none, none, none, none, none, none, none]⟩
def vc_ref06_FormatVeto (J : Inv) (f : Int) (v : List Int) (post : DV → Prop) : Prop := (-9223372036854775808 ≤ f ∧ f ≤ 9223372036854775807) ∧ (∃ n, J 0 (n :: []) (mk_ref06_FormatVeto_0 f v (itoaB f) 0))
def ann_ref06_FormatVeto : Ann := ⟨fun _ => none, fun b => lookA b [(0, (none, some ⟨[1, 3, 4], [1], []⟩))], fun _ => [], Ilib, false, fun _ => none, fun _ => none⟩
theorem ev_ref06_FormatVeto (J : Inv) (f : Int) (v : List Int) (post : DV → Prop) : evFn Tryz.prog tab Shc101 ann_ref06_FormatVeto J Tryz.f37 [.t (.a [.v (.int .i64 f), .sl 1 v.length (intsC v)])] post = vc_ref06_FormatVeto J f v post := by kernel_rfl
theorem fit_ref06_FormatVeto : okFn ann_ref06_FormatVeto Tryz.f37 = true := by kernel_rfl
def rd_ref06_FormatVeto_0 (J : Inv) (f : Int) (v : List Int) (v0_0 : ByteArray) (v0_1 : Int) (nn0 : Nat) (post : DV → Prop) : Prop := cond (decide (v0_1 < ((v.length : Nat) : Int))) (((((v0_0 : ByteArray).size + ((⟨#[32]⟩) : ByteArray).size : Nat) : Int) ≤ 9223372036854775807) ∧ ((0 ≤ v0_1 ∧ v0_1 < ((v.length : Nat) : Int)) ∧ ((-9223372036854775808 ≤ (v.getD v0_1.toNat 0) ∧ (v.getD v0_1.toNat 0) ≤ 9223372036854775807) ∧ ((((((v0_0 ++ (⟨#[32]⟩)) : ByteArray).size + ((itoaB (v.getD v0_1.toNat 0)) : ByteArray).size : Nat) : Int) ≤ 9223372036854775807) ∧ (lt (IntKind.i64.wrap (v0_1 + (1 : Int))) fun x1 => J 0 (nn0 :: []) (mk_ref06_FormatVeto_0 f v ((v0_0 ++ (⟨#[32]⟩)) ++ (itoaB (v.getD v0_1.toNat 0))) x1)))))) (post (.t (.c (.v (.string v0_0)))))
theorem er_ref06_FormatVeto_0 (J : Inv) (f : Int) (v : List Int) (v0_0 : ByteArray) (v0_1 : Int) (nn0 : Nat) (post : DV → Prop) : round Tryz.prog tab Shc101 ann_ref06_FormatVeto J Tryz.f37 post 0 (nn0 :: []) (mk_ref06_FormatVeto_0 f v v0_0 v0_1) = rd_ref06_FormatVeto_0 J f v v0_0 v0_1 nn0 post := by kernel_rfl
theorem lp_ref06_FormatVeto (J : Inv) (post : DV → Prop) : AllG J (loopsFn Tryz.prog tab Shc101 ann_ref06_FormatVeto J Tryz.f37 post) = (((∀ F s, ¬ J 0 (0 :: F) s) ∧ ∀ n F s, J 0 ((n + 1) :: F) s → round Tryz.prog tab Shc101 ann_ref06_FormatVeto J Tryz.f37 post 0 (n :: F) s) ∧ True) := by kernel_rfl
def J_ref06_FormatVeto (f : Int) (v : List Int) : Inv := fun b F s => match b, F with
 | 0, [nn0] => ∃ (v0_0 : ByteArray) (v0_1 : Int), s = mk_ref06_FormatVeto_0 f v v0_0 v0_1 ∧ ((inI f ∧ v.length ≤ 50 ∧ (∀ i, i < (v).length → -9223372036854775808 ≤ (v).getD i 0 ∧ (v).getD i 0 ≤ 9223372036854775807)) ∧ 0 ≤ v0_1 ∧ v0_1 ≤ v.length ∧ (nn0 : Int) + v0_1 = v.length + 1 ∧ v0_0 = wordsB (f :: v.take v0_1.toNat))
 | _, _ => False
theorem rnd_ref06_FormatVeto_0 (f : Int) (v : List Int) (v0_0 : ByteArray) (v0_1 : Int) (nn0 : Nat) (hp : inI f ∧ (v).length ≤ 50 ∧ (∀ i, i < (v).length → -9223372036854775808 ≤ (v).getD i 0 ∧ (v).getD i 0 ≤ 9223372036854775807)) (hi : (inI f ∧ v.length ≤ 50 ∧ (∀ i, i < (v).length → -9223372036854775808 ≤ (v).getD i 0 ∧ (v).getD i 0 ≤ 9223372036854775807)) ∧ 0 ≤ v0_1 ∧ v0_1 ≤ v.length ∧ ((nn0 + 1) : Int) + v0_1 = v.length + 1 ∧ v0_0 = wordsB (f :: v.take v0_1.toNat)) : rd_ref06_FormatVeto_0 (J_ref06_FormatVeto f v) f v v0_0 v0_1 nn0 (fun r => LeD r (.t (.c (.v (.string (vtT f v)))))) := by
 obtain ⟨q, i1, i2, i3, i4⟩ := hi
 obtain ⟨k, rfl⟩ : ∃ k : Nat, v0_1 = k := ⟨v0_1.toNat, by omega⟩
 have hk : (k : Int).toNat = k := rfl
 rw [hk] at i4
 subst i4
 have hb : ∀ i, i < (f :: v).length → -9223372036854775808 ≤ (f :: v).getD i 0 ∧ (f :: v).getD i 0 ≤ 9223372036854775807 := fun i hi => by
  rcases i with _ | i
  ·exact q.1
  ·exact q.2.2 i (by simpa using hi)
 have w1 := words_take (k := k + 1) (l := f :: v) (by simp; omega) hb
 rw [List.take_succ_cons] at w1
 unfold rd_ref06_FormatVeto_0
 rw [Int.toNat_natCast]
 refine cond_i (fun h => ?_) (fun h => ?_)
 ·have hlt : k < v.length := by have := of_decide_eq_true h; omega
  have b := q.2.2 k hlt
  have w2 := itoaB_len b
  refine ⟨by rw [sz_one]; omega, ⟨by omega, by omega⟩, b, by rw [ByteArray.size_append, sz_one]; omega, lt_i fun x hx => ?_⟩
  rw [wi (by omega)] at hx
  subst hx
  refine ⟨_, _, rfl, q, by omega, by omega, by omega, ?_⟩
  exact words_snoc (l := f :: v) (k := k + 1) (by simp; omega) (by omega)
 ·have e : k = v.length := by have := of_decide_eq_false h; omega
  subst e
  rw [List.take_length]
  exact LeD.refl _
theorem zero_ref06_FormatVeto_0 (f : Int) (v : List Int) (v0_0 : ByteArray) (v0_1 : Int)  (hi : (inI f ∧ v.length ≤ 50 ∧ (∀ i, i < (v).length → -9223372036854775808 ≤ (v).getD i 0 ∧ (v).getD i 0 ≤ 9223372036854775807)) ∧ 0 ≤ v0_1 ∧ v0_1 ≤ v.length ∧ (0 : Int) + v0_1 = v.length + 1 ∧ v0_0 = wordsB (f :: v.take v0_1.toNat)) : False := by
 omega
theorem spec_ref06_FormatVeto (f : Int) (v : List Int) (hp : inI f ∧ (v).length ≤ 50 ∧ (∀ i, i < (v).length → -9223372036854775808 ≤ (v).getD i 0 ∧ (v).getD i 0 ≤ 9223372036854775807)) : vc_ref06_FormatVeto (J_ref06_FormatVeto f v) f v (fun r => LeD r (.t (.c (.v (.string (vtT f v)))))) := by
 unfold vc_ref06_FormatVeto
 exact ⟨hp.1, v.length + 1, _, 0, rfl, hp, by omega, by omega, by omega, (joinB_single _ _).symm⟩
theorem all_ref06_FormatVeto (f : Int) (v : List Int) (hp : inI f ∧ (v).length ≤ 50 ∧ (∀ i, i < (v).length → -9223372036854775808 ≤ (v).getD i 0 ∧ (v).getD i 0 ≤ 9223372036854775807)) : AllG (J_ref06_FormatVeto f v) (loopsFn Tryz.prog tab Shc101 ann_ref06_FormatVeto (J_ref06_FormatVeto f v) Tryz.f37 (fun r => LeD r (.t (.c (.v (.string (vtT f v))))))) := by
 rw [lp_ref06_FormatVeto]
 refine ⟨⟨?_, ?_⟩, trivial⟩
 ·intro F s h
  obtain _ | ⟨g, F⟩ := F
  case cons => exact h.elim
  obtain ⟨w0, w1, rfl, hi⟩ := h
  exact zero_ref06_FormatVeto_0 f v w0 w1 hi
 ·intro n F s h
  obtain _ | ⟨g, F⟩ := F
  case cons => exact h.elim
  obtain ⟨w0, w1, rfl, hi⟩ := h
  rw [er_ref06_FormatVeto_0]
  exact rnd_ref06_FormatVeto_0 f v _ _ _ hp hi
def con_ref06_FormatVeto : Con := fun args => match args with
 | [.t (.a [.v (.int .i64 f), .sl 1 n_v c_v])] => some (.t (.c (.v (.string (vtT f (listC n_v mkInt c_v))))), some (numsP 1 n_v c_v ∧ inI f ∧ ((listC n_v mkInt c_v)).length ≤ 50 ∧ (∀ i, i < ((listC n_v mkInt c_v)).length → -9223372036854775808 ≤ ((listC n_v mkInt c_v)).getD i 0 ∧ ((listC n_v mkInt c_v)).getD i 0 ≤ 9223372036854775807)), false)
 | _ => none
theorem ok_ref06_FormatVeto : Ok Tryz.prog 37 con_ref06_FormatVeto := by
 refine Ok.fn (ann := ann_ref06_FormatVeto) mixed tabOK VShc101 VIlib (fn := Tryz.f37) (by kernel_rfl) (by kernel_rfl) fit_ref06_FormatVeto fun args r pre fresh h hp => ?_
 unfold con_ref06_FormatVeto at h
 split at h
 ·rename_i f n_v c_v
  cases h
  obtain ⟨hp0, hp⟩ := hp
  refine ⟨rfl, J_ref06_FormatVeto f (listC n_v mkInt c_v), [.t (.a [.v (.int .i64 f), .sl 1 ((listC n_v mkInt c_v).length) (intsC (listC n_v mkInt c_v))])], ?_, Nat.le_of_ble_eq_true (by kernel_rfl), ?_, ?_⟩
  ·exact (LeA_cons (leT_a (LeCs.cons (LeC1.refl _) (LeCs.cons ((leL_int hp0)) LeCs.nil))) LeA_nil)
  ·rw [ev_ref06_FormatVeto]; exact spec_ref06_FormatVeto f (listC n_v mkInt c_v) hp
  ·exact all_ref06_FormatVeto f (listC n_v mkInt c_v) hp
 ·cases h
def Shc102 : Sum := addS Shc101 37 con_ref06_FormatVeto
theorem VShc102 : Valid Tryz.prog Shc102 := Valid.add VShc101 ok_ref06_FormatVeto
def mk_ref06_ParseHits_0 (tx : ByteArray) (v0_0 : List (List CV)) (v0_1 : Int) : DS := ⟨[none, none, none, none, some (.t (.c (.sl 1 ((cutL tx (UInt8.ofNat ((59 : Int)).toNat)).length) (txsC (cutL tx (UInt8.ofNat ((59 : Int)).toNat)))))), some (.t (.c (.os 5))), some (.t (.c (.v (.int .i64 v0_1)))), none, none, none, none, none, none, none, none, none, none, none, none, none, none, none, none, none, none, none, none, none, none, none, none, none, none, none, none, none, none, none, none, none, none, none, none, none, none, none, none, none, none, none, none, none, none, none, none, none, none, none, none, none, none, none, none, none, none, none, none, none, none, none, none, none, none, none, none, none, none, none, none, none, none, none, none, none, none, none, none, none], [none, none, none, none, none, some (.gen 96 7 v0_0), none, none, none, none, none, none, none, none, none, none, none, none, none, none, none, none, none, none, none, none, none, none, none, none, none, none, none, none, none, none, none, none, none, none, none, none, none, none, none, none, none, none, none, none, none, none, none, none, none, none, none, none, none, none, none, none, none, none, none, none, none, none, none, none, none, none, none, none, none, none, none, none, none, none, none, none, none, none, none, none, none, none]⟩
def vc_ref06_ParseHits (J : Inv) (tx : ByteArray) (post : DV → Prop) : Prop := cond (decide ((((tx : ByteArray).size : Nat) : Int) > (60000 : Int))) (post (.tu [.c (.v (.slice none 0 0)), .c (.v (.int .i64 8))])) ((0 ≤ (59 : Int) ∧ (59 : Int) < 256 ∧ (tx).size ≤ 100000000) ∧ (∃ n, J 0 (n :: []) (mk_ref06_ParseHits_0 tx ([]) 0)))
def ann_ref06_ParseHits : Ann := ⟨fun _ => none, fun b => lookA b [(0, (none, some ⟨[4, 6], [], [(5, .gen 96 7 [])]⟩)), (2, (some 8, some ⟨[4, 6, 7, 8, 9], [8], [(5, .gen 96 7 [])]⟩))], fun _ => [], Ilib, false, fun r => lookA r [(16, (3, [57]))], fun _ => none⟩
theorem ev_ref06_ParseHits (J : Inv) (tx : ByteArray) (post : DV → Prop) : evFn Tryz.prog tab Shc102 ann_ref06_ParseHits J Tryz.f34 [.t (.c (.v (.string tx)))] post = vc_ref06_ParseHits J tx post := by kernel_rfl
theorem fit_ref06_ParseHits : okFn ann_ref06_ParseHits Tryz.f34 = true := by kernel_rfl
def rd_ref06_ParseHits_0 (J : Inv) (tx : ByteArray) (v0_0 : List (List CV)) (v0_1 : Int) (nn0 : Nat) (post : DV → Prop) : Prop := cond (decide (v0_1 < (((cutL tx (UInt8.ofNat ((59 : Int)).toNat)).length : Nat) : Int))) ((0 ≤ v0_1 ∧ v0_1 < (((cutL tx (UInt8.ofNat ((59 : Int)).toNat)).length : Nat) : Int)) ∧ ((0 ≤ (32 : Int) ∧ (32 : Int) < 256 ∧ ((txAt (cutL tx (UInt8.ofNat ((59 : Int)).toNat)) v0_1.toNat)).size ≤ 100000000) ∧ (cond ((((cutL (txAt (cutL tx (UInt8.ofNat ((59 : Int)).toNat)) v0_1.toNat) (UInt8.ofNat ((32 : Int)).toNat)).length : Nat) : Int) != (7 : Int)) (post (.tu [.c (.v (.slice none 0 0)), .c (.v (.int .i64 7))])) ((0 ≤ (0 : Int) ∧ (0 : Int) < (((cutL (txAt (cutL tx (UInt8.ofNat ((59 : Int)).toNat)) v0_1.toNat) (UInt8.ofNat ((32 : Int)).toNat)).length : Nat) : Int)) ∧ ((0 ≤ (10 : Int) ∧ (10 : Int) ≤ 17 ∧ ((txAt (cutL (txAt (cutL tx (UInt8.ofNat ((59 : Int)).toNat)) v0_1.toNat) (UInt8.ofNat ((32 : Int)).toNat)) 0)).size ≤ 100000000) ∧ ((cond (!((numR ((txAt (cutL (txAt (cutL tx (UInt8.ofNat ((59 : Int)).toNat)) v0_1.toNat) (UInt8.ofNat ((32 : Int)).toNat)) 0)).data.toList ((10 : Int)).toNat).isSome)) ((true = true) ∧ (True)) ((false = false) ∧ (True))) ∧ (lt ((bif (!((numR ((txAt (cutL (txAt (cutL tx (UInt8.ofNat ((59 : Int)).toNat)) v0_1.toNat) (UInt8.ofNat ((32 : Int)).toNat)) 0)).data.toList ((10 : Int)).toNat).isSome)) then true else false)) fun x1 => cond x1 (post (.tu [.c (.v (.slice none 0 0)), .c (.v (.int .i64 7))])) ((0 ≤ (0 : Int) ∧ (0 : Int) < ((7 : Nat) : Int)) ∧ ((0 ≤ (1 : Int) ∧ (1 : Int) < (((cutL (txAt (cutL tx (UInt8.ofNat ((59 : Int)).toNat)) v0_1.toNat) (UInt8.ofNat ((32 : Int)).toNat)).length : Nat) : Int)) ∧ ((0 ≤ (10 : Int) ∧ (10 : Int) ≤ 17 ∧ ((txAt (cutL (txAt (cutL tx (UInt8.ofNat ((59 : Int)).toNat)) v0_1.toNat) (UInt8.ofNat ((32 : Int)).toNat)) 1)).size ≤ 100000000) ∧ ((cond (!((numR ((txAt (cutL (txAt (cutL tx (UInt8.ofNat ((59 : Int)).toNat)) v0_1.toNat) (UInt8.ofNat ((32 : Int)).toNat)) 1)).data.toList ((10 : Int)).toNat).isSome)) ((true = true) ∧ (True)) ((false = false) ∧ (True))) ∧ (lt ((bif (!((numR ((txAt (cutL (txAt (cutL tx (UInt8.ofNat ((59 : Int)).toNat)) v0_1.toNat) (UInt8.ofNat ((32 : Int)).toNat)) 1)).data.toList ((10 : Int)).toNat).isSome)) then true else false)) fun x2 => cond x2 (post (.tu [.c (.v (.slice none 0 0)), .c (.v (.int .i64 7))])) ((0 ≤ (1 : Int) ∧ (1 : Int) < ((7 : Nat) : Int)) ∧ ((0 ≤ (2 : Int) ∧ (2 : Int) < (((cutL (txAt (cutL tx (UInt8.ofNat ((59 : Int)).toNat)) v0_1.toNat) (UInt8.ofNat ((32 : Int)).toNat)).length : Nat) : Int)) ∧ ((0 ≤ (10 : Int) ∧ (10 : Int) ≤ 17 ∧ ((txAt (cutL (txAt (cutL tx (UInt8.ofNat ((59 : Int)).toNat)) v0_1.toNat) (UInt8.ofNat ((32 : Int)).toNat)) 2)).size ≤ 100000000) ∧ ((cond (!((numR ((txAt (cutL (txAt (cutL tx (UInt8.ofNat ((59 : Int)).toNat)) v0_1.toNat) (UInt8.ofNat ((32 : Int)).toNat)) 2)).data.toList ((10 : Int)).toNat).isSome)) ((true = true) ∧ (True)) ((false = false) ∧ (True))) ∧ (lt ((bif (!((numR ((txAt (cutL (txAt (cutL tx (UInt8.ofNat ((59 : Int)).toNat)) v0_1.toNat) (UInt8.ofNat ((32 : Int)).toNat)) 2)).data.toList ((10 : Int)).toNat).isSome)) then true else false)) fun x3 => cond x3 (post (.tu [.c (.v (.slice none 0 0)), .c (.v (.int .i64 7))])) ((0 ≤ (2 : Int) ∧ (2 : Int) < ((7 : Nat) : Int)) ∧ ((0 ≤ (3 : Int) ∧ (3 : Int) < (((cutL (txAt (cutL tx (UInt8.ofNat ((59 : Int)).toNat)) v0_1.toNat) (UInt8.ofNat ((32 : Int)).toNat)).length : Nat) : Int)) ∧ ((0 ≤ (10 : Int) ∧ (10 : Int) ≤ 17 ∧ ((txAt (cutL (txAt (cutL tx (UInt8.ofNat ((59 : Int)).toNat)) v0_1.toNat) (UInt8.ofNat ((32 : Int)).toNat)) 3)).size ≤ 100000000) ∧ ((cond (!((numR ((txAt (cutL (txAt (cutL tx (UInt8.ofNat ((59 : Int)).toNat)) v0_1.toNat) (UInt8.ofNat ((32 : Int)).toNat)) 3)).data.toList ((10 : Int)).toNat).isSome)) ((true = true) ∧ (True)) ((0 ≤ (3 : Int) ∧ (3 : Int) < (((cutL (txAt (cutL tx (UInt8.ofNat ((59 : Int)).toNat)) v0_1.toNat) (UInt8.ofNat ((32 : Int)).toNat)).length : Nat) : Int)) ∧ ((0 ≤ (0 : Int) ∧ (0 : Int) < ((((txAt (cutL (txAt (cutL tx (UInt8.ofNat ((59 : Int)).toNat)) v0_1.toNat) (UInt8.ofNat ((32 : Int)).toNat)) 3) : ByteArray).size : Nat) : Int)) ∧ (True)))) ∧ (lt ((bif (!((numR ((txAt (cutL (txAt (cutL tx (UInt8.ofNat ((59 : Int)).toNat)) v0_1.toNat) (UInt8.ofNat ((32 : Int)).toNat)) 3)).data.toList ((10 : Int)).toNat).isSome)) then true else (((((txAt (cutL (txAt (cutL tx (UInt8.ofNat ((59 : Int)).toNat)) v0_1.toNat) (UInt8.ofNat ((32 : Int)).toNat)) 3) : ByteArray).data.getD 0 0).toNat : Int) == (45 : Int)))) fun x4 => cond x4 (post (.tu [.c (.v (.slice none 0 0)), .c (.v (.int .i64 7))])) ((0 ≤ (3 : Int) ∧ (3 : Int) < ((7 : Nat) : Int)) ∧ ((0 ≤ (4 : Int) ∧ (4 : Int) < (((cutL (txAt (cutL tx (UInt8.ofNat ((59 : Int)).toNat)) v0_1.toNat) (UInt8.ofNat ((32 : Int)).toNat)).length : Nat) : Int)) ∧ ((0 ≤ (10 : Int) ∧ (10 : Int) ≤ 17 ∧ ((txAt (cutL (txAt (cutL tx (UInt8.ofNat ((59 : Int)).toNat)) v0_1.toNat) (UInt8.ofNat ((32 : Int)).toNat)) 4)).size ≤ 100000000) ∧ ((cond (!((numR ((txAt (cutL (txAt (cutL tx (UInt8.ofNat ((59 : Int)).toNat)) v0_1.toNat) (UInt8.ofNat ((32 : Int)).toNat)) 4)).data.toList ((10 : Int)).toNat).isSome)) ((true = true) ∧ (True)) ((0 ≤ (4 : Int) ∧ (4 : Int) < (((cutL (txAt (cutL tx (UInt8.ofNat ((59 : Int)).toNat)) v0_1.toNat) (UInt8.ofNat ((32 : Int)).toNat)).length : Nat) : Int)) ∧ ((0 ≤ (0 : Int) ∧ (0 : Int) < ((((txAt (cutL (txAt (cutL tx (UInt8.ofNat ((59 : Int)).toNat)) v0_1.toNat) (UInt8.ofNat ((32 : Int)).toNat)) 4) : ByteArray).size : Nat) : Int)) ∧ (True)))) ∧ (lt ((bif (!((numR ((txAt (cutL (txAt (cutL tx (UInt8.ofNat ((59 : Int)).toNat)) v0_1.toNat) (UInt8.ofNat ((32 : Int)).toNat)) 4)).data.toList ((10 : Int)).toNat).isSome)) then true else (((((txAt (cutL (txAt (cutL tx (UInt8.ofNat ((59 : Int)).toNat)) v0_1.toNat) (UInt8.ofNat ((32 : Int)).toNat)) 4) : ByteArray).data.getD 0 0).toNat : Int) == (45 : Int)))) fun x5 => cond x5 (post (.tu [.c (.v (.slice none 0 0)), .c (.v (.int .i64 7))])) ((0 ≤ (4 : Int) ∧ (4 : Int) < ((7 : Nat) : Int)) ∧ ((0 ≤ (5 : Int) ∧ (5 : Int) < (((cutL (txAt (cutL tx (UInt8.ofNat ((59 : Int)).toNat)) v0_1.toNat) (UInt8.ofNat ((32 : Int)).toNat)).length : Nat) : Int)) ∧ ((0 ≤ (10 : Int) ∧ (10 : Int) ≤ 17 ∧ ((txAt (cutL (txAt (cutL tx (UInt8.ofNat ((59 : Int)).toNat)) v0_1.toNat) (UInt8.ofNat ((32 : Int)).toNat)) 5)).size ≤ 100000000) ∧ ((cond (!((numR ((txAt (cutL (txAt (cutL tx (UInt8.ofNat ((59 : Int)).toNat)) v0_1.toNat) (UInt8.ofNat ((32 : Int)).toNat)) 5)).data.toList ((10 : Int)).toNat).isSome)) ((true = true) ∧ (True)) ((0 ≤ (5 : Int) ∧ (5 : Int) < (((cutL (txAt (cutL tx (UInt8.ofNat ((59 : Int)).toNat)) v0_1.toNat) (UInt8.ofNat ((32 : Int)).toNat)).length : Nat) : Int)) ∧ ((0 ≤ (0 : Int) ∧ (0 : Int) < ((((txAt (cutL (txAt (cutL tx (UInt8.ofNat ((59 : Int)).toNat)) v0_1.toNat) (UInt8.ofNat ((32 : Int)).toNat)) 5) : ByteArray).size : Nat) : Int)) ∧ (True)))) ∧ (lt ((bif (!((numR ((txAt (cutL (txAt (cutL tx (UInt8.ofNat ((59 : Int)).toNat)) v0_1.toNat) (UInt8.ofNat ((32 : Int)).toNat)) 5)).data.toList ((10 : Int)).toNat).isSome)) then true else (((((txAt (cutL (txAt (cutL tx (UInt8.ofNat ((59 : Int)).toNat)) v0_1.toNat) (UInt8.ofNat ((32 : Int)).toNat)) 5) : ByteArray).data.getD 0 0).toNat : Int) == (45 : Int)))) fun x6 => cond x6 (post (.tu [.c (.v (.slice none 0 0)), .c (.v (.int .i64 7))])) ((0 ≤ (5 : Int) ∧ (5 : Int) < ((7 : Nat) : Int)) ∧ ((0 ≤ (6 : Int) ∧ (6 : Int) < (((cutL (txAt (cutL tx (UInt8.ofNat ((59 : Int)).toNat)) v0_1.toNat) (UInt8.ofNat ((32 : Int)).toNat)).length : Nat) : Int)) ∧ ((0 ≤ (10 : Int) ∧ (10 : Int) ≤ 17 ∧ ((txAt (cutL (txAt (cutL tx (UInt8.ofNat ((59 : Int)).toNat)) v0_1.toNat) (UInt8.ofNat ((32 : Int)).toNat)) 6)).size ≤ 100000000) ∧ ((cond (!((numR ((txAt (cutL (txAt (cutL tx (UInt8.ofNat ((59 : Int)).toNat)) v0_1.toNat) (UInt8.ofNat ((32 : Int)).toNat)) 6)).data.toList ((10 : Int)).toNat).isSome)) ((true = true) ∧ (True)) ((0 ≤ (6 : Int) ∧ (6 : Int) < (((cutL (txAt (cutL tx (UInt8.ofNat ((59 : Int)).toNat)) v0_1.toNat) (UInt8.ofNat ((32 : Int)).toNat)).length : Nat) : Int)) ∧ ((0 ≤ (0 : Int) ∧ (0 : Int) < ((((txAt (cutL (txAt (cutL tx (UInt8.ofNat ((59 : Int)).toNat)) v0_1.toNat) (UInt8.ofNat ((32 : Int)).toNat)) 6) : ByteArray).size : Nat) : Int)) ∧ (True)))) ∧ (lt ((bif (!((numR ((txAt (cutL (txAt (cutL tx (UInt8.ofNat ((59 : Int)).toNat)) v0_1.toNat) (UInt8.ofNat ((32 : Int)).toNat)) 6)).data.toList ((10 : Int)).toNat).isSome)) then true else (((((txAt (cutL (txAt (cutL tx (UInt8.ofNat ((59 : Int)).toNat)) v0_1.toNat) (UInt8.ofNat ((32 : Int)).toNat)) 6) : ByteArray).data.getD 0 0).toNat : Int) == (45 : Int)))) fun x7 => cond x7 (post (.tu [.c (.v (.slice none 0 0)), .c (.v (.int .i64 7))])) ((0 ≤ (6 : Int) ∧ (6 : Int) < ((7 : Nat) : Int)) ∧ ((0 ≤ (0 : Int) ∧ (0 : Int) < ((7 : Nat) : Int)) ∧ ((0 ≤ (1 : Int) ∧ (1 : Int) < ((7 : Nat) : Int)) ∧ ((0 ≤ (2 : Int) ∧ (2 : Int) < ((7 : Nat) : Int)) ∧ ((0 ≤ (3 : Int) ∧ (3 : Int) < ((7 : Nat) : Int)) ∧ ((0 ≤ (4 : Int) ∧ (4 : Int) < ((7 : Nat) : Int)) ∧ ((0 ≤ (5 : Int) ∧ (5 : Int) < ((7 : Nat) : Int)) ∧ ((0 ≤ (6 : Int) ∧ (6 : Int) < ((7 : Nat) : Int)) ∧ ((roomP 56 (v0_0.length + ([[.v (.int .i64 ((numR ((txAt (cutL (txAt (cutL tx (UInt8.ofNat ((59 : Int)).toNat)) v0_1.toNat) (UInt8.ofNat ((32 : Int)).toNat)) 0)).data.toList ((10 : Int)).toNat).getD 0)), .v (.int .i64 ((numR ((txAt (cutL (txAt (cutL tx (UInt8.ofNat ((59 : Int)).toNat)) v0_1.toNat) (UInt8.ofNat ((32 : Int)).toNat)) 1)).data.toList ((10 : Int)).toNat).getD 0)), .v (.int .i64 ((numR ((txAt (cutL (txAt (cutL tx (UInt8.ofNat ((59 : Int)).toNat)) v0_1.toNat) (UInt8.ofNat ((32 : Int)).toNat)) 2)).data.toList ((10 : Int)).toNat).getD 0)), .v (.int .i64 ((numR ((txAt (cutL (txAt (cutL tx (UInt8.ofNat ((59 : Int)).toNat)) v0_1.toNat) (UInt8.ofNat ((32 : Int)).toNat)) 3)).data.toList ((10 : Int)).toNat).getD 0)), .v (.int .i64 ((numR ((txAt (cutL (txAt (cutL tx (UInt8.ofNat ((59 : Int)).toNat)) v0_1.toNat) (UInt8.ofNat ((32 : Int)).toNat)) 4)).data.toList ((10 : Int)).toNat).getD 0)), .v (.int .i64 ((numR ((txAt (cutL (txAt (cutL tx (UInt8.ofNat ((59 : Int)).toNat)) v0_1.toNat) (UInt8.ofNat ((32 : Int)).toNat)) 5)).data.toList ((10 : Int)).toNat).getD 0)), .v (.int .i64 ((numR ((txAt (cutL (txAt (cutL tx (UInt8.ofNat ((59 : Int)).toNat)) v0_1.toNat) (UInt8.ofNat ((32 : Int)).toNat)) 6)).data.toList ((10 : Int)).toNat).getD 0))]] : List (List CV)).length)) ∧ (lt (IntKind.i64.wrap (v0_1 + (1 : Int))) fun x8 => J 0 (nn0 :: []) (mk_ref06_ParseHits_0 tx (v0_0 ++ ([[.v (.int .i64 ((numR ((txAt (cutL (txAt (cutL tx (UInt8.ofNat ((59 : Int)).toNat)) v0_1.toNat) (UInt8.ofNat ((32 : Int)).toNat)) 0)).data.toList ((10 : Int)).toNat).getD 0)), .v (.int .i64 ((numR ((txAt (cutL (txAt (cutL tx (UInt8.ofNat ((59 : Int)).toNat)) v0_1.toNat) (UInt8.ofNat ((32 : Int)).toNat)) 1)).data.toList ((10 : Int)).toNat).getD 0)), .v (.int .i64 ((numR ((txAt (cutL (txAt (cutL tx (UInt8.ofNat ((59 : Int)).toNat)) v0_1.toNat) (UInt8.ofNat ((32 : Int)).toNat)) 2)).data.toList ((10 : Int)).toNat).getD 0)), .v (.int .i64 ((numR ((txAt (cutL (txAt (cutL tx (UInt8.ofNat ((59 : Int)).toNat)) v0_1.toNat) (UInt8.ofNat ((32 : Int)).toNat)) 3)).data.toList ((10 : Int)).toNat).getD 0)), .v (.int .i64 ((numR ((txAt (cutL (txAt (cutL tx (UInt8.ofNat ((59 : Int)).toNat)) v0_1.toNat) (UInt8.ofNat ((32 : Int)).toNat)) 4)).data.toList ((10 : Int)).toNat).getD 0)), .v (.int .i64 ((numR ((txAt (cutL (txAt (cutL tx (UInt8.ofNat ((59 : Int)).toNat)) v0_1.toNat) (UInt8.ofNat ((32 : Int)).toNat)) 5)).data.toList ((10 : Int)).toNat).getD 0)), .v (.int .i64 ((numR ((txAt (cutL (txAt (cutL tx (UInt8.ofNat ((59 : Int)).toNat)) v0_1.toNat) (UInt8.ofNat ((32 : Int)).toNat)) 6)).data.toList ((10 : Int)).toNat).getD 0))]] : List (List CV))) x8)))))))))))))))))))))))))))))))))))))))))))))))) ((numsP 7 v0_0.length (genC v0_0)) ∧ (cond ((hitsE (listC v0_0.length mkHit (genC v0_0))) != (0 : Int)) (post (.tu [.c (.v (.slice none 0 0)), .c (.v (.int .i64 (hitsE (listC v0_0.length mkHit (genC v0_0)))))])) (post (.tu [.c (.sl 7 v0_0.length (genC v0_0)), .c (.v (.int .i64 0))]))))
theorem er_ref06_ParseHits_0 (J : Inv) (tx : ByteArray) (v0_0 : List (List CV)) (v0_1 : Int) (nn0 : Nat) (post : DV → Prop) : round Tryz.prog tab Shc102 ann_ref06_ParseHits J Tryz.f34 post 0 (nn0 :: []) (mk_ref06_ParseHits_0 tx v0_0 v0_1) = rd_ref06_ParseHits_0 J tx v0_0 v0_1 nn0 post := by kernel_rfl
theorem lp_ref06_ParseHits (J : Inv) (post : DV → Prop) : AllG J (loopsFn Tryz.prog tab Shc102 ann_ref06_ParseHits J Tryz.f34 post) = (((∀ F s, ¬ J 0 (0 :: F) s) ∧ ∀ n F s, J 0 ((n + 1) :: F) s → round Tryz.prog tab Shc102 ann_ref06_ParseHits J Tryz.f34 post 0 (n :: F) s) ∧ True) := by kernel_rfl
def J_ref06_ParseHits (tx : ByteArray) : Inv := fun b F s => match b, F with
 | 0, [nn0] => ∃ (v0_0 : List (List CV)) (v0_1 : Int), s = mk_ref06_ParseHits_0 tx v0_0 v0_1 ∧ (tx.size ≤ 60000 ∧ 0 ≤ v0_1 ∧ v0_1 ≤ nPc 59 tx ∧ (nn0 : Int) + v0_1 = nPc 59 tx + 1 ∧ v0_0 = (hsK tx v0_1.toNat).map hitCv ∧ ∀ j, j < v0_1.toNat → hitB (partB tx j) = true)
 | _, _ => False
theorem rnd_ref06_ParseHits_0 (tx : ByteArray) (v0_0 : List (List CV)) (v0_1 : Int) (nn0 : Nat) (hp : (tx).size ≤ 100000000) (hi : tx.size ≤ 60000 ∧ 0 ≤ v0_1 ∧ v0_1 ≤ nPc 59 tx ∧ ((nn0 + 1) : Int) + v0_1 = nPc 59 tx + 1 ∧ v0_0 = (hsK tx v0_1.toNat).map hitCv ∧ ∀ j, j < v0_1.toNat → hitB (partB tx j) = true) : rd_ref06_ParseHits_0 (J_ref06_ParseHits tx) tx v0_0 v0_1 nn0 (fun r => LeD r (.tu [.c (.sl 7 ((phL tx).length) (hitsC (phL tx))), .c (.v (.int .i64 (phE tx)))])) := by
 obtain ⟨q, i1, i2, i3, i4, i5⟩ := hi
 obtain ⟨k, rfl⟩ : ∃ k : Nat, v0_1 = k := ⟨v0_1.toNat, by omega⟩
 have hk : (k : Int).toNat = k := rfl
 rw [hk] at i4 i5
 subst i4
 have np := nPc_le 59 tx
 unfold rd_ref06_ParseHits_0
 rw [show (UInt8.ofNat ((59 : Int)).toNat) = 59 from rfl, show (UInt8.ofNat ((32 : Int)).toNat) = 32 from rfl, Int.toNat_natCast, cutL_len, cutL_len, hitg_listC]
 refine cond_i (fun h => ?_) (fun h => ?_)
 ·have hlt : k < nPc 59 tx := by have := of_decide_eq_true h; omega
  rw [cutL_at hlt, show ofL (wAt 59 tx k) = partB tx k from rfl]
  have hz : (partB tx k).size ≤ 60000 := Nat.le_trans partB_size (by omega)
  have syn : ∀ j, okTo (partB tx k) j = false → j ≤ 7 → phE tx = 7 ∧ phL tx = [] := fun j hj hj7 => by
   have g : hitB (partB tx k) = false := okTo_mono hj hj7
   have e : phE tx = 7 := by unfold phE; rw [if_neg (by omega), if_pos (synH_no hlt g)]
   exact ⟨e, if_neg (by rw [e]; decide)⟩
  refine ⟨⟨by omega, by omega⟩, ⟨by decide, by decide, by omega⟩, cond_i (fun g => ?_) (fun g => ?_)⟩
  ·have h7 : nPc 32 (partB tx k) ≠ 7 := fun e => by rw [e] at g; cases g
   obtain ⟨e1, e2⟩ := syn 0 (okTo_no h7 0) (by decide)
   rw [e1, e2]
   exact le_tu le_nil (LeD.refl _)
  have h7 : nPc 32 (partB tx k) = 7 := by
   have g : ((nPc 32 (partB tx k) : Nat) : Int) = 7 := by simpa using g
   omega
  have o0 : okTo (partB tx k) 0 = true := by unfold okTo; rw [h7]; rfl
  have hs : ∀ i, (ofL (wAt 32 (partB tx k) i)).size ≤ 100000000 := fun i => by rw [ofL_size]; exact Nat.le_trans wAt_len (by omega)
  rw [cutL_at (show 0 < nPc 32 (partB tx k) by omega), cutL_at (show 1 < nPc 32 (partB tx k) by omega), cutL_at (show 2 < nPc 32 (partB tx k) by omega), cutL_at (show 3 < nPc 32 (partB tx k) by omega), cutL_at (show 4 < nPc 32 (partB tx k) by omega), cutL_at (show 5 < nPc 32 (partB tx k) by omega), cutL_at (show 6 < nPc 32 (partB tx k) by omega)]
  simp only [ofL_data]
  generalize hp : partB tx k = P at *
  refine ⟨⟨by decide, by omega⟩, ⟨by decide, by decide, hs 0⟩, cond_i (fun _ => ⟨by trivial, trivial⟩) (fun _ => ⟨by trivial, trivial⟩), lt_i fun y0 hy0 => ?_⟩
  rw [show ((10 : Int)).toNat = 10 from rfl, num_b3] at hy0
  subst hy0
  refine cond_i (fun g => ?_) (fun g => ?_)
  ·have g0 : numB (wAt 32 P 0) 10 (decide (0 < 3)) = false := by
    have g : (!numB (wAt 32 P 0) 10 true) = true := g
    simpa using g
   obtain ⟨e1, e2⟩ := syn 1 (by rw [okTo_succ, o0, g0]; rfl) (by decide)
   rw [e1, e2]
   exact le_tu le_nil (LeD.refl _)
  have g0 : numB (wAt 32 P 0) 10 (decide (0 < 3)) = true := by
   have g : (!numB (wAt 32 P 0) 10 true) = false := g
   simpa using g
  have o1 : okTo P 1 = true := by rw [okTo_succ, o0, g0]; rfl
  refine ⟨⟨by decide, by decide⟩, ⟨by decide, by omega⟩, ⟨by decide, by decide, hs 1⟩, cond_i (fun _ => ⟨by trivial, trivial⟩) (fun _ => ⟨by trivial, trivial⟩), lt_i fun y1 hy1 => ?_⟩
  rw [show ((10 : Int)).toNat = 10 from rfl, num_b3] at hy1
  subst hy1
  refine cond_i (fun g => ?_) (fun g => ?_)
  ·have g1 : numB (wAt 32 P 1) 10 (decide (1 < 3)) = false := by
    have g : (!numB (wAt 32 P 1) 10 true) = true := g
    simpa using g
   obtain ⟨e1, e2⟩ := syn 2 (by rw [okTo_succ, o1, g1]; rfl) (by decide)
   rw [e1, e2]
   exact le_tu le_nil (LeD.refl _)
  have g1 : numB (wAt 32 P 1) 10 (decide (1 < 3)) = true := by
   have g : (!numB (wAt 32 P 1) 10 true) = false := g
   simpa using g
  have o2 : okTo P 2 = true := by rw [okTo_succ, o1, g1]; rfl
  refine ⟨⟨by decide, by decide⟩, ⟨by decide, by omega⟩, ⟨by decide, by decide, hs 2⟩, cond_i (fun _ => ⟨by trivial, trivial⟩) (fun _ => ⟨by trivial, trivial⟩), lt_i fun y2 hy2 => ?_⟩
  rw [show ((10 : Int)).toNat = 10 from rfl, num_b3] at hy2
  subst hy2
  refine cond_i (fun g => ?_) (fun g => ?_)
  ·have g2 : numB (wAt 32 P 2) 10 (decide (2 < 3)) = false := by
    have g : (!numB (wAt 32 P 2) 10 true) = true := g
    simpa using g
   obtain ⟨e1, e2⟩ := syn 3 (by rw [okTo_succ, o2, g2]; rfl) (by decide)
   rw [e1, e2]
   exact le_tu le_nil (LeD.refl _)
  have g2 : numB (wAt 32 P 2) 10 (decide (2 < 3)) = true := by
   have g : (!numB (wAt 32 P 2) 10 true) = false := g
   simpa using g
  have o3 : okTo P 3 = true := by rw [okTo_succ, o2, g2]; rfl
  refine ⟨⟨by decide, by decide⟩, ⟨by decide, by omega⟩, ⟨by decide, by decide, hs 3⟩, cond_i (fun _ => ⟨by trivial, trivial⟩) (fun w => ⟨⟨by decide, by omega⟩, ⟨by decide, (by have := num_pos (w := wAt 32 P 3) (dg := 10) (by simpa using w); omega)⟩, trivial⟩), lt_i fun y3 hy3 => ?_⟩
  rw [show ((10 : Int)).toNat = 10 from rfl, num_b7] at hy3
  subst hy3
  refine cond_i (fun g => ?_) (fun g => ?_)
  ·have g3 : numB (wAt 32 P 3) 10 (decide (3 < 3)) = false := by
    have g : (!numB (wAt 32 P 3) 10 false) = true := g
    simpa using g
   obtain ⟨e1, e2⟩ := syn 4 (by rw [okTo_succ, o3, g3]; rfl) (by decide)
   rw [e1, e2]
   exact le_tu le_nil (LeD.refl _)
  have g3 : numB (wAt 32 P 3) 10 (decide (3 < 3)) = true := by
   have g : (!numB (wAt 32 P 3) 10 false) = false := g
   simpa using g
  have o4 : okTo P 4 = true := by rw [okTo_succ, o3, g3]; rfl
  refine ⟨⟨by decide, by decide⟩, ⟨by decide, by omega⟩, ⟨by decide, by decide, hs 4⟩, cond_i (fun _ => ⟨by trivial, trivial⟩) (fun w => ⟨⟨by decide, by omega⟩, ⟨by decide, (by have := num_pos (w := wAt 32 P 4) (dg := 10) (by simpa using w); omega)⟩, trivial⟩), lt_i fun y4 hy4 => ?_⟩
  rw [show ((10 : Int)).toNat = 10 from rfl, num_b7] at hy4
  subst hy4
  refine cond_i (fun g => ?_) (fun g => ?_)
  ·have g4 : numB (wAt 32 P 4) 10 (decide (4 < 3)) = false := by
    have g : (!numB (wAt 32 P 4) 10 false) = true := g
    simpa using g
   obtain ⟨e1, e2⟩ := syn 5 (by rw [okTo_succ, o4, g4]; rfl) (by decide)
   rw [e1, e2]
   exact le_tu le_nil (LeD.refl _)
  have g4 : numB (wAt 32 P 4) 10 (decide (4 < 3)) = true := by
   have g : (!numB (wAt 32 P 4) 10 false) = false := g
   simpa using g
  have o5 : okTo P 5 = true := by rw [okTo_succ, o4, g4]; rfl
  refine ⟨⟨by decide, by decide⟩, ⟨by decide, by omega⟩, ⟨by decide, by decide, hs 5⟩, cond_i (fun _ => ⟨by trivial, trivial⟩) (fun w => ⟨⟨by decide, by omega⟩, ⟨by decide, (by have := num_pos (w := wAt 32 P 5) (dg := 10) (by simpa using w); omega)⟩, trivial⟩), lt_i fun y5 hy5 => ?_⟩
  rw [show ((10 : Int)).toNat = 10 from rfl, num_b7] at hy5
  subst hy5
  refine cond_i (fun g => ?_) (fun g => ?_)
  ·have g5 : numB (wAt 32 P 5) 10 (decide (5 < 3)) = false := by
    have g : (!numB (wAt 32 P 5) 10 false) = true := g
    simpa using g
   obtain ⟨e1, e2⟩ := syn 6 (by rw [okTo_succ, o5, g5]; rfl) (by decide)
   rw [e1, e2]
   exact le_tu le_nil (LeD.refl _)
  have g5 : numB (wAt 32 P 5) 10 (decide (5 < 3)) = true := by
   have g : (!numB (wAt 32 P 5) 10 false) = false := g
   simpa using g
  have o6 : okTo P 6 = true := by rw [okTo_succ, o5, g5]; rfl
  refine ⟨⟨by decide, by decide⟩, ⟨by decide, by omega⟩, ⟨by decide, by decide, hs 6⟩, cond_i (fun _ => ⟨by trivial, trivial⟩) (fun w => ⟨⟨by decide, by omega⟩, ⟨by decide, (by have := num_pos (w := wAt 32 P 6) (dg := 10) (by simpa using w); omega)⟩, trivial⟩), lt_i fun y6 hy6 => ?_⟩
  rw [show ((10 : Int)).toNat = 10 from rfl, num_b7] at hy6
  subst hy6
  refine cond_i (fun g => ?_) (fun g => ?_)
  ·have g6 : numB (wAt 32 P 6) 10 (decide (6 < 3)) = false := by
    have g : (!numB (wAt 32 P 6) 10 false) = true := g
    simpa using g
   obtain ⟨e1, e2⟩ := syn 7 (by rw [okTo_succ, o6, g6]; rfl) (by decide)
   rw [e1, e2]
   exact le_tu le_nil (LeD.refl _)
  have g6 : numB (wAt 32 P 6) 10 (decide (6 < 3)) = true := by
   have g : (!numB (wAt 32 P 6) 10 false) = false := g
   simpa using g
  have o7 : okTo P 7 = true := by rw [okTo_succ, o6, g6]; rfl
  refine ⟨⟨by decide, by decide⟩, ⟨by decide, by decide⟩, ⟨by decide, by decide⟩, ⟨by decide, by decide⟩, ⟨by decide, by decide⟩, ⟨by decide, by decide⟩, ⟨by decide, by decide⟩, ⟨by decide, by decide⟩, by simp [roomP, maxLen, hsK_len]; omega, lt_i fun x hx => ?_⟩
  rw [wi (by omega)] at hx
  subst hx
  refine ⟨_, _, rfl, q, by omega, by omega, by omega, ?_, fun j hj => ?_⟩
  ·rw [show ((k : Int) + 1).toNat = k + 1 from rfl, hsK_succ, List.map_append, hp]
   unfold hitOf
   rw [phC_yes o1, phC_yes o2, phC_yes o3, phC_yes o4, phC_yes o5, phC_yes o6, phC_yes o7]
   rfl
  ·rw [show ((k : Int) + 1).toNat = k + 1 from rfl] at hj
   rcases (by omega : j < k ∨ j = k) with c | rfl
   ·exact i5 j c
   ·rw [hp]; exact o7
 ·have ek : k = nPc 59 tx := by have := of_decide_eq_false h; omega
  subst ek
  have e : phE tx = hitsE (hsK tx (nPc 59 tx)) := by unfold phE; rw [if_neg (by omega), if_neg (by rw [synH_yes i5]; simp)]
  rw [← e]
  refine ⟨numsP_hitg _, cond_i (fun g => ?_) (fun g => ?_)⟩
  ·have g : phE tx ≠ 0 := by simpa using g
   rw [show phL tx = [] from if_neg g]
   exact le_tu le_nil (LeD.refl _)
  ·have g : phE tx = 0 := by simpa using g
   rw [show phL tx = hsK tx (nPc 59 tx) from if_pos g, g]
   exact le_tu (le_hits _) (LeD.refl _)
theorem zero_ref06_ParseHits_0 (tx : ByteArray) (v0_0 : List (List CV)) (v0_1 : Int)  (hi : tx.size ≤ 60000 ∧ 0 ≤ v0_1 ∧ v0_1 ≤ nPc 59 tx ∧ (0 : Int) + v0_1 = nPc 59 tx + 1 ∧ v0_0 = (hsK tx v0_1.toNat).map hitCv ∧ ∀ j, j < v0_1.toNat → hitB (partB tx j) = true) : False := by
 omega
theorem spec_ref06_ParseHits (tx : ByteArray) (hp : (tx).size ≤ 100000000) : vc_ref06_ParseHits (J_ref06_ParseHits tx) tx (fun r => LeD r (.tu [.c (.sl 7 ((phL tx).length) (hitsC (phL tx))), .c (.v (.int .i64 (phE tx)))])) := by
 unfold vc_ref06_ParseHits
 refine cond_i (fun h => ?_) (fun h => ?_)
 ·have h := of_decide_eq_true h
  have e : phE tx = 8 := if_pos (by omega)
  rw [show phL tx = [] from if_neg (by rw [e]; decide), e]
  exact le_tu le_nil (LeD.refl _)
 ·have h := of_decide_eq_false h
  exact ⟨⟨by decide, by decide, by omega⟩, nPc 59 tx + 1, _, 0, rfl, by omega, by omega, by omega, by omega, rfl, fun j hj => absurd hj (Nat.not_lt_zero _)⟩
theorem all_ref06_ParseHits (tx : ByteArray) (hp : (tx).size ≤ 100000000) : AllG (J_ref06_ParseHits tx) (loopsFn Tryz.prog tab Shc102 ann_ref06_ParseHits (J_ref06_ParseHits tx) Tryz.f34 (fun r => LeD r (.tu [.c (.sl 7 ((phL tx).length) (hitsC (phL tx))), .c (.v (.int .i64 (phE tx)))]))) := by
 rw [lp_ref06_ParseHits]
 refine ⟨⟨?_, ?_⟩, trivial⟩
 ·intro F s h
  obtain _ | ⟨g, F⟩ := F
  case cons => exact h.elim
  obtain ⟨w0, w1, rfl, hi⟩ := h
  exact zero_ref06_ParseHits_0 tx w0 w1 hi
 ·intro n F s h
  obtain _ | ⟨g, F⟩ := F
  case cons => exact h.elim
  obtain ⟨w0, w1, rfl, hi⟩ := h
  rw [er_ref06_ParseHits_0]
  exact rnd_ref06_ParseHits_0 tx _ _ _ hp hi
def con_ref06_ParseHits : Con := fun args => match args with
 | [.t (.c (.v (.string tx)))] => some (.tu [.c (.sl 7 ((phL tx).length) (hitsC (phL tx))), .c (.v (.int .i64 (phE tx)))], some ((tx).size ≤ 100000000), false)
 | _ => none
theorem ok_ref06_ParseHits : Ok Tryz.prog 34 con_ref06_ParseHits := by
 refine Ok.fn (ann := ann_ref06_ParseHits) mixed tabOK VShc102 VIlib (fn := Tryz.f34) (by kernel_rfl) (by kernel_rfl) fit_ref06_ParseHits fun args r pre fresh h hp => ?_
 unfold con_ref06_ParseHits at h
 split at h
 ·rename_i tx
  cases h
  refine ⟨rfl, J_ref06_ParseHits tx, _, LeA.refl _, Nat.le_of_ble_eq_true (by kernel_rfl), ?_, ?_⟩
  ·rw [ev_ref06_ParseHits]; exact spec_ref06_ParseHits tx hp
  ·exact all_ref06_ParseHits tx hp
 ·cases h
def Shc103 : Sum := addS Shc102 34 con_ref06_ParseHits
theorem VShc103 : Valid Tryz.prog Shc103 := Valid.add VShc102 ok_ref06_ParseHits
def mk_ref06_ParseVeto_0 (tx : ByteArray) (v0_0 : List Int) (v0_1 : List Int) (v0_2 : List Int) (v0_3 : Int) (v0_4 : Int) : DS := ⟨[none, none, some (.t (.c (.p 2 0))), none, some (.t (.c (.p 4 0))), some (.t (.c (.sl 1 ((cutL tx (UInt8.ofNat ((32 : Int)).toNat)).length) (txsC (cutL tx (UInt8.ofNat ((32 : Int)).toNat)))))), some (.t (.c (.p 6 0))), some (.t (.c (.v (.int .i64 v0_4)))), none, none, none, none, none, none, none, none, none, none, none, none, none, none, none, none, none, none, none, none, none, none, none, none, none, none, none, none, none, none, none, none, none, none, none, none, none, none, none, none, none, none, none, none, none, none, none, none], [some (.num 3 .i64 v0_0), some (.num 3 .i64 v0_1), some (.box 25 [.v (.int .i64 0), .os 0]), some (.num 3 .i64 v0_2), some (.box 25 [.v (.int .i64 0), .os 1]), none, some (.box 25 [.v (.int .i64 v0_3), .os 3]), none, none, none, none, none, none, none, none, none, none, none, none, none, none, none, none, none, none, none, none, none, none, none, none, none, none, none, none, none, none, none, none, none, none, none, none, none, none, none, none, none, none, none, none, none, none, none, none, none]⟩
def vc_ref06_ParseVeto (J : Inv) (tx : ByteArray) (post : DV → Prop) : Prop := (0 ≤ (32 : Int) ∧ (32 : Int) < 256 ∧ (tx).size ≤ 100000000) ∧ (∃ n, J 0 (n :: []) (mk_ref06_ParseVeto_0 tx ([]) ([]) ([]) 0 0))
def ann_ref06_ParseVeto : Ann := ⟨fun _ => none, fun b => lookA b [(0, (none, some ⟨[2, 4, 5, 6, 7], [2, 4, 6], []⟩))], fun b => (lookA b [(0, [(2, 1, 0, .num 3 .i64 ([])), (4, 1, 1, .num 3 .i64 ([])), (6, 1, 3, .num 3 .i64 ([]))])]).getD [], Ilib, false, fun r => lookA r [(8, (3, [37]))], fun _ => none⟩
theorem ev_ref06_ParseVeto (J : Inv) (tx : ByteArray) (post : DV → Prop) : evFn Tryz.prog tab Shc103 ann_ref06_ParseVeto J Tryz.f35 [.t (.c (.v (.string tx)))] post = vc_ref06_ParseVeto J tx post := by kernel_rfl
theorem fit_ref06_ParseVeto : okFn ann_ref06_ParseVeto Tryz.f35 = true := by kernel_rfl
def rd_ref06_ParseVeto_0 (J : Inv) (tx : ByteArray) (v0_0 : List Int) (v0_1 : List Int) (v0_2 : List Int) (v0_3 : Int) (v0_4 : Int) (nn0 : Nat) (post : DV → Prop) : Prop := cond (decide (v0_4 < (((cutL tx (UInt8.ofNat ((32 : Int)).toNat)).length : Nat) : Int))) ((0 ≤ v0_4 ∧ v0_4 < (((cutL tx (UInt8.ofNat ((32 : Int)).toNat)).length : Nat) : Int)) ∧ ((0 ≤ (3 : Int) ∧ (3 : Int) ≤ 17 ∧ ((txAt (cutL tx (UInt8.ofNat ((32 : Int)).toNat)) v0_4.toNat)).size ≤ 100000000) ∧ ((cond (!((numR ((txAt (cutL tx (UInt8.ofNat ((32 : Int)).toNat)) v0_4.toNat)).data.toList ((3 : Int)).toNat).isSome)) ((true = true) ∧ (True)) ((0 ≤ v0_4 ∧ v0_4 < (((cutL tx (UInt8.ofNat ((32 : Int)).toNat)).length : Nat) : Int)) ∧ ((0 ≤ (0 : Int) ∧ (0 : Int) < ((((txAt (cutL tx (UInt8.ofNat ((32 : Int)).toNat)) v0_4.toNat) : ByteArray).size : Nat) : Int)) ∧ (True)))) ∧ (lt ((bif (!((numR ((txAt (cutL tx (UInt8.ofNat ((32 : Int)).toNat)) v0_4.toNat)).data.toList ((3 : Int)).toNat).isSome)) then true else (((((txAt (cutL tx (UInt8.ofNat ((32 : Int)).toNat)) v0_4.toNat) : ByteArray).data.getD 0 0).toNat : Int) == (45 : Int)))) fun x1 => cond x1 (post (.tu [.a [.v (.int .i64 0), .sl 1 v0_1.length (numsC .i64 v0_1)], .c (.v (.int .i64 7))])) (cond (v0_4 == (0 : Int)) (lt (IntKind.i64.wrap (v0_4 + (1 : Int))) fun x2 => J 0 (nn0 :: []) (mk_ref06_ParseVeto_0 tx v0_0 v0_1 v0_2 ((numR ((txAt (cutL tx (UInt8.ofNat ((32 : Int)).toNat)) v0_4.toNat)).data.toList ((3 : Int)).toNat).getD 0) x2)) (((IntKind.i64 = IntKind.i64 ∧ True) ∧ roomP 8 (v0_2.length + ([(numR ((txAt (cutL tx (UInt8.ofNat ((32 : Int)).toNat)) v0_4.toNat)).data.toList ((3 : Int)).toNat).getD 0] : List Int).length)) ∧ (lt (IntKind.i64.wrap (v0_4 + (1 : Int))) fun x3 => J 0 (nn0 :: []) (mk_ref06_ParseVeto_0 tx v0_0 v0_1 (v0_2 ++ ([(numR ((txAt (cutL tx (UInt8.ofNat ((32 : Int)).toNat)) v0_4.toNat)).data.toList ((3 : Int)).toNat).getD 0])) v0_3 x3)))))))) ((numsP 1 v0_2.length (numsC .i64 v0_2)) ∧ (cond ((vetE v0_3 (listC v0_2.length mkInt (numsC .i64 v0_2))) != (0 : Int)) (post (.tu [.a [.v (.int .i64 0), .sl 1 v0_1.length (numsC .i64 v0_1)], .c (.v (.int .i64 (vetE v0_3 (listC v0_2.length mkInt (numsC .i64 v0_2)))))])) (post (.tu [.a [.v (.int .i64 v0_3), .sl 1 v0_2.length (numsC .i64 v0_2)], .c (.v (.int .i64 0))]))))
theorem er_ref06_ParseVeto_0 (J : Inv) (tx : ByteArray) (v0_0 : List Int) (v0_1 : List Int) (v0_2 : List Int) (v0_3 : Int) (v0_4 : Int) (nn0 : Nat) (post : DV → Prop) : round Tryz.prog tab Shc103 ann_ref06_ParseVeto J Tryz.f35 post 0 (nn0 :: []) (mk_ref06_ParseVeto_0 tx v0_0 v0_1 v0_2 v0_3 v0_4) = rd_ref06_ParseVeto_0 J tx v0_0 v0_1 v0_2 v0_3 v0_4 nn0 post := by kernel_rfl
theorem lp_ref06_ParseVeto (J : Inv) (post : DV → Prop) : AllG J (loopsFn Tryz.prog tab Shc103 ann_ref06_ParseVeto J Tryz.f35 post) = (((∀ F s, ¬ J 0 (0 :: F) s) ∧ ∀ n F s, J 0 ((n + 1) :: F) s → round Tryz.prog tab Shc103 ann_ref06_ParseVeto J Tryz.f35 post 0 (n :: F) s) ∧ True) := by kernel_rfl
def J_ref06_ParseVeto (tx : ByteArray) : Inv := fun b F s => match b, F with
 | 0, [nn0] => ∃ (v0_0 : List Int) (v0_1 : List Int) (v0_2 : List Int) (v0_3 : Int) (v0_4 : Int), s = mk_ref06_ParseVeto_0 tx v0_0 v0_1 v0_2 v0_3 v0_4 ∧ (tx.size ≤ 100000 ∧ v0_0 = [] ∧ v0_1 = [] ∧ 0 ≤ v0_4 ∧ v0_4 ≤ nPc 32 tx ∧ (nn0 : Int) + v0_4 = nPc 32 tx + 1 ∧ v0_3 = (nvK tx v0_4.toNat).getD 0 0 ∧ v0_2 = (nvK tx v0_4.toNat).drop 1 ∧ ∀ j, j < v0_4.toNat → numB (wAt 32 tx j) 3 false = true)
 | _, _ => False
theorem rnd_ref06_ParseVeto_0 (tx : ByteArray) (v0_0 : List Int) (v0_1 : List Int) (v0_2 : List Int) (v0_3 : Int) (v0_4 : Int) (nn0 : Nat) (hp : (tx).size ≤ 100000) (hi : tx.size ≤ 100000 ∧ v0_0 = [] ∧ v0_1 = [] ∧ 0 ≤ v0_4 ∧ v0_4 ≤ nPc 32 tx ∧ ((nn0 + 1) : Int) + v0_4 = nPc 32 tx + 1 ∧ v0_3 = (nvK tx v0_4.toNat).getD 0 0 ∧ v0_2 = (nvK tx v0_4.toNat).drop 1 ∧ ∀ j, j < v0_4.toNat → numB (wAt 32 tx j) 3 false = true) : rd_ref06_ParseVeto_0 (J_ref06_ParseVeto tx) tx v0_0 v0_1 v0_2 v0_3 v0_4 nn0 (fun r => LeD r (.tu [.a [.v (.int .i64 (pvF tx)), .sl 1 ((pvS tx).length) (intsC (pvS tx))], .c (.v (.int .i64 (pvE tx)))])) := by
  obtain ⟨q, rfl, rfl, i1, i2, i3, i4, i5, i6⟩ := hi
  obtain ⟨k, rfl⟩ : ∃ k : Nat, v0_4 = k := ⟨v0_4.toNat, by omega⟩
  have hk : (k : Int).toNat = k := rfl
  rw [hk] at i4 i5 i6
  subst i4 i5
  have np := nPc_le 32 tx
  have n0 := nPc_pos 32 tx
  have ln : (nvK tx k).length = k := nvK_len
  unfold rd_ref06_ParseVeto_0
  rw [show (UInt8.ofNat ((32 : Int)).toNat) = 32 from rfl, Int.toNat_natCast, cutL_len, show ((3 : Int)).toNat = 3 from rfl]
  refine cond_i (fun h => ?_) (fun h => ?_)
  · have hlt : k < nPc 32 tx := by have := of_decide_eq_true h; omega
    rw [cutL_at hlt, ofL_data]
    refine ⟨⟨by omega, by omega⟩, ⟨by decide, by decide, by rw [ofL_size]; exact Nat.le_trans wAt_len (by omega)⟩, cond_i (fun _ => ⟨rfl, trivial⟩) (fun w => ⟨⟨by omega, by omega⟩, ⟨by decide, (by have := num_pos (w := wAt 32 tx k) (dg := 3) (by simpa using w); omega)⟩, trivial⟩), lt_i fun y hy => ?_⟩
    rw [num_b7] at hy
    subst hy
    refine cond_i (fun g => ?_) (fun g => ?_)
    · have g : numB (wAt 32 tx k) 3 false = false := by simpa using g
      have e : pvE tx = 7 := by unfold pvE; rw [if_pos (allN_no hlt g)]
      rw [show pvF tx = 0 from if_neg (by rw [e]; decide), show pvS tx = [] from if_neg (by rw [e]; decide), e]
      exact le_tu (leT_a (LeCs.cons (LeC1.refl _) (LeCs.cons (leC_num []) LeCs.nil))) (LeD.refl _)
    have g : numB (wAt 32 tx k) 3 false = true := by simpa using g
    have all : ∀ j, j < k + 1 → numB (wAt 32 tx j) 3 false = true := fun j hj => by
      rcases (by omega : j < k ∨ j = k) with c | rfl
      · exact i6 j c
      · exact g
    refine cond_i (fun c => lt_i fun x hx => ?_) (fun c => ⟨⟨⟨by trivial, trivial⟩, by simp [roomP, maxLen, nvK_len]; omega⟩, lt_i fun x hx => ?_⟩)
    · have c : k = 0 := by have c : (k : Int) = 0 := by simpa using c
                           omega
      subst c
      rw [wi (by omega)] at hx
      subst hx
      exact ⟨_, _, _, _, _, rfl, q, rfl, rfl, by omega, by omega, by omega, rfl, rfl, all⟩
    · have c : 0 < k := by have c : ¬ (k : Int) = 0 := by simpa using c
                           omega
      rw [wi (by omega)] at hx
      subst hx
      refine ⟨_, _, _, _, _, rfl, q, rfl, rfl, by omega, by omega, by omega, head_snoc tx c, drop_snoc tx c, all⟩
  · have ek : k = nPc 32 tx := by have := of_decide_eq_false h; omega
    subst ek
    have e : pvE tx = vetE ((pvX tx).getD 0 0) ((pvX tx).drop 1) := by unfold pvE; rw [if_neg (by rw [allN_yes i6]; simp)]
    rw [show listC ((nvK tx (nPc 32 tx)).drop 1).length mkInt (numsC .i64 ((nvK tx (nPc 32 tx)).drop 1)) = (pvX tx).drop 1 from ints_listC _, show nvK tx (nPc 32 tx) = pvX tx from rfl, ← e]
    refine ⟨fun i j hi hj => rfl, cond_i (fun g => ?_) (fun g => ?_)⟩
    · have g : pvE tx ≠ 0 := by simpa using g
      rw [show pvF tx = 0 from if_neg g, show pvS tx = [] from if_neg g]
      exact le_tu (leT_a (LeCs.cons (LeC1.refl _) (LeCs.cons (leC_num []) LeCs.nil))) (LeD.refl _)
    · have g : pvE tx = 0 := by simpa using g
      rw [show pvF tx = (pvX tx).getD 0 0 from if_pos g, show pvS tx = (pvX tx).drop 1 from if_pos g, g]
      exact le_tu (leT_a (LeCs.cons (LeC1.refl _) (LeCs.cons (leC_num _) LeCs.nil))) (LeD.refl _)
theorem zero_ref06_ParseVeto_0 (tx : ByteArray) (v0_0 : List Int) (v0_1 : List Int) (v0_2 : List Int) (v0_3 : Int) (v0_4 : Int)  (hi : tx.size ≤ 100000 ∧ v0_0 = [] ∧ v0_1 = [] ∧ 0 ≤ v0_4 ∧ v0_4 ≤ nPc 32 tx ∧ (0 : Int) + v0_4 = nPc 32 tx + 1 ∧ v0_3 = (nvK tx v0_4.toNat).getD 0 0 ∧ v0_2 = (nvK tx v0_4.toNat).drop 1 ∧ ∀ j, j < v0_4.toNat → numB (wAt 32 tx j) 3 false = true) : False := by
 omega
theorem spec_ref06_ParseVeto (tx : ByteArray) (hp : (tx).size ≤ 100000) : vc_ref06_ParseVeto (J_ref06_ParseVeto tx) tx (fun r => LeD r (.tu [.a [.v (.int .i64 (pvF tx)), .sl 1 ((pvS tx).length) (intsC (pvS tx))], .c (.v (.int .i64 (pvE tx)))])) := by
 unfold vc_ref06_ParseVeto
 exact ⟨⟨by decide, by decide, by omega⟩, nPc 32 tx + 1, _, _, _, _, 0, rfl, hp, rfl, rfl, by omega, by omega, by omega, rfl, rfl, fun j hj => absurd hj (Nat.not_lt_zero _)⟩
theorem all_ref06_ParseVeto (tx : ByteArray) (hp : (tx).size ≤ 100000) : AllG (J_ref06_ParseVeto tx) (loopsFn Tryz.prog tab Shc103 ann_ref06_ParseVeto (J_ref06_ParseVeto tx) Tryz.f35 (fun r => LeD r (.tu [.a [.v (.int .i64 (pvF tx)), .sl 1 ((pvS tx).length) (intsC (pvS tx))], .c (.v (.int .i64 (pvE tx)))]))) := by
 rw [lp_ref06_ParseVeto]
 refine ⟨⟨?_, ?_⟩, trivial⟩
 ·intro F s h
  obtain _ | ⟨g, F⟩ := F
  case cons => exact h.elim
  obtain ⟨w0, w1, w2, w3, w4, rfl, hi⟩ := h
  exact zero_ref06_ParseVeto_0 tx w0 w1 w2 w3 w4 hi
 ·intro n F s h
  obtain _ | ⟨g, F⟩ := F
  case cons => exact h.elim
  obtain ⟨w0, w1, w2, w3, w4, rfl, hi⟩ := h
  rw [er_ref06_ParseVeto_0]
  exact rnd_ref06_ParseVeto_0 tx _ _ _ _ _ _ hp hi
def con_ref06_ParseVeto : Con := fun args => match args with
 | [.t (.c (.v (.string tx)))] => some (.tu [.a [.v (.int .i64 (pvF tx)), .sl 1 ((pvS tx).length) (intsC (pvS tx))], .c (.v (.int .i64 (pvE tx)))], some ((tx).size ≤ 100000), false)
 | _ => none
theorem ok_ref06_ParseVeto : Ok Tryz.prog 35 con_ref06_ParseVeto := by
 refine Ok.fn (ann := ann_ref06_ParseVeto) mixed tabOK VShc103 VIlib (fn := Tryz.f35) (by kernel_rfl) (by kernel_rfl) fit_ref06_ParseVeto fun args r pre fresh h hp => ?_
 unfold con_ref06_ParseVeto at h
 split at h
 ·rename_i tx
  cases h
  refine ⟨rfl, J_ref06_ParseVeto tx, _, LeA.refl _, Nat.le_of_ble_eq_true (by kernel_rfl), ?_, ?_⟩
  ·rw [ev_ref06_ParseVeto]; exact spec_ref06_ParseVeto tx hp
  ·exact all_ref06_ParseVeto tx hp
 ·cases h
def Shc104 : Sum := addS Shc103 35 con_ref06_ParseVeto
theorem VShc104 : Valid Tryz.prog Shc104 := Valid.add VShc103 ok_ref06_ParseVeto
def mk_ref06_SameHits_0 (l : List FHit) (lu : List FHit) (v0_0 : Int) : DS := ⟨[some (.t (.c (.sl 7 l.length (hitsC l)))), some (.t (.c (.sl 7 lu.length (hitsC lu)))), none, none, none, some (.t (.c (.v (.int .i64 v0_0)))), none, none, none, none, none, none, none, none, none, none, none, none, none, none, none, none, none, none, none, none], [none, none, none, none, none, none, none, none, none, none, none, none, none, none, none, none, none, none, none, none, none, none, none, none, none, none]⟩
def vc_ref06_SameHits (J : Inv) (l : List FHit) (lu : List FHit) (post : DV → Prop) : Prop := cond (((l.length : Nat) : Int) != ((lu.length : Nat) : Int)) (post (.t (.c (.v (.bool false))))) (∃ n, J 0 (n :: []) (mk_ref06_SameHits_0 l lu 0))
def ann_ref06_SameHits : Ann := ⟨fun r => lookA r [(6, ([[], [], [0, 1], [0, 1, 2], [], [], [4, 5], [4, 5, 6], [0, 1, 2, 3, 4, 5, 6, 7]], [[], [], [], [], [], [], [], [], []]))], fun b => lookA b [(0, (none, some ⟨[0, 1, 5], [], []⟩))], fun _ => [], Ilib, false, fun _ => none, fun _ => none⟩
theorem ev_ref06_SameHits (J : Inv) (l : List FHit) (lu : List FHit) (post : DV → Prop) : evFn Tryz.prog tab Shc104 ann_ref06_SameHits J Tryz.f38 [.t (.c (.sl 7 l.length (hitsC l))), .t (.c (.sl 7 lu.length (hitsC lu)))] post = vc_ref06_SameHits J l lu post := by kernel_rfl
theorem fit_ref06_SameHits : okFn ann_ref06_SameHits Tryz.f38 = true := by kernel_rfl
def rd_ref06_SameHits_0 (J : Inv) (l : List FHit) (lu : List FHit) (v0_0 : Int) (nn0 : Nat) (post : DV → Prop) : Prop := cond (decide (v0_0 < ((l.length : Nat) : Int))) ((0 ≤ v0_0 ∧ v0_0 < ((l.length : Nat) : Int)) ∧ ((0 ≤ v0_0 ∧ v0_0 < ((lu.length : Nat) : Int)) ∧ (cond (!(bif (bif (((hitAt l v0_0.toNat).p.x) == ((hitAt lu v0_0.toNat).p.x)) then (bif (((hitAt l v0_0.toNat).p.y) == ((hitAt lu v0_0.toNat).p.y)) then (bif (((hitAt l v0_0.toNat).p.z) == ((hitAt lu v0_0.toNat).p.z)) then true else false) else false) else false) then (bif (bif (((hitAt l v0_0.toNat).t.lo) == ((hitAt lu v0_0.toNat).t.lo)) then (bif (((hitAt l v0_0.toNat).t.hi) == ((hitAt lu v0_0.toNat).t.hi)) then true else false) else false) then (bif (bif (((hitAt l v0_0.toNat).c.lo) == ((hitAt lu v0_0.toNat).c.lo)) then (bif (((hitAt l v0_0.toNat).c.hi) == ((hitAt lu v0_0.toNat).c.hi)) then true else false) else false) then true else false) else false) else false)) (post (.t (.c (.v (.bool false))))) (lt (IntKind.i64.wrap (v0_0 + (1 : Int))) fun x1 => J 0 (nn0 :: []) (mk_ref06_SameHits_0 l lu x1))))) (post (.t (.c (.v (.bool true)))))
theorem er_ref06_SameHits_0 (J : Inv) (l : List FHit) (lu : List FHit) (v0_0 : Int) (nn0 : Nat) (post : DV → Prop) : round Tryz.prog tab Shc104 ann_ref06_SameHits J Tryz.f38 post 0 (nn0 :: []) (mk_ref06_SameHits_0 l lu v0_0) = rd_ref06_SameHits_0 J l lu v0_0 nn0 post := by kernel_rfl
theorem lp_ref06_SameHits (J : Inv) (post : DV → Prop) : AllG J (loopsFn Tryz.prog tab Shc104 ann_ref06_SameHits J Tryz.f38 post) = (((∀ F s, ¬ J 0 (0 :: F) s) ∧ ∀ n F s, J 0 ((n + 1) :: F) s → round Tryz.prog tab Shc104 ann_ref06_SameHits J Tryz.f38 post 0 (n :: F) s) ∧ True) := by kernel_rfl
def J_ref06_SameHits (l : List FHit) (lu : List FHit) : Inv := fun b F s => match b, F with
 | 0, [nn0] => ∃ (v0_0 : Int), s = mk_ref06_SameHits_0 l lu v0_0 ∧ (l.length ≤ 100000000 ∧ 0 ≤ v0_0 ∧ v0_0 ≤ l.length ∧ (nn0 : Int) + v0_0 = l.length + 1 ∧ l.length = lu.length ∧ ∀ j : Nat, (j : Int) < v0_0 → hitAt l j = hitAt lu j)
 | _, _ => False
theorem rnd_ref06_SameHits_0 (l : List FHit) (lu : List FHit) (v0_0 : Int) (nn0 : Nat) (hp : (l).length ≤ 100000000) (hi : l.length ≤ 100000000 ∧ 0 ≤ v0_0 ∧ v0_0 ≤ l.length ∧ ((nn0 + 1) : Int) + v0_0 = l.length + 1 ∧ l.length = lu.length ∧ ∀ j : Nat, (j : Int) < v0_0 → hitAt l j = hitAt lu j) : rd_ref06_SameHits_0 (J_ref06_SameHits l lu) l lu v0_0 nn0 (fun r => LeD r (.t (.c (.v (.bool (decide (l = lu))))))) := by
 obtain ⟨q, i1, i2, i3, i4, i5⟩ := hi
 obtain ⟨k, rfl⟩ : ∃ k : Nat, v0_0 = k := ⟨v0_0.toNat, by omega⟩
 have hk : (k : Int).toNat = k := rfl
 unfold rd_ref06_SameHits_0
 rw [hk]
 refine cond_i (fun h => ?_) (fun h => leB ?_)
 ·have hlt : k < l.length := by have := of_decide_eq_true h; omega
  refine ⟨⟨by omega, by omega⟩, ⟨by omega, by omega⟩, ?_⟩
  rw [hit_eqB]
  refine cond_i (fun g => leB ?_) (fun g => lt_i fun x1 h1 => ?_)
  ·have g : hitAt l k ≠ hitAt lu k := by simpa using g
   refine (decide_eq_false ?_).symm
   rintro rfl
   exact g rfl
  ·have g : hitAt l k = hitAt lu k := by simpa using g
   rw [wi (by omega)] at h1
   subst h1
   exact ⟨_, rfl, q, by omega, by omega, by omega, i4, fun j hj => by
    by_cases e : j = k
    ·rw [e]; exact g
    ·exact i5 j (by omega)⟩
 ·have h := of_decide_eq_false h
  refine (decide_eq_true (List.ext_getElem i4 fun j h1 h2 => ?_)).symm
  have := i5 j (by omega)
  simpa [hitAt, List.getD, h1, h2] using this
theorem zero_ref06_SameHits_0 (l : List FHit) (lu : List FHit) (v0_0 : Int)  (hi : l.length ≤ 100000000 ∧ 0 ≤ v0_0 ∧ v0_0 ≤ l.length ∧ (0 : Int) + v0_0 = l.length + 1 ∧ l.length = lu.length ∧ ∀ j : Nat, (j : Int) < v0_0 → hitAt l j = hitAt lu j) : False := by
 omega
theorem spec_ref06_SameHits (l : List FHit) (lu : List FHit) (hp : (l).length ≤ 100000000) : vc_ref06_SameHits (J_ref06_SameHits l lu) l lu (fun r => LeD r (.t (.c (.v (.bool (decide (l = lu))))))) := by
 unfold vc_ref06_SameHits
 refine cond_i (fun h => leB ?_) (fun h => ?_)
 ·refine (decide_eq_false ?_).symm
  rintro rfl
  simp at h
 ·have h : l.length = lu.length := by
   have h : (l.length : Int) = lu.length := by simpa using h
   omega
  exact ⟨l.length + 1, 0, rfl, hp, by omega, by omega, by omega, h, fun j hj => by omega⟩
theorem all_ref06_SameHits (l : List FHit) (lu : List FHit) (hp : (l).length ≤ 100000000) : AllG (J_ref06_SameHits l lu) (loopsFn Tryz.prog tab Shc104 ann_ref06_SameHits (J_ref06_SameHits l lu) Tryz.f38 (fun r => LeD r (.t (.c (.v (.bool (decide (l = lu)))))))) := by
 rw [lp_ref06_SameHits]
 refine ⟨⟨?_, ?_⟩, trivial⟩
 ·intro F s h
  obtain _ | ⟨g, F⟩ := F
  case cons => exact h.elim
  obtain ⟨w0, rfl, hi⟩ := h
  exact zero_ref06_SameHits_0 l lu w0 hi
 ·intro n F s h
  obtain _ | ⟨g, F⟩ := F
  case cons => exact h.elim
  obtain ⟨w0, rfl, hi⟩ := h
  rw [er_ref06_SameHits_0]
  exact rnd_ref06_SameHits_0 l lu _ _ hp hi
def con_ref06_SameHits : Con := fun args => match args with
 | [.t (.c (.sl 7 n_l c_l)), .t (.c (.sl 7 n_lu c_lu))] => some (.t (.c (.v (.bool (decide ((listC n_l mkHit c_l) = (listC n_lu mkHit c_lu)))))), some (numsP 7 n_l c_l ∧ numsP 7 n_lu c_lu ∧ ((listC n_l mkHit c_l)).length ≤ 100000000), false)
 | _ => none
theorem ok_ref06_SameHits : Ok Tryz.prog 38 con_ref06_SameHits := by
 refine Ok.fn (ann := ann_ref06_SameHits) mixed tabOK VShc104 VIlib (fn := Tryz.f38) (by kernel_rfl) (by kernel_rfl) fit_ref06_SameHits fun args r pre fresh h hp => ?_
 unfold con_ref06_SameHits at h
 split at h
 ·rename_i n_l c_l n_lu c_lu
  cases h
  obtain ⟨hp0, hp1, hp⟩ := hp
  refine ⟨rfl, J_ref06_SameHits (listC n_l mkHit c_l) (listC n_lu mkHit c_lu), [.t (.c (.sl 7 ((listC n_l mkHit c_l).length) (hitsC (listC n_l mkHit c_l)))), .t (.c (.sl 7 ((listC n_lu mkHit c_lu).length) (hitsC (listC n_lu mkHit c_lu))))], ?_, Nat.le_of_ble_eq_true (by kernel_rfl), ?_, ?_⟩
  ·exact (LeA_cons (leT_c ((leL_FHit hp0))) (LeA_cons (leT_c ((leL_FHit hp1))) LeA_nil))
  ·rw [ev_ref06_SameHits]; exact spec_ref06_SameHits (listC n_l mkHit c_l) (listC n_lu mkHit c_lu) hp
  ·exact all_ref06_SameHits (listC n_l mkHit c_l) (listC n_lu mkHit c_lu) hp
 ·cases h
def Shc105 : Sum := addS Shc104 38 con_ref06_SameHits
theorem VShc105 : Valid Tryz.prog Shc105 := Valid.add VShc104 ok_ref06_SameHits
def vc_ref06_SameVeto (f : Int) (v : List Int) (fu : Int) (vu : List Int) (post : DV → Prop) : Prop := (cond (f == fu) ((numsP 1 v.length (intsC v) ∧ numsP 1 vu.length (intsC vu) ∧ ((listC v.length mkInt (intsC v))).length ≤ 1000000) ∧ (True)) ((false = false) ∧ (True))) ∧ (lt ((bif (f == fu) then decide ((listC v.length mkInt (intsC v)) = (listC vu.length mkInt (intsC vu))) else false)) fun x1 => post (.t (.c (.v (.bool x1)))))
def ann_ref06_SameVeto : Ann := ⟨fun _ => none, fun _ => none, fun _ => [], Ilib, false, fun r => lookA r [(1, (6, [4]))], fun _ => none⟩
theorem ev_ref06_SameVeto (J : Inv) (f : Int) (v : List Int) (fu : Int) (vu : List Int) (post : DV → Prop) : evFn Tryz.prog tab Shc105 ann_ref06_SameVeto J Tryz.f13 [.t (.a [.v (.int .i64 f), .sl 1 v.length (intsC v)]), .t (.a [.v (.int .i64 fu), .sl 1 vu.length (intsC vu)])] post = vc_ref06_SameVeto f v fu vu post := by kernel_rfl
theorem fit_ref06_SameVeto : okFn ann_ref06_SameVeto Tryz.f13 = true := by kernel_rfl
theorem lp_ref06_SameVeto (J : Inv) (post : DV → Prop) : AllG J (loopsFn Tryz.prog tab Shc105 ann_ref06_SameVeto J Tryz.f13 post) = (True) := by kernel_rfl
theorem spec_ref06_SameVeto (f : Int) (v : List Int) (fu : Int) (vu : List Int) (hp : (v).length ≤ 1000000) : vc_ref06_SameVeto f v fu vu (fun r => LeD r (.t (.c (.v (.bool (decide (f = fu ∧ v = vu))))))) := by
 unfold vc_ref06_SameVeto
 rw [ints_listC, ints_listC]
 refine ⟨cond_i (fun _ => ⟨⟨numsP_ints _, numsP_ints _, hp⟩, trivial⟩) (fun _ => ⟨rfl, trivial⟩), lt_i fun x1 h1 => leB ?_⟩
 rw [← h1]
 by_cases c : f = fu
 ·subst c; simp
 ·have : (f == fu) = false := by simpa using c
  rw [this]
  simp [c]
def con_ref06_SameVeto : Con := fun args => match args with
 | [.t (.a [.v (.int .i64 f), .sl 1 n_v c_v]), .t (.a [.v (.int .i64 fu), .sl 1 n_vu c_vu])] => some (.t (.c (.v (.bool (decide (f = fu ∧ (listC n_v mkInt c_v) = (listC n_vu mkInt c_vu)))))), some (numsP 1 n_v c_v ∧ numsP 1 n_vu c_vu ∧ ((listC n_v mkInt c_v)).length ≤ 1000000), false)
 | _ => none
theorem ok_ref06_SameVeto : Ok Tryz.prog 13 con_ref06_SameVeto := by
 refine Ok.fn (ann := ann_ref06_SameVeto) mixed tabOK VShc105 VIlib (fn := Tryz.f13) (by kernel_rfl) (by kernel_rfl) fit_ref06_SameVeto fun args r pre fresh h hp => ?_
 unfold con_ref06_SameVeto at h
 split at h
 ·rename_i f n_v c_v fu n_vu c_vu
  cases h
  obtain ⟨hp0, hp1, hp⟩ := hp
  refine ⟨rfl, fun _ _ _ => False, [.t (.a [.v (.int .i64 f), .sl 1 ((listC n_v mkInt c_v).length) (intsC (listC n_v mkInt c_v))]), .t (.a [.v (.int .i64 fu), .sl 1 ((listC n_vu mkInt c_vu).length) (intsC (listC n_vu mkInt c_vu))])], ?_, Nat.le_of_ble_eq_true (by kernel_rfl), ?_, ?_⟩
  ·exact (LeA_cons (leT_a (LeCs.cons (LeC1.refl _) (LeCs.cons ((leL_int hp0)) LeCs.nil))) (LeA_cons (leT_a (LeCs.cons (LeC1.refl _) (LeCs.cons ((leL_int hp1)) LeCs.nil))) LeA_nil))
  ·rw [ev_ref06_SameVeto]; exact spec_ref06_SameVeto f (listC n_v mkInt c_v) fu (listC n_vu mkInt c_vu) hp
  ·rw [lp_ref06_SameVeto]; trivial
 ·cases h
def Shc106 : Sum := addS Shc105 13 con_ref06_SameVeto
theorem VShc106 : Valid Tryz.prog Shc106 := Valid.add VShc105 ok_ref06_SameVeto
end Go.Proofs.YtdkpgodakmailaaGreatDoor
set_option linter.unusedVariables false
set_option linter.unusedSimpArgs false
namespace Go.Proofs.YtdkpgodakmailaaGreatDoor
open Go.RowKit Ev
def vc_law06_FlashStrings (l : List FHit) (f : Int) (v : List Int) (tx : ByteArray) (post : DV → Prop) : Prop := (numsP 7 l.length (hitsC l)) ∧ ((cond (!(decide (((listC l.length mkHit (hitsC l))).length ≤ 10))) ((true = true) ∧ ((true = true) ∧ ((true = true) ∧ (True)))) (cond (decide (((v.length : Nat) : Int) > (10 : Int))) ((true = true) ∧ ((true = true) ∧ (True))) (cond (decide ((((tx : ByteArray).size : Nat) : Int) > (300 : Int))) (cond (decide ((((tx : ByteArray).size : Nat) : Int) ≤ (60000 : Int))) ((true = true) ∧ (True)) (True)) ((false = false) ∧ (True))))) ∧ (lt ((bif (!(decide (((listC l.length mkHit (hitsC l))).length ≤ 10))) then true else (bif decide (((v.length : Nat) : Int) > (10 : Int)) then true else (bif decide ((((tx : ByteArray).size : Nat) : Int) > (300 : Int)) then (bif decide ((((tx : ByteArray).size : Nat) : Int) ≤ (60000 : Int)) then true else decide ((((tx : ByteArray).size : Nat) : Int) > (60010 : Int))) else decide ((((tx : ByteArray).size : Nat) : Int) > (60010 : Int)))))) fun x1 => cond x1 (post (.t (.c (.v (.bool true))))) ((numsP 7 l.length (hitsC l) ∧ ((listC l.length mkHit (hitsC l))).length ≤ 1000) ∧ ((numsP 7 ((listC l.length mkHit (hitsC l)).length) (hitsC (listC l.length mkHit (hitsC l))) ∧ ((listC ((listC l.length mkHit (hitsC l)).length) mkHit (hitsC (listC l.length mkHit (hitsC l))))).length ≤ 10 ∧ ∀ k, k < ((listC ((listC l.length mkHit (hitsC l)).length) mkHit (hitsC (listC l.length mkHit (hitsC l))))).length → rgH (hitAt (listC ((listC l.length mkHit (hitsC l)).length) mkHit (hitsC (listC l.length mkHit (hitsC l)))) k)) ∧ ((numsP 1 v.length (intsC v) ∧ ((listC v.length mkInt (intsC v))).length ≤ 1000000) ∧ ((numsP 1 ((listC v.length mkInt (intsC v)).length) (intsC (listC v.length mkInt (intsC v))) ∧ inI f ∧ ((listC ((listC v.length mkInt (intsC v)).length) mkInt (intsC (listC v.length mkInt (intsC v))))).length ≤ 50 ∧ (∀ i, i < ((listC ((listC v.length mkInt (intsC v)).length) mkInt (intsC (listC v.length mkInt (intsC v))))).length → -9223372036854775808 ≤ ((listC ((listC v.length mkInt (intsC v)).length) mkInt (intsC (listC v.length mkInt (intsC v))))).getD i 0 ∧ ((listC ((listC v.length mkInt (intsC v)).length) mkInt (intsC (listC v.length mkInt (intsC v))))).getD i 0 ≤ 9223372036854775807)) ∧ (((tx).size ≤ 100000000) ∧ (((tx).size ≤ 100000) ∧ (((tx).size ≤ 100000000) ∧ (((tx).size ≤ 100000) ∧ ((numsP 7 l.length (hitsC l) ∧ ((listC l.length mkHit (hitsC l))).length ≤ 10 ∧ ∀ k, k < ((listC l.length mkHit (hitsC l))).length → rgH (hitAt (listC l.length mkHit (hitsC l)) k)) ∧ ((cond (!(((hitsT (listC ((listC l.length mkHit (hitsC l)).length) mkHit (hitsC (listC l.length mkHit (hitsC l))))) : ByteArray).toList == ((hitsT (listC l.length mkHit (hitsC l))) : ByteArray).toList)) ((true = true) ∧ ((true = true) ∧ ((true = true) ∧ ((true = true) ∧ ((true = true) ∧ (True)))))) ((numsP 1 v.length (intsC v) ∧ inI f ∧ ((listC v.length mkInt (intsC v))).length ≤ 50 ∧ (∀ i, i < ((listC v.length mkInt (intsC v))).length → -9223372036854775808 ≤ ((listC v.length mkInt (intsC v))).getD i 0 ∧ ((listC v.length mkInt (intsC v))).getD i 0 ≤ 9223372036854775807)) ∧ (cond (!(((vtT f (listC ((listC v.length mkInt (intsC v)).length) mkInt (intsC (listC v.length mkInt (intsC v))))) : ByteArray).toList == ((vtT f (listC v.length mkInt (intsC v))) : ByteArray).toList)) ((true = true) ∧ ((true = true) ∧ ((true = true) ∧ ((true = true) ∧ (True))))) (cond ((phE tx) != (phE tx)) ((true = true) ∧ ((true = true) ∧ ((true = true) ∧ (True)))) ((numsP 7 ((phL tx).length) (hitsC (phL tx)) ∧ numsP 7 ((phL tx).length) (hitsC (phL tx)) ∧ ((listC ((phL tx).length) mkHit (hitsC (phL tx)))).length ≤ 100000000) ∧ (cond (!(decide ((listC ((phL tx).length) mkHit (hitsC (phL tx))) = (listC ((phL tx).length) mkHit (hitsC (phL tx)))))) ((true = true) ∧ ((true = true) ∧ (True))) (cond ((pvE tx) != (pvE tx)) ((true = true) ∧ (True)) ((numsP 1 ((pvS tx).length) (intsC (pvS tx)) ∧ numsP 1 ((pvS tx).length) (intsC (pvS tx)) ∧ ((listC ((pvS tx).length) mkInt (intsC (pvS tx)))).length ≤ 1000000) ∧ (True))))))))) ∧ (lt ((bif (!(((hitsT (listC ((listC l.length mkHit (hitsC l)).length) mkHit (hitsC (listC l.length mkHit (hitsC l))))) : ByteArray).toList == ((hitsT (listC l.length mkHit (hitsC l))) : ByteArray).toList)) then true else (bif (!(((vtT f (listC ((listC v.length mkInt (intsC v)).length) mkInt (intsC (listC v.length mkInt (intsC v))))) : ByteArray).toList == ((vtT f (listC v.length mkInt (intsC v))) : ByteArray).toList)) then true else (bif ((phE tx) != (phE tx)) then true else (bif (!(decide ((listC ((phL tx).length) mkHit (hitsC (phL tx))) = (listC ((phL tx).length) mkHit (hitsC (phL tx)))))) then true else (bif ((pvE tx) != (pvE tx)) then true else (!(decide ((pvF tx) = (pvF tx) ∧ (listC ((pvS tx).length) mkInt (intsC (pvS tx))) = (listC ((pvS tx).length) mkInt (intsC (pvS tx)))))))))))) fun x2 => cond x2 (post (.t (.c (.v (.bool false))))) ((numsP 7 l.length (hitsC l)) ∧ (cond ((hitsE (listC l.length mkHit (hitsC l))) == (0 : Int)) ((((hitsT (listC ((listC l.length mkHit (hitsC l)).length) mkHit (hitsC (listC l.length mkHit (hitsC l)))))).size ≤ 100000000) ∧ ((cond ((phE (hitsT (listC ((listC l.length mkHit (hitsC l)).length) mkHit (hitsC (listC l.length mkHit (hitsC l)))))) != (0 : Int)) ((true = true) ∧ (True)) ((numsP 7 ((phL (hitsT (listC ((listC l.length mkHit (hitsC l)).length) mkHit (hitsC (listC l.length mkHit (hitsC l)))))).length) (hitsC (phL (hitsT (listC ((listC l.length mkHit (hitsC l)).length) mkHit (hitsC (listC l.length mkHit (hitsC l))))))) ∧ numsP 7 l.length (hitsC l) ∧ ((listC ((phL (hitsT (listC ((listC l.length mkHit (hitsC l)).length) mkHit (hitsC (listC l.length mkHit (hitsC l)))))).length) mkHit (hitsC (phL (hitsT (listC ((listC l.length mkHit (hitsC l)).length) mkHit (hitsC (listC l.length mkHit (hitsC l))))))))).length ≤ 100000000) ∧ (True))) ∧ (lt ((bif ((phE (hitsT (listC ((listC l.length mkHit (hitsC l)).length) mkHit (hitsC (listC l.length mkHit (hitsC l)))))) != (0 : Int)) then true else (!(decide ((listC ((phL (hitsT (listC ((listC l.length mkHit (hitsC l)).length) mkHit (hitsC (listC l.length mkHit (hitsC l)))))).length) mkHit (hitsC (phL (hitsT (listC ((listC l.length mkHit (hitsC l)).length) mkHit (hitsC (listC l.length mkHit (hitsC l)))))))) = (listC l.length mkHit (hitsC l))))))) fun x3 => cond x3 (post (.t (.c (.v (.bool false))))) ((numsP 1 v.length (intsC v)) ∧ (cond ((vetE f (listC v.length mkInt (intsC v))) != (0 : Int)) (post (.t (.c (.v (.bool true))))) ((((vtT f (listC ((listC v.length mkInt (intsC v)).length) mkInt (intsC (listC v.length mkInt (intsC v)))))).size ≤ 100000) ∧ ((cond ((pvE (vtT f (listC ((listC v.length mkInt (intsC v)).length) mkInt (intsC (listC v.length mkInt (intsC v)))))) == (0 : Int)) ((numsP 1 ((pvS (vtT f (listC ((listC v.length mkInt (intsC v)).length) mkInt (intsC (listC v.length mkInt (intsC v)))))).length) (intsC (pvS (vtT f (listC ((listC v.length mkInt (intsC v)).length) mkInt (intsC (listC v.length mkInt (intsC v))))))) ∧ numsP 1 v.length (intsC v) ∧ ((listC ((pvS (vtT f (listC ((listC v.length mkInt (intsC v)).length) mkInt (intsC (listC v.length mkInt (intsC v)))))).length) mkInt (intsC (pvS (vtT f (listC ((listC v.length mkInt (intsC v)).length) mkInt (intsC (listC v.length mkInt (intsC v))))))))).length ≤ 1000000) ∧ (True)) ((false = false) ∧ (True))) ∧ (lt ((bif ((pvE (vtT f (listC ((listC v.length mkInt (intsC v)).length) mkInt (intsC (listC v.length mkInt (intsC v)))))) == (0 : Int)) then decide ((pvF (vtT f (listC ((listC v.length mkInt (intsC v)).length) mkInt (intsC (listC v.length mkInt (intsC v)))))) = f ∧ (listC ((pvS (vtT f (listC ((listC v.length mkInt (intsC v)).length) mkInt (intsC (listC v.length mkInt (intsC v)))))).length) mkInt (intsC (pvS (vtT f (listC ((listC v.length mkInt (intsC v)).length) mkInt (intsC (listC v.length mkInt (intsC v)))))))) = (listC v.length mkInt (intsC v))) else false)) fun x4 => post (.t (.c (.v (.bool x4)))))))))))) ((numsP 1 v.length (intsC v)) ∧ (cond ((vetE f (listC v.length mkInt (intsC v))) != (0 : Int)) (post (.t (.c (.v (.bool true))))) ((((vtT f (listC ((listC v.length mkInt (intsC v)).length) mkInt (intsC (listC v.length mkInt (intsC v)))))).size ≤ 100000) ∧ ((cond ((pvE (vtT f (listC ((listC v.length mkInt (intsC v)).length) mkInt (intsC (listC v.length mkInt (intsC v)))))) == (0 : Int)) ((numsP 1 ((pvS (vtT f (listC ((listC v.length mkInt (intsC v)).length) mkInt (intsC (listC v.length mkInt (intsC v)))))).length) (intsC (pvS (vtT f (listC ((listC v.length mkInt (intsC v)).length) mkInt (intsC (listC v.length mkInt (intsC v))))))) ∧ numsP 1 v.length (intsC v) ∧ ((listC ((pvS (vtT f (listC ((listC v.length mkInt (intsC v)).length) mkInt (intsC (listC v.length mkInt (intsC v)))))).length) mkInt (intsC (pvS (vtT f (listC ((listC v.length mkInt (intsC v)).length) mkInt (intsC (listC v.length mkInt (intsC v))))))))).length ≤ 1000000) ∧ (True)) ((false = false) ∧ (True))) ∧ (lt ((bif ((pvE (vtT f (listC ((listC v.length mkInt (intsC v)).length) mkInt (intsC (listC v.length mkInt (intsC v)))))) == (0 : Int)) then decide ((pvF (vtT f (listC ((listC v.length mkInt (intsC v)).length) mkInt (intsC (listC v.length mkInt (intsC v)))))) = f ∧ (listC ((pvS (vtT f (listC ((listC v.length mkInt (intsC v)).length) mkInt (intsC (listC v.length mkInt (intsC v)))))).length) mkInt (intsC (pvS (vtT f (listC ((listC v.length mkInt (intsC v)).length) mkInt (intsC (listC v.length mkInt (intsC v)))))))) = (listC v.length mkInt (intsC v))) else false)) fun x5 => post (.t (.c (.v (.bool x5))))))))))))))))))))))))
def ann_law06_FlashStrings : Ann := ⟨fun r => lookA r [(5, ([[], [0], [0, 1], [], [0, 1, 2, 3], [0, 1, 2, 3, 4], [0, 1, 2, 3, 4, 5], [0, 1, 2, 3, 4, 5, 6]], [[48, 49, 51, 52], [49, 51, 52], [51, 52], [48, 49, 51, 52], [52], [], [], []]))], fun _ => none, fun _ => [], Ilib, false, fun r => lookA r [(3, (4, [46])), (10, (5, [104])), (14, (3, [120])), (19, (3, [6]))], fun _ => none⟩
theorem ev_law06_FlashStrings (J : Inv) (l : List FHit) (f : Int) (v : List Int) (tx : ByteArray) (post : DV → Prop) : evFn Tryz.prog tab Shc106 ann_law06_FlashStrings J Tryz.f4 [.t (.c (.sl 7 l.length (hitsC l))), .t (.a [.v (.int .i64 f), .sl 1 v.length (intsC v)]), .t (.c (.v (.string tx)))] post = vc_law06_FlashStrings l f v tx post := by kernel_rfl
theorem fit_law06_FlashStrings : okFn ann_law06_FlashStrings Tryz.f4 = true := by kernel_rfl
theorem lp_law06_FlashStrings (J : Inv) (post : DV → Prop) : AllG J (loopsFn Tryz.prog tab Shc106 ann_law06_FlashStrings J Tryz.f4 post) = (True) := by kernel_rfl
set_option maxHeartbeats 8000000 in
set_option maxRecDepth 100000 in
theorem spec_law06_FlashStrings (l : List FHit) (f : Int) (v : List Int) (tx : ByteArray) (hp : (∀ k, k < (l).length → rgH (hitAt l k)) ∧ inI f ∧ (∀ i, i < (v).length → -9223372036854775808 ≤ (v).getD i 0 ∧ (v).getD i 0 ≤ 9223372036854775807)) : vc_law06_FlashStrings l f v tx (fun r => LeD r (.t (.c (.v (.bool true))))) := by
 unfold vc_law06_FlashStrings
 simp only [hits_listC, ints_listC, beq_self_eq_true, bne_self_eq_false, Bool.not_true, cond_false, cond_true, and_self, decide_true]
 obtain ⟨p1, p2, p3⟩ := hp
 refine ⟨numsP_hits _, cond_i (fun _ => by simp) (fun _ => cond_i (fun _ => by simp) (fun _ => cond_i (fun _ => cond_i (fun _ => by simp) (fun _ => trivial)) (fun _ => by simp))), lt_i fun x1 h1 => cond_i (fun _ => LeD.refl _) (fun g => ?_)⟩
 subst g
 have h10 : l.length ≤ 10 := by
  by_cases c : l.length ≤ 10
  ·exact c
  ·rw [decide_eq_false c] at h1; cases h1
 rw [decide_eq_true h10] at h1
 have hv : v.length ≤ 10 := by
  by_cases c : ((v.length : Nat) : Int) > 10
  ·rw [decide_eq_true c] at h1; cases h1
  ·omega
 have hz : tx.size ≤ 60010 := by
  rcases Nat.lt_or_ge 60010 tx.size with c | c
  ·rw [decide_eq_false (show ¬ ((v.length : Nat) : Int) > 10 by omega), decide_eq_true (show ((tx.size : Nat) : Int) > 300 by omega), decide_eq_false (show ¬ ((tx.size : Nat) : Int) ≤ 60000 by omega), decide_eq_true (show ((tx.size : Nat) : Int) > 60010 by omega)] at h1
   cases h1
  ·exact c
 clear h1
 have z := hitsT_len h10 p1
 have zv : (vtT f v).size ≤ (v.length + 1) * 21 := wordsB_len (l := f :: v) fun i hi => by
  rcases i with _ | i
  ·exact p2
  ·exact p3 i (by simpa using hi)
 have P1 := phL_len tx (by omega)
 have P2 := phL_len (hitsT l) (by omega)
 have S1 := pvS_len tx (by omega)
 have S2 := pvS_len (vtT f v) (by omega)
 have nh := numsP_hits
 have ni := numsP_ints
 refine ⟨⟨nh _, by omega⟩, ⟨nh _, h10, p1⟩, ⟨ni _, by omega⟩, ⟨ni _, p2, by omega, p3⟩, by omega, by omega, by omega, by omega, ⟨nh _, h10, p1⟩, ⟨⟨ni _, p2, by omega, p3⟩, ⟨nh _, nh _, by omega⟩, ⟨ni _, ni _, by omega⟩, trivial⟩, lt_i fun x2 h2 => ?_⟩
 subst h2
 simp only [cond_false]
 have tailV : vetE f v = 0 → pvE (vtT f v) = 0 ∧ pvF (vtT f v) = f ∧ pvS (vtT f v) = v := veto_back
 have T : ∀ {A : Prop}, ((vetE f v != 0) = false → A) → cond (vetE f v != 0) (LeD (.t (.c (.v (.bool true)))) (.t (.c (.v (.bool true))))) A := fun h => cond_i (fun _ => LeD.refl _) h
 have N : (vetE f v != 0) = false → vetE f v = 0 := fun h => by simpa using h
 refine ⟨nh _, cond_i (fun h => ⟨by omega, ?_, lt_i fun x3 h3 => ?_⟩) (fun h => ⟨ni _, T fun h => ?_⟩)⟩
 ·obtain ⟨e1, e2⟩ := hits_back (show hitsE l = 0 by simpa using h)
  rw [e1, e2]
  exact ⟨⟨nh _, nh _, by omega⟩, trivial⟩
 ·obtain ⟨e1, e2⟩ := hits_back (show hitsE l = 0 by simpa using h)
  rw [e1, e2] at h3
  simp only [bne_self_eq_false, beq_self_eq_true, cond_true, cond_false, Bool.not_true, decide_true] at h3
  subst h3
  refine ⟨ni _, T fun h => ?_⟩
  obtain ⟨e1, e2, e3⟩ := tailV (N h)
  simp only [e1, e2, e3, ints_listC, beq_self_eq_true, cond_true, and_self, decide_true]
  exact ⟨by omega, ⟨⟨ni _, ni _, by omega⟩, trivial⟩, lt_i fun x4 h4 => by rw [← h4]; exact LeD.refl _⟩
 ·obtain ⟨e1, e2, e3⟩ := tailV (N h)
  simp only [e1, e2, e3, ints_listC, beq_self_eq_true, cond_true, and_self, decide_true]
  exact ⟨by omega, ⟨⟨ni _, ni _, by omega⟩, trivial⟩, lt_i fun x4 h4 => by rw [← h4]; exact LeD.refl _⟩
theorem law_law06_FlashStrings (l : List FHit) (f : Int) (v : List Int) (tx : ByteArray) (hp : (∀ k, k < (l).length → rgH (hitAt l k)) ∧ inI f ∧ (∀ i, i < (v).length → -9223372036854775808 ≤ (v).getD i 0 ∧ (v).getD i 0 ≤ 9223372036854775807)) (W : World) (N : Nat → Prop) (vs : List Value) (hG : Gd W) (h : All2 (RelD (RelF W N)) [.t (.c (.sl 7 l.length (hitsC l))), .t (.a [.v (.int .i64 f), .sl 1 v.length (intsC v)]), .t (.c (.v (.string tx)))] vs) : Calls Tryz.prog 4 vs.toArray W fun e w' => e = .returned (.bool true) ∧ Below W.heap.size W w' :=
 law_end (fn_sound mixed tabOK VShc106 (ann := ann_law06_FlashStrings) VIlib (fn := Tryz.f4) (J := fun _ _ _ => False) (by kernel_rfl) fit_law06_FlashStrings (args := [.t (.c (.sl 7 l.length (hitsC l))), .t (.a [.v (.int .i64 f), .sl 1 v.length (intsC v)]), .t (.c (.v (.string tx)))]) (post := (fun r => LeD r (.t (.c (.v (.bool true)))))) (by rw [ev_law06_FlashStrings]; exact spec_law06_FlashStrings l f v tx hp) (by rw [lp_law06_FlashStrings]; trivial) (Nat.le_of_ble_eq_true (by kernel_rfl)) W N vs hG h)
end Go.Proofs.YtdkpgodakmailaaGreatDoor