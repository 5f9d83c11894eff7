/- Texts of this claim, together. -/
import Derived.Test.YtfadkjcfjkmalaaGreatDoorKE10
import Derived.Test.YtfadkjcfjkmalaaGreatDoorKE11

set_option linter.unusedVariables false
set_option linter.unusedSimpArgs false
namespace Go.Proofs.YtfadkjcfjkmalaaGreatDoor
open Go.RowKit Ev
theorem sz_ne {s : ByteArray} (h : ¬ s = ⟨#[]⟩) : s.size ≠ 0 := by
 intro e
 refine h ?_
 rw [← ofL_back s]
 have : s.data.toList = [] := List.length_eq_zero_iff.1 (by rw [size_data]; exact e)
 rw [this]; rfl
theorem spl_cut (s : ByteArray) (c : UInt8) : splB s ⟨#[c]⟩ = cutL s c := by
 have e := ofL_back s
 rw [← e, splB_one]
 rfl
theorem cells_nums {n : Nat} {c : Nat → CV} (h : numsB n c = true) : (List.range n).map c = (List.range n).map fun i => CV.v (.int .i64 (cvInt (c i))) := List.map_congr_left fun i hi => numsB_get h i (List.mem_range.1 hi)
def Sl51 : Sum := addS Sku50 78 con_Itoa
theorem VSl51 : Valid Tryz.prog Sl51 := Valid.add VSku50 ok_Itoa
def Sl52 : Sum := addS Sl51 85 con_Trim
theorem VSl52 : Valid Tryz.prog Sl52 := Valid.add VSl51 ok_Trim
def Sl53 : Sum := addS Sl52 84 con_Atoi
theorem VSl53 : Valid Tryz.prog Sl53 := Valid.add VSl52 ok_Atoi
def Sl54 : Sum := addS Sl53 37 con_Join
theorem VSl54 : Valid Tryz.prog Sl54 := Valid.add VSl53 ok_Join
def Sl55 : Sum := addS Sl54 83 con_Split
theorem VSl55 : Valid Tryz.prog Sl55 := Valid.add VSl54 ok_Split
def Sl56 : Sum := addS Sl55 38 con_SplitSeq
theorem VSl56 : Valid Tryz.prog Sl56 := Valid.add VSl55 ok_SplitSeq
def Ilib : It := addM noIt 108 it_Split
theorem VIlib : ValidIt Tryz.prog Ilib := ValidIt.addM ValidIt.no ok_itSplit
def mk_track_joined_0 (l : List Int) (v0_0 : List (List CV)) (v0_1 : Int) : DS := ⟨[none, none, none, some (.t (.c (.os 3))), none, none, some (.t (.c (.sl 1 l.length (intsC l)))), some (.t (.c (.v (.int .i64 ((l.length : Nat) : Int))))), some (.t (.c (.v (.int .i64 v0_1)))), none, none, none, none, none, none, none, none, none, none, none], [none, none, none, some (.gen 9 1 v0_0), none, none, none, none, none, none, none, none, none, none, none, none, none, none, none, none]⟩
def vc_track_joined (J : Inv) (l : List Int) (post : DV → Prop) : Prop := ∃ n, J 0 (n :: []) (mk_track_joined_0 l ([]) 0)
def ann_track_joined : Ann := ⟨fun _ => none, fun b => lookA b [(0, (none, some ⟨[6, 7, 8], [], [(3, .gen 9 1 [])]⟩))], fun _ => [], Ilib, false, fun _ => none, fun _ => none⟩
theorem ev_track_joined (J : Inv) (l : List Int) (post : DV → Prop) : evFn Tryz.prog tab Sl56 ann_track_joined J Tryz.f36 [.t (.c (.sl 1 l.length (intsC l)))] post = vc_track_joined J l post := by kernel_rfl
theorem fit_track_joined : okFn ann_track_joined Tryz.f36 = true := by kernel_rfl
def rd_track_joined_0 (J : Inv) (l : List Int) (v0_0 : List (List CV)) (v0_1 : Int) (nn0 : Nat) (post : DV → Prop) : Prop := cond (decide (v0_1 < ((l.length : Nat) : Int))) ((0 ≤ v0_1 ∧ v0_1 < ((l.length : Nat) : Int)) ∧ ((-9223372036854775808 ≤ (l.getD v0_1.toNat 0) ∧ (l.getD v0_1.toNat 0) ≤ 9223372036854775807) ∧ ((roomP 16 (v0_0.length + ([[.v (.string (itoaB (l.getD v0_1.toNat 0)))]] : List (List CV)).length)) ∧ (lt (IntKind.i64.wrap (v0_1 + (1 : Int))) fun x1 => J 0 (nn0 :: []) (mk_track_joined_0 l (v0_0 ++ ([[.v (.string (itoaB (l.getD v0_1.toNat 0)))]] : List (List CV))) x1))))) ((txP v0_0.length (genC v0_0) ∧ (txOf v0_0.length (genC v0_0)).length ≤ 1000000 ∧ (joinB (txOf v0_0.length (genC v0_0)) (⟨#[32]⟩)).size ≤ 1000000000) ∧ (post (.t (.c (.v (.string (joinB (txOf v0_0.length (genC v0_0)) (⟨#[32]⟩))))))))
theorem er_track_joined_0 (J : Inv) (l : List Int) (v0_0 : List (List CV)) (v0_1 : Int) (nn0 : Nat) (post : DV → Prop) : round Tryz.prog tab Sl56 ann_track_joined J Tryz.f36 post 0 (nn0 :: []) (mk_track_joined_0 l v0_0 v0_1) = rd_track_joined_0 J l v0_0 v0_1 nn0 post := by kernel_rfl
theorem lp_track_joined (J : Inv) (post : DV → Prop) : AllG J (loopsFn Tryz.prog tab Sl56 ann_track_joined J Tryz.f36 post) = (((∀ F s, ¬ J 0 (0 :: F) s) ∧ ∀ n F s, J 0 ((n + 1) :: F) s → round Tryz.prog tab Sl56 ann_track_joined J Tryz.f36 post 0 (n :: F) s) ∧ True) := by kernel_rfl
def J_track_joined (l : List Int) : Inv := fun b F s => match b, F with
 | 0, [nn0] => ∃ (v0_0 : List (List CV)) (v0_1 : Int), s = mk_track_joined_0 l v0_0 v0_1 ∧ ((l.length ≤ 100 ∧ (∀ i, i < (l).length → -9223372036854775808 ≤ (l).getD i 0 ∧ (l).getD i 0 ≤ 9223372036854775807)) ∧ 0 ≤ v0_1 ∧ v0_1 ≤ l.length ∧ (nn0 : Int) + v0_1 = l.length + 1 ∧ v0_0 = ((l.take v0_1.toNat).map itoaB).map ttCv)
 | _, _ => False
theorem rnd_track_joined_0 (l : List Int) (v0_0 : List (List CV)) (v0_1 : Int) (nn0 : Nat) (hp : (l).length ≤ 100 ∧ (∀ i, i < (l).length → -9223372036854775808 ≤ (l).getD i 0 ∧ (l).getD i 0 ≤ 9223372036854775807)) (hi : (l.length ≤ 100 ∧ (∀ i, i < (l).length → -9223372036854775808 ≤ (l).getD i 0 ∧ (l).getD i 0 ≤ 9223372036854775807)) ∧ 0 ≤ v0_1 ∧ v0_1 ≤ l.length ∧ ((nn0 + 1) : Int) + v0_1 = l.length + 1 ∧ v0_0 = ((l.take v0_1.toNat).map itoaB).map ttCv) : rd_track_joined_0 (J_track_joined l) l v0_0 v0_1 nn0 (fun r => LeD r (.t (.c (.v (.string (wordsB l)))))) := by
 obtain ⟨q, i1, i2, i3, i4⟩ := hi
 obtain ⟨k, rfl⟩ : ∃ k : Nat, v0_1 = k := ⟨v0_1.toNat, by omega⟩
 have hk : (k : Int).toNat = k := rfl
 rw [hk] at i4
 subst i4
 unfold rd_track_joined_0
 refine cond_i (fun h => ?_) (fun h => ?_)
 ·have hlt : k < l.length := by have := of_decide_eq_true h; omega
  have b := q.2 k hlt
  rw [Int.toNat_natCast]
  refine ⟨⟨by omega, by omega⟩, b, ⟨by simp; omega, by simp [maxLen]; omega⟩, lt_i fun x1 h1 => ?_⟩
  rw [wi (by omega)] at h1
  subst h1
  refine ⟨_, _, rfl, q, by omega, by omega, by omega, ?_⟩
  rw [ttCv_snoc, map_snoc, ← take_snoc l 0 hlt]
  rfl
 ·have e : k = l.length := by have := of_decide_eq_false h; omega
  subst e
  rw [List.take_length]
  have w := wordsB_len q.2
  refine ⟨⟨txP_ttg _, by rw [ttg_of]; simp; omega, by rw [ttg_of]; exact Nat.le_trans w (by omega)⟩, ?_⟩
  rw [ttg_of]
  exact LeD.refl _
theorem zero_track_joined_0 (l : List Int) (v0_0 : List (List CV)) (v0_1 : Int)  (hi : (l.length ≤ 100 ∧ (∀ i, i < (l).length → -9223372036854775808 ≤ (l).getD i 0 ∧ (l).getD i 0 ≤ 9223372036854775807)) ∧ 0 ≤ v0_1 ∧ v0_1 ≤ l.length ∧ (0 : Int) + v0_1 = l.length + 1 ∧ v0_0 = ((l.take v0_1.toNat).map itoaB).map ttCv) : False := by
 omega
theorem spec_track_joined (l : List Int) (hp : (l).length ≤ 100 ∧ (∀ i, i < (l).length → -9223372036854775808 ≤ (l).getD i 0 ∧ (l).getD i 0 ≤ 9223372036854775807)) : vc_track_joined (J_track_joined l) l (fun r => LeD r (.t (.c (.v (.string (wordsB l)))))) := by
 unfold vc_track_joined
 exact ⟨l.length + 1, [], 0, rfl, hp, by omega, by omega, by omega, rfl⟩
theorem all_track_joined (l : List Int) (hp : (l).length ≤ 100 ∧ (∀ i, i < (l).length → -9223372036854775808 ≤ (l).getD i 0 ∧ (l).getD i 0 ≤ 9223372036854775807)) : AllG (J_track_joined l) (loopsFn Tryz.prog tab Sl56 ann_track_joined (J_track_joined l) Tryz.f36 (fun r => LeD r (.t (.c (.v (.string (wordsB l))))))) := by
 rw [lp_track_joined]
 refine ⟨⟨?_, ?_⟩, trivial⟩
 ·intro F s h
  obtain _ | ⟨g, F⟩ := F
  case cons => exact h.elim
  obtain ⟨w0, w1, rfl, hi⟩ := h
  exact zero_track_joined_0 l w0 w1 hi
 ·intro n F s h
  obtain _ | ⟨g, F⟩ := F
  case cons => exact h.elim
  obtain ⟨w0, w1, rfl, hi⟩ := h
  rw [er_track_joined_0]
  exact rnd_track_joined_0 l _ _ _ hp hi
def con_track_joined : Con := fun args => match args with
 | [.t (.c (.sl 1 n_l c_l))] => some (.t (.c (.v (.string (wordsB (listC n_l mkInt c_l))))), some (numsP 1 n_l c_l ∧ ((listC n_l mkInt c_l)).length ≤ 100 ∧ (∀ i, i < ((listC n_l mkInt c_l)).length → -9223372036854775808 ≤ ((listC n_l mkInt c_l)).getD i 0 ∧ ((listC n_l mkInt c_l)).getD i 0 ≤ 9223372036854775807)), false)
 | _ => none
theorem ok_track_joined : Ok Tryz.prog 36 con_track_joined := by
 refine Ok.fn (ann := ann_track_joined) mixed tabOK VSl56 VIlib (fn := Tryz.f36) (by kernel_rfl) (by kernel_rfl) fit_track_joined fun args r pre fresh h hp => ?_
 unfold con_track_joined at h
 split at h
 ·rename_i n_l c_l
  cases h
  obtain ⟨hp0, hp⟩ := hp
  refine ⟨rfl, J_track_joined (listC n_l mkInt c_l), [.t (.c (.sl 1 ((listC n_l mkInt c_l).length) (intsC (listC n_l mkInt c_l))))], ?_, Nat.le_of_ble_eq_true (by kernel_rfl), ?_, ?_⟩
  ·exact (LeA_cons (leT_c ((leL_int hp0))) LeA_nil)
  ·rw [ev_track_joined]; exact spec_track_joined (listC n_l mkInt c_l) hp
  ·exact all_track_joined (listC n_l mkInt c_l) hp
 ·cases h
def Ska57 : Sum := addS Sl56 36 con_track_joined
theorem VSka57 : Valid Tryz.prog Ska57 := Valid.add VSl56 ok_track_joined
def vc_track_read_5 (tx : ByteArray) (b0 b1 b2 b3 b4 : Int) (post : DV → List CV → Prop) : Prop := (tx.size ≤ 1000000000 ∧ 1 ≤ ((⟨#[32]⟩) : ByteArray).size ∧ (splB tx (⟨#[32]⟩)).length = Lib.countB tx (⟨#[32]⟩) + 1) ∧ (cond ((((splB tx (⟨#[32]⟩)).length : Nat) : Int) != (5 : Int)) (post (.t (.c (.v (.bool false)))) [.v (.int .i64 b0), .v (.int .i64 b1), .v (.int .i64 b2), .v (.int .i64 b3), .v (.int .i64 b4)]) ((0 ≤ (0 : Int) ∧ (0 : Int) < ((5 : Nat) : Int)) ∧ ((0 ≤ (0 : Int) ∧ (0 : Int) < (((splB tx (⟨#[32]⟩)).length : Nat) : Int)) ∧ (((txAt (splB tx (⟨#[32]⟩)) 0).size ≤ 1000000000) ∧ ((cond (!(atoB (txAt (splB tx (⟨#[32]⟩)) 0))) ((true = true) ∧ ((true = true) ∧ (True))) ((-9223372036854775808 ≤ (atoV (txAt (splB tx (⟨#[32]⟩)) 0)) ∧ (atoV (txAt (splB tx (⟨#[32]⟩)) 0)) ≤ 9223372036854775807) ∧ ((0 ≤ (0 : Int) ∧ (0 : Int) < (((splB tx (⟨#[32]⟩)).length : Nat) : Int)) ∧ (cond (!(((itoaB (atoV (txAt (splB tx (⟨#[32]⟩)) 0))) : ByteArray).toList == ((txAt (splB tx (⟨#[32]⟩)) 0) : ByteArray).toList)) ((true = true) ∧ (True)) ((0 ≤ (0 : Int) ∧ (0 : Int) < (((splB tx (⟨#[32]⟩)).length : Nat) : Int)) ∧ (True)))))) ∧ (lt ((bif (!(atoB (txAt (splB tx (⟨#[32]⟩)) 0))) then true else (bif (!(((itoaB (atoV (txAt (splB tx (⟨#[32]⟩)) 0))) : ByteArray).toList == ((txAt (splB tx (⟨#[32]⟩)) 0) : ByteArray).toList)) then true else decide (((((trimB (txAt (splB tx (⟨#[32]⟩)) 0) (⟨#[45]⟩)) : ByteArray).size : Nat) : Int) > (5 : Int))))) fun x1 => cond x1 (post (.t (.c (.v (.bool false)))) [.v (.int .i64 b0), .v (.int .i64 b1), .v (.int .i64 b2), .v (.int .i64 b3), .v (.int .i64 b4)]) ((0 ≤ (1 : Int) ∧ (1 : Int) < ((5 : Nat) : Int)) ∧ ((0 ≤ (1 : Int) ∧ (1 : Int) < (((splB tx (⟨#[32]⟩)).length : Nat) : Int)) ∧ (((txAt (splB tx (⟨#[32]⟩)) 1).size ≤ 1000000000) ∧ ((cond (!(atoB (txAt (splB tx (⟨#[32]⟩)) 1))) ((true = true) ∧ ((true = true) ∧ (True))) ((-9223372036854775808 ≤ (atoV (txAt (splB tx (⟨#[32]⟩)) 1)) ∧ (atoV (txAt (splB tx (⟨#[32]⟩)) 1)) ≤ 9223372036854775807) ∧ ((0 ≤ (1 : Int) ∧ (1 : Int) < (((splB tx (⟨#[32]⟩)).length : Nat) : Int)) ∧ (cond (!(((itoaB (atoV (txAt (splB tx (⟨#[32]⟩)) 1))) : ByteArray).toList == ((txAt (splB tx (⟨#[32]⟩)) 1) : ByteArray).toList)) ((true = true) ∧ (True)) ((0 ≤ (1 : Int) ∧ (1 : Int) < (((splB tx (⟨#[32]⟩)).length : Nat) : Int)) ∧ (True)))))) ∧ (lt ((bif (!(atoB (txAt (splB tx (⟨#[32]⟩)) 1))) then true else (bif (!(((itoaB (atoV (txAt (splB tx (⟨#[32]⟩)) 1))) : ByteArray).toList == ((txAt (splB tx (⟨#[32]⟩)) 1) : ByteArray).toList)) then true else decide (((((trimB (txAt (splB tx (⟨#[32]⟩)) 1) (⟨#[45]⟩)) : ByteArray).size : Nat) : Int) > (5 : Int))))) fun x2 => cond x2 (post (.t (.c (.v (.bool false)))) [.v (.int .i64 (atoV (txAt (splB tx (⟨#[32]⟩)) 0))), .v (.int .i64 b1), .v (.int .i64 b2), .v (.int .i64 b3), .v (.int .i64 b4)]) ((0 ≤ (2 : Int) ∧ (2 : Int) < ((5 : Nat) : Int)) ∧ ((0 ≤ (2 : Int) ∧ (2 : Int) < (((splB tx (⟨#[32]⟩)).length : Nat) : Int)) ∧ (((txAt (splB tx (⟨#[32]⟩)) 2).size ≤ 1000000000) ∧ ((cond (!(atoB (txAt (splB tx (⟨#[32]⟩)) 2))) ((true = true) ∧ ((true = true) ∧ (True))) ((-9223372036854775808 ≤ (atoV (txAt (splB tx (⟨#[32]⟩)) 2)) ∧ (atoV (txAt (splB tx (⟨#[32]⟩)) 2)) ≤ 9223372036854775807) ∧ ((0 ≤ (2 : Int) ∧ (2 : Int) < (((splB tx (⟨#[32]⟩)).length : Nat) : Int)) ∧ (cond (!(((itoaB (atoV (txAt (splB tx (⟨#[32]⟩)) 2))) : ByteArray).toList == ((txAt (splB tx (⟨#[32]⟩)) 2) : ByteArray).toList)) ((true = true) ∧ (True)) ((0 ≤ (2 : Int) ∧ (2 : Int) < (((splB tx (⟨#[32]⟩)).length : Nat) : Int)) ∧ (True)))))) ∧ (lt ((bif (!(atoB (txAt (splB tx (⟨#[32]⟩)) 2))) then true else (bif (!(((itoaB (atoV (txAt (splB tx (⟨#[32]⟩)) 2))) : ByteArray).toList == ((txAt (splB tx (⟨#[32]⟩)) 2) : ByteArray).toList)) then true else decide (((((trimB (txAt (splB tx (⟨#[32]⟩)) 2) (⟨#[45]⟩)) : ByteArray).size : Nat) : Int) > (5 : Int))))) fun x3 => cond x3 (post (.t (.c (.v (.bool false)))) [.v (.int .i64 (atoV (txAt (splB tx (⟨#[32]⟩)) 0))), .v (.int .i64 (atoV (txAt (splB tx (⟨#[32]⟩)) 1))), .v (.int .i64 b2), .v (.int .i64 b3), .v (.int .i64 b4)]) ((0 ≤ (3 : Int) ∧ (3 : Int) < ((5 : Nat) : Int)) ∧ ((0 ≤ (3 : Int) ∧ (3 : Int) < (((splB tx (⟨#[32]⟩)).length : Nat) : Int)) ∧ (((txAt (splB tx (⟨#[32]⟩)) 3).size ≤ 1000000000) ∧ ((cond (!(atoB (txAt (splB tx (⟨#[32]⟩)) 3))) ((true = true) ∧ ((true = true) ∧ (True))) ((-9223372036854775808 ≤ (atoV (txAt (splB tx (⟨#[32]⟩)) 3)) ∧ (atoV (txAt (splB tx (⟨#[32]⟩)) 3)) ≤ 9223372036854775807) ∧ ((0 ≤ (3 : Int) ∧ (3 : Int) < (((splB tx (⟨#[32]⟩)).length : Nat) : Int)) ∧ (cond (!(((itoaB (atoV (txAt (splB tx (⟨#[32]⟩)) 3))) : ByteArray).toList == ((txAt (splB tx (⟨#[32]⟩)) 3) : ByteArray).toList)) ((true = true) ∧ (True)) ((0 ≤ (3 : Int) ∧ (3 : Int) < (((splB tx (⟨#[32]⟩)).length : Nat) : Int)) ∧ (True)))))) ∧ (lt ((bif (!(atoB (txAt (splB tx (⟨#[32]⟩)) 3))) then true else (bif (!(((itoaB (atoV (txAt (splB tx (⟨#[32]⟩)) 3))) : ByteArray).toList == ((txAt (splB tx (⟨#[32]⟩)) 3) : ByteArray).toList)) then true else decide (((((trimB (txAt (splB tx (⟨#[32]⟩)) 3) (⟨#[45]⟩)) : ByteArray).size : Nat) : Int) > (5 : Int))))) fun x4 => cond x4 (post (.t (.c (.v (.bool false)))) [.v (.int .i64 (atoV (txAt (splB tx (⟨#[32]⟩)) 0))), .v (.int .i64 (atoV (txAt (splB tx (⟨#[32]⟩)) 1))), .v (.int .i64 (atoV (txAt (splB tx (⟨#[32]⟩)) 2))), .v (.int .i64 b3), .v (.int .i64 b4)]) ((0 ≤ (4 : Int) ∧ (4 : Int) < ((5 : Nat) : Int)) ∧ ((0 ≤ (4 : Int) ∧ (4 : Int) < (((splB tx (⟨#[32]⟩)).length : Nat) : Int)) ∧ (((txAt (splB tx (⟨#[32]⟩)) 4).size ≤ 1000000000) ∧ ((cond (!(atoB (txAt (splB tx (⟨#[32]⟩)) 4))) ((true = true) ∧ ((true = true) ∧ (True))) ((-9223372036854775808 ≤ (atoV (txAt (splB tx (⟨#[32]⟩)) 4)) ∧ (atoV (txAt (splB tx (⟨#[32]⟩)) 4)) ≤ 9223372036854775807) ∧ ((0 ≤ (4 : Int) ∧ (4 : Int) < (((splB tx (⟨#[32]⟩)).length : Nat) : Int)) ∧ (cond (!(((itoaB (atoV (txAt (splB tx (⟨#[32]⟩)) 4))) : ByteArray).toList == ((txAt (splB tx (⟨#[32]⟩)) 4) : ByteArray).toList)) ((true = true) ∧ (True)) ((0 ≤ (4 : Int) ∧ (4 : Int) < (((splB tx (⟨#[32]⟩)).length : Nat) : Int)) ∧ (True)))))) ∧ (lt ((bif (!(atoB (txAt (splB tx (⟨#[32]⟩)) 4))) then true else (bif (!(((itoaB (atoV (txAt (splB tx (⟨#[32]⟩)) 4))) : ByteArray).toList == ((txAt (splB tx (⟨#[32]⟩)) 4) : ByteArray).toList)) then true else decide (((((trimB (txAt (splB tx (⟨#[32]⟩)) 4) (⟨#[45]⟩)) : ByteArray).size : Nat) : Int) > (5 : Int))))) fun x5 => cond x5 (post (.t (.c (.v (.bool false)))) [.v (.int .i64 (atoV (txAt (splB tx (⟨#[32]⟩)) 0))), .v (.int .i64 (atoV (txAt (splB tx (⟨#[32]⟩)) 1))), .v (.int .i64 (atoV (txAt (splB tx (⟨#[32]⟩)) 2))), .v (.int .i64 (atoV (txAt (splB tx (⟨#[32]⟩)) 3))), .v (.int .i64 b4)]) (post (.t (.c (.v (.bool true)))) [.v (.int .i64 (atoV (txAt (splB tx (⟨#[32]⟩)) 0))), .v (.int .i64 (atoV (txAt (splB tx (⟨#[32]⟩)) 1))), .v (.int .i64 (atoV (txAt (splB tx (⟨#[32]⟩)) 2))), .v (.int .i64 (atoV (txAt (splB tx (⟨#[32]⟩)) 3))), .v (.int .i64 (atoV (txAt (splB tx (⟨#[32]⟩)) 4)))])))))))))))))))))))))))))))
def ann_track_read_5 : Ann := ⟨fun r => lookA r [(8, ([[], [0], [0, 1], [0, 1, 2], [0, 1, 2, 3], [0, 1, 2], [0, 1, 2], [0, 1, 2, 5, 6], [0, 1, 2, 5, 6, 7], [0, 1, 2, 3, 4, 5, 6, 7, 8], [0, 1, 2, 3, 4, 5, 6, 7, 8, 9], [0, 1, 2, 3, 4, 5, 6, 7, 8, 9, 10], [0, 1, 2, 3, 4, 5, 6, 7, 8, 9, 10, 11], [0, 1, 2, 3, 4, 5, 6, 7, 8, 9, 10, 11], [0, 1, 2, 3, 4, 5, 6, 7, 8, 9, 10, 11, 12, 13], [0, 1, 2, 3, 4, 5, 6, 7, 8, 9, 10, 11, 12, 13, 14], [0, 1, 2, 3, 4, 5, 6, 7, 8, 9, 10, 11, 12, 13, 14, 15], [0, 1, 2, 3, 4, 5, 6, 7, 8, 9, 10, 11, 12, 13, 14, 15, 16], [0, 1, 2, 3, 4, 5, 6, 7, 8, 9, 10, 11, 12, 13, 14, 15, 16, 17], [0, 1, 2, 3, 4, 5, 6, 7, 8, 9, 10, 11, 12, 13, 14, 15, 16, 17, 18]], [[36, 48], [36, 48], [36, 48], [36, 48], [48], [36, 48], [36, 48], [36, 48], [36, 48], [48], [48], [48], [48], [48], [48], [48], [], [], [], []]))], fun b => lookA b [(0, (some 6, none))], fun _ => [], Ilib, false, fun r => lookA r [(8, (3, [51]))], fun _ => none⟩
theorem ev_track_read_5 (J : Inv) (tx : ByteArray) (b0 b1 b2 b3 b4 : Int) (post : DV → List CV → Prop) : evFnS Tryz.prog tab Ska57 ann_track_read_5 J Tryz.f39 (.t (.c (.v (.string tx)))) 90 57 5 [.v (.int .i64 b0), .v (.int .i64 b1), .v (.int .i64 b2), .v (.int .i64 b3), .v (.int .i64 b4)] post = vc_track_read_5 tx b0 b1 b2 b3 b4 post := by kernel_rfl
theorem fit_track_read_5 : okFnW ann_track_read_5 Tryz.f39 = true := by kernel_rfl
theorem spec_track_read_5 (tx : ByteArray) (b0 b1 b2 b3 b4 : Int) (hp : (tx).size ≤ 100000000) : vc_track_read_5 tx b0 b1 b2 b3 b4 (fun r' cs => LeD r' (.t (.c (.v (.bool (okTo tx 5 5))))) ∧ cs = [.v (.int .i64 (wrC tx 5 0 b0)), .v (.int .i64 (wrC tx 5 1 b1)), .v (.int .i64 (wrC tx 5 2 b2)), .v (.int .i64 (wrC tx 5 3 b3)), .v (.int .i64 (wrC tx 5 4 b4))]) := by
 unfold vc_track_read_5
 have hc := splB_count tx 32
 rw [spl_cut] at hc ⊢
 rw [cutL_len] at hc ⊢
 refine ⟨⟨by omega, Nat.le_refl 1, hc⟩, cond_i (fun h => ?_) (fun h => ?_)⟩
 ·have h7 : nPc 32 tx ≠ 5 := fun e => by rw [e] at h; cases h
  rw [wrC_no (okTo_no h7 1), wrC_no (okTo_no h7 2), wrC_no (okTo_no h7 3), wrC_no (okTo_no h7 4), wrC_no (okTo_no h7 5), show okTo tx 5 5 = false from okTo_no h7 5]
  exact ⟨LeD.refl _, rfl⟩
 have h7 : nPc 32 tx = 5 := by
  have h : ((nPc 32 tx : Nat) : Int) = 5 := by simpa using h
  omega
 have o0 := okTo_zero h7
 have hs : ∀ i, (ofL (wAt 32 tx i)).size ≤ 1000000000 := fun i => by rw [ofL_size]; exact Nat.le_trans wAt_len (by omega)
 rw [cutL_at (show 0 < nPc 32 tx by omega), cutL_at (show 1 < nPc 32 tx by omega), cutL_at (show 2 < nPc 32 tx by omega), cutL_at (show 3 < nPc 32 tx by omega), cutL_at (show 4 < nPc 32 tx by omega)]
 simp only [bad_w]
 refine ⟨⟨by decide, by decide⟩, ⟨by decide, by omega⟩, hs 0, cond_i (fun _ => ⟨by trivial, by trivial, trivial⟩) (fun g => ⟨ato_bd (by simpa using g), ⟨by decide, by omega⟩, cond_i (fun _ => ⟨by trivial, trivial⟩) (fun _ => ⟨⟨by decide, by omega⟩, trivial⟩)⟩), lt_i fun y0 z0 => ?_⟩
 subst z0
 refine cond_i (fun g => ?_) (fun g => ?_)
 ·have g0 : (numR (wAt 32 tx 0) 5).isSome = false := by simpa using g
  have b1 : okTo tx 5 1 = false := by rw [okTo_succ, o0, g0]; rfl
  rw [wrC_no (okTo_mono b1 (by decide)), wrC_no (okTo_mono b1 (by decide)), wrC_no (okTo_mono b1 (by decide)), wrC_no (okTo_mono b1 (by decide)), wrC_no (okTo_mono b1 (by decide)), show okTo tx 5 5 = false from okTo_mono b1 (by decide)]
  exact ⟨LeD.refl _, rfl⟩
 have g0 : (numR (wAt 32 tx 0) 5).isSome = true := by simpa using g
 have o1 : okTo tx 5 1 = true := by rw [okTo_succ, o0, g0]; rfl
 rw [val_w g0]
 refine ⟨⟨by decide, by decide⟩, ⟨by decide, by omega⟩, hs 1, cond_i (fun _ => ⟨by trivial, by trivial, trivial⟩) (fun g => ⟨ato_bd (by simpa using g), ⟨by decide, by omega⟩, cond_i (fun _ => ⟨by trivial, trivial⟩) (fun _ => ⟨⟨by decide, by omega⟩, trivial⟩)⟩), lt_i fun y1 z1 => ?_⟩
 subst z1
 refine cond_i (fun g => ?_) (fun g => ?_)
 ·have g1 : (numR (wAt 32 tx 1) 5).isSome = false := by simpa using g
  have b2 : okTo tx 5 2 = false := by rw [okTo_succ, o1, g1]; rfl
  rw [wrC_yes o1, wrC_no (okTo_mono b2 (by decide)), wrC_no (okTo_mono b2 (by decide)), wrC_no (okTo_mono b2 (by decide)), wrC_no (okTo_mono b2 (by decide)), show okTo tx 5 5 = false from okTo_mono b2 (by decide)]
  exact ⟨LeD.refl _, rfl⟩
 have g1 : (numR (wAt 32 tx 1) 5).isSome = true := by simpa using g
 have o2 : okTo tx 5 2 = true := by rw [okTo_succ, o1, g1]; rfl
 rw [val_w g1]
 refine ⟨⟨by decide, by decide⟩, ⟨by decide, by omega⟩, hs 2, cond_i (fun _ => ⟨by trivial, by trivial, trivial⟩) (fun g => ⟨ato_bd (by simpa using g), ⟨by decide, by omega⟩, cond_i (fun _ => ⟨by trivial, trivial⟩) (fun _ => ⟨⟨by decide, by omega⟩, trivial⟩)⟩), lt_i fun y2 z2 => ?_⟩
 subst z2
 refine cond_i (fun g => ?_) (fun g => ?_)
 ·have g2 : (numR (wAt 32 tx 2) 5).isSome = false := by simpa using g
  have b3 : okTo tx 5 3 = false := by rw [okTo_succ, o2, g2]; rfl
  rw [wrC_yes o1, wrC_yes o2, wrC_no (okTo_mono b3 (by decide)), wrC_no (okTo_mono b3 (by decide)), wrC_no (okTo_mono b3 (by decide)), show okTo tx 5 5 = false from okTo_mono b3 (by decide)]
  exact ⟨LeD.refl _, rfl⟩
 have g2 : (numR (wAt 32 tx 2) 5).isSome = true := by simpa using g
 have o3 : okTo tx 5 3 = true := by rw [okTo_succ, o2, g2]; rfl
 rw [val_w g2]
 refine ⟨⟨by decide, by decide⟩, ⟨by decide, by omega⟩, hs 3, cond_i (fun _ => ⟨by trivial, by trivial, trivial⟩) (fun g => ⟨ato_bd (by simpa using g), ⟨by decide, by omega⟩, cond_i (fun _ => ⟨by trivial, trivial⟩) (fun _ => ⟨⟨by decide, by omega⟩, trivial⟩)⟩), lt_i fun y3 z3 => ?_⟩
 subst z3
 refine cond_i (fun g => ?_) (fun g => ?_)
 ·have g3 : (numR (wAt 32 tx 3) 5).isSome = false := by simpa using g
  have b4 : okTo tx 5 4 = false := by rw [okTo_succ, o3, g3]; rfl
  rw [wrC_yes o1, wrC_yes o2, wrC_yes o3, wrC_no (okTo_mono b4 (by decide)), wrC_no (okTo_mono b4 (by decide)), show okTo tx 5 5 = false from okTo_mono b4 (by decide)]
  exact ⟨LeD.refl _, rfl⟩
 have g3 : (numR (wAt 32 tx 3) 5).isSome = true := by simpa using g
 have o4 : okTo tx 5 4 = true := by rw [okTo_succ, o3, g3]; rfl
 rw [val_w g3]
 refine ⟨⟨by decide, by decide⟩, ⟨by decide, by omega⟩, hs 4, cond_i (fun _ => ⟨by trivial, by trivial, trivial⟩) (fun g => ⟨ato_bd (by simpa using g), ⟨by decide, by omega⟩, cond_i (fun _ => ⟨by trivial, trivial⟩) (fun _ => ⟨⟨by decide, by omega⟩, trivial⟩)⟩), lt_i fun y4 z4 => ?_⟩
 subst z4
 refine cond_i (fun g => ?_) (fun g => ?_)
 ·have g4 : (numR (wAt 32 tx 4) 5).isSome = false := by simpa using g
  have b5 : okTo tx 5 5 = false := by rw [okTo_succ, o4, g4]; rfl
  rw [wrC_yes o1, wrC_yes o2, wrC_yes o3, wrC_yes o4, wrC_no (okTo_mono b5 (by decide)), show okTo tx 5 5 = false from okTo_mono b5 (by decide)]
  exact ⟨LeD.refl _, rfl⟩
 have g4 : (numR (wAt 32 tx 4) 5).isSome = true := by simpa using g
 have o5 : okTo tx 5 5 = true := by rw [okTo_succ, o4, g4]; rfl
 rw [val_w g4]
 rw [wrC_yes o1, wrC_yes o2, wrC_yes o3, wrC_yes o4, wrC_yes o5, show okTo tx 5 5 = true from o5]
 exact ⟨LeD.refl _, rfl⟩
def con_track_read_5 : Con := fun args => match args with
 | [.t (.c (.v (.string tx))), .t (.c (.px 5 0 c_b))] => some (.t (.c (.v (.bool (okTo tx 5 5)))), some (numsB 5 c_b = true ∧ (tx).size ≤ 100000000), .wrs 90 57 [.v (.int .i64 (wrC tx 5 0 (cvInt (c_b 0)))), .v (.int .i64 (wrC tx 5 1 (cvInt (c_b 1)))), .v (.int .i64 (wrC tx 5 2 (cvInt (c_b 2)))), .v (.int .i64 (wrC tx 5 3 (cvInt (c_b 3)))), .v (.int .i64 (wrC tx 5 4 (cvInt (c_b 4))))])
 | _ => none
theorem ok_track_read_5 : Ok Tryz.prog 39 con_track_read_5 := by
 refine Ok.fnS (ann := ann_track_read_5) mixed tabOK VSka57 VIlib (fn := Tryz.f39) (by kernel_rfl) (by kernel_rfl) fit_track_read_5 fun args r pre fresh h hp => ?_
 unfold con_track_read_5 at h
 split at h
 ·rename_i tx c_b
  cases h
  obtain ⟨hp0, hp⟩ := hp
  have e := cells_nums hp0
  refine ⟨_, 5, c_b, _, _, _, rfl, rfl, by rw [e]; rfl, Nat.le_of_ble_eq_true (by kernel_rfl), rfl, fun _ _ _ => False, _, (fun w N v h => h), ?_⟩
  rw [e]
  exact (ev_track_read_5 _ tx (cvInt (c_b 0)) (cvInt (c_b 1)) (cvInt (c_b 2)) (cvInt (c_b 3)) (cvInt (c_b 4)) _).mpr (spec_track_read_5 tx (cvInt (c_b 0)) (cvInt (c_b 1)) (cvInt (c_b 2)) (cvInt (c_b 3)) (cvInt (c_b 4)) hp)
 ·cases h
def Ska58 : Sum := addF Ska57 39 con_track_read_5
theorem VSka58 : Valid Tryz.prog Ska58 := Valid.addF VSka57 ok_track_read_5
def vc_track_read_6 (tx : ByteArray) (b0 b1 b2 b3 b4 b5 : Int) (post : DV → List CV → Prop) : Prop := (tx.size ≤ 1000000000 ∧ 1 ≤ ((⟨#[32]⟩) : ByteArray).size ∧ (splB tx (⟨#[32]⟩)).length = Lib.countB tx (⟨#[32]⟩) + 1) ∧ (cond ((((splB tx (⟨#[32]⟩)).length : Nat) : Int) != (6 : Int)) (post (.t (.c (.v (.bool false)))) [.v (.int .i64 b0), .v (.int .i64 b1), .v (.int .i64 b2), .v (.int .i64 b3), .v (.int .i64 b4), .v (.int .i64 b5)]) ((0 ≤ (0 : Int) ∧ (0 : Int) < ((6 : Nat) : Int)) ∧ ((0 ≤ (0 : Int) ∧ (0 : Int) < (((splB tx (⟨#[32]⟩)).length : Nat) : Int)) ∧ (((txAt (splB tx (⟨#[32]⟩)) 0).size ≤ 1000000000) ∧ ((cond (!(atoB (txAt (splB tx (⟨#[32]⟩)) 0))) ((true = true) ∧ ((true = true) ∧ (True))) ((-9223372036854775808 ≤ (atoV (txAt (splB tx (⟨#[32]⟩)) 0)) ∧ (atoV (txAt (splB tx (⟨#[32]⟩)) 0)) ≤ 9223372036854775807) ∧ ((0 ≤ (0 : Int) ∧ (0 : Int) < (((splB tx (⟨#[32]⟩)).length : Nat) : Int)) ∧ (cond (!(((itoaB (atoV (txAt (splB tx (⟨#[32]⟩)) 0))) : ByteArray).toList == ((txAt (splB tx (⟨#[32]⟩)) 0) : ByteArray).toList)) ((true = true) ∧ (True)) ((0 ≤ (0 : Int) ∧ (0 : Int) < (((splB tx (⟨#[32]⟩)).length : Nat) : Int)) ∧ (True)))))) ∧ (lt ((bif (!(atoB (txAt (splB tx (⟨#[32]⟩)) 0))) then true else (bif (!(((itoaB (atoV (txAt (splB tx (⟨#[32]⟩)) 0))) : ByteArray).toList == ((txAt (splB tx (⟨#[32]⟩)) 0) : ByteArray).toList)) then true else decide (((((trimB (txAt (splB tx (⟨#[32]⟩)) 0) (⟨#[45]⟩)) : ByteArray).size : Nat) : Int) > (5 : Int))))) fun x1 => cond x1 (post (.t (.c (.v (.bool false)))) [.v (.int .i64 b0), .v (.int .i64 b1), .v (.int .i64 b2), .v (.int .i64 b3), .v (.int .i64 b4), .v (.int .i64 b5)]) ((0 ≤ (1 : Int) ∧ (1 : Int) < ((6 : Nat) : Int)) ∧ ((0 ≤ (1 : Int) ∧ (1 : Int) < (((splB tx (⟨#[32]⟩)).length : Nat) : Int)) ∧ (((txAt (splB tx (⟨#[32]⟩)) 1).size ≤ 1000000000) ∧ ((cond (!(atoB (txAt (splB tx (⟨#[32]⟩)) 1))) ((true = true) ∧ ((true = true) ∧ (True))) ((-9223372036854775808 ≤ (atoV (txAt (splB tx (⟨#[32]⟩)) 1)) ∧ (atoV (txAt (splB tx (⟨#[32]⟩)) 1)) ≤ 9223372036854775807) ∧ ((0 ≤ (1 : Int) ∧ (1 : Int) < (((splB tx (⟨#[32]⟩)).length : Nat) : Int)) ∧ (cond (!(((itoaB (atoV (txAt (splB tx (⟨#[32]⟩)) 1))) : ByteArray).toList == ((txAt (splB tx (⟨#[32]⟩)) 1) : ByteArray).toList)) ((true = true) ∧ (True)) ((0 ≤ (1 : Int) ∧ (1 : Int) < (((splB tx (⟨#[32]⟩)).length : Nat) : Int)) ∧ (True)))))) ∧ (lt ((bif (!(atoB (txAt (splB tx (⟨#[32]⟩)) 1))) then true else (bif (!(((itoaB (atoV (txAt (splB tx (⟨#[32]⟩)) 1))) : ByteArray).toList == ((txAt (splB tx (⟨#[32]⟩)) 1) : ByteArray).toList)) then true else decide (((((trimB (txAt (splB tx (⟨#[32]⟩)) 1) (⟨#[45]⟩)) : ByteArray).size : Nat) : Int) > (5 : Int))))) fun x2 => cond x2 (post (.t (.c (.v (.bool false)))) [.v (.int .i64 (atoV (txAt (splB tx (⟨#[32]⟩)) 0))), .v (.int .i64 b1), .v (.int .i64 b2), .v (.int .i64 b3), .v (.int .i64 b4), .v (.int .i64 b5)]) ((0 ≤ (2 : Int) ∧ (2 : Int) < ((6 : Nat) : Int)) ∧ ((0 ≤ (2 : Int) ∧ (2 : Int) < (((splB tx (⟨#[32]⟩)).length : Nat) : Int)) ∧ (((txAt (splB tx (⟨#[32]⟩)) 2).size ≤ 1000000000) ∧ ((cond (!(atoB (txAt (splB tx (⟨#[32]⟩)) 2))) ((true = true) ∧ ((true = true) ∧ (True))) ((-9223372036854775808 ≤ (atoV (txAt (splB tx (⟨#[32]⟩)) 2)) ∧ (atoV (txAt (splB tx (⟨#[32]⟩)) 2)) ≤ 9223372036854775807) ∧ ((0 ≤ (2 : Int) ∧ (2 : Int) < (((splB tx (⟨#[32]⟩)).length : Nat) : Int)) ∧ (cond (!(((itoaB (atoV (txAt (splB tx (⟨#[32]⟩)) 2))) : ByteArray).toList == ((txAt (splB tx (⟨#[32]⟩)) 2) : ByteArray).toList)) ((true = true) ∧ (True)) ((0 ≤ (2 : Int) ∧ (2 : Int) < (((splB tx (⟨#[32]⟩)).length : Nat) : Int)) ∧ (True)))))) ∧ (lt ((bif (!(atoB (txAt (splB tx (⟨#[32]⟩)) 2))) then true else (bif (!(((itoaB (atoV (txAt (splB tx (⟨#[32]⟩)) 2))) : ByteArray).toList == ((txAt (splB tx (⟨#[32]⟩)) 2) : ByteArray).toList)) then true else decide (((((trimB (txAt (splB tx (⟨#[32]⟩)) 2) (⟨#[45]⟩)) : ByteArray).size : Nat) : Int) > (5 : Int))))) fun x3 => cond x3 (post (.t (.c (.v (.bool false)))) [.v (.int .i64 (atoV (txAt (splB tx (⟨#[32]⟩)) 0))), .v (.int .i64 (atoV (txAt (splB tx (⟨#[32]⟩)) 1))), .v (.int .i64 b2), .v (.int .i64 b3), .v (.int .i64 b4), .v (.int .i64 b5)]) ((0 ≤ (3 : Int) ∧ (3 : Int) < ((6 : Nat) : Int)) ∧ ((0 ≤ (3 : Int) ∧ (3 : Int) < (((splB tx (⟨#[32]⟩)).length : Nat) : Int)) ∧ (((txAt (splB tx (⟨#[32]⟩)) 3).size ≤ 1000000000) ∧ ((cond (!(atoB (txAt (splB tx (⟨#[32]⟩)) 3))) ((true = true) ∧ ((true = true) ∧ (True))) ((-9223372036854775808 ≤ (atoV (txAt (splB tx (⟨#[32]⟩)) 3)) ∧ (atoV (txAt (splB tx (⟨#[32]⟩)) 3)) ≤ 9223372036854775807) ∧ ((0 ≤ (3 : Int) ∧ (3 : Int) < (((splB tx (⟨#[32]⟩)).length : Nat) : Int)) ∧ (cond (!(((itoaB (atoV (txAt (splB tx (⟨#[32]⟩)) 3))) : ByteArray).toList == ((txAt (splB tx (⟨#[32]⟩)) 3) : ByteArray).toList)) ((true = true) ∧ (True)) ((0 ≤ (3 : Int) ∧ (3 : Int) < (((splB tx (⟨#[32]⟩)).length : Nat) : Int)) ∧ (True)))))) ∧ (lt ((bif (!(atoB (txAt (splB tx (⟨#[32]⟩)) 3))) then true else (bif (!(((itoaB (atoV (txAt (splB tx (⟨#[32]⟩)) 3))) : ByteArray).toList == ((txAt (splB tx (⟨#[32]⟩)) 3) : ByteArray).toList)) then true else decide (((((trimB (txAt (splB tx (⟨#[32]⟩)) 3) (⟨#[45]⟩)) : ByteArray).size : Nat) : Int) > (5 : Int))))) fun x4 => cond x4 (post (.t (.c (.v (.bool false)))) [.v (.int .i64 (atoV (txAt (splB tx (⟨#[32]⟩)) 0))), .v (.int .i64 (atoV (txAt (splB tx (⟨#[32]⟩)) 1))), .v (.int .i64 (atoV (txAt (splB tx (⟨#[32]⟩)) 2))), .v (.int .i64 b3), .v (.int .i64 b4), .v (.int .i64 b5)]) ((0 ≤ (4 : Int) ∧ (4 : Int) < ((6 : Nat) : Int)) ∧ ((0 ≤ (4 : Int) ∧ (4 : Int) < (((splB tx (⟨#[32]⟩)).length : Nat) : Int)) ∧ (((txAt (splB tx (⟨#[32]⟩)) 4).size ≤ 1000000000) ∧ ((cond (!(atoB (txAt (splB tx (⟨#[32]⟩)) 4))) ((true = true) ∧ ((true = true) ∧ (True))) ((-9223372036854775808 ≤ (atoV (txAt (splB tx (⟨#[32]⟩)) 4)) ∧ (atoV (txAt (splB tx (⟨#[32]⟩)) 4)) ≤ 9223372036854775807) ∧ ((0 ≤ (4 : Int) ∧ (4 : Int) < (((splB tx (⟨#[32]⟩)).length : Nat) : Int)) ∧ (cond (!(((itoaB (atoV (txAt (splB tx (⟨#[32]⟩)) 4))) : ByteArray).toList == ((txAt (splB tx (⟨#[32]⟩)) 4) : ByteArray).toList)) ((true = true) ∧ (True)) ((0 ≤ (4 : Int) ∧ (4 : Int) < (((splB tx (⟨#[32]⟩)).length : Nat) : Int)) ∧ (True)))))) ∧ (lt ((bif (!(atoB (txAt (splB tx (⟨#[32]⟩)) 4))) then true else (bif (!(((itoaB (atoV (txAt (splB tx (⟨#[32]⟩)) 4))) : ByteArray).toList == ((txAt (splB tx (⟨#[32]⟩)) 4) : ByteArray).toList)) then true else decide (((((trimB (txAt (splB tx (⟨#[32]⟩)) 4) (⟨#[45]⟩)) : ByteArray).size : Nat) : Int) > (5 : Int))))) fun x5 => cond x5 (post (.t (.c (.v (.bool false)))) [.v (.int .i64 (atoV (txAt (splB tx (⟨#[32]⟩)) 0))), .v (.int .i64 (atoV (txAt (splB tx (⟨#[32]⟩)) 1))), .v (.int .i64 (atoV (txAt (splB tx (⟨#[32]⟩)) 2))), .v (.int .i64 (atoV (txAt (splB tx (⟨#[32]⟩)) 3))), .v (.int .i64 b4), .v (.int .i64 b5)]) ((0 ≤ (5 : Int) ∧ (5 : Int) < ((6 : Nat) : Int)) ∧ ((0 ≤ (5 : Int) ∧ (5 : Int) < (((splB tx (⟨#[32]⟩)).length : Nat) : Int)) ∧ (((txAt (splB tx (⟨#[32]⟩)) 5).size ≤ 1000000000) ∧ ((cond (!(atoB (txAt (splB tx (⟨#[32]⟩)) 5))) ((true = true) ∧ ((true = true) ∧ (True))) ((-9223372036854775808 ≤ (atoV (txAt (splB tx (⟨#[32]⟩)) 5)) ∧ (atoV (txAt (splB tx (⟨#[32]⟩)) 5)) ≤ 9223372036854775807) ∧ ((0 ≤ (5 : Int) ∧ (5 : Int) < (((splB tx (⟨#[32]⟩)).length : Nat) : Int)) ∧ (cond (!(((itoaB (atoV (txAt (splB tx (⟨#[32]⟩)) 5))) : ByteArray).toList == ((txAt (splB tx (⟨#[32]⟩)) 5) : ByteArray).toList)) ((true = true) ∧ (True)) ((0 ≤ (5 : Int) ∧ (5 : Int) < (((splB tx (⟨#[32]⟩)).length : Nat) : Int)) ∧ (True)))))) ∧ (lt ((bif (!(atoB (txAt (splB tx (⟨#[32]⟩)) 5))) then true else (bif (!(((itoaB (atoV (txAt (splB tx (⟨#[32]⟩)) 5))) : ByteArray).toList == ((txAt (splB tx (⟨#[32]⟩)) 5) : ByteArray).toList)) then true else decide (((((trimB (txAt (splB tx (⟨#[32]⟩)) 5) (⟨#[45]⟩)) : ByteArray).size : Nat) : Int) > (5 : Int))))) fun x6 => cond x6 (post (.t (.c (.v (.bool false)))) [.v (.int .i64 (atoV (txAt (splB tx (⟨#[32]⟩)) 0))), .v (.int .i64 (atoV (txAt (splB tx (⟨#[32]⟩)) 1))), .v (.int .i64 (atoV (txAt (splB tx (⟨#[32]⟩)) 2))), .v (.int .i64 (atoV (txAt (splB tx (⟨#[32]⟩)) 3))), .v (.int .i64 (atoV (txAt (splB tx (⟨#[32]⟩)) 4))), .v (.int .i64 b5)]) (post (.t (.c (.v (.bool true)))) [.v (.int .i64 (atoV (txAt (splB tx (⟨#[32]⟩)) 0))), .v (.int .i64 (atoV (txAt (splB tx (⟨#[32]⟩)) 1))), .v (.int .i64 (atoV (txAt (splB tx (⟨#[32]⟩)) 2))), .v (.int .i64 (atoV (txAt (splB tx (⟨#[32]⟩)) 3))), .v (.int .i64 (atoV (txAt (splB tx (⟨#[32]⟩)) 4))), .v (.int .i64 (atoV (txAt (splB tx (⟨#[32]⟩)) 5)))]))))))))))))))))))))))))))))))))
def ann_track_read_6 : Ann := ⟨fun r => lookA r [(8, ([[], [0], [0, 1], [0, 1, 2], [0, 1, 2, 3], [0, 1, 2], [0, 1, 2], [0, 1, 2, 5, 6], [0, 1, 2, 5, 6, 7], [0, 1, 2, 3, 4, 5, 6, 7, 8], [0, 1, 2, 3, 4, 5, 6, 7, 8, 9], [0, 1, 2, 3, 4, 5, 6, 7, 8, 9, 10], [0, 1, 2, 3, 4, 5, 6, 7, 8, 9, 10, 11], [0, 1, 2, 3, 4, 5, 6, 7, 8, 9, 10, 11], [0, 1, 2, 3, 4, 5, 6, 7, 8, 9, 10, 11, 12, 13], [0, 1, 2, 3, 4, 5, 6, 7, 8, 9, 10, 11, 12, 13, 14], [0, 1, 2, 3, 4, 5, 6, 7, 8, 9, 10, 11, 12, 13, 14, 15], [0, 1, 2, 3, 4, 5, 6, 7, 8, 9, 10, 11, 12, 13, 14, 15, 16], [0, 1, 2, 3, 4, 5, 6, 7, 8, 9, 10, 11, 12, 13, 14, 15, 16, 17], [0, 1, 2, 3, 4, 5, 6, 7, 8, 9, 10, 11, 12, 13, 14, 15, 16, 17, 18]], [[36, 48], [36, 48], [36, 48], [36, 48], [48], [36, 48], [36, 48], [36, 48], [36, 48], [48], [48], [48], [48], [48], [48], [48], [], [], [], []]))], fun b => lookA b [(0, (some 7, none))], fun _ => [], Ilib, false, fun r => lookA r [(8, (3, [51]))], fun _ => none⟩
theorem ev_track_read_6 (J : Inv) (tx : ByteArray) (b0 b1 b2 b3 b4 b5 : Int) (post : DV → List CV → Prop) : evFnS Tryz.prog tab Ska58 ann_track_read_6 J Tryz.f39 (.t (.c (.v (.string tx)))) 90 25 6 [.v (.int .i64 b0), .v (.int .i64 b1), .v (.int .i64 b2), .v (.int .i64 b3), .v (.int .i64 b4), .v (.int .i64 b5)] post = vc_track_read_6 tx b0 b1 b2 b3 b4 b5 post := by kernel_rfl
theorem fit_track_read_6 : okFnW ann_track_read_6 Tryz.f39 = true := by kernel_rfl
theorem spec_track_read_6 (tx : ByteArray) (b0 b1 b2 b3 b4 b5 : Int) (hp : (tx).size ≤ 100000000) : vc_track_read_6 tx b0 b1 b2 b3 b4 b5 (fun r' cs => LeD r' (.t (.c (.v (.bool (okTo tx 6 6))))) ∧ cs = [.v (.int .i64 (wrC tx 6 0 b0)), .v (.int .i64 (wrC tx 6 1 b1)), .v (.int .i64 (wrC tx 6 2 b2)), .v (.int .i64 (wrC tx 6 3 b3)), .v (.int .i64 (wrC tx 6 4 b4)), .v (.int .i64 (wrC tx 6 5 b5))]) := by
 unfold vc_track_read_6
 have hc := splB_count tx 32
 rw [spl_cut] at hc ⊢
 rw [cutL_len] at hc ⊢
 refine ⟨⟨by omega, Nat.le_refl 1, hc⟩, cond_i (fun h => ?_) (fun h => ?_)⟩
 ·have h7 : nPc 32 tx ≠ 6 := fun e => by rw [e] at h; cases h
  rw [wrC_no (okTo_no h7 1), wrC_no (okTo_no h7 2), wrC_no (okTo_no h7 3), wrC_no (okTo_no h7 4), wrC_no (okTo_no h7 5), wrC_no (okTo_no h7 6), show okTo tx 6 6 = false from okTo_no h7 6]
  exact ⟨LeD.refl _, rfl⟩
 have h7 : nPc 32 tx = 6 := by
  have h : ((nPc 32 tx : Nat) : Int) = 6 := by simpa using h
  omega
 have o0 := okTo_zero h7
 have hs : ∀ i, (ofL (wAt 32 tx i)).size ≤ 1000000000 := fun i => by rw [ofL_size]; exact Nat.le_trans wAt_len (by omega)
 rw [cutL_at (show 0 < nPc 32 tx by omega), cutL_at (show 1 < nPc 32 tx by omega), cutL_at (show 2 < nPc 32 tx by omega), cutL_at (show 3 < nPc 32 tx by omega), cutL_at (show 4 < nPc 32 tx by omega), cutL_at (show 5 < nPc 32 tx by omega)]
 simp only [bad_w]
 refine ⟨⟨by decide, by decide⟩, ⟨by decide, by omega⟩, hs 0, cond_i (fun _ => ⟨by trivial, by trivial, trivial⟩) (fun g => ⟨ato_bd (by simpa using g), ⟨by decide, by omega⟩, cond_i (fun _ => ⟨by trivial, trivial⟩) (fun _ => ⟨⟨by decide, by omega⟩, trivial⟩)⟩), lt_i fun y0 z0 => ?_⟩
 subst z0
 refine cond_i (fun g => ?_) (fun g => ?_)
 ·have g0 : (numR (wAt 32 tx 0) 5).isSome = false := by simpa using g
  have b1 : okTo tx 6 1 = false := by rw [okTo_succ, o0, g0]; rfl
  rw [wrC_no (okTo_mono b1 (by decide)), wrC_no (okTo_mono b1 (by decide)), wrC_no (okTo_mono b1 (by decide)), wrC_no (okTo_mono b1 (by decide)), wrC_no (okTo_mono b1 (by decide)), wrC_no (okTo_mono b1 (by decide)), show okTo tx 6 6 = false from okTo_mono b1 (by decide)]
  exact ⟨LeD.refl _, rfl⟩
 have g0 : (numR (wAt 32 tx 0) 5).isSome = true := by simpa using g
 have o1 : okTo tx 6 1 = true := by rw [okTo_succ, o0, g0]; rfl
 rw [val_w g0]
 refine ⟨⟨by decide, by decide⟩, ⟨by decide, by omega⟩, hs 1, cond_i (fun _ => ⟨by trivial, by trivial, trivial⟩) (fun g => ⟨ato_bd (by simpa using g), ⟨by decide, by omega⟩, cond_i (fun _ => ⟨by trivial, trivial⟩) (fun _ => ⟨⟨by decide, by omega⟩, trivial⟩)⟩), lt_i fun y1 z1 => ?_⟩
 subst z1
 refine cond_i (fun g => ?_) (fun g => ?_)
 ·have g1 : (numR (wAt 32 tx 1) 5).isSome = false := by simpa using g
  have b2 : okTo tx 6 2 = false := by rw [okTo_succ, o1, g1]; rfl
  rw [wrC_yes o1, wrC_no (okTo_mono b2 (by decide)), wrC_no (okTo_mono b2 (by decide)), wrC_no (okTo_mono b2 (by decide)), wrC_no (okTo_mono b2 (by decide)), wrC_no (okTo_mono b2 (by decide)), show okTo tx 6 6 = false from okTo_mono b2 (by decide)]
  exact ⟨LeD.refl _, rfl⟩
 have g1 : (numR (wAt 32 tx 1) 5).isSome = true := by simpa using g
 have o2 : okTo tx 6 2 = true := by rw [okTo_succ, o1, g1]; rfl
 rw [val_w g1]
 refine ⟨⟨by decide, by decide⟩, ⟨by decide, by omega⟩, hs 2, cond_i (fun _ => ⟨by trivial, by trivial, trivial⟩) (fun g => ⟨ato_bd (by simpa using g), ⟨by decide, by omega⟩, cond_i (fun _ => ⟨by trivial, trivial⟩) (fun _ => ⟨⟨by decide, by omega⟩, trivial⟩)⟩), lt_i fun y2 z2 => ?_⟩
 subst z2
 refine cond_i (fun g => ?_) (fun g => ?_)
 ·have g2 : (numR (wAt 32 tx 2) 5).isSome = false := by simpa using g
  have b3 : okTo tx 6 3 = false := by rw [okTo_succ, o2, g2]; rfl
  rw [wrC_yes o1, wrC_yes o2, wrC_no (okTo_mono b3 (by decide)), wrC_no (okTo_mono b3 (by decide)), wrC_no (okTo_mono b3 (by decide)), wrC_no (okTo_mono b3 (by decide)), show okTo tx 6 6 = false from okTo_mono b3 (by decide)]
  exact ⟨LeD.refl _, rfl⟩
 have g2 : (numR (wAt 32 tx 2) 5).isSome = true := by simpa using g
 have o3 : okTo tx 6 3 = true := by rw [okTo_succ, o2, g2]; rfl
 rw [val_w g2]
 refine ⟨⟨by decide, by decide⟩, ⟨by decide, by omega⟩, hs 3, cond_i (fun _ => ⟨by trivial, by trivial, trivial⟩) (fun g => ⟨ato_bd (by simpa using g), ⟨by decide, by omega⟩, cond_i (fun _ => ⟨by trivial, trivial⟩) (fun _ => ⟨⟨by decide, by omega⟩, trivial⟩)⟩), lt_i fun y3 z3 => ?_⟩
 subst z3
 refine cond_i (fun g => ?_) (fun g => ?_)
 ·have g3 : (numR (wAt 32 tx 3) 5).isSome = false := by simpa using g
  have b4 : okTo tx 6 4 = false := by rw [okTo_succ, o3, g3]; rfl
  rw [wrC_yes o1, wrC_yes o2, wrC_yes o3, wrC_no (okTo_mono b4 (by decide)), wrC_no (okTo_mono b4 (by decide)), wrC_no (okTo_mono b4 (by decide)), show okTo tx 6 6 = false from okTo_mono b4 (by decide)]
  exact ⟨LeD.refl _, rfl⟩
 have g3 : (numR (wAt 32 tx 3) 5).isSome = true := by simpa using g
 have o4 : okTo tx 6 4 = true := by rw [okTo_succ, o3, g3]; rfl
 rw [val_w g3]
 refine ⟨⟨by decide, by decide⟩, ⟨by decide, by omega⟩, hs 4, cond_i (fun _ => ⟨by trivial, by trivial, trivial⟩) (fun g => ⟨ato_bd (by simpa using g), ⟨by decide, by omega⟩, cond_i (fun _ => ⟨by trivial, trivial⟩) (fun _ => ⟨⟨by decide, by omega⟩, trivial⟩)⟩), lt_i fun y4 z4 => ?_⟩
 subst z4
 refine cond_i (fun g => ?_) (fun g => ?_)
 ·have g4 : (numR (wAt 32 tx 4) 5).isSome = false := by simpa using g
  have b5 : okTo tx 6 5 = false := by rw [okTo_succ, o4, g4]; rfl
  rw [wrC_yes o1, wrC_yes o2, wrC_yes o3, wrC_yes o4, wrC_no (okTo_mono b5 (by decide)), wrC_no (okTo_mono b5 (by decide)), show okTo tx 6 6 = false from okTo_mono b5 (by decide)]
  exact ⟨LeD.refl _, rfl⟩
 have g4 : (numR (wAt 32 tx 4) 5).isSome = true := by simpa using g
 have o5 : okTo tx 6 5 = true := by rw [okTo_succ, o4, g4]; rfl
 rw [val_w g4]
 refine ⟨⟨by decide, by decide⟩, ⟨by decide, by omega⟩, hs 5, cond_i (fun _ => ⟨by trivial, by trivial, trivial⟩) (fun g => ⟨ato_bd (by simpa using g), ⟨by decide, by omega⟩, cond_i (fun _ => ⟨by trivial, trivial⟩) (fun _ => ⟨⟨by decide, by omega⟩, trivial⟩)⟩), lt_i fun y5 z5 => ?_⟩
 subst z5
 refine cond_i (fun g => ?_) (fun g => ?_)
 ·have g5 : (numR (wAt 32 tx 5) 5).isSome = false := by simpa using g
  have b6 : okTo tx 6 6 = false := by rw [okTo_succ, o5, g5]; rfl
  rw [wrC_yes o1, wrC_yes o2, wrC_yes o3, wrC_yes o4, wrC_yes o5, wrC_no (okTo_mono b6 (by decide)), show okTo tx 6 6 = false from okTo_mono b6 (by decide)]
  exact ⟨LeD.refl _, rfl⟩
 have g5 : (numR (wAt 32 tx 5) 5).isSome = true := by simpa using g
 have o6 : okTo tx 6 6 = true := by rw [okTo_succ, o5, g5]; rfl
 rw [val_w g5]
 rw [wrC_yes o1, wrC_yes o2, wrC_yes o3, wrC_yes o4, wrC_yes o5, wrC_yes o6, show okTo tx 6 6 = true from o6]
 exact ⟨LeD.refl _, rfl⟩
def con_track_read_6 : Con := fun args => match args with
 | [.t (.c (.v (.string tx))), .t (.c (.px 6 0 c_b))] => some (.t (.c (.v (.bool (okTo tx 6 6)))), some (numsB 6 c_b = true ∧ (tx).size ≤ 100000000), .wrs 90 25 [.v (.int .i64 (wrC tx 6 0 (cvInt (c_b 0)))), .v (.int .i64 (wrC tx 6 1 (cvInt (c_b 1)))), .v (.int .i64 (wrC tx 6 2 (cvInt (c_b 2)))), .v (.int .i64 (wrC tx 6 3 (cvInt (c_b 3)))), .v (.int .i64 (wrC tx 6 4 (cvInt (c_b 4)))), .v (.int .i64 (wrC tx 6 5 (cvInt (c_b 5))))])
 | _ => none
theorem ok_track_read_6 : Ok Tryz.prog 39 con_track_read_6 := by
 refine Ok.fnS (ann := ann_track_read_6) mixed tabOK VSka58 VIlib (fn := Tryz.f39) (by kernel_rfl) (by kernel_rfl) fit_track_read_6 fun args r pre fresh h hp => ?_
 unfold con_track_read_6 at h
 split at h
 ·rename_i tx c_b
  cases h
  obtain ⟨hp0, hp⟩ := hp
  have e := cells_nums hp0
  refine ⟨_, 6, c_b, _, _, _, rfl, rfl, by rw [e]; rfl, Nat.le_of_ble_eq_true (by kernel_rfl), rfl, fun _ _ _ => False, _, (fun w N v h => h), ?_⟩
  rw [e]
  exact (ev_track_read_6 _ tx (cvInt (c_b 0)) (cvInt (c_b 1)) (cvInt (c_b 2)) (cvInt (c_b 3)) (cvInt (c_b 4)) (cvInt (c_b 5)) _).mpr (spec_track_read_6 tx (cvInt (c_b 0)) (cvInt (c_b 1)) (cvInt (c_b 2)) (cvInt (c_b 3)) (cvInt (c_b 4)) (cvInt (c_b 5)) hp)
 ·cases h
def Ska59 : Sum := addF Ska58 39 con_track_read_6
theorem VSka59 : Valid Tryz.prog Ska59 := Valid.addF VSka58 ok_track_read_6
def mk_track_FormatHits_0 (l : List THit) (v0_0 : List (List CV)) (v0_1 : Int) : DS := ⟨[none, none, none, some (.t (.c (.os 3))), none, none, some (.t (.c (.sl 5 l.length (hitsC l)))), some (.t (.c (.v (.int .i64 ((l.length : Nat) : Int))))), some (.t (.c (.v (.int .i64 v0_1)))), none, none, none, none, none, none, none, none, none, none, none, none, none, none, none, none, none, none, none, none, none, none, none, none], [none, none, none, some (.gen 9 1 v0_0), none, none, none, none, none, none, none, none, none, none, none, none, none, none, none, none, none, none, none, none, none, none, none, none, none, none, none, none, none]⟩
def vc_track_FormatHits (J : Inv) (l : List THit) (post : DV → Prop) : Prop := ∃ n, J 0 (n :: []) (mk_track_FormatHits_0 l ([]) 0)
def ann_track_FormatHits : Ann := ⟨fun _ => none, fun b => lookA b [(0, (none, some ⟨[6, 7, 8], [], [(3, .gen 9 1 [])]⟩))], fun _ => [], Ilib, false, fun _ => none, fun _ => none⟩
theorem ev_track_FormatHits (J : Inv) (l : List THit) (post : DV → Prop) : evFn Tryz.prog tab Ska59 ann_track_FormatHits J Tryz.f7 [.t (.c (.sl 5 l.length (hitsC l)))] post = vc_track_FormatHits J l post := by kernel_rfl
theorem fit_track_FormatHits : okFn ann_track_FormatHits Tryz.f7 = true := by kernel_rfl
def rd_track_FormatHits_0 (J : Inv) (l : List THit) (v0_0 : List (List CV)) (v0_1 : Int) (nn0 : Nat) (post : DV → Prop) : Prop := cond (decide (v0_1 < ((l.length : Nat) : Int))) ((0 ≤ v0_1 ∧ v0_1 < ((l.length : Nat) : Int)) ∧ ((0 ≤ (0 : Int) ∧ (0 : Int) < ((3 : Nat) : Int)) ∧ ((0 ≤ (1 : Int) ∧ (1 : Int) < ((3 : Nat) : Int)) ∧ ((0 ≤ (2 : Int) ∧ (2 : Int) < ((3 : Nat) : Int)) ∧ ((numsP 1 5 (genC [[.v (.int .i64 ((hitAt l v0_1.toNat).p.x))], [.v (.int .i64 ((hitAt l v0_1.toNat).p.y))], [.v (.int .i64 ((hitAt l v0_1.toNat).p.z))], [.v (.int .i64 ((hitAt l v0_1.toNat).t))], [.v (.int .i64 ((hitAt l v0_1.toNat).w))]]) ∧ (([((hitAt l v0_1.toNat).p.x), ((hitAt l v0_1.toNat).p.y), ((hitAt l v0_1.toNat).p.z), ((hitAt l v0_1.toNat).t), ((hitAt l v0_1.toNat).w)] : List Int)).length ≤ 100 ∧ (∀ i, i < (([((hitAt l v0_1.toNat).p.x), ((hitAt l v0_1.toNat).p.y), ((hitAt l v0_1.toNat).p.z), ((hitAt l v0_1.toNat).t), ((hitAt l v0_1.toNat).w)] : List Int)).length → -9223372036854775808 ≤ (([((hitAt l v0_1.toNat).p.x), ((hitAt l v0_1.toNat).p.y), ((hitAt l v0_1.toNat).p.z), ((hitAt l v0_1.toNat).t), ((hitAt l v0_1.toNat).w)] : List Int)).getD i 0 ∧ (([((hitAt l v0_1.toNat).p.x), ((hitAt l v0_1.toNat).p.y), ((hitAt l v0_1.toNat).p.z), ((hitAt l v0_1.toNat).t), ((hitAt l v0_1.toNat).w)] : List Int)).getD i 0 ≤ 9223372036854775807)) ∧ ((roomP 16 (v0_0.length + ([[.v (.string (wordsB ([((hitAt l v0_1.toNat).p.x), ((hitAt l v0_1.toNat).p.y), ((hitAt l v0_1.toNat).p.z), ((hitAt l v0_1.toNat).t), ((hitAt l v0_1.toNat).w)] : List Int)))]] : List (List CV)).length)) ∧ (lt (IntKind.i64.wrap (v0_1 + (1 : Int))) fun x1 => J 0 (nn0 :: []) (mk_track_FormatHits_0 l (v0_0 ++ ([[.v (.string (wordsB ([((hitAt l v0_1.toNat).p.x), ((hitAt l v0_1.toNat).p.y), ((hitAt l v0_1.toNat).p.z), ((hitAt l v0_1.toNat).t), ((hitAt l v0_1.toNat).w)] : List Int)))]] : List (List CV))) x1)))))))) ((txP v0_0.length (genC v0_0) ∧ (txOf v0_0.length (genC v0_0)).length ≤ 1000000 ∧ (joinB (txOf v0_0.length (genC v0_0)) (⟨#[59]⟩)).size ≤ 1000000000) ∧ (post (.t (.c (.v (.string (joinB (txOf v0_0.length (genC v0_0)) (⟨#[59]⟩))))))))
theorem er_track_FormatHits_0 (J : Inv) (l : List THit) (v0_0 : List (List CV)) (v0_1 : Int) (nn0 : Nat) (post : DV → Prop) : round Tryz.prog tab Ska59 ann_track_FormatHits J Tryz.f7 post 0 (nn0 :: []) (mk_track_FormatHits_0 l v0_0 v0_1) = rd_track_FormatHits_0 J l v0_0 v0_1 nn0 post := by kernel_rfl
theorem lp_track_FormatHits (J : Inv) (post : DV → Prop) : AllG J (loopsFn Tryz.prog tab Ska59 ann_track_FormatHits J Tryz.f7 post) = (((∀ F s, ¬ J 0 (0 :: F) s) ∧ ∀ n F s, J 0 ((n + 1) :: F) s → round Tryz.prog tab Ska59 ann_track_FormatHits J Tryz.f7 post 0 (n :: F) s) ∧ True) := by kernel_rfl
def J_track_FormatHits (l : List THit) : Inv := fun b F s => match b, F with
 | 0, [nn0] => ∃ (v0_0 : List (List CV)) (v0_1 : Int), s = mk_track_FormatHits_0 l v0_0 v0_1 ∧ (((l).length ≤ 14 ∧ ∀ k, k < (l).length → rgH (hitAt l k)) ∧ 0 ≤ v0_1 ∧ v0_1 ≤ l.length ∧ (nn0 : Int) + v0_1 = l.length + 1 ∧ v0_0 = ((l.take v0_1.toNat).map hitW).map ttCv)
 | _, _ => False
theorem rnd_track_FormatHits_0 (l : List THit) (v0_0 : List (List CV)) (v0_1 : Int) (nn0 : Nat) (hp : (l).length ≤ 14 ∧ ∀ k, k < (l).length → rgH (hitAt l k)) (hi : ((l).length ≤ 14 ∧ ∀ k, k < (l).length → rgH (hitAt l k)) ∧ 0 ≤ v0_1 ∧ v0_1 ≤ l.length ∧ ((nn0 + 1) : Int) + v0_1 = l.length + 1 ∧ v0_0 = ((l.take v0_1.toNat).map hitW).map ttCv) : rd_track_FormatHits_0 (J_track_FormatHits l) l v0_0 v0_1 nn0 (fun r => LeD r (.t (.c (.v (.string (hitsT l)))))) := by
 obtain ⟨q, i1, i2, i3, i4⟩ := hi
 obtain ⟨k, rfl⟩ : ∃ k : Nat, v0_1 = k := ⟨v0_1.toNat, by omega⟩
 have hk : (k : Int).toNat = k := rfl
 rw [hk] at i4
 subst i4
 have z := hitsT_len q.1 q.2
 unfold rd_track_FormatHits_0
 refine cond_i (fun h => ?_) (fun h => ?_)
 ·have hlt : k < l.length := by have := of_decide_eq_true h; omega
  have b := q.2 k hlt
  rw [Int.toNat_natCast]
  refine ⟨⟨by omega, by omega⟩, by decide, by decide, by decide, ⟨numsP_gen [_, _, _, _, _], by simp, in5 b⟩, ⟨by simp; omega, by simp [maxLen]; omega⟩, lt_i fun x1 h1 => ?_⟩
  rw [wi (by omega)] at h1
  subst h1
  refine ⟨_, _, rfl, q, by omega, by omega, by omega, ?_⟩
  rw [show ((k : Int) + 1).toNat = k + 1 from rfl, take_snoc l THit.zero hlt, ttCv_snoc]
  congr 1
  rw [List.map_append]
  rfl
 ·have e : k = l.length := by have := of_decide_eq_false h; omega
  subst e
  rw [List.take_length, ttg_of]
  refine ⟨⟨txP_ttg _, by simp; omega, by unfold hitsT at z; omega⟩, LeD.refl _⟩
theorem zero_track_FormatHits_0 (l : List THit) (v0_0 : List (List CV)) (v0_1 : Int)  (hi : ((l).length ≤ 14 ∧ ∀ k, k < (l).length → rgH (hitAt l k)) ∧ 0 ≤ v0_1 ∧ v0_1 ≤ l.length ∧ (0 : Int) + v0_1 = l.length + 1 ∧ v0_0 = ((l.take v0_1.toNat).map hitW).map ttCv) : False := by
 omega
theorem spec_track_FormatHits (l : List THit) (hp : (l).length ≤ 14 ∧ ∀ k, k < (l).length → rgH (hitAt l k)) : vc_track_FormatHits (J_track_FormatHits l) l (fun r => LeD r (.t (.c (.v (.string (hitsT l)))))) := by
 unfold vc_track_FormatHits
 exact ⟨l.length + 1, [], 0, rfl, hp, by omega, by omega, by omega, rfl⟩
theorem all_track_FormatHits (l : List THit) (hp : (l).length ≤ 14 ∧ ∀ k, k < (l).length → rgH (hitAt l k)) : AllG (J_track_FormatHits l) (loopsFn Tryz.prog tab Ska59 ann_track_FormatHits (J_track_FormatHits l) Tryz.f7 (fun r => LeD r (.t (.c (.v (.string (hitsT l))))))) := by
 rw [lp_track_FormatHits]
 refine ⟨⟨?_, ?_⟩, trivial⟩
 ·intro F s h
  obtain _ | ⟨g, F⟩ := F
  case cons => exact h.elim
  obtain ⟨w0, w1, rfl, hi⟩ := h
  exact zero_track_FormatHits_0 l w0 w1 hi
 ·intro n F s h
  obtain _ | ⟨g, F⟩ := F
  case cons => exact h.elim
  obtain ⟨w0, w1, rfl, hi⟩ := h
  rw [er_track_FormatHits_0]
  exact rnd_track_FormatHits_0 l _ _ _ hp hi
def con_track_FormatHits : Con := fun args => match args with
 | [.t (.c (.sl 5 n_l c_l))] => some (.t (.c (.v (.string (hitsT (listC n_l mkHit c_l))))), some (numsP 5 n_l c_l ∧ ((listC n_l mkHit c_l)).length ≤ 14 ∧ ∀ k, k < ((listC n_l mkHit c_l)).length → rgH (hitAt (listC n_l mkHit c_l) k)), false)
 | _ => none
theorem ok_track_FormatHits : Ok Tryz.prog 7 con_track_FormatHits := by
 refine Ok.fn (ann := ann_track_FormatHits) mixed tabOK VSka59 VIlib (fn := Tryz.f7) (by kernel_rfl) (by kernel_rfl) fit_track_FormatHits fun args r pre fresh h hp => ?_
 unfold con_track_FormatHits at h
 split at h
 ·rename_i n_l c_l
  cases h
  obtain ⟨hp0, hp⟩ := hp
  refine ⟨rfl, J_track_FormatHits (listC n_l mkHit c_l), [.t (.c (.sl 5 ((listC n_l mkHit c_l).length) (hitsC (listC n_l mkHit c_l))))], ?_, Nat.le_of_ble_eq_true (by kernel_rfl), ?_, ?_⟩
  ·exact (LeA_cons (leT_c ((leL_THit hp0))) LeA_nil)
  ·rw [ev_track_FormatHits]; exact spec_track_FormatHits (listC n_l mkHit c_l) hp
  ·exact all_track_FormatHits (listC n_l mkHit c_l) hp
 ·cases h
def Ska60 : Sum := addS Ska59 7 con_track_FormatHits
theorem VSka60 : Valid Tryz.prog Ska60 := Valid.add VSka59 ok_track_FormatHits
def vc_track_FormatBox (b0 b1 b2 b3 b4 b5 : Int) (post : DV → Prop) : Prop := (0 ≤ (0 : Int) ∧ (0 : Int) < ((3 : Nat) : Int)) ∧ ((0 ≤ (1 : Int) ∧ (1 : Int) < ((3 : Nat) : Int)) ∧ ((0 ≤ (2 : Int) ∧ (2 : Int) < ((3 : Nat) : Int)) ∧ ((0 ≤ (0 : Int) ∧ (0 : Int) < ((3 : Nat) : Int)) ∧ ((0 ≤ (1 : Int) ∧ (1 : Int) < ((3 : Nat) : Int)) ∧ ((0 ≤ (2 : Int) ∧ (2 : Int) < ((3 : Nat) : Int)) ∧ ((numsP 1 6 (genC [[.v (.int .i64 b0)], [.v (.int .i64 b1)], [.v (.int .i64 b2)], [.v (.int .i64 b3)], [.v (.int .i64 b4)], [.v (.int .i64 b5)]]) ∧ (([b0, b1, b2, b3, b4, b5] : List Int)).length ≤ 100 ∧ (∀ i, i < (([b0, b1, b2, b3, b4, b5] : List Int)).length → -9223372036854775808 ≤ (([b0, b1, b2, b3, b4, b5] : List Int)).getD i 0 ∧ (([b0, b1, b2, b3, b4, b5] : List Int)).getD i 0 ≤ 9223372036854775807)) ∧ (post (.t (.c (.v (.string (wordsB ([b0, b1, b2, b3, b4, b5] : List Int)))))))))))))
def ann_track_FormatBox : Ann := ⟨fun _ => none, fun _ => none, fun _ => [], Ilib, false, fun _ => none, fun _ => none⟩
theorem ev_track_FormatBox (J : Inv) (b0 b1 b2 b3 b4 b5 : Int) (post : DV → Prop) : evFn Tryz.prog tab Ska60 ann_track_FormatBox J Tryz.f9 [.t (.a [.v (.int .i64 b0), .v (.int .i64 b1), .v (.int .i64 b2), .v (.int .i64 b3), .v (.int .i64 b4), .v (.int .i64 b5)])] post = vc_track_FormatBox b0 b1 b2 b3 b4 b5 post := by kernel_rfl
theorem fit_track_FormatBox : okFn ann_track_FormatBox Tryz.f9 = true := by kernel_rfl
theorem lp_track_FormatBox (J : Inv) (post : DV → Prop) : AllG J (loopsFn Tryz.prog tab Ska60 ann_track_FormatBox J Tryz.f9 post) = (True) := by kernel_rfl
theorem spec_track_FormatBox (b0 b1 b2 b3 b4 b5 : Int) (hp : rgB (⟨⟨b0, b1, b2⟩, ⟨b3, b4, b5⟩⟩ : TBox)) : vc_track_FormatBox b0 b1 b2 b3 b4 b5 (fun r => LeD r (.t (.c (.v (.string (boxT (⟨⟨b0, b1, b2⟩, ⟨b3, b4, b5⟩⟩ : TBox))))))) := by
 unfold vc_track_FormatBox
 exact ⟨by decide, by decide, by decide, by decide, by decide, by decide, ⟨numsP_gen [_, _, _, _, _, _], by simp, in6 (b := (⟨⟨b0, b1, b2⟩, ⟨b3, b4, b5⟩⟩ : TBox)) hp⟩, LeD.refl _⟩
def con_track_FormatBox : Con := fun args => match args with
 | [.t (.a [.v (.int .i64 b0), .v (.int .i64 b1), .v (.int .i64 b2), .v (.int .i64 b3), .v (.int .i64 b4), .v (.int .i64 b5)])] => some (.t (.c (.v (.string (boxT (⟨⟨b0, b1, b2⟩, ⟨b3, b4, b5⟩⟩ : TBox))))), some (rgB (⟨⟨b0, b1, b2⟩, ⟨b3, b4, b5⟩⟩ : TBox)), false)
 | _ => none
theorem ok_track_FormatBox : Ok Tryz.prog 9 con_track_FormatBox := by
 refine Ok.fn (ann := ann_track_FormatBox) mixed tabOK VSka60 VIlib (fn := Tryz.f9) (by kernel_rfl) (by kernel_rfl) fit_track_FormatBox fun args r pre fresh h hp => ?_
 unfold con_track_FormatBox at h
 split at h
 ·rename_i b0 b1 b2 b3 b4 b5
  cases h
  refine ⟨rfl, fun _ _ _ => False, _, LeA.refl _, Nat.le_of_ble_eq_true (by kernel_rfl), ?_, ?_⟩
  ·rw [ev_track_FormatBox]; exact spec_track_FormatBox b0 b1 b2 b3 b4 b5 hp
  ·rw [lp_track_FormatBox]; trivial
 ·cases h
def Ska61 : Sum := addS Ska60 9 con_track_FormatBox
theorem VSka61 : Valid Tryz.prog Ska61 := Valid.add VSka60 ok_track_FormatBox
def mk_track_ParseHits_0 (tx : ByteArray) (v0_0 : List (List CV)) (v0_1 : List (List CV)) (v0_2 : ByteArray) : DS := ⟨[none, none, some (.t (.c (.p 2 0))), some (.t (.c (.p 3 0))), some (.t (.c (.p 4 0))), none, none, none, none, none, none, none, none, none, some (.t (.fn 108 [.px 1 0 (fun _ => .v (.string (⟨#[59]⟩))), .p 14 0, .px 1 0 (fun _ => .v (.int .i64 0))])), none, none, none, none, none, none, none, none, none, none, none, none, none, none, none, none, none, none, none, none, none, none, none], [some (.gen 57 5 v0_0), some (.gen 57 5 v0_1), some (.box 22 [.os 0]), some (.box 31 [.v (.int .i64 0)]), some (.box 22 [.os 1]), none, none, none, none, none, none, none, none, none, some (.box 9 [.v (.string v0_2)]), none, none, none, none, none, none, none, none, none, none, none, none, none, none, none, none, none, none, none, none, none, none, none]⟩
def vc_track_ParseHits (J : Inv) (tx : ByteArray) (post : DV → Prop) : Prop := cond (decide ((((tx : ByteArray).size : Nat) : Int) > (60000 : Int))) (post (.tu [.c (.v (.slice none 0 0)), .c (.v (.int .i64 8))])) (cond ((tx : ByteArray).toList == (⟨#[]⟩ : ByteArray).toList) (post (.tu [.c (.v (.slice none 0 0)), .c (.v (.int .i64 0))])) ((sepP (.v (.string (⟨#[59]⟩))) ∧ (.v (.string tx) : CV) = .v (.string tx) ∧ tx.size ≤ 1000000000 ∧ (.v (.int .i64 0) : CV) = .v (.int .i64 0)) ∧ (J 0 [0] (mk_track_ParseHits_0 tx ([]) ([]) tx))))
def ann_track_ParseHits : Ann := ⟨fun _ => none, fun b => lookA b [(0, (none, some ⟨[2, 3, 4, 14], [2, 3, 4, 14], []⟩))], fun b => (lookA b [(0, [(2, 0, 0, .gen 57 5 []), (4, 0, 1, .gen 57 5 [])])]).getD [], Ilib, false, fun _ => none, fun _ => none⟩
theorem ev_track_ParseHits (J : Inv) (tx : ByteArray) (post : DV → Prop) : evFn Tryz.prog tab Ska61 ann_track_ParseHits J Tryz.f10 [.t (.c (.v (.string tx)))] post = vc_track_ParseHits J tx post := by kernel_rfl
theorem fit_track_ParseHits : okFn ann_track_ParseHits Tryz.f10 = true := by kernel_rfl
def rd_track_ParseHits_0 (J : Inv) (tx : ByteArray) (v0_0 : List (List CV)) (v0_1 : List (List CV)) (v0_2 : ByteArray) (nn0 : Nat) (post : DV → Prop) : Prop := (0 ≤ (0 : Int) ∧ (0 : Int) < ((3 : Nat) : Int)) ∧ ((0 ≤ (1 : Int) ∧ (1 : Int) < ((3 : Nat) : Int)) ∧ ((0 ≤ (2 : Int) ∧ (2 : Int) < ((3 : Nat) : Int)) ∧ ((numsB 5 (boxC [.v (.int .i64 0), .v (.int .i64 0), .v (.int .i64 0), .v (.int .i64 0), .v (.int .i64 0)]) = true ∧ ((cutA v0_2 (⟨#[59]⟩))).size ≤ 100000000) ∧ (cond (!(okTo (cutA v0_2 (⟨#[59]⟩)) 5 5)) (post (.tu [.c (.sl 5 0 (genC [])), .c (.v (.int .i64 7))])) ((roomP 40 (v0_1.length + ([[.v (.int .i64 (wrC (cutA v0_2 (⟨#[59]⟩)) 5 0 (0 : Int))), .v (.int .i64 (wrC (cutA v0_2 (⟨#[59]⟩)) 5 1 (0 : Int))), .v (.int .i64 (wrC (cutA v0_2 (⟨#[59]⟩)) 5 2 (0 : Int))), .v (.int .i64 (wrC (cutA v0_2 (⟨#[59]⟩)) 5 3 (0 : Int))), .v (.int .i64 (wrC (cutA v0_2 (⟨#[59]⟩)) 5 4 (0 : Int)))]] : List (List CV)).length)) ∧ (((some (.t (.fn 108 [.px 1 0 (fun _ => .v (.string (⟨#[59]⟩))), .p 14 0, .px 1 0 (fun _ => .v (.int .i64 0))])) : Option DV) = some (.t (.fn 108 [.px 1 0 (fun _ => .v (.string (⟨#[59]⟩))), .p 14 0, .px 1 0 (fun _ => .v (.int .i64 0))]))) ∧ ((some (.box 9 [.v (.string v0_2)]) : Option Row) = some (.box 9 [.v (.string v0_2)])) ∧ cond (cutH v0_2 (⟨#[59]⟩)) (J 0 [nn0 + 1] (mk_track_ParseHits_0 tx v0_0 (v0_1 ++ ([[.v (.int .i64 (wrC (cutA v0_2 (⟨#[59]⟩)) 5 0 (0 : Int))), .v (.int .i64 (wrC (cutA v0_2 (⟨#[59]⟩)) 5 1 (0 : Int))), .v (.int .i64 (wrC (cutA v0_2 (⟨#[59]⟩)) 5 2 (0 : Int))), .v (.int .i64 (wrC (cutA v0_2 (⟨#[59]⟩)) 5 3 (0 : Int))), .v (.int .i64 (wrC (cutA v0_2 (⟨#[59]⟩)) 5 4 (0 : Int)))]] : List (List CV))) (cutZ v0_2 (⟨#[59]⟩)))) ((numsP 5 ((v0_1 ++ ([[.v (.int .i64 (wrC (cutA v0_2 (⟨#[59]⟩)) 5 0 (0 : Int))), .v (.int .i64 (wrC (cutA v0_2 (⟨#[59]⟩)) 5 1 (0 : Int))), .v (.int .i64 (wrC (cutA v0_2 (⟨#[59]⟩)) 5 2 (0 : Int))), .v (.int .i64 (wrC (cutA v0_2 (⟨#[59]⟩)) 5 3 (0 : Int))), .v (.int .i64 (wrC (cutA v0_2 (⟨#[59]⟩)) 5 4 (0 : Int)))]] : List (List CV))).length) (genC (v0_1 ++ ([[.v (.int .i64 (wrC (cutA v0_2 (⟨#[59]⟩)) 5 0 (0 : Int))), .v (.int .i64 (wrC (cutA v0_2 (⟨#[59]⟩)) 5 1 (0 : Int))), .v (.int .i64 (wrC (cutA v0_2 (⟨#[59]⟩)) 5 2 (0 : Int))), .v (.int .i64 (wrC (cutA v0_2 (⟨#[59]⟩)) 5 3 (0 : Int))), .v (.int .i64 (wrC (cutA v0_2 (⟨#[59]⟩)) 5 4 (0 : Int)))]] : List (List CV))))) ∧ (cond ((hitsE (listC ((v0_1 ++ ([[.v (.int .i64 (wrC (cutA v0_2 (⟨#[59]⟩)) 5 0 (0 : Int))), .v (.int .i64 (wrC (cutA v0_2 (⟨#[59]⟩)) 5 1 (0 : Int))), .v (.int .i64 (wrC (cutA v0_2 (⟨#[59]⟩)) 5 2 (0 : Int))), .v (.int .i64 (wrC (cutA v0_2 (⟨#[59]⟩)) 5 3 (0 : Int))), .v (.int .i64 (wrC (cutA v0_2 (⟨#[59]⟩)) 5 4 (0 : Int)))]] : List (List CV))).length) mkHit (genC (v0_1 ++ ([[.v (.int .i64 (wrC (cutA v0_2 (⟨#[59]⟩)) 5 0 (0 : Int))), .v (.int .i64 (wrC (cutA v0_2 (⟨#[59]⟩)) 5 1 (0 : Int))), .v (.int .i64 (wrC (cutA v0_2 (⟨#[59]⟩)) 5 2 (0 : Int))), .v (.int .i64 (wrC (cutA v0_2 (⟨#[59]⟩)) 5 3 (0 : Int))), .v (.int .i64 (wrC (cutA v0_2 (⟨#[59]⟩)) 5 4 (0 : Int)))]] : List (List CV)))))) != (0 : Int)) (post (.tu [.c (.v (.slice none 0 0)), .c (.v (.int .i64 (hitsE (listC ((v0_1 ++ ([[.v (.int .i64 (wrC (cutA v0_2 (⟨#[59]⟩)) 5 0 (0 : Int))), .v (.int .i64 (wrC (cutA v0_2 (⟨#[59]⟩)) 5 1 (0 : Int))), .v (.int .i64 (wrC (cutA v0_2 (⟨#[59]⟩)) 5 2 (0 : Int))), .v (.int .i64 (wrC (cutA v0_2 (⟨#[59]⟩)) 5 3 (0 : Int))), .v (.int .i64 (wrC (cutA v0_2 (⟨#[59]⟩)) 5 4 (0 : Int)))]] : List (List CV))).length) mkHit (genC (v0_1 ++ ([[.v (.int .i64 (wrC (cutA v0_2 (⟨#[59]⟩)) 5 0 (0 : Int))), .v (.int .i64 (wrC (cutA v0_2 (⟨#[59]⟩)) 5 1 (0 : Int))), .v (.int .i64 (wrC (cutA v0_2 (⟨#[59]⟩)) 5 2 (0 : Int))), .v (.int .i64 (wrC (cutA v0_2 (⟨#[59]⟩)) 5 3 (0 : Int))), .v (.int .i64 (wrC (cutA v0_2 (⟨#[59]⟩)) 5 4 (0 : Int)))]] : List (List CV))))))))])) (post (.tu [.c (.sl 5 ((v0_1 ++ ([[.v (.int .i64 (wrC (cutA v0_2 (⟨#[59]⟩)) 5 0 (0 : Int))), .v (.int .i64 (wrC (cutA v0_2 (⟨#[59]⟩)) 5 1 (0 : Int))), .v (.int .i64 (wrC (cutA v0_2 (⟨#[59]⟩)) 5 2 (0 : Int))), .v (.int .i64 (wrC (cutA v0_2 (⟨#[59]⟩)) 5 3 (0 : Int))), .v (.int .i64 (wrC (cutA v0_2 (⟨#[59]⟩)) 5 4 (0 : Int)))]] : List (List CV))).length) (genC (v0_1 ++ ([[.v (.int .i64 (wrC (cutA v0_2 (⟨#[59]⟩)) 5 0 (0 : Int))), .v (.int .i64 (wrC (cutA v0_2 (⟨#[59]⟩)) 5 1 (0 : Int))), .v (.int .i64 (wrC (cutA v0_2 (⟨#[59]⟩)) 5 2 (0 : Int))), .v (.int .i64 (wrC (cutA v0_2 (⟨#[59]⟩)) 5 3 (0 : Int))), .v (.int .i64 (wrC (cutA v0_2 (⟨#[59]⟩)) 5 4 (0 : Int)))]] : List (List CV))))), .c (.v (.int .i64 0))]))))))))))
theorem er_track_ParseHits_0 (J : Inv) (tx : ByteArray) (v0_0 : List (List CV)) (v0_1 : List (List CV)) (v0_2 : ByteArray) (nn0 : Nat) (post : DV → Prop) : round Tryz.prog tab Ska61 ann_track_ParseHits J Tryz.f10 post 0 (nn0 :: []) (mk_track_ParseHits_0 tx v0_0 v0_1 v0_2) = rd_track_ParseHits_0 J tx v0_0 v0_1 v0_2 nn0 post := by kernel_rfl
theorem lp_track_ParseHits (J : Inv) (post : DV → Prop) : AllG J (loopsFn Tryz.prog tab Ska61 ann_track_ParseHits J Tryz.f10 post) = ((∀ i s, J 0 [i] s → round Tryz.prog tab Ska61 ann_track_ParseHits J Tryz.f10 post 0 [i] s) ∧ True) := by kernel_rfl
def J_track_ParseHits (tx : ByteArray) : Inv := fun b F s => match b, F with
 | 0, [nn0] => ∃ (v0_0 : List (List CV)) (v0_1 : List (List CV)) (v0_2 : ByteArray), s = mk_track_ParseHits_0 tx v0_0 v0_1 v0_2 ∧ (tx.size ≤ 60000 ∧ tx.size ≠ 0 ∧ nn0 < nPc 59 tx ∧ v0_0 = [] ∧ v0_1 = (hsK tx nn0).map hitCv ∧ v0_2 = ofL (remC 59 tx.data.toList nn0) ∧ ∀ j, j < nn0 → hitB (partB tx j) = true)
 | _, _ => False
theorem rnd_track_ParseHits_0 (tx : ByteArray) (v0_0 : List (List CV)) (v0_1 : List (List CV)) (v0_2 : ByteArray) (nn0 : Nat) (hp : (tx).size ≤ 100000000) (hi : tx.size ≤ 60000 ∧ tx.size ≠ 0 ∧ nn0 < nPc 59 tx ∧ v0_0 = [] ∧ v0_1 = (hsK tx nn0).map hitCv ∧ v0_2 = ofL (remC 59 tx.data.toList nn0) ∧ ∀ j, j < nn0 → hitB (partB tx j) = true) : rd_track_ParseHits_0 (J_track_ParseHits tx) tx v0_0 v0_1 v0_2 nn0 (fun r => LeD r (.tu [.c (.sl 5 ((phL tx).length) (hitsC (phL tx))), .c (.v (.int .i64 (phE tx)))])) := by
 obtain ⟨q, q0, i1, i2, i3, i4, i5⟩ := hi
 subst i2 i3 i4
 have np := nPc_le 59 tx
 unfold rd_track_ParseHits_0
 rw [cutA_rem i1, cutH_rem i1, show ofL (wAt 59 tx nn0) = partB tx nn0 from rfl]
 refine ⟨by decide, by decide, by decide, ⟨rfl, Nat.le_trans partB_size (by omega)⟩, cond_i (fun g => ?_) (fun g => ?_)⟩
 ·have g : hitB (partB tx nn0) = false := by unfold hitB; simpa using g
  obtain ⟨e1, e2⟩ := phE_syn q q0 (synH_no i1 g)
  rw [e1, e2]
  exact le_tu (le_hits []) (LeD.refl _)
 ·have g : okTo (partB tx nn0) 5 5 = true := by simpa using g
  have all : ∀ j, j < nn0 + 1 → hitB (partB tx j) = true := fun j hj => by
   rcases (by omega : j < nn0 ∨ j = nn0) with c | rfl
   ·exact i5 j c
   ·exact g
  rw [wrC_all g (show 0 < 5 by decide), wrC_all g (show 1 < 5 by decide), wrC_all g (show 2 < 5 by decide), wrC_all g (show 3 < 5 by decide), wrC_all g (show 4 < 5 by decide)]
  have ea : (hsK tx nn0).map hitCv ++ [[.v (.int .i64 (valW (partB tx nn0) 5 0)), .v (.int .i64 (valW (partB tx nn0) 5 1)), .v (.int .i64 (valW (partB tx nn0) 5 2)), .v (.int .i64 (valW (partB tx nn0) 5 3)), .v (.int .i64 (valW (partB tx nn0) 5 4))]] = (hsK tx (nn0 + 1)).map hitCv := by
   rw [hsK_succ, List.map_append]; rfl
  rw [ea, hitg_listC]
  refine ⟨by simp [roomP, maxLen, hsK_len]; omega, rfl, rfl, cond_i (fun h => ?_) (fun h => ⟨numsP_hitg _, ?_⟩)⟩
  ·have h := of_decide_eq_true h
   rw [cutZ_rem h]
   exact ⟨_, _, _, rfl, q, q0, h, rfl, rfl, rfl, all⟩
  ·have h := of_decide_eq_false h
   have en : nn0 + 1 = nPc 59 tx := by omega
   rw [en] at all ⊢
   have e : phE tx = hitsE (hsK tx (nPc 59 tx)) := phE_ok q q0 (synH_yes all)
   rw [← e]
   refine cond_i (fun g => ?_) (fun g => ?_)
   ·have g : phE tx ≠ 0 := by simpa using g
    rw [phL_no g]
    exact le_tu le_nil (LeD.refl _)
   ·have g : phE tx = 0 := by simpa using g
    rw [phL_ok q0 g, g]
    exact le_tu (le_hits _) (LeD.refl _)
theorem spec_track_ParseHits (tx : ByteArray) (hp : (tx).size ≤ 100000000) : vc_track_ParseHits (J_track_ParseHits tx) tx (fun r => LeD r (.tu [.c (.sl 5 ((phL tx).length) (hitsC (phL tx))), .c (.v (.int .i64 (phE tx)))])) := by
 unfold vc_track_ParseHits
 rw [beq_txt]
 refine cond_i (fun h => ?_) (fun h => cond_i (fun h0 => ?_) (fun h0 => ?_))
 ·have h := of_decide_eq_true h
  have e : phE tx = 8 := if_pos (by omega)
  rw [phL_no (by rw [e]; decide), e]
  exact le_tu le_nil (LeD.refl _)
 ·have h0 : tx = ⟨#[]⟩ := of_decide_eq_true h0
  subst h0
  exact le_tu le_nil (LeD.refl _)
 ·have h := of_decide_eq_false h
  have h0 := of_decide_eq_false h0
  exact ⟨⟨⟨59, rfl⟩, rfl, by omega, rfl⟩, _, _, _, rfl, by omega, sz_ne h0, nPc_pos _ _, rfl, rfl, (ofL_back tx).symm, fun j hj => absurd hj (Nat.not_lt_zero _)⟩
theorem all_track_ParseHits (tx : ByteArray) (hp : (tx).size ≤ 100000000) : AllG (J_track_ParseHits tx) (loopsFn Tryz.prog tab Ska61 ann_track_ParseHits (J_track_ParseHits tx) Tryz.f10 (fun r => LeD r (.tu [.c (.sl 5 ((phL tx).length) (hitsC (phL tx))), .c (.v (.int .i64 (phE tx)))]))) := by
 rw [lp_track_ParseHits]
 refine ⟨?_, trivial⟩
 ·intro i s h
  obtain ⟨w0, w1, w2, rfl, hi⟩ := h
  rw [er_track_ParseHits_0]
  exact rnd_track_ParseHits_0 tx _ _ _ _ hp hi
def con_track_ParseHits : Con := fun args => match args with
 | [.t (.c (.v (.string tx)))] => some (.tu [.c (.sl 5 ((phL tx).length) (hitsC (phL tx))), .c (.v (.int .i64 (phE tx)))], some ((tx).size ≤ 100000000), false)
 | _ => none
theorem ok_track_ParseHits : Ok Tryz.prog 10 con_track_ParseHits := by
 refine Ok.fn (ann := ann_track_ParseHits) mixed tabOK VSka61 VIlib (fn := Tryz.f10) (by kernel_rfl) (by kernel_rfl) fit_track_ParseHits fun args r pre fresh h hp => ?_
 unfold con_track_ParseHits at h
 split at h
 ·rename_i tx
  cases h
  refine ⟨rfl, J_track_ParseHits tx, _, LeA.refl _, Nat.le_of_ble_eq_true (by kernel_rfl), ?_, ?_⟩
  ·rw [ev_track_ParseHits]; exact spec_track_ParseHits tx hp
  ·exact all_track_ParseHits tx hp
 ·cases h
def Ska62 : Sum := addS Ska61 10 con_track_ParseHits
theorem VSka62 : Valid Tryz.prog Ska62 := Valid.add VSka61 ok_track_ParseHits
def vc_track_ParseBox (tx : ByteArray) (post : DV → Prop) : Prop := (0 ≤ (0 : Int) ∧ (0 : Int) < ((3 : Nat) : Int)) ∧ ((0 ≤ (1 : Int) ∧ (1 : Int) < ((3 : Nat) : Int)) ∧ ((0 ≤ (2 : Int) ∧ (2 : Int) < ((3 : Nat) : Int)) ∧ ((0 ≤ (0 : Int) ∧ (0 : Int) < ((3 : Nat) : Int)) ∧ ((0 ≤ (1 : Int) ∧ (1 : Int) < ((3 : Nat) : Int)) ∧ ((0 ≤ (2 : Int) ∧ (2 : Int) < ((3 : Nat) : Int)) ∧ ((numsB 6 (boxC [.v (.int .i64 0), .v (.int .i64 0), .v (.int .i64 0), .v (.int .i64 0), .v (.int .i64 0), .v (.int .i64 0)]) = true ∧ (tx).size ≤ 100000000) ∧ (cond (!(okTo tx 6 6)) (post (.tu [.a [.v (.int .i64 0), .v (.int .i64 0), .v (.int .i64 0), .v (.int .i64 0), .v (.int .i64 0), .v (.int .i64 0)], .c (.v (.int .i64 7))])) (cond ((((⟨⟨(wrC tx 6 0 (0 : Int)), (wrC tx 6 1 (0 : Int)), (wrC tx 6 2 (0 : Int))⟩, ⟨(wrC tx 6 3 (0 : Int)), (wrC tx 6 4 (0 : Int)), (wrC tx 6 5 (0 : Int))⟩⟩ : TBox)).err) != (0 : Int)) (post (.tu [.a [.v (.int .i64 0), .v (.int .i64 0), .v (.int .i64 0), .v (.int .i64 0), .v (.int .i64 0), .v (.int .i64 0)], .c (.v (.int .i64 (((⟨⟨(wrC tx 6 0 (0 : Int)), (wrC tx 6 1 (0 : Int)), (wrC tx 6 2 (0 : Int))⟩, ⟨(wrC tx 6 3 (0 : Int)), (wrC tx 6 4 (0 : Int)), (wrC tx 6 5 (0 : Int))⟩⟩ : TBox)).err)))])) (post (.tu [.a [.v (.int .i64 (wrC tx 6 0 (0 : Int))), .v (.int .i64 (wrC tx 6 1 (0 : Int))), .v (.int .i64 (wrC tx 6 2 (0 : Int))), .v (.int .i64 (wrC tx 6 3 (0 : Int))), .v (.int .i64 (wrC tx 6 4 (0 : Int))), .v (.int .i64 (wrC tx 6 5 (0 : Int)))], .c (.v (.int .i64 0))]))))))))))
def ann_track_ParseBox : Ann := ⟨fun _ => none, fun _ => none, fun _ => [], Ilib, false, fun _ => none, fun _ => none⟩
theorem ev_track_ParseBox (J : Inv) (tx : ByteArray) (post : DV → Prop) : evFn Tryz.prog tab Ska62 ann_track_ParseBox J Tryz.f11 [.t (.c (.v (.string tx)))] post = vc_track_ParseBox tx post := by kernel_rfl
theorem fit_track_ParseBox : okFn ann_track_ParseBox Tryz.f11 = true := by kernel_rfl
theorem lp_track_ParseBox (J : Inv) (post : DV → Prop) : AllG J (loopsFn Tryz.prog tab Ska62 ann_track_ParseBox J Tryz.f11 post) = (True) := by kernel_rfl
theorem spec_track_ParseBox (tx : ByteArray) (hp : (tx).size ≤ 100000000) : vc_track_ParseBox tx (fun r => LeD r (.tu [.a [.v (.int .i64 ((pbX tx).lo.x)), .v (.int .i64 ((pbX tx).lo.y)), .v (.int .i64 ((pbX tx).lo.z)), .v (.int .i64 ((pbX tx).hi.x)), .v (.int .i64 ((pbX tx).hi.y)), .v (.int .i64 ((pbX tx).hi.z))], .c (.v (.int .i64 (pbE tx)))])) := by
 unfold vc_track_ParseBox
 refine ⟨by decide, by decide, by decide, by decide, by decide, by decide, ⟨rfl, hp⟩, cond_i (fun g => ?_) (fun g => ?_)⟩
 ·obtain ⟨e1, e2⟩ := pb_syn (s := tx) (by unfold boxB; simpa using g)
  rw [e1, e2]
  exact LeD.refl _
 ·have g : okTo tx 6 6 = true := by simpa using g
  rw [wrC_all g (show 0 < 6 by decide), wrC_all g (show 1 < 6 by decide), wrC_all g (show 2 < 6 by decide), wrC_all g (show 3 < 6 by decide), wrC_all g (show 4 < 6 by decide), wrC_all g (show 5 < 6 by decide)]
  rw [show (⟨⟨valW tx 5 0, valW tx 5 1, valW tx 5 2⟩, ⟨valW tx 5 3, valW tx 5 4, valW tx 5 5⟩⟩ : TBox).err = pbE tx from (pb_ok g).symm]
  refine cond_i (fun h => ?_) (fun h => ?_)
  ·rw [pbX_no (by simpa using h)]
   exact LeD.refl _
  ·have h : pbE tx = 0 := by simpa using h
   rw [pbX_yes h, h]
   exact LeD.refl _
def con_track_ParseBox : Con := fun args => match args with
 | [.t (.c (.v (.string tx)))] => some (.tu [.a [.v (.int .i64 ((pbX tx).lo.x)), .v (.int .i64 ((pbX tx).lo.y)), .v (.int .i64 ((pbX tx).lo.z)), .v (.int .i64 ((pbX tx).hi.x)), .v (.int .i64 ((pbX tx).hi.y)), .v (.int .i64 ((pbX tx).hi.z))], .c (.v (.int .i64 (pbE tx)))], some ((tx).size ≤ 100000000), false)
 | _ => none
theorem ok_track_ParseBox : Ok Tryz.prog 11 con_track_ParseBox := by
 refine Ok.fn (ann := ann_track_ParseBox) mixed tabOK VSka62 VIlib (fn := Tryz.f11) (by kernel_rfl) (by kernel_rfl) fit_track_ParseBox fun args r pre fresh h hp => ?_
 unfold con_track_ParseBox at h
 split at h
 ·rename_i tx
  cases h
  refine ⟨rfl, fun _ _ _ => False, _, LeA.refl _, Nat.le_of_ble_eq_true (by kernel_rfl), ?_, ?_⟩
  ·rw [ev_track_ParseBox]; exact spec_track_ParseBox tx hp
  ·rw [lp_track_ParseBox]; trivial
 ·cases h
def Ska63 : Sum := addS Ska62 11 con_track_ParseBox
theorem VSka63 : Valid Tryz.prog Ska63 := Valid.add VSka62 ok_track_ParseBox
end Go.Proofs.YtfadkjcfjkmalaaGreatDoor
set_option linter.unusedVariables false
set_option linter.unusedSimpArgs false
namespace Go.Proofs.YtfadkjcfjkmalaaGreatDoor
open Go.RowKit Ev
def mk_base_Cut_0 (tx : ByteArray) (c : Int) (v0_0 : List (List CV)) (v0_1 : Int) (v0_2 : Int) : DS := ⟨[some (.t (.c (.v (.string tx)))), some (.t (.c (.v (.int .u8 c)))), none, none, none, some (.t (.c (.os 5))), some (.t (.c (.v (.int .i64 v0_1)))), some (.t (.c (.v (.int .i64 v0_2)))), none, none, none, none, none, none, none, none, none, none, none, none, none, none, none, none, none, none, none, none, none, none, none, none, none, none], [none, none, none, none, none, some (.gen 9 1 v0_0), none, none, none, none, none, none, none, none, none, none, none, none, none, none, none, none, none, none, none, none, none, none, none, none, none, none, none, none]⟩
def vc_base_Cut (J : Inv) (tx : ByteArray) (c : Int) (post : DV → Prop) : Prop := ∃ n, J 0 (n :: []) (mk_base_Cut_0 tx c ([]) 0 0)
def ann_base_Cut : Ann := ⟨fun _ => none, fun b => lookA b [(0, (none, some ⟨[0, 1, 6, 7], [], [(5, .gen 9 1 [])]⟩))], fun _ => [], Ilib, true, fun _ => none, fun _ => none⟩
theorem ev_base_Cut (J : Inv) (tx : ByteArray) (c : Int) (post : DV → Prop) : evFn Tryz.prog tab Ska63 ann_base_Cut J Tryz.f42 [.t (.c (.v (.string tx))), .t (.c (.v (.int .u8 c)))] post = vc_base_Cut J tx c post := by kernel_rfl
theorem fit_base_Cut : okFn ann_base_Cut Tryz.f42 = true := by kernel_rfl
def rd_base_Cut_0 (J : Inv) (tx : ByteArray) (c : Int) (v0_0 : List (List CV)) (v0_1 : Int) (v0_2 : Int) (nn0 : Nat) (post : DV → Prop) : Prop := cond (decide (v0_2 < (((tx : ByteArray).size : Nat) : Int))) ((0 ≤ v0_2 ∧ v0_2 < (((tx : ByteArray).size : Nat) : Int)) ∧ (cond ((((tx : ByteArray).data.getD (v0_2).toNat 0).toNat : Int) == c) ((0 ≤ v0_1 ∧ v0_1 ≤ v0_2 ∧ v0_2 ≤ (((tx : ByteArray).size : Nat) : Int)) ∧ ((roomP 16 (v0_0.length + ([[.v (.string (ByteArray.extract tx v0_1.toNat v0_2.toNat))]] : List (List CV)).length)) ∧ (lt (IntKind.i64.wrap (v0_2 + (1 : Int))) fun x1 => lt (IntKind.i64.wrap (v0_2 + (1 : Int))) fun x2 => J 0 (nn0 :: []) (mk_base_Cut_0 tx c (v0_0 ++ ([[.v (.string (ByteArray.extract tx v0_1.toNat v0_2.toNat))]] : List (List CV))) x1 x2)))) (lt (IntKind.i64.wrap (v0_2 + (1 : Int))) fun x3 => J 0 (nn0 :: []) (mk_base_Cut_0 tx c v0_0 v0_1 x3)))) ((0 ≤ v0_1 ∧ v0_1 ≤ (((tx : ByteArray).size : Nat) : Int) ∧ (((tx : ByteArray).size : Nat) : Int) ≤ (((tx : ByteArray).size : Nat) : Int)) ∧ ((roomP 16 (v0_0.length + ([[.v (.string (ByteArray.extract tx v0_1.toNat (((tx : ByteArray).size : Nat) : Int).toNat))]] : List (List CV)).length)) ∧ (post (.t (.c (.sl 1 ((v0_0 ++ ([[.v (.string (ByteArray.extract tx v0_1.toNat (((tx : ByteArray).size : Nat) : Int).toNat))]] : List (List CV))).length) (genC (v0_0 ++ ([[.v (.string (ByteArray.extract tx v0_1.toNat (((tx : ByteArray).size : Nat) : Int).toNat))]] : List (List CV))))))))))
theorem er_base_Cut_0 (J : Inv) (tx : ByteArray) (c : Int) (v0_0 : List (List CV)) (v0_1 : Int) (v0_2 : Int) (nn0 : Nat) (post : DV → Prop) : round Tryz.prog tab Ska63 ann_base_Cut J Tryz.f42 post 0 (nn0 :: []) (mk_base_Cut_0 tx c v0_0 v0_1 v0_2) = rd_base_Cut_0 J tx c v0_0 v0_1 v0_2 nn0 post := by kernel_rfl
theorem lp_base_Cut (J : Inv) (post : DV → Prop) : AllG J (loopsFn Tryz.prog tab Ska63 ann_base_Cut J Tryz.f42 post) = (((∀ F s, ¬ J 0 (0 :: F) s) ∧ ∀ n F s, J 0 ((n + 1) :: F) s → round Tryz.prog tab Ska63 ann_base_Cut J Tryz.f42 post 0 (n :: F) s) ∧ True) := by kernel_rfl
def J_base_Cut (tx : ByteArray) (c : Int) : Inv := fun b F s => match b, F with
 | 0, [nn0] => ∃ (v0_0 : List (List CV)) (v0_1 : Int) (v0_2 : Int), s = mk_base_Cut_0 tx c v0_0 v0_1 v0_2 ∧ ((0 ≤ c ∧ c < 256 ∧ (tx).size ≤ 100000000) ∧ 0 ≤ v0_1 ∧ 0 ≤ v0_2 ∧ v0_2 ≤ tx.size ∧ (nn0 : Int) + v0_2 = tx.size + 1 ∧ CutI tx (UInt8.ofNat c.toNat) v0_0 v0_1.toNat v0_2.toNat)
 | _, _ => False
theorem rnd_base_Cut_0 (tx : ByteArray) (c : Int) (v0_0 : List (List CV)) (v0_1 : Int) (v0_2 : Int) (nn0 : Nat) (hp : 0 ≤ c ∧ c < 256 ∧ (tx).size ≤ 100000000) (hi : (0 ≤ c ∧ c < 256 ∧ (tx).size ≤ 100000000) ∧ 0 ≤ v0_1 ∧ 0 ≤ v0_2 ∧ v0_2 ≤ tx.size ∧ ((nn0 + 1) : Int) + v0_2 = tx.size + 1 ∧ CutI tx (UInt8.ofNat c.toNat) v0_0 v0_1.toNat v0_2.toNat) : rd_base_Cut_0 (J_base_Cut tx c) tx c v0_0 v0_1 v0_2 nn0 (fun r => LeD r (.t (.c (.sl 1 ((cutL tx (UInt8.ofNat (c).toNat)).length) (txsC (cutL tx (UInt8.ofNat (c).toNat))))))) := by
 obtain ⟨q, i0, i1, i2, i3, i4⟩ := hi
 obtain ⟨a, rfl⟩ : ∃ d : Nat, v0_1 = d := ⟨v0_1.toNat, by omega⟩
 obtain ⟨k, rfl⟩ : ∃ d : Nat, v0_2 = d := ⟨v0_2.toNat, by omega⟩
 obtain ⟨ch, rfl⟩ : ∃ d : Nat, c = d := ⟨c.toNat, by omega⟩
 simp only [Int.toNat_natCast] at i4
 have hch : (UInt8.ofNat ch).toNat = ch := by rw [UInt8.toNat_ofNat']; omega
 have ha := i4.1
 obtain ⟨os, _, _, e4, e5⟩ := i4.2
 have hl : v0_0.length ≤ 100000000 := by rw [e4]; simp; omega
 unfold rd_base_Cut_0
 simp only [Int.toNat_natCast, dget]
 refine cond_i (fun h => ?_) (fun h => ?_)
 ·have hlt : k < tx.size := by have := of_decide_eq_true h; omega
  refine ⟨⟨by omega, by omega⟩, ?_⟩
  refine cond_i (fun g => ?_) (fun g => ?_)
  ·have g : (tx.data.toList.getD k 0).toNat = ch := by have := eq_of_beq g; omega
   have g : tx.data.toList.getD k 0 = UInt8.ofNat ch := UInt8.toNat_inj.1 (by rw [hch]; exact g)
   refine ⟨⟨by omega, by omega, by omega⟩, ⟨by simp; omega, by simp [maxLen]; omega⟩, lt_i fun x1 h1 => lt_i fun x2 h2 => ?_⟩
   rw [wi (by omega)] at h1 h2
   subst h1 h2
   exact ⟨_, _, _, rfl, q, by omega, by omega, by omega, by omega, cut_hit i4 hlt g⟩
  ·have g : tx.data.toList.getD k 0 ≠ UInt8.ofNat ch := by
    intro e
    rw [e, hch] at g
    simp at g
   refine lt_i fun x1 h1 => ?_
   rw [wi (by omega)] at h1
   subst h1
   exact ⟨_, _, _, rfl, q, by omega, by omega, by omega, by omega, cut_miss i4 hlt g⟩
 ·have e : k = tx.size := by have := of_decide_eq_false h; omega
  subst e
  refine ⟨⟨by omega, by omega, by omega⟩, ⟨by simp; omega, by simp [maxLen]; omega⟩, ?_⟩
  rw [cut_end i4]
  exact le_ttg _
theorem zero_base_Cut_0 (tx : ByteArray) (c : Int) (v0_0 : List (List CV)) (v0_1 : Int) (v0_2 : Int)  (hi : (0 ≤ c ∧ c < 256 ∧ (tx).size ≤ 100000000) ∧ 0 ≤ v0_1 ∧ 0 ≤ v0_2 ∧ v0_2 ≤ tx.size ∧ (0 : Int) + v0_2 = tx.size + 1 ∧ CutI tx (UInt8.ofNat c.toNat) v0_0 v0_1.toNat v0_2.toNat) : False := by
 omega
theorem spec_base_Cut (tx : ByteArray) (c : Int) (hp : 0 ≤ c ∧ c < 256 ∧ (tx).size ≤ 100000000) : vc_base_Cut (J_base_Cut tx c) tx c (fun r => LeD r (.t (.c (.sl 1 ((cutL tx (UInt8.ofNat (c).toNat)).length) (txsC (cutL tx (UInt8.ofNat (c).toNat))))))) := by
 unfold vc_base_Cut
 exact ⟨tx.size + 1, [], 0, 0, rfl, hp, by omega, by omega, by omega, by omega, cut_0 _ _⟩
theorem all_base_Cut (tx : ByteArray) (c : Int) (hp : 0 ≤ c ∧ c < 256 ∧ (tx).size ≤ 100000000) : AllG (J_base_Cut tx c) (loopsFn Tryz.prog tab Ska63 ann_base_Cut (J_base_Cut tx c) Tryz.f42 (fun r => LeD r (.t (.c (.sl 1 ((cutL tx (UInt8.ofNat (c).toNat)).length) (txsC (cutL tx (UInt8.ofNat (c).toNat)))))))) := by
 rw [lp_base_Cut]
 refine ⟨⟨?_, ?_⟩, trivial⟩
 ·intro F s h
  obtain _ | ⟨g, F⟩ := F
  case cons => exact h.elim
  obtain ⟨w0, w1, w2, rfl, hi⟩ := h
  exact zero_base_Cut_0 tx c w0 w1 w2 hi
 ·intro n F s h
  obtain _ | ⟨g, F⟩ := F
  case cons => exact h.elim
  obtain ⟨w0, w1, w2, rfl, hi⟩ := h
  rw [er_base_Cut_0]
  exact rnd_base_Cut_0 tx c _ _ _ _ hp hi
def con_base_Cut : Con := fun args => match args with
 | [.t (.c (.v (.string tx))), .t (.c (.v (.int .u8 c)))] => some (.t (.c (.sl 1 ((cutL tx (UInt8.ofNat (c).toNat)).length) (txsC (cutL tx (UInt8.ofNat (c).toNat))))), some (0 ≤ c ∧ c < 256 ∧ (tx).size ≤ 100000000), true)
 | _ => none
theorem ok_base_Cut : Ok Tryz.prog 42 con_base_Cut := by
 refine Ok.fnFr (ann := ann_base_Cut) mixed tabOK VSka63 VIlib rfl (fn := Tryz.f42) (by kernel_rfl) (by kernel_rfl) fit_base_Cut fun args r pre fresh h hp => ?_
 unfold con_base_Cut at h
 split at h
 ·rename_i tx c
  cases h
  refine ⟨rfl, (fun i j _ hj => plain_str _ i j), J_base_Cut tx c, _, LeA.refl _, Nat.le_of_ble_eq_true (by kernel_rfl), ?_, ?_⟩
  ·rw [ev_base_Cut]; exact spec_base_Cut tx c hp
  ·exact all_base_Cut tx c hp
 ·cases h
def Skb64 : Sum := addS Ska63 42 con_base_Cut
theorem VSkb64 : Valid Tryz.prog Skb64 := Valid.add VSka63 ok_base_Cut
def mk_base_Number_0 (tx : ByteArray) (digits : Int) (v0_0 : Int) (v0_1 : Int) (v0_2 : Int) : DS := ⟨[some (.t (.c (.v (.string tx)))), none, none, none, none, none, some (.t (.c (.v (.int .i64 v0_0)))), some (.t (.c (.v (.int .i64 v0_1)))), some (.t (.c (.v (.int .i64 v0_2)))), none, none, none, none, none, none, none, none, none, none, none, none, none, none, none, none, none, none, none, none, none, none, none, none, none, none, none, none, none, none, none, none, none, none, none, none, none, none, none, none, none, none, none, none, none, none, none, none, none, none, none, none, none, none, none, none, none, none, none, none, none], [none, none, none, none, none, none, none, none, none, none, none, none, none, none, none, none, none, none, none, none, none, none, none, none, none, none, none, none, none, none, none, none, none, none, none, none, none, none, none, none, none, none, none, none, none, none, none, none, none, none, none, none, none, none, none, none, none, none, none, none, none, none, none, none, none, none, none, none, none, none]⟩
def vc_base_Number (J : Inv) (tx : ByteArray) (digits : Int) (post : DV → Prop) : Prop := (cond (decide ((((tx : ByteArray).size : Nat) : Int) > (0 : Int))) ((0 ≤ (0 : Int) ∧ (0 : Int) < (((tx : ByteArray).size : Nat) : Int)) ∧ (True)) ((false = false) ∧ (True))) ∧ (lt ((bif decide ((((tx : ByteArray).size : Nat) : Int) > (0 : Int)) then ((((tx : ByteArray).data.getD 0 0).toNat : Int) == (45 : Int)) else false)) fun x1 => (cond x1 (True) (True)) ∧ (lt ((bif x1 then (1 : Int) else (0 : Int))) fun x2 => (cond ((((tx : ByteArray).size : Nat) : Int) == x2) ((true = true) ∧ ((true = true) ∧ (True))) (lt (IntKind.i64.wrap ((((tx : ByteArray).size : Nat) : Int) - x2)) fun x4 => cond (decide (x4 > digits)) ((true = true) ∧ (True)) ((0 ≤ x2 ∧ x2 < (((tx : ByteArray).size : Nat) : Int)) ∧ (cond ((((tx : ByteArray).data.getD (x2).toNat 0).toNat : Int) == (48 : Int)) (True) ((false = false) ∧ (True)))))) ∧ (lt ((bif ((((tx : ByteArray).size : Nat) : Int) == x2) then true else (bif decide ((IntKind.i64.wrap ((((tx : ByteArray).size : Nat) : Int) - x2)) > digits) then true else (bif ((((tx : ByteArray).data.getD (x2).toNat 0).toNat : Int) == (48 : Int)) then decide ((((tx : ByteArray).size : Nat) : Int) > (1 : Int)) else false)))) fun x5 => cond x5 (post (.tu [.c (.v (.int .i64 0)), .c (.v (.bool false))])) (∃ n, J 0 (n :: []) (mk_base_Number_0 tx digits x2 0 x2)))))
def ann_base_Number : Ann := ⟨fun _ => none, fun b => lookA b [(0, (none, some ⟨[0, 6, 7, 8], [], []⟩))], fun _ => [], Ilib, false, fun r => lookA r [(2, (4, [16])), (4, (5, [39])), (10, (5, [56]))], fun r => lookA r [(3, [6]), (14, [7])]⟩
theorem ev_base_Number (J : Inv) (tx : ByteArray) (digits : Int) (post : DV → Prop) : evFn Tryz.prog tab Skb64 ann_base_Number J Tryz.f88 [.t (.c (.v (.string tx))), .t (.c (.v (.int .i64 digits)))] post = vc_base_Number J tx digits post := by kernel_rfl
theorem fit_base_Number : okFn ann_base_Number Tryz.f88 = true := by kernel_rfl
def rd_base_Number_0 (J : Inv) (tx : ByteArray) (digits : Int) (v0_0 : Int) (v0_1 : Int) (v0_2 : Int) (nn0 : Nat) (post : DV → Prop) : Prop := cond (decide (v0_2 < (((tx : ByteArray).size : Nat) : Int))) ((0 ≤ v0_2 ∧ v0_2 < (((tx : ByteArray).size : Nat) : Int)) ∧ ((cond (decide ((((tx : ByteArray).data.getD (v0_2).toNat 0).toNat : Int) < (48 : Int))) ((true = true) ∧ (True)) ((0 ≤ v0_2 ∧ v0_2 < (((tx : ByteArray).size : Nat) : Int)) ∧ (True))) ∧ (lt ((bif decide ((((tx : ByteArray).data.getD (v0_2).toNat 0).toNat : Int) < (48 : Int)) then true else decide ((((tx : ByteArray).data.getD (v0_2).toNat 0).toNat : Int) > (57 : Int)))) fun x1 => cond x1 (post (.tu [.c (.v (.int .i64 0)), .c (.v (.bool false))])) (lt (IntKind.i64.wrap ((10 : Int) * v0_1)) fun x2 => (0 ≤ v0_2 ∧ v0_2 < (((tx : ByteArray).size : Nat) : Int)) ∧ (lt (IntKind.u8.wrap ((((tx : ByteArray).data.getD (v0_2).toNat 0).toNat : Int) - (48 : Int))) fun x3 => lt (IntKind.i64.wrap x3) fun x4 => lt (IntKind.i64.wrap (x2 + x4)) fun x5 => lt (IntKind.i64.wrap (v0_2 + (1 : Int))) fun x6 => J 0 (nn0 :: []) (mk_base_Number_0 tx digits v0_0 x5 x6)))))) ((cond (v0_0 == (1 : Int)) (lt (IntKind.i64.wrap ((0 : Int) - v0_1)) fun x8 => True) (True)) ∧ (lt ((bif (v0_0 == (1 : Int)) then (IntKind.i64.wrap ((0 : Int) - v0_1)) else v0_1)) fun x9 => post (.tu [.c (.v (.int .i64 x9)), .c (.v (.bool true))])))
theorem er_base_Number_0 (J : Inv) (tx : ByteArray) (digits : Int) (v0_0 : Int) (v0_1 : Int) (v0_2 : Int) (nn0 : Nat) (post : DV → Prop) : round Tryz.prog tab Skb64 ann_base_Number J Tryz.f88 post 0 (nn0 :: []) (mk_base_Number_0 tx digits v0_0 v0_1 v0_2) = rd_base_Number_0 J tx digits v0_0 v0_1 v0_2 nn0 post := by kernel_rfl
theorem lp_base_Number (J : Inv) (post : DV → Prop) : AllG J (loopsFn Tryz.prog tab Skb64 ann_base_Number J Tryz.f88 post) = (((∀ F s, ¬ J 0 (0 :: F) s) ∧ ∀ n F s, J 0 ((n + 1) :: F) s → round Tryz.prog tab Skb64 ann_base_Number J Tryz.f88 post 0 (n :: F) s) ∧ True) := by kernel_rfl
def J_base_Number (tx : ByteArray) (digits : Int) : Inv := fun b F s => match b, F with
 | 0, [nn0] => ∃ (v0_0 : Int) (v0_1 : Int) (v0_2 : Int), s = mk_base_Number_0 tx digits v0_0 v0_1 v0_2 ∧ ((0 ≤ digits ∧ digits ≤ 17 ∧ (tx).size ≤ 100000000) ∧ ¬ numBad tx.data.toList digits.toNat ∧ v0_0 = numAt tx.data.toList ∧ v0_0 ≤ v0_2 ∧ v0_2 ≤ tx.size ∧ (nn0 : Int) + v0_2 = tx.size + 1 ∧ ∃ m : Nat, v0_1 = m ∧ Lib.decFrom 0 ((tx.data.toList.drop (numAt tx.data.toList)).take (v0_2.toNat - numAt tx.data.toList)) = some m)
 | _, _ => False
theorem rnd_base_Number_0 (tx : ByteArray) (digits : Int) (v0_0 : Int) (v0_1 : Int) (v0_2 : Int) (nn0 : Nat) (hp : 0 ≤ digits ∧ digits ≤ 17 ∧ (tx).size ≤ 100000000) (hi : (0 ≤ digits ∧ digits ≤ 17 ∧ (tx).size ≤ 100000000) ∧ ¬ numBad tx.data.toList digits.toNat ∧ v0_0 = numAt tx.data.toList ∧ v0_0 ≤ v0_2 ∧ v0_2 ≤ tx.size ∧ ((nn0 + 1) : Int) + v0_2 = tx.size + 1 ∧ ∃ m : Nat, v0_1 = m ∧ Lib.decFrom 0 ((tx.data.toList.drop (numAt tx.data.toList)).take (v0_2.toNat - numAt tx.data.toList)) = some m) : rd_base_Number_0 (J_base_Number tx digits) tx digits v0_0 v0_1 v0_2 nn0 (fun r => LeD r (.tu [.c (.v (.int .i64 ((numR (tx).data.toList (digits).toNat).getD 0))), .c (.v (.bool ((numR (tx).data.toList (digits).toNat).isSome)))])) := by
 obtain ⟨q, g, i0, i1, i2, i3, m, i4, i5⟩ := hi
 obtain ⟨k, rfl⟩ : ∃ d : Nat, v0_2 = d := ⟨v0_2.toNat, by omega⟩
 obtain ⟨dg, rfl⟩ : ∃ d : Nat, digits = d := ⟨digits.toNat, by omega⟩
 subst i0 i4
 rw [Int.toNat_natCast] at i5 g
 have hz := size_data tx
 have hn := numAt_le tx.data.toList
 have hm : m < 10 ^ 17 := by
  have := Lib.decFrom_lt _ _ _ i5
  have hlen : ((tx.data.toList.drop (numAt tx.data.toList)).take (k - numAt tx.data.toList)).length ≤ 17 := by
   unfold numBad at g
   rw [List.length_take, List.length_drop]
   omega
  have := Nat.pow_le_pow_right (n := 10) (by decide) hlen
  omega
 unfold rd_base_Number_0
 simp only [Int.toNat_natCast, dget]
 refine cond_i (fun h => ?_) (fun h => ?_)
 ·have hlt : k < tx.size := by have := of_decide_eq_true h; omega
  have hlt' : k < tx.data.toList.length := by omega
  have hb := (tx.data.toList.getD k 0).toNat_lt
  refine ⟨⟨by omega, by omega⟩, cond_i (fun _ => ⟨by trivial, trivial⟩) (fun _ => ⟨⟨by omega, by omega⟩, trivial⟩), lt_i fun x1 h1 => cond_i (fun h => ?_) (fun h => ?_)⟩
  ·subst h1
   have e : Lib.digitVal (tx.data.toList.getD k 0) = none := by
    unfold Lib.digitVal
    rw [if_neg]
    rintro ⟨a, b⟩
    rw [decide_eq_false (by omega), decide_eq_false (by omega)] at h
    cases h
   rw [numR_ok g, dec_stop (by omega) hlt' e]
   exact LeD.refl _
  ·subst h1
   have e : 48 ≤ (tx.data.toList.getD k 0).toNat ∧ (tx.data.toList.getD k 0).toNat ≤ 57 := by
    by_cases a : 48 ≤ (tx.data.toList.getD k 0).toNat
    ·rw [decide_eq_false (by omega)] at h
     have h := of_decide_eq_false h
     omega
    ·rw [decide_eq_true (by omega)] at h; cases h
   have e' : Lib.digitVal (tx.data.toList.getD k 0) = some ((tx.data.toList.getD k 0).toNat - 48) := by unfold Lib.digitVal; rw [if_pos e]
   refine lt_i fun x2 h2 => ⟨⟨by omega, by omega⟩, lt_i fun x3 h3 => lt_i fun x4 h4 => lt_i fun x5 h5 => lt_i fun x6 h6 => ?_⟩
   have w3 : x3 = (tx.data.toList.getD k 0).toNat - 48 := by rw [← h3]; exact IntWalk.u8_in _ (by omega)
   rw [wi (by omega)] at h2
   subst h2
   rw [wi (by omega)] at h4
   subst h4
   rw [wi (by omega)] at h5
   rw [wi (by omega)] at h6
   subst h5 h6
   refine ⟨_, _, _, rfl, q, by rw [Int.toNat_natCast]; exact g, rfl, by omega, by omega, by omega, _, ?_, dec_step (by omega) hlt' e' i5⟩
   rw [w3]; omega
 ·have e : k = tx.size := by have := of_decide_eq_false h; omega
  subst e
  rw [List.take_of_length_le (by rw [List.length_drop]; omega)] at i5
  rw [numR_ok g, i5]
  refine ⟨cond_i (fun _ => lt_i fun _ _ => trivial) (fun _ => trivial), lt_i fun x9 h9 => ?_⟩
  rw [wi (by omega)] at h9
  refine le_tu (leI ?_) (LeD.refl _)
  rw [← h9]
  show _ = (if numAt tx.data.toList = 1 then -(m : Int) else m)
  by_cases c : numAt tx.data.toList = 1
  ·rw [c, if_pos rfl]; simp
  ·rw [if_neg c]
   have : (((numAt tx.data.toList : Nat) : Int) == 1) = false := by simp; omega
   rw [this]; rfl
theorem zero_base_Number_0 (tx : ByteArray) (digits : Int) (v0_0 : Int) (v0_1 : Int) (v0_2 : Int)  (hi : (0 ≤ digits ∧ digits ≤ 17 ∧ (tx).size ≤ 100000000) ∧ ¬ numBad tx.data.toList digits.toNat ∧ v0_0 = numAt tx.data.toList ∧ v0_0 ≤ v0_2 ∧ v0_2 ≤ tx.size ∧ (0 : Int) + v0_2 = tx.size + 1 ∧ ∃ m : Nat, v0_1 = m ∧ Lib.decFrom 0 ((tx.data.toList.drop (numAt tx.data.toList)).take (v0_2.toNat - numAt tx.data.toList)) = some m) : False := by
 omega
theorem spec_base_Number (tx : ByteArray) (digits : Int) (hp : 0 ≤ digits ∧ digits ≤ 17 ∧ (tx).size ≤ 100000000) : vc_base_Number (J_base_Number tx digits) tx digits (fun r => LeD r (.tu [.c (.v (.int .i64 ((numR (tx).data.toList (digits).toNat).getD 0))), .c (.v (.bool ((numR (tx).data.toList (digits).toNat).isSome)))])) := by
 unfold vc_base_Number
 obtain ⟨dg, rfl⟩ : ∃ d : Nat, digits = d := ⟨digits.toNat, by omega⟩
 have hz := size_data tx
 have e1 : (bif decide (((tx.size : Nat) : Int) > (0 : Int)) then (((tx.data.getD 0 0).toNat : Int) == (45 : Int)) else false) = decide (numAt tx.data.toList = 1) := by
  rw [dget]
  unfold numAt
  cases e : tx.data.toList with
  | nil => rw [e] at hz; simp at hz; simp [← hz]
  | cons x r =>
   rw [e] at hz
   rw [decide_eq_true (by simp at hz; omega)]
   by_cases g : x = 45
   ·subst g; rfl
   ·have : x.toNat ≠ 45 := fun q => g (UInt8.toNat_inj.1 q)
    simp [List.getD, g]; omega
 rw [e1]
 have hn := numAt_le tx.data.toList
 have h01 : numAt tx.data.toList = 0 ∨ numAt tx.data.toList = 1 := by unfold numAt; split <;> simp
 refine ⟨cond_i (fun h => ⟨⟨by omega, by have := of_decide_eq_true h; omega⟩, trivial⟩) (fun _ => ⟨rfl, trivial⟩), lt_i fun x1 h1 => ⟨cond_i (fun _ => trivial) (fun _ => trivial), lt_i fun x2 h2 => ?_⟩⟩
 have e2 : x2 = (numAt tx.data.toList : Int) := by
  rw [← h2, ← h1]
  rcases h01 with e | e <;> rw [e] <;> rfl
 subst e2
 rw [wi (by omega), Int.toNat_natCast, dget]
 refine ⟨cond_i (fun _ => ⟨rfl, rfl, trivial⟩) (fun h => lt_i fun x4 h4 => cond_i (fun _ => ⟨rfl, trivial⟩) (fun g => ⟨⟨by omega, (by have h := ne_of_beq_false h; omega)⟩, cond_i (fun _ => trivial) (fun _ => ⟨rfl, trivial⟩)⟩)), lt_i fun x5 h5 => ?_⟩
 have e5 : x5 = true ↔ numBad tx.data.toList dg := by
  rw [← h5]
  unfold numBad
  rw [hz]
  have c1 : (((tx.size : Nat) : Int) == (numAt tx.data.toList : Int)) = decide (tx.size = numAt tx.data.toList) := by
   by_cases g : tx.size = numAt tx.data.toList
   ·rw [decide_eq_true g]; simp; omega
   ·rw [decide_eq_false g]; simp; omega
  have c2 : ((((tx.data.toList.getD (numAt tx.data.toList) 0).toNat : Nat) : Int) == (48 : Int)) = decide (tx.data.toList.getD (numAt tx.data.toList) 0 = 48) := by
   by_cases g : tx.data.toList.getD (numAt tx.data.toList) 0 = 48
   ·rw [decide_eq_true g, g]; rfl
   ·rw [decide_eq_false g]
    have : (tx.data.toList.getD (numAt tx.data.toList) 0).toNat ≠ 48 := fun q => g (UInt8.toNat_inj.1 q)
    simp only [beq_eq_false_iff_ne, ne_eq]; omega
  have c3 : decide (((tx.size : Nat) : Int) - (numAt tx.data.toList : Int) > (dg : Int)) = decide (tx.size - numAt tx.data.toList > dg) := by
   by_cases g : tx.size - numAt tx.data.toList > dg
   ·rw [decide_eq_true g]; simp; omega
   ·rw [decide_eq_false g]; simp; omega
  have c4 : decide (((tx.size : Nat) : Int) > (1 : Int)) = decide (1 < tx.size) := by
   by_cases g : 1 < tx.size
   ·rw [decide_eq_true g]; simp; omega
   ·rw [decide_eq_false g]; simp; omega
  rw [c1, c2, c3, c4]
  by_cases g1 : tx.size = numAt tx.data.toList
  ·simp [g1]
  ·by_cases g2 : tx.size - numAt tx.data.toList > dg
   ·simp [g1, g2]
   ·by_cases g3 : tx.data.toList.getD (numAt tx.data.toList) 0 = 48 <;> simp only [g1, g2, g3, decide_false, decide_true, cond_false, cond_true, false_or, true_and, false_and, decide_eq_true_eq, Bool.false_eq_true]
 refine cond_i (fun g => ?_) (fun g => ?_)
 ·rw [Int.toNat_natCast, numR_bad (e5.1 g)]
  exact LeD.refl _
 ·have g : ¬ numBad tx.data.toList dg := fun q => by rw [e5.2 q] at g; cases g
  refine ⟨tx.size + 1 - numAt tx.data.toList, _, _, _, rfl, hp, g, rfl, by omega, by omega, by omega, 0, rfl, ?_⟩
  rw [Int.toNat_natCast, Nat.sub_self]; rfl
theorem all_base_Number (tx : ByteArray) (digits : Int) (hp : 0 ≤ digits ∧ digits ≤ 17 ∧ (tx).size ≤ 100000000) : AllG (J_base_Number tx digits) (loopsFn Tryz.prog tab Skb64 ann_base_Number (J_base_Number tx digits) Tryz.f88 (fun r => LeD r (.tu [.c (.v (.int .i64 ((numR (tx).data.toList (digits).toNat).getD 0))), .c (.v (.bool ((numR (tx).data.toList (digits).toNat).isSome)))]))) := by
 rw [lp_base_Number]
 refine ⟨⟨?_, ?_⟩, trivial⟩
 ·intro F s h
  obtain _ | ⟨g, F⟩ := F
  case cons => exact h.elim
  obtain ⟨w0, w1, w2, rfl, hi⟩ := h
  exact zero_base_Number_0 tx digits w0 w1 w2 hi
 ·intro n F s h
  obtain _ | ⟨g, F⟩ := F
  case cons => exact h.elim
  obtain ⟨w0, w1, w2, rfl, hi⟩ := h
  rw [er_base_Number_0]
  exact rnd_base_Number_0 tx digits _ _ _ _ hp hi
def con_base_Number : Con := fun args => match args with
 | [.t (.c (.v (.string tx))), .t (.c (.v (.int .i64 digits)))] => some (.tu [.c (.v (.int .i64 ((numR (tx).data.toList (digits).toNat).getD 0))), .c (.v (.bool ((numR (tx).data.toList (digits).toNat).isSome)))], some (0 ≤ digits ∧ digits ≤ 17 ∧ (tx).size ≤ 100000000), false)
 | _ => none
theorem ok_base_Number : Ok Tryz.prog 88 con_base_Number := by
 refine Ok.fn (ann := ann_base_Number) mixed tabOK VSkb64 VIlib (fn := Tryz.f88) (by kernel_rfl) (by kernel_rfl) fit_base_Number fun args r pre fresh h hp => ?_
 unfold con_base_Number at h
 split at h
 ·rename_i tx digits
  cases h
  refine ⟨rfl, J_base_Number tx digits, _, LeA.refl _, Nat.le_of_ble_eq_true (by kernel_rfl), ?_, ?_⟩
  ·rw [ev_base_Number]; exact spec_base_Number tx digits hp
  ·exact all_base_Number tx digits hp
 ·cases h
def Skb65 : Sum := addS Skb64 88 con_base_Number
theorem VSkb65 : Valid Tryz.prog Skb65 := Valid.add VSkb64 ok_base_Number
end Go.Proofs.YtfadkjcfjkmalaaGreatDoor