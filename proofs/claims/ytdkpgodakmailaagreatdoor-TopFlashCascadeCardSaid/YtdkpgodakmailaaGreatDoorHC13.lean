/- Texts of this claim, together. -/
import Derived.Test.YtdkpgodakmailaaGreatDoorHC9
import Derived.Test.YtdkpgodakmailaaGreatDoorHC12
import Derived.Test.YtdkpgodakmailaaGreatDoorHC11

set_option linter.unusedVariables false
set_option linter.unusedSimpArgs false
namespace Go.Proofs.YtdkpgodakmailaaGreatDoor
open Go.RowKit Ev
theorem okTo_succ (s : ByteArray) (k : Nat) : okTo s (k + 1) = (okTo s k && numB (wAt 32 s k) 10 (decide (k < 3))) := by
 unfold okTo
 rw [List.range_succ, List.all_append, Bool.and_assoc]
 simp
theorem spl_cut (s : ByteArray) (c : UInt8) : splB s ⟨#[c]⟩ = cutL s c := by
 have e := ofL_back s
 rw [← e, splB_one]
 rfl
def Sl85 : Sum := addS S84 115 con_Itoa
theorem VSl85 : Valid Tryz.prog Sl85 := Valid.add VS84 ok_Itoa
def Sl86 : Sum := addS Sl85 116 con_Trim
theorem VSl86 : Valid Tryz.prog Sl86 := Valid.add VSl85 ok_Trim
def Sl87 : Sum := addS Sl86 114 con_Atoi
theorem VSl87 : Valid Tryz.prog Sl87 := Valid.add VSl86 ok_Atoi
def Sl88 : Sum := addS Sl87 87 con_Join
theorem VSl88 : Valid Tryz.prog Sl88 := Valid.add VSl87 ok_Join
def Sl89 : Sum := addS Sl88 138 con_Split
theorem VSl89 : Valid Tryz.prog Sl89 := Valid.add VSl88 ok_Split
def Sl90 : Sum := addS Sl89 63 con_SplitSeq
theorem VSl90 : Valid Tryz.prog Sl90 := Valid.add VSl89 ok_SplitSeq
def Ilib : It := addM noIt 150 it_Split
theorem VIlib : ValidIt Tryz.prog Ilib := ValidIt.addM ValidIt.no ok_itSplit
def mk_flash_words_0 (l : List Int) (v0_0 : List (List CV)) (v0_1 : Int) : DS := ⟨[none, none, none, some (.t (.c (.os 3))), none, none, some (.t (.c (.sl 1 l.length (intsC l)))), some (.t (.c (.v (.int .i64 ((l.length : Nat) : Int))))), some (.t (.c (.v (.int .i64 v0_1)))), none, none, none, none, none, none, none, none, none, none, none], [none, none, none, some (.gen 9 1 v0_0), none, none, none, none, none, none, none, none, none, none, none, none, none, none, none, none]⟩
def vc_flash_words (J : Inv) (l : List Int) (post : DV → Prop) : Prop := ∃ n, J 0 (n :: []) (mk_flash_words_0 l ([]) 0)
def ann_flash_words : Ann := ⟨fun _ => none, fun b => lookA b [(0, (none, some ⟨[6, 7, 8], [], [(3, .gen 9 1 [])]⟩))], fun _ => [], Ilib, false, fun _ => none, fun _ => none⟩
theorem ev_flash_words (J : Inv) (l : List Int) (post : DV → Prop) : evFn Tryz.prog tab Sl90 ann_flash_words J Tryz.f66 [.t (.c (.sl 1 l.length (intsC l)))] post = vc_flash_words J l post := by kernel_rfl
theorem fit_flash_words : okFn ann_flash_words Tryz.f66 = true := by kernel_rfl
def rd_flash_words_0 (J : Inv) (l : List Int) (v0_0 : List (List CV)) (v0_1 : Int) (nn0 : Nat) (post : DV → Prop) : Prop := cond (decide (v0_1 < ((l.length : Nat) : Int))) ((0 ≤ v0_1 ∧ v0_1 < ((l.length : Nat) : Int)) ∧ ((-9223372036854775808 ≤ (l.getD v0_1.toNat 0) ∧ (l.getD v0_1.toNat 0) ≤ 9223372036854775807) ∧ ((roomP 16 (v0_0.length + ([[.v (.string (itoaB (l.getD v0_1.toNat 0)))]] : List (List CV)).length)) ∧ (lt (IntKind.i64.wrap (v0_1 + (1 : Int))) fun x1 => J 0 (nn0 :: []) (mk_flash_words_0 l (v0_0 ++ ([[.v (.string (itoaB (l.getD v0_1.toNat 0)))]] : List (List CV))) x1))))) ((txP v0_0.length (genC v0_0) ∧ (txOf v0_0.length (genC v0_0)).length ≤ 1000000 ∧ (joinB (txOf v0_0.length (genC v0_0)) (⟨#[32]⟩)).size ≤ 1000000000) ∧ (post (.t (.c (.v (.string (joinB (txOf v0_0.length (genC v0_0)) (⟨#[32]⟩))))))))
theorem er_flash_words_0 (J : Inv) (l : List Int) (v0_0 : List (List CV)) (v0_1 : Int) (nn0 : Nat) (post : DV → Prop) : round Tryz.prog tab Sl90 ann_flash_words J Tryz.f66 post 0 (nn0 :: []) (mk_flash_words_0 l v0_0 v0_1) = rd_flash_words_0 J l v0_0 v0_1 nn0 post := by kernel_rfl
theorem lp_flash_words (J : Inv) (post : DV → Prop) : AllG J (loopsFn Tryz.prog tab Sl90 ann_flash_words J Tryz.f66 post) = (((∀ F s, ¬ J 0 (0 :: F) s) ∧ ∀ n F s, J 0 ((n + 1) :: F) s → round Tryz.prog tab Sl90 ann_flash_words J Tryz.f66 post 0 (n :: F) s) ∧ True) := by kernel_rfl
def J_flash_words (l : List Int) : Inv := fun b F s => match b, F with
 | 0, [nn0] => ∃ (v0_0 : List (List CV)) (v0_1 : Int), s = mk_flash_words_0 l v0_0 v0_1 ∧ ((l.length ≤ 100 ∧ (∀ i, i < (l).length → -9223372036854775808 ≤ (l).getD i 0 ∧ (l).getD i 0 ≤ 9223372036854775807)) ∧ 0 ≤ v0_1 ∧ v0_1 ≤ l.length ∧ (nn0 : Int) + v0_1 = l.length + 1 ∧ v0_0 = ((l.take v0_1.toNat).map itoaB).map ttCv)
 | _, _ => False
theorem rnd_flash_words_0 (l : List Int) (v0_0 : List (List CV)) (v0_1 : Int) (nn0 : Nat) (hp : (l).length ≤ 100 ∧ (∀ i, i < (l).length → -9223372036854775808 ≤ (l).getD i 0 ∧ (l).getD i 0 ≤ 9223372036854775807)) (hi : (l.length ≤ 100 ∧ (∀ i, i < (l).length → -9223372036854775808 ≤ (l).getD i 0 ∧ (l).getD i 0 ≤ 9223372036854775807)) ∧ 0 ≤ v0_1 ∧ v0_1 ≤ l.length ∧ ((nn0 + 1) : Int) + v0_1 = l.length + 1 ∧ v0_0 = ((l.take v0_1.toNat).map itoaB).map ttCv) : rd_flash_words_0 (J_flash_words l) l v0_0 v0_1 nn0 (fun r => LeD r (.t (.c (.v (.string (wordsB l)))))) := by
 obtain ⟨q, i1, i2, i3, i4⟩ := hi
 obtain ⟨k, rfl⟩ : ∃ k : Nat, v0_1 = k := ⟨v0_1.toNat, by omega⟩
 have hk : (k : Int).toNat = k := rfl
 rw [hk] at i4
 subst i4
 unfold rd_flash_words_0
 refine cond_i (fun h => ?_) (fun h => ?_)
 ·have hlt : k < l.length := by have := of_decide_eq_true h; omega
  have b := q.2 k hlt
  rw [Int.toNat_natCast]
  refine ⟨⟨by omega, by omega⟩, b, ⟨by simp; omega, by simp [maxLen]; omega⟩, lt_i fun x1 h1 => ?_⟩
  rw [wi (by omega)] at h1
  subst h1
  refine ⟨_, _, rfl, q, by omega, by omega, by omega, ?_⟩
  rw [ttCv_snoc, map_snoc, ← take_snoc l 0 hlt]
  rfl
 ·have e : k = l.length := by have := of_decide_eq_false h; omega
  subst e
  rw [List.take_length]
  have w := wordsB_len q.2
  refine ⟨⟨txP_ttg _, by rw [ttg_of]; simp; omega, by rw [ttg_of]; exact Nat.le_trans w (by omega)⟩, ?_⟩
  rw [ttg_of]
  exact LeD.refl _
theorem zero_flash_words_0 (l : List Int) (v0_0 : List (List CV)) (v0_1 : Int)  (hi : (l.length ≤ 100 ∧ (∀ i, i < (l).length → -9223372036854775808 ≤ (l).getD i 0 ∧ (l).getD i 0 ≤ 9223372036854775807)) ∧ 0 ≤ v0_1 ∧ v0_1 ≤ l.length ∧ (0 : Int) + v0_1 = l.length + 1 ∧ v0_0 = ((l.take v0_1.toNat).map itoaB).map ttCv) : False := by
 omega
theorem spec_flash_words (l : List Int) (hp : (l).length ≤ 100 ∧ (∀ i, i < (l).length → -9223372036854775808 ≤ (l).getD i 0 ∧ (l).getD i 0 ≤ 9223372036854775807)) : vc_flash_words (J_flash_words l) l (fun r => LeD r (.t (.c (.v (.string (wordsB l)))))) := by
 unfold vc_flash_words
 exact ⟨l.length + 1, [], 0, rfl, hp, by omega, by omega, by omega, rfl⟩
theorem all_flash_words (l : List Int) (hp : (l).length ≤ 100 ∧ (∀ i, i < (l).length → -9223372036854775808 ≤ (l).getD i 0 ∧ (l).getD i 0 ≤ 9223372036854775807)) : AllG (J_flash_words l) (loopsFn Tryz.prog tab Sl90 ann_flash_words (J_flash_words l) Tryz.f66 (fun r => LeD r (.t (.c (.v (.string (wordsB l))))))) := by
 rw [lp_flash_words]
 refine ⟨⟨?_, ?_⟩, trivial⟩
 ·intro F s h
  obtain _ | ⟨g, F⟩ := F
  case cons => exact h.elim
  obtain ⟨w0, w1, rfl, hi⟩ := h
  exact zero_flash_words_0 l w0 w1 hi
 ·intro n F s h
  obtain _ | ⟨g, F⟩ := F
  case cons => exact h.elim
  obtain ⟨w0, w1, rfl, hi⟩ := h
  rw [er_flash_words_0]
  exact rnd_flash_words_0 l _ _ _ hp hi
def con_flash_words : Con := fun args => match args with
 | [.t (.c (.sl 1 n_l c_l))] => some (.t (.c (.v (.string (wordsB (listC n_l mkInt c_l))))), some (numsP 1 n_l c_l ∧ ((listC n_l mkInt c_l)).length ≤ 100 ∧ (∀ i, i < ((listC n_l mkInt c_l)).length → -9223372036854775808 ≤ ((listC n_l mkInt c_l)).getD i 0 ∧ ((listC n_l mkInt c_l)).getD i 0 ≤ 9223372036854775807)), false)
 | _ => none
theorem ok_flash_words : Ok Tryz.prog 66 con_flash_words := by
 refine Ok.fn (ann := ann_flash_words) mixed tabOK VSl90 VIlib (fn := Tryz.f66) (by kernel_rfl) (by kernel_rfl) fit_flash_words fun args r pre fresh h hp => ?_
 unfold con_flash_words at h
 split at h
 ·rename_i n_l c_l
  cases h
  obtain ⟨hp0, hp⟩ := hp
  refine ⟨rfl, J_flash_words (listC n_l mkInt c_l), [.t (.c (.sl 1 ((listC n_l mkInt c_l).length) (intsC (listC n_l mkInt c_l))))], ?_, Nat.le_of_ble_eq_true (by kernel_rfl), ?_, ?_⟩
  ·exact (LeA_cons (leT_c ((leL_int hp0))) LeA_nil)
  ·rw [ev_flash_words]; exact spec_flash_words (listC n_l mkInt c_l) hp
  ·exact all_flash_words (listC n_l mkInt c_l) hp
 ·cases h
def Sha91 : Sum := addS Sl90 66 con_flash_words
theorem VSha91 : Valid Tryz.prog Sha91 := Valid.add VSl90 ok_flash_words
def vc_flash_number (tx : ByteArray) (digits : Int) (below : Bool) (post : DV → Prop) : Prop := (tx.size ≤ 1000000000) ∧ ((cond (atoB tx) ((-9223372036854775808 ≤ (atoV tx) ∧ (atoV tx) ≤ 9223372036854775807) ∧ (cond (((itoaB (atoV tx)) : ByteArray).toList == (tx : ByteArray).toList) (cond below ((true = true) ∧ (True)) (cond (decide ((atoV tx) ≥ (0 : Int))) (True) ((false = false) ∧ (True)))) ((false = false) ∧ ((false = false) ∧ (True))))) ((false = false) ∧ ((false = false) ∧ ((false = false) ∧ (True))))) ∧ (lt ((bif (atoB tx) then (bif (((itoaB (atoV tx)) : ByteArray).toList == (tx : ByteArray).toList) then (bif below then (atoV tx) else (bif decide ((atoV tx) ≥ (0 : Int)) then (atoV tx) else (atoV tx))) else (atoV tx)) else (atoV tx))) fun x1 => lt ((bif (atoB tx) then (bif (((itoaB (atoV tx)) : ByteArray).toList == (tx : ByteArray).toList) then (bif below then decide (((((trimB tx (⟨#[45]⟩)) : ByteArray).size : Nat) : Int) ≤ digits) else (bif decide ((atoV tx) ≥ (0 : Int)) then decide (((((trimB tx (⟨#[45]⟩)) : ByteArray).size : Nat) : Int) ≤ digits) else false)) else false) else false)) fun x2 => post (.tu [.c (.v (.int .i64 x1)), .c (.v (.bool x2))])))
def ann_flash_number : Ann := ⟨fun _ => none, fun _ => none, fun _ => [], Ilib, false, fun r => lookA r [(2, (4, [6, 7]))], fun _ => none⟩
theorem ev_flash_number (J : Inv) (tx : ByteArray) (digits : Int) (below : Bool) (post : DV → Prop) : evFn Tryz.prog tab Sha91 ann_flash_number J Tryz.f64 [.t (.c (.v (.string tx))), .t (.c (.v (.int .i64 digits))), .t (.c (.v (.bool below)))] post = vc_flash_number tx digits below post := by kernel_rfl
theorem fit_flash_number : okFn ann_flash_number Tryz.f64 = true := by kernel_rfl
theorem lp_flash_number (J : Inv) (post : DV → Prop) : AllG J (loopsFn Tryz.prog tab Sha91 ann_flash_number J Tryz.f64 post) = (True) := by kernel_rfl
theorem spec_flash_number (tx : ByteArray) (digits : Int) (below : Bool) (hp : 0 ≤ digits ∧ digits ≤ 17 ∧ (tx).size ≤ 100000000) : vc_flash_number tx digits below (fun r => LeD r (.tu [.c (.v (.int .i64 (atoV tx))), .c (.v (.bool (numB (tx).data.toList (digits).toNat below)))])) := by
 unfold vc_flash_number
 obtain ⟨dg, rfl⟩ : ∃ d : Nat, digits = d := ⟨digits.toNat, by omega⟩
 have t := test_w tx.data.toList (dg := dg) (by omega)
 have bd := ato_bd (w := tx.data.toList)
 rw [ofL_back] at t bd
 refine ⟨by omega, cond_i (fun h => ⟨bd h, cond_i (fun _ => cond_i (fun _ => ⟨rfl, trivial⟩) (fun _ => cond_i (fun _ => trivial) (fun _ => ⟨rfl, trivial⟩))) (fun _ => ⟨rfl, rfl, trivial⟩)⟩) (fun _ => ⟨rfl, rfl, rfl, trivial⟩), lt_i fun x1 h1 => lt_i fun x2 h2 => ?_⟩
 have e1 : x1 = atoV tx := by
  rw [← h1]
  cases atoB tx <;> cases ((itoaB (atoV tx)).toList == tx.toList) <;> cases below <;> cases decide (atoV tx ≥ 0) <;> rfl
 have key : ∀ A B C D b : Bool, (bif A then (bif B then (bif b then C else (bif D then C else false)) else false) else false) = ((bif A then (bif B then C else false) else false) && (b || D)) := by decide
 rw [key, t.1] at h2
 have e2 : x2 = numB tx.data.toList dg below := by
  rw [← h2]
  unfold numB
  cases e : numR tx.data.toList dg with
  | none => rfl
  | some v =>
   rw [t.2 v e]
   show (true && (below || decide (v ≥ 0))) = (below || decide (0 ≤ v))
   rw [Bool.true_and]
 rw [e1, e2, Int.toNat_natCast]
 exact LeD.refl _
def con_flash_number : Con := fun args => match args with
 | [.t (.c (.v (.string tx))), .t (.c (.v (.int .i64 digits))), .t (.c (.v (.bool below)))] => some (.tu [.c (.v (.int .i64 (atoV tx))), .c (.v (.bool (numB (tx).data.toList (digits).toNat below)))], some (0 ≤ digits ∧ digits ≤ 17 ∧ (tx).size ≤ 100000000), false)
 | _ => none
theorem ok_flash_number : Ok Tryz.prog 64 con_flash_number := by
 refine Ok.fn (ann := ann_flash_number) mixed tabOK VSha91 VIlib (fn := Tryz.f64) (by kernel_rfl) (by kernel_rfl) fit_flash_number fun args r pre fresh h hp => ?_
 unfold con_flash_number at h
 split at h
 ·rename_i tx digits below
  cases h
  refine ⟨rfl, fun _ _ _ => False, _, LeA.refl _, Nat.le_of_ble_eq_true (by kernel_rfl), ?_, ?_⟩
  ·rw [ev_flash_number]; exact spec_flash_number tx digits below hp
  ·rw [lp_flash_number]; trivial
 ·cases h
def Sha92 : Sum := addS Sha91 64 con_flash_number
theorem VSha92 : Valid Tryz.prog Sha92 := Valid.add VSha91 ok_flash_number
def mk_flash_FormatHits_0 (l : List FHit) (v0_0 : List (List CV)) (v0_1 : Int) : DS := ⟨[none, none, none, some (.t (.c (.os 3))), none, none, some (.t (.c (.sl 7 l.length (hitsC l)))), some (.t (.c (.v (.int .i64 ((l.length : Nat) : Int))))), some (.t (.c (.v (.int .i64 v0_1)))), none, none, none, none, none, none, none, none, none, none, none, none, none, none, none, none, none, none, none, none, none, none, none, none, none, none, none, none, none, none, none, none], [none, none, none, some (.gen 9 1 v0_0), none, none, none, none, none, none, none, none, none, none, none, none, none, none, none, none, none, none, none, none, none, none, none, none, none, none, none, none, none, none, none, none, none, none, none, none, none]⟩
def vc_flash_FormatHits (J : Inv) (l : List FHit) (post : DV → Prop) : Prop := ∃ n, J 0 (n :: []) (mk_flash_FormatHits_0 l ([]) 0)
def ann_flash_FormatHits : Ann := ⟨fun _ => none, fun b => lookA b [(0, (none, some ⟨[6, 7, 8], [], [(3, .gen 9 1 [])]⟩))], fun _ => [], Ilib, false, fun _ => none, fun _ => none⟩
theorem ev_flash_FormatHits (J : Inv) (l : List FHit) (post : DV → Prop) : evFn Tryz.prog tab Sha92 ann_flash_FormatHits J Tryz.f31 [.t (.c (.sl 7 l.length (hitsC l)))] post = vc_flash_FormatHits J l post := by kernel_rfl
theorem fit_flash_FormatHits : okFn ann_flash_FormatHits Tryz.f31 = true := by kernel_rfl
def rd_flash_FormatHits_0 (J : Inv) (l : List FHit) (v0_0 : List (List CV)) (v0_1 : Int) (nn0 : Nat) (post : DV → Prop) : Prop := cond (decide (v0_1 < ((l.length : Nat) : Int))) ((0 ≤ v0_1 ∧ v0_1 < ((l.length : Nat) : Int)) ∧ ((numsP 1 7 (genC [[.v (.int .i64 ((hitAt l v0_1.toNat).p.x))], [.v (.int .i64 ((hitAt l v0_1.toNat).p.y))], [.v (.int .i64 ((hitAt l v0_1.toNat).p.z))], [.v (.int .i64 ((hitAt l v0_1.toNat).t.lo))], [.v (.int .i64 ((hitAt l v0_1.toNat).t.hi))], [.v (.int .i64 ((hitAt l v0_1.toNat).c.lo))], [.v (.int .i64 ((hitAt l v0_1.toNat).c.hi))]]) ∧ (([((hitAt l v0_1.toNat).p.x), ((hitAt l v0_1.toNat).p.y), ((hitAt l v0_1.toNat).p.z), ((hitAt l v0_1.toNat).t.lo), ((hitAt l v0_1.toNat).t.hi), ((hitAt l v0_1.toNat).c.lo), ((hitAt l v0_1.toNat).c.hi)] : List Int)).length ≤ 100 ∧ (∀ i, i < (([((hitAt l v0_1.toNat).p.x), ((hitAt l v0_1.toNat).p.y), ((hitAt l v0_1.toNat).p.z), ((hitAt l v0_1.toNat).t.lo), ((hitAt l v0_1.toNat).t.hi), ((hitAt l v0_1.toNat).c.lo), ((hitAt l v0_1.toNat).c.hi)] : List Int)).length → -9223372036854775808 ≤ (([((hitAt l v0_1.toNat).p.x), ((hitAt l v0_1.toNat).p.y), ((hitAt l v0_1.toNat).p.z), ((hitAt l v0_1.toNat).t.lo), ((hitAt l v0_1.toNat).t.hi), ((hitAt l v0_1.toNat).c.lo), ((hitAt l v0_1.toNat).c.hi)] : List Int)).getD i 0 ∧ (([((hitAt l v0_1.toNat).p.x), ((hitAt l v0_1.toNat).p.y), ((hitAt l v0_1.toNat).p.z), ((hitAt l v0_1.toNat).t.lo), ((hitAt l v0_1.toNat).t.hi), ((hitAt l v0_1.toNat).c.lo), ((hitAt l v0_1.toNat).c.hi)] : List Int)).getD i 0 ≤ 9223372036854775807)) ∧ ((roomP 16 (v0_0.length + ([[.v (.string (wordsB ([((hitAt l v0_1.toNat).p.x), ((hitAt l v0_1.toNat).p.y), ((hitAt l v0_1.toNat).p.z), ((hitAt l v0_1.toNat).t.lo), ((hitAt l v0_1.toNat).t.hi), ((hitAt l v0_1.toNat).c.lo), ((hitAt l v0_1.toNat).c.hi)] : List Int)))]] : List (List CV)).length)) ∧ (lt (IntKind.i64.wrap (v0_1 + (1 : Int))) fun x1 => J 0 (nn0 :: []) (mk_flash_FormatHits_0 l (v0_0 ++ ([[.v (.string (wordsB ([((hitAt l v0_1.toNat).p.x), ((hitAt l v0_1.toNat).p.y), ((hitAt l v0_1.toNat).p.z), ((hitAt l v0_1.toNat).t.lo), ((hitAt l v0_1.toNat).t.hi), ((hitAt l v0_1.toNat).c.lo), ((hitAt l v0_1.toNat).c.hi)] : List Int)))]] : List (List CV))) x1))))) ((txP v0_0.length (genC v0_0) ∧ (txOf v0_0.length (genC v0_0)).length ≤ 1000000 ∧ (joinB (txOf v0_0.length (genC v0_0)) (⟨#[59]⟩)).size ≤ 1000000000) ∧ (post (.t (.c (.v (.string (joinB (txOf v0_0.length (genC v0_0)) (⟨#[59]⟩))))))))
theorem er_flash_FormatHits_0 (J : Inv) (l : List FHit) (v0_0 : List (List CV)) (v0_1 : Int) (nn0 : Nat) (post : DV → Prop) : round Tryz.prog tab Sha92 ann_flash_FormatHits J Tryz.f31 post 0 (nn0 :: []) (mk_flash_FormatHits_0 l v0_0 v0_1) = rd_flash_FormatHits_0 J l v0_0 v0_1 nn0 post := by kernel_rfl
theorem lp_flash_FormatHits (J : Inv) (post : DV → Prop) : AllG J (loopsFn Tryz.prog tab Sha92 ann_flash_FormatHits J Tryz.f31 post) = (((∀ F s, ¬ J 0 (0 :: F) s) ∧ ∀ n F s, J 0 ((n + 1) :: F) s → round Tryz.prog tab Sha92 ann_flash_FormatHits J Tryz.f31 post 0 (n :: F) s) ∧ True) := by kernel_rfl
def J_flash_FormatHits (l : List FHit) : Inv := fun b F s => match b, F with
 | 0, [nn0] => ∃ (v0_0 : List (List CV)) (v0_1 : Int), s = mk_flash_FormatHits_0 l v0_0 v0_1 ∧ (((l).length ≤ 10 ∧ ∀ k, k < (l).length → rgH (hitAt l k)) ∧ 0 ≤ v0_1 ∧ v0_1 ≤ l.length ∧ (nn0 : Int) + v0_1 = l.length + 1 ∧ v0_0 = ((l.take v0_1.toNat).map hitW).map ttCv)
 | _, _ => False
theorem rnd_flash_FormatHits_0 (l : List FHit) (v0_0 : List (List CV)) (v0_1 : Int) (nn0 : Nat) (hp : (l).length ≤ 10 ∧ ∀ k, k < (l).length → rgH (hitAt l k)) (hi : ((l).length ≤ 10 ∧ ∀ k, k < (l).length → rgH (hitAt l k)) ∧ 0 ≤ v0_1 ∧ v0_1 ≤ l.length ∧ ((nn0 + 1) : Int) + v0_1 = l.length + 1 ∧ v0_0 = ((l.take v0_1.toNat).map hitW).map ttCv) : rd_flash_FormatHits_0 (J_flash_FormatHits l) l v0_0 v0_1 nn0 (fun r => LeD r (.t (.c (.v (.string (hitsT l)))))) := by
 obtain ⟨q, i1, i2, i3, i4⟩ := hi
 obtain ⟨k, rfl⟩ : ∃ k : Nat, v0_1 = k := ⟨v0_1.toNat, by omega⟩
 have hk : (k : Int).toNat = k := rfl
 rw [hk] at i4
 subst i4
 have z := hitsT_len q.1 q.2
 unfold rd_flash_FormatHits_0
 refine cond_i (fun h => ?_) (fun h => ?_)
 ·have hlt : k < l.length := by have := of_decide_eq_true h; omega
  have b := q.2 k hlt
  rw [Int.toNat_natCast]
  refine ⟨⟨by omega, by omega⟩, ⟨numsP_gen [_, _, _, _, _, _, _], by simp, in7 b⟩, ⟨by simp; omega, by simp [maxLen]; omega⟩, lt_i fun x1 h1 => ?_⟩
  rw [wi (by omega)] at h1
  subst h1
  refine ⟨_, _, rfl, q, by omega, by omega, by omega, ?_⟩
  rw [show ((k : Int) + 1).toNat = k + 1 from rfl, take_snoc l FHit.zero hlt, ttCv_snoc]
  congr 1
  rw [List.map_append]
  rfl
 ·have e : k = l.length := by have := of_decide_eq_false h; omega
  subst e
  rw [List.take_length, ttg_of]
  refine ⟨⟨txP_ttg _, by simp; omega, by unfold hitsT at z; omega⟩, LeD.refl _⟩
theorem zero_flash_FormatHits_0 (l : List FHit) (v0_0 : List (List CV)) (v0_1 : Int)  (hi : ((l).length ≤ 10 ∧ ∀ k, k < (l).length → rgH (hitAt l k)) ∧ 0 ≤ v0_1 ∧ v0_1 ≤ l.length ∧ (0 : Int) + v0_1 = l.length + 1 ∧ v0_0 = ((l.take v0_1.toNat).map hitW).map ttCv) : False := by
 omega
theorem spec_flash_FormatHits (l : List FHit) (hp : (l).length ≤ 10 ∧ ∀ k, k < (l).length → rgH (hitAt l k)) : vc_flash_FormatHits (J_flash_FormatHits l) l (fun r => LeD r (.t (.c (.v (.string (hitsT l)))))) := by
 unfold vc_flash_FormatHits
 exact ⟨l.length + 1, [], 0, rfl, hp, by omega, by omega, by omega, rfl⟩
theorem all_flash_FormatHits (l : List FHit) (hp : (l).length ≤ 10 ∧ ∀ k, k < (l).length → rgH (hitAt l k)) : AllG (J_flash_FormatHits l) (loopsFn Tryz.prog tab Sha92 ann_flash_FormatHits (J_flash_FormatHits l) Tryz.f31 (fun r => LeD r (.t (.c (.v (.string (hitsT l))))))) := by
 rw [lp_flash_FormatHits]
 refine ⟨⟨?_, ?_⟩, trivial⟩
 ·intro F s h
  obtain _ | ⟨g, F⟩ := F
  case cons => exact h.elim
  obtain ⟨w0, w1, rfl, hi⟩ := h
  exact zero_flash_FormatHits_0 l w0 w1 hi
 ·intro n F s h
  obtain _ | ⟨g, F⟩ := F
  case cons => exact h.elim
  obtain ⟨w0, w1, rfl, hi⟩ := h
  rw [er_flash_FormatHits_0]
  exact rnd_flash_FormatHits_0 l _ _ _ hp hi
def con_flash_FormatHits : Con := fun args => match args with
 | [.t (.c (.sl 7 n_l c_l))] => some (.t (.c (.v (.string (hitsT (listC n_l mkHit c_l))))), some (numsP 7 n_l c_l ∧ ((listC n_l mkHit c_l)).length ≤ 10 ∧ ∀ k, k < ((listC n_l mkHit c_l)).length → rgH (hitAt (listC n_l mkHit c_l) k)), false)
 | _ => none
theorem ok_flash_FormatHits : Ok Tryz.prog 31 con_flash_FormatHits := by
 refine Ok.fn (ann := ann_flash_FormatHits) mixed tabOK VSha92 VIlib (fn := Tryz.f31) (by kernel_rfl) (by kernel_rfl) fit_flash_FormatHits fun args r pre fresh h hp => ?_
 unfold con_flash_FormatHits at h
 split at h
 ·rename_i n_l c_l
  cases h
  obtain ⟨hp0, hp⟩ := hp
  refine ⟨rfl, J_flash_FormatHits (listC n_l mkHit c_l), [.t (.c (.sl 7 ((listC n_l mkHit c_l).length) (hitsC (listC n_l mkHit c_l))))], ?_, Nat.le_of_ble_eq_true (by kernel_rfl), ?_, ?_⟩
  ·exact (LeA_cons (leT_c ((leL_FHit hp0))) LeA_nil)
  ·rw [ev_flash_FormatHits]; exact spec_flash_FormatHits (listC n_l mkHit c_l) hp
  ·exact all_flash_FormatHits (listC n_l mkHit c_l) hp
 ·cases h
def Sha93 : Sum := addS Sha92 31 con_flash_FormatHits
theorem VSha93 : Valid Tryz.prog Sha93 := Valid.add VSha92 ok_flash_FormatHits
def Sha94 : Sum := Sha93
theorem VSha94 : Valid Tryz.prog Sha94 := VSha93
def vc_flash_parseHit (tx : ByteArray) (post : DV → Prop) : Prop := (tx.size ≤ 1000000000 ∧ 1 ≤ ((⟨#[32]⟩) : ByteArray).size ∧ (splB tx (⟨#[32]⟩)).length = Lib.countB tx (⟨#[32]⟩) + 1) ∧ (cond ((((splB tx (⟨#[32]⟩)).length : Nat) : Int) != (7 : Int)) (post (.tu [.a [.v (.int .i64 0), .v (.int .i64 0), .v (.int .i64 0), .v (.int .i64 0), .v (.int .i64 0), .v (.int .i64 0), .v (.int .i64 0)], .c (.v (.bool false))])) ((0 ≤ (0 : Int) ∧ (0 : Int) < ((7 : Nat) : Int)) ∧ ((0 ≤ (0 : Int) ∧ (0 : Int) < (((splB tx (⟨#[32]⟩)).length : Nat) : Int)) ∧ ((0 ≤ (10 : Int) ∧ (10 : Int) ≤ 17 ∧ ((txAt (splB tx (⟨#[32]⟩)) 0)).size ≤ 100000000) ∧ (cond (!(numB ((txAt (splB tx (⟨#[32]⟩)) 0)).data.toList ((10 : Int)).toNat true)) (post (.tu [.a [.v (.int .i64 0), .v (.int .i64 0), .v (.int .i64 0), .v (.int .i64 0), .v (.int .i64 0), .v (.int .i64 0), .v (.int .i64 0)], .c (.v (.bool false))])) ((0 ≤ (1 : Int) ∧ (1 : Int) < ((7 : Nat) : Int)) ∧ ((0 ≤ (1 : Int) ∧ (1 : Int) < (((splB tx (⟨#[32]⟩)).length : Nat) : Int)) ∧ ((0 ≤ (10 : Int) ∧ (10 : Int) ≤ 17 ∧ ((txAt (splB tx (⟨#[32]⟩)) 1)).size ≤ 100000000) ∧ (cond (!(numB ((txAt (splB tx (⟨#[32]⟩)) 1)).data.toList ((10 : Int)).toNat true)) (post (.tu [.a [.v (.int .i64 (atoV (txAt (splB tx (⟨#[32]⟩)) 0))), .v (.int .i64 0), .v (.int .i64 0), .v (.int .i64 0), .v (.int .i64 0), .v (.int .i64 0), .v (.int .i64 0)], .c (.v (.bool false))])) ((0 ≤ (2 : Int) ∧ (2 : Int) < ((7 : Nat) : Int)) ∧ ((0 ≤ (2 : Int) ∧ (2 : Int) < (((splB tx (⟨#[32]⟩)).length : Nat) : Int)) ∧ ((0 ≤ (10 : Int) ∧ (10 : Int) ≤ 17 ∧ ((txAt (splB tx (⟨#[32]⟩)) 2)).size ≤ 100000000) ∧ (cond (!(numB ((txAt (splB tx (⟨#[32]⟩)) 2)).data.toList ((10 : Int)).toNat true)) (post (.tu [.a [.v (.int .i64 (atoV (txAt (splB tx (⟨#[32]⟩)) 0))), .v (.int .i64 (atoV (txAt (splB tx (⟨#[32]⟩)) 1))), .v (.int .i64 0), .v (.int .i64 0), .v (.int .i64 0), .v (.int .i64 0), .v (.int .i64 0)], .c (.v (.bool false))])) ((0 ≤ (3 : Int) ∧ (3 : Int) < ((7 : Nat) : Int)) ∧ ((0 ≤ (3 : Int) ∧ (3 : Int) < (((splB tx (⟨#[32]⟩)).length : Nat) : Int)) ∧ ((0 ≤ (10 : Int) ∧ (10 : Int) ≤ 17 ∧ ((txAt (splB tx (⟨#[32]⟩)) 3)).size ≤ 100000000) ∧ (cond (!(numB ((txAt (splB tx (⟨#[32]⟩)) 3)).data.toList ((10 : Int)).toNat false)) (post (.tu [.a [.v (.int .i64 (atoV (txAt (splB tx (⟨#[32]⟩)) 0))), .v (.int .i64 (atoV (txAt (splB tx (⟨#[32]⟩)) 1))), .v (.int .i64 (atoV (txAt (splB tx (⟨#[32]⟩)) 2))), .v (.int .i64 0), .v (.int .i64 0), .v (.int .i64 0), .v (.int .i64 0)], .c (.v (.bool false))])) ((0 ≤ (4 : Int) ∧ (4 : Int) < ((7 : Nat) : Int)) ∧ ((0 ≤ (4 : Int) ∧ (4 : Int) < (((splB tx (⟨#[32]⟩)).length : Nat) : Int)) ∧ ((0 ≤ (10 : Int) ∧ (10 : Int) ≤ 17 ∧ ((txAt (splB tx (⟨#[32]⟩)) 4)).size ≤ 100000000) ∧ (cond (!(numB ((txAt (splB tx (⟨#[32]⟩)) 4)).data.toList ((10 : Int)).toNat false)) (post (.tu [.a [.v (.int .i64 (atoV (txAt (splB tx (⟨#[32]⟩)) 0))), .v (.int .i64 (atoV (txAt (splB tx (⟨#[32]⟩)) 1))), .v (.int .i64 (atoV (txAt (splB tx (⟨#[32]⟩)) 2))), .v (.int .i64 (atoV (txAt (splB tx (⟨#[32]⟩)) 3))), .v (.int .i64 0), .v (.int .i64 0), .v (.int .i64 0)], .c (.v (.bool false))])) ((0 ≤ (5 : Int) ∧ (5 : Int) < ((7 : Nat) : Int)) ∧ ((0 ≤ (5 : Int) ∧ (5 : Int) < (((splB tx (⟨#[32]⟩)).length : Nat) : Int)) ∧ ((0 ≤ (10 : Int) ∧ (10 : Int) ≤ 17 ∧ ((txAt (splB tx (⟨#[32]⟩)) 5)).size ≤ 100000000) ∧ (cond (!(numB ((txAt (splB tx (⟨#[32]⟩)) 5)).data.toList ((10 : Int)).toNat false)) (post (.tu [.a [.v (.int .i64 (atoV (txAt (splB tx (⟨#[32]⟩)) 0))), .v (.int .i64 (atoV (txAt (splB tx (⟨#[32]⟩)) 1))), .v (.int .i64 (atoV (txAt (splB tx (⟨#[32]⟩)) 2))), .v (.int .i64 (atoV (txAt (splB tx (⟨#[32]⟩)) 3))), .v (.int .i64 (atoV (txAt (splB tx (⟨#[32]⟩)) 4))), .v (.int .i64 0), .v (.int .i64 0)], .c (.v (.bool false))])) ((0 ≤ (6 : Int) ∧ (6 : Int) < ((7 : Nat) : Int)) ∧ ((0 ≤ (6 : Int) ∧ (6 : Int) < (((splB tx (⟨#[32]⟩)).length : Nat) : Int)) ∧ ((0 ≤ (10 : Int) ∧ (10 : Int) ≤ 17 ∧ ((txAt (splB tx (⟨#[32]⟩)) 6)).size ≤ 100000000) ∧ (cond (!(numB ((txAt (splB tx (⟨#[32]⟩)) 6)).data.toList ((10 : Int)).toNat false)) (post (.tu [.a [.v (.int .i64 (atoV (txAt (splB tx (⟨#[32]⟩)) 0))), .v (.int .i64 (atoV (txAt (splB tx (⟨#[32]⟩)) 1))), .v (.int .i64 (atoV (txAt (splB tx (⟨#[32]⟩)) 2))), .v (.int .i64 (atoV (txAt (splB tx (⟨#[32]⟩)) 3))), .v (.int .i64 (atoV (txAt (splB tx (⟨#[32]⟩)) 4))), .v (.int .i64 (atoV (txAt (splB tx (⟨#[32]⟩)) 5))), .v (.int .i64 0)], .c (.v (.bool false))])) (post (.tu [.a [.v (.int .i64 (atoV (txAt (splB tx (⟨#[32]⟩)) 0))), .v (.int .i64 (atoV (txAt (splB tx (⟨#[32]⟩)) 1))), .v (.int .i64 (atoV (txAt (splB tx (⟨#[32]⟩)) 2))), .v (.int .i64 (atoV (txAt (splB tx (⟨#[32]⟩)) 3))), .v (.int .i64 (atoV (txAt (splB tx (⟨#[32]⟩)) 4))), .v (.int .i64 (atoV (txAt (splB tx (⟨#[32]⟩)) 5))), .v (.int .i64 (atoV (txAt (splB tx (⟨#[32]⟩)) 6)))], .c (.v (.bool true))])))))))))))))))))))))))))))))))
def ann_flash_parseHit : Ann := ⟨fun _ => none, fun b => lookA b [(0, (some 8, some ⟨[2, 4, 6, 32, 33], [2, 4], []⟩))], fun _ => [], Ilib, false, fun _ => none, fun _ => none⟩
theorem ev_flash_parseHit (J : Inv) (tx : ByteArray) (post : DV → Prop) : evFn Tryz.prog tab Sha94 ann_flash_parseHit J Tryz.f88 [.t (.c (.v (.string tx)))] post = vc_flash_parseHit tx post := by kernel_rfl
theorem fit_flash_parseHit : okFn ann_flash_parseHit Tryz.f88 = true := by kernel_rfl
theorem lp_flash_parseHit (J : Inv) (post : DV → Prop) : AllG J (loopsFn Tryz.prog tab Sha94 ann_flash_parseHit J Tryz.f88 post) = (True) := by kernel_rfl
theorem spec_flash_parseHit (tx : ByteArray) (hp : (tx).size ≤ 100000000) : vc_flash_parseHit tx (fun r => LeD r (.tu [.a [.v (.int .i64 (phC tx 0)), .v (.int .i64 (phC tx 1)), .v (.int .i64 (phC tx 2)), .v (.int .i64 (phC tx 3)), .v (.int .i64 (phC tx 4)), .v (.int .i64 (phC tx 5)), .v (.int .i64 (phC tx 6))], .c (.v (.bool (hitB tx)))])) := by
 unfold vc_flash_parseHit
 have hc := splB_count tx 32
 rw [spl_cut] at hc ⊢
 rw [cutL_len] at hc ⊢
 refine ⟨⟨by omega, Nat.le_refl 1, hc⟩, cond_i (fun h => ?_) (fun h => ?_)⟩
 ·have h7 : nPc 32 tx ≠ 7 := fun e => by rw [e] at h; cases h
  rw [phC_no (okTo_no h7 1), phC_no (okTo_no h7 2), phC_no (okTo_no h7 3), phC_no (okTo_no h7 4), phC_no (okTo_no h7 5), phC_no (okTo_no h7 6), phC_no (okTo_no h7 7), show hitB tx = false from okTo_no h7 7]
  exact LeD.refl _
 have h7 : nPc 32 tx = 7 := by
  have h : ((nPc 32 tx : Nat) : Int) = 7 := by simpa using h
  omega
 have o0 : okTo tx 0 = true := by unfold okTo; rw [h7]; rfl
 have hs : ∀ i, (ofL (wAt 32 tx i)).size ≤ 100000000 := fun i => by rw [ofL_size]; exact Nat.le_trans wAt_len (by omega)
 rw [cutL_at (show 0 < nPc 32 tx by omega), cutL_at (show 1 < nPc 32 tx by omega), cutL_at (show 2 < nPc 32 tx by omega), cutL_at (show 3 < nPc 32 tx by omega), cutL_at (show 4 < nPc 32 tx by omega), cutL_at (show 5 < nPc 32 tx by omega), cutL_at (show 6 < nPc 32 tx by omega)]
 simp only [ofL_data]
 refine ⟨⟨by decide, by decide⟩, ⟨by decide, by omega⟩, ⟨by decide, by decide, hs 0⟩, cond_i (fun g => ?_) (fun g => ?_)⟩
 ·have g0 : numB (wAt 32 tx 0) 10 (decide (0 < 3)) = false := by
   have g : (!numB (wAt 32 tx 0) 10 true) = true := g
   simpa using g
  have b1 : okTo tx 1 = false := by rw [okTo_succ, o0, g0]; rfl
  have b2 : okTo tx 2 = false := by rw [okTo_succ, b1]; rfl
  have b3 : okTo tx 3 = false := by rw [okTo_succ, b2]; rfl
  have b4 : okTo tx 4 = false := by rw [okTo_succ, b3]; rfl
  have b5 : okTo tx 5 = false := by rw [okTo_succ, b4]; rfl
  have b6 : okTo tx 6 = false := by rw [okTo_succ, b5]; rfl
  have b7 : okTo tx 7 = false := by rw [okTo_succ, b6]; rfl
  rw [phC_no b1, phC_no b2, phC_no b3, phC_no b4, phC_no b5, phC_no b6, phC_no b7, show hitB tx = false from b7]
  exact LeD.refl _
 have g0 : numB (wAt 32 tx 0) 10 (decide (0 < 3)) = true := by
  have g : (!numB (wAt 32 tx 0) 10 true) = false := g
  simpa using g
 have o1 : okTo tx 1 = true := by rw [okTo_succ, o0, g0]; rfl
 refine ⟨⟨by decide, by decide⟩, ⟨by decide, by omega⟩, ⟨by decide, by decide, hs 1⟩, cond_i (fun g => ?_) (fun g => ?_)⟩
 ·have g1 : numB (wAt 32 tx 1) 10 (decide (1 < 3)) = false := by
   have g : (!numB (wAt 32 tx 1) 10 true) = true := g
   simpa using g
  have b2 : okTo tx 2 = false := by rw [okTo_succ, o1, g1]; rfl
  have b3 : okTo tx 3 = false := by rw [okTo_succ, b2]; rfl
  have b4 : okTo tx 4 = false := by rw [okTo_succ, b3]; rfl
  have b5 : okTo tx 5 = false := by rw [okTo_succ, b4]; rfl
  have b6 : okTo tx 6 = false := by rw [okTo_succ, b5]; rfl
  have b7 : okTo tx 7 = false := by rw [okTo_succ, b6]; rfl
  rw [phC_yes o1, phC_no b2, phC_no b3, phC_no b4, phC_no b5, phC_no b6, phC_no b7, show hitB tx = false from b7, numB_val (by decide) g0]
  exact LeD.refl _
 have g1 : numB (wAt 32 tx 1) 10 (decide (1 < 3)) = true := by
  have g : (!numB (wAt 32 tx 1) 10 true) = false := g
  simpa using g
 have o2 : okTo tx 2 = true := by rw [okTo_succ, o1, g1]; rfl
 refine ⟨⟨by decide, by decide⟩, ⟨by decide, by omega⟩, ⟨by decide, by decide, hs 2⟩, cond_i (fun g => ?_) (fun g => ?_)⟩
 ·have g2 : numB (wAt 32 tx 2) 10 (decide (2 < 3)) = false := by
   have g : (!numB (wAt 32 tx 2) 10 true) = true := g
   simpa using g
  have b3 : okTo tx 3 = false := by rw [okTo_succ, o2, g2]; rfl
  have b4 : okTo tx 4 = false := by rw [okTo_succ, b3]; rfl
  have b5 : okTo tx 5 = false := by rw [okTo_succ, b4]; rfl
  have b6 : okTo tx 6 = false := by rw [okTo_succ, b5]; rfl
  have b7 : okTo tx 7 = false := by rw [okTo_succ, b6]; rfl
  rw [phC_yes o1, phC_yes o2, phC_no b3, phC_no b4, phC_no b5, phC_no b6, phC_no b7, show hitB tx = false from b7, numB_val (by decide) g0, numB_val (by decide) g1]
  exact LeD.refl _
 have g2 : numB (wAt 32 tx 2) 10 (decide (2 < 3)) = true := by
  have g : (!numB (wAt 32 tx 2) 10 true) = false := g
  simpa using g
 have o3 : okTo tx 3 = true := by rw [okTo_succ, o2, g2]; rfl
 refine ⟨⟨by decide, by decide⟩, ⟨by decide, by omega⟩, ⟨by decide, by decide, hs 3⟩, cond_i (fun g => ?_) (fun g => ?_)⟩
 ·have g3 : numB (wAt 32 tx 3) 10 (decide (3 < 3)) = false := by
   have g : (!numB (wAt 32 tx 3) 10 false) = true := g
   simpa using g
  have b4 : okTo tx 4 = false := by rw [okTo_succ, o3, g3]; rfl
  have b5 : okTo tx 5 = false := by rw [okTo_succ, b4]; rfl
  have b6 : okTo tx 6 = false := by rw [okTo_succ, b5]; rfl
  have b7 : okTo tx 7 = false := by rw [okTo_succ, b6]; rfl
  rw [phC_yes o1, phC_yes o2, phC_yes o3, phC_no b4, phC_no b5, phC_no b6, phC_no b7, show hitB tx = false from b7, numB_val (by decide) g0, numB_val (by decide) g1, numB_val (by decide) g2]
  exact LeD.refl _
 have g3 : numB (wAt 32 tx 3) 10 (decide (3 < 3)) = true := by
  have g : (!numB (wAt 32 tx 3) 10 false) = false := g
  simpa using g
 have o4 : okTo tx 4 = true := by rw [okTo_succ, o3, g3]; rfl
 refine ⟨⟨by decide, by decide⟩, ⟨by decide, by omega⟩, ⟨by decide, by decide, hs 4⟩, cond_i (fun g => ?_) (fun g => ?_)⟩
 ·have g4 : numB (wAt 32 tx 4) 10 (decide (4 < 3)) = false := by
   have g : (!numB (wAt 32 tx 4) 10 false) = true := g
   simpa using g
  have b5 : okTo tx 5 = false := by rw [okTo_succ, o4, g4]; rfl
  have b6 : okTo tx 6 = false := by rw [okTo_succ, b5]; rfl
  have b7 : okTo tx 7 = false := by rw [okTo_succ, b6]; rfl
  rw [phC_yes o1, phC_yes o2, phC_yes o3, phC_yes o4, phC_no b5, phC_no b6, phC_no b7, show hitB tx = false from b7, numB_val (by decide) g0, numB_val (by decide) g1, numB_val (by decide) g2, numB_val (by decide) g3]
  exact LeD.refl _
 have g4 : numB (wAt 32 tx 4) 10 (decide (4 < 3)) = true := by
  have g : (!numB (wAt 32 tx 4) 10 false) = false := g
  simpa using g
 have o5 : okTo tx 5 = true := by rw [okTo_succ, o4, g4]; rfl
 refine ⟨⟨by decide, by decide⟩, ⟨by decide, by omega⟩, ⟨by decide, by decide, hs 5⟩, cond_i (fun g => ?_) (fun g => ?_)⟩
 ·have g5 : numB (wAt 32 tx 5) 10 (decide (5 < 3)) = false := by
   have g : (!numB (wAt 32 tx 5) 10 false) = true := g
   simpa using g
  have b6 : okTo tx 6 = false := by rw [okTo_succ, o5, g5]; rfl
  have b7 : okTo tx 7 = false := by rw [okTo_succ, b6]; rfl
  rw [phC_yes o1, phC_yes o2, phC_yes o3, phC_yes o4, phC_yes o5, phC_no b6, phC_no b7, show hitB tx = false from b7, numB_val (by decide) g0, numB_val (by decide) g1, numB_val (by decide) g2, numB_val (by decide) g3, numB_val (by decide) g4]
  exact LeD.refl _
 have g5 : numB (wAt 32 tx 5) 10 (decide (5 < 3)) = true := by
  have g : (!numB (wAt 32 tx 5) 10 false) = false := g
  simpa using g
 have o6 : okTo tx 6 = true := by rw [okTo_succ, o5, g5]; rfl
 refine ⟨⟨by decide, by decide⟩, ⟨by decide, by omega⟩, ⟨by decide, by decide, hs 6⟩, cond_i (fun g => ?_) (fun g => ?_)⟩
 ·have g6 : numB (wAt 32 tx 6) 10 (decide (6 < 3)) = false := by
   have g : (!numB (wAt 32 tx 6) 10 false) = true := g
   simpa using g
  have b7 : okTo tx 7 = false := by rw [okTo_succ, o6, g6]; rfl
  rw [phC_yes o1, phC_yes o2, phC_yes o3, phC_yes o4, phC_yes o5, phC_yes o6, phC_no b7, show hitB tx = false from b7, numB_val (by decide) g0, numB_val (by decide) g1, numB_val (by decide) g2, numB_val (by decide) g3, numB_val (by decide) g4, numB_val (by decide) g5]
  exact LeD.refl _
 have g6 : numB (wAt 32 tx 6) 10 (decide (6 < 3)) = true := by
  have g : (!numB (wAt 32 tx 6) 10 false) = false := g
  simpa using g
 have o7 : okTo tx 7 = true := by rw [okTo_succ, o6, g6]; rfl
 rw [phC_yes o1, phC_yes o2, phC_yes o3, phC_yes o4, phC_yes o5, phC_yes o6, phC_yes o7, show hitB tx = true from o7, numB_val (by decide) g0, numB_val (by decide) g1, numB_val (by decide) g2, numB_val (by decide) g3, numB_val (by decide) g4, numB_val (by decide) g5, numB_val (by decide) g6]
 exact LeD.refl _
def con_flash_parseHit : Con := fun args => match args with
 | [.t (.c (.v (.string tx)))] => some (.tu [.a [.v (.int .i64 (phC tx 0)), .v (.int .i64 (phC tx 1)), .v (.int .i64 (phC tx 2)), .v (.int .i64 (phC tx 3)), .v (.int .i64 (phC tx 4)), .v (.int .i64 (phC tx 5)), .v (.int .i64 (phC tx 6))], .c (.v (.bool (hitB tx)))], some ((tx).size ≤ 100000000), false)
 | _ => none
theorem ok_flash_parseHit : Ok Tryz.prog 88 con_flash_parseHit := by
 refine Ok.fn (ann := ann_flash_parseHit) mixed tabOK VSha94 VIlib (fn := Tryz.f88) (by kernel_rfl) (by kernel_rfl) fit_flash_parseHit fun args r pre fresh h hp => ?_
 unfold con_flash_parseHit at h
 split at h
 ·rename_i tx
  cases h
  refine ⟨rfl, fun _ _ _ => False, _, LeA.refl _, Nat.le_of_ble_eq_true (by kernel_rfl), ?_, ?_⟩
  ·rw [ev_flash_parseHit]; exact spec_flash_parseHit tx hp
  ·rw [lp_flash_parseHit]; trivial
 ·cases h
def Sha95 : Sum := addS Sha94 88 con_flash_parseHit
theorem VSha95 : Valid Tryz.prog Sha95 := Valid.add VSha94 ok_flash_parseHit
def mk_flash_ParseHits_0 (tx : ByteArray) (v0_0 : List (List CV)) (v0_1 : List (List CV)) (v0_2 : ByteArray) : DS := ⟨[none, none, some (.t (.c (.p 2 0))), some (.t (.c (.p 3 0))), some (.t (.c (.p 4 0))), none, none, none, none, none, none, none, none, some (.t (.fn 150 [.px 1 0 (fun _ => .v (.string (⟨#[59]⟩))), .p 13 0, .px 1 0 (fun _ => .v (.int .i64 0))])), none, none, none, none, none, none, none, none, none, none, none, none, none, none, none, none, none, none], [some (.gen 96 7 v0_0), some (.gen 96 7 v0_1), some (.box 61 [.os 0]), some (.box 36 [.v (.int .i64 0)]), some (.box 61 [.os 1]), none, none, none, none, none, none, none, none, some (.box 9 [.v (.string v0_2)]), none, none, none, none, none, none, none, none, none, none, none, none, none, none, none, none, none, none]⟩
def vc_flash_ParseHits (J : Inv) (tx : ByteArray) (post : DV → Prop) : Prop := cond (decide ((((tx : ByteArray).size : Nat) : Int) > (60000 : Int))) (post (.tu [.c (.v (.slice none 0 0)), .c (.v (.int .i64 8))])) ((sepP (.v (.string (⟨#[59]⟩))) ∧ (.v (.string tx) : CV) = .v (.string tx) ∧ tx.size ≤ 1000000000 ∧ (.v (.int .i64 0) : CV) = .v (.int .i64 0)) ∧ (J 0 [0] (mk_flash_ParseHits_0 tx ([]) ([]) tx)))
def ann_flash_ParseHits : Ann := ⟨fun _ => none, fun b => lookA b [(0, (none, some ⟨[2, 3, 4, 13], [2, 3, 4, 13], []⟩))], fun b => (lookA b [(0, [(2, 0, 0, .gen 96 7 []), (4, 0, 1, .gen 96 7 [])])]).getD [], Ilib, false, fun _ => none, fun _ => none⟩
theorem ev_flash_ParseHits (J : Inv) (tx : ByteArray) (post : DV → Prop) : evFn Tryz.prog tab Sha95 ann_flash_ParseHits J Tryz.f33 [.t (.c (.v (.string tx)))] post = vc_flash_ParseHits J tx post := by kernel_rfl
theorem fit_flash_ParseHits : okFn ann_flash_ParseHits Tryz.f33 = true := by kernel_rfl
def rd_flash_ParseHits_0 (J : Inv) (tx : ByteArray) (v0_0 : List (List CV)) (v0_1 : List (List CV)) (v0_2 : ByteArray) (nn0 : Nat) (post : DV → Prop) : Prop := (((cutA v0_2 (⟨#[59]⟩))).size ≤ 100000000) ∧ (cond (!(hitB (cutA v0_2 (⟨#[59]⟩)))) (post (.tu [.c (.sl 7 0 (genC [])), .c (.v (.int .i64 7))])) ((roomP 56 (v0_1.length + ([[.v (.int .i64 (phC (cutA v0_2 (⟨#[59]⟩)) 0)), .v (.int .i64 (phC (cutA v0_2 (⟨#[59]⟩)) 1)), .v (.int .i64 (phC (cutA v0_2 (⟨#[59]⟩)) 2)), .v (.int .i64 (phC (cutA v0_2 (⟨#[59]⟩)) 3)), .v (.int .i64 (phC (cutA v0_2 (⟨#[59]⟩)) 4)), .v (.int .i64 (phC (cutA v0_2 (⟨#[59]⟩)) 5)), .v (.int .i64 (phC (cutA v0_2 (⟨#[59]⟩)) 6))]] : List (List CV)).length)) ∧ (((some (.t (.fn 150 [.px 1 0 (fun _ => .v (.string (⟨#[59]⟩))), .p 13 0, .px 1 0 (fun _ => .v (.int .i64 0))])) : Option DV) = some (.t (.fn 150 [.px 1 0 (fun _ => .v (.string (⟨#[59]⟩))), .p 13 0, .px 1 0 (fun _ => .v (.int .i64 0))]))) ∧ ((some (.box 9 [.v (.string v0_2)]) : Option Row) = some (.box 9 [.v (.string v0_2)])) ∧ cond (cutH v0_2 (⟨#[59]⟩)) (J 0 [nn0 + 1] (mk_flash_ParseHits_0 tx v0_0 (v0_1 ++ ([[.v (.int .i64 (phC (cutA v0_2 (⟨#[59]⟩)) 0)), .v (.int .i64 (phC (cutA v0_2 (⟨#[59]⟩)) 1)), .v (.int .i64 (phC (cutA v0_2 (⟨#[59]⟩)) 2)), .v (.int .i64 (phC (cutA v0_2 (⟨#[59]⟩)) 3)), .v (.int .i64 (phC (cutA v0_2 (⟨#[59]⟩)) 4)), .v (.int .i64 (phC (cutA v0_2 (⟨#[59]⟩)) 5)), .v (.int .i64 (phC (cutA v0_2 (⟨#[59]⟩)) 6))]] : List (List CV))) (cutZ v0_2 (⟨#[59]⟩)))) ((numsP 7 ((v0_1 ++ ([[.v (.int .i64 (phC (cutA v0_2 (⟨#[59]⟩)) 0)), .v (.int .i64 (phC (cutA v0_2 (⟨#[59]⟩)) 1)), .v (.int .i64 (phC (cutA v0_2 (⟨#[59]⟩)) 2)), .v (.int .i64 (phC (cutA v0_2 (⟨#[59]⟩)) 3)), .v (.int .i64 (phC (cutA v0_2 (⟨#[59]⟩)) 4)), .v (.int .i64 (phC (cutA v0_2 (⟨#[59]⟩)) 5)), .v (.int .i64 (phC (cutA v0_2 (⟨#[59]⟩)) 6))]] : List (List CV))).length) (genC (v0_1 ++ ([[.v (.int .i64 (phC (cutA v0_2 (⟨#[59]⟩)) 0)), .v (.int .i64 (phC (cutA v0_2 (⟨#[59]⟩)) 1)), .v (.int .i64 (phC (cutA v0_2 (⟨#[59]⟩)) 2)), .v (.int .i64 (phC (cutA v0_2 (⟨#[59]⟩)) 3)), .v (.int .i64 (phC (cutA v0_2 (⟨#[59]⟩)) 4)), .v (.int .i64 (phC (cutA v0_2 (⟨#[59]⟩)) 5)), .v (.int .i64 (phC (cutA v0_2 (⟨#[59]⟩)) 6))]] : List (List CV))))) ∧ (cond ((hitsE (listC ((v0_1 ++ ([[.v (.int .i64 (phC (cutA v0_2 (⟨#[59]⟩)) 0)), .v (.int .i64 (phC (cutA v0_2 (⟨#[59]⟩)) 1)), .v (.int .i64 (phC (cutA v0_2 (⟨#[59]⟩)) 2)), .v (.int .i64 (phC (cutA v0_2 (⟨#[59]⟩)) 3)), .v (.int .i64 (phC (cutA v0_2 (⟨#[59]⟩)) 4)), .v (.int .i64 (phC (cutA v0_2 (⟨#[59]⟩)) 5)), .v (.int .i64 (phC (cutA v0_2 (⟨#[59]⟩)) 6))]] : List (List CV))).length) mkHit (genC (v0_1 ++ ([[.v (.int .i64 (phC (cutA v0_2 (⟨#[59]⟩)) 0)), .v (.int .i64 (phC (cutA v0_2 (⟨#[59]⟩)) 1)), .v (.int .i64 (phC (cutA v0_2 (⟨#[59]⟩)) 2)), .v (.int .i64 (phC (cutA v0_2 (⟨#[59]⟩)) 3)), .v (.int .i64 (phC (cutA v0_2 (⟨#[59]⟩)) 4)), .v (.int .i64 (phC (cutA v0_2 (⟨#[59]⟩)) 5)), .v (.int .i64 (phC (cutA v0_2 (⟨#[59]⟩)) 6))]] : List (List CV)))))) != (0 : Int)) (post (.tu [.c (.v (.slice none 0 0)), .c (.v (.int .i64 (hitsE (listC ((v0_1 ++ ([[.v (.int .i64 (phC (cutA v0_2 (⟨#[59]⟩)) 0)), .v (.int .i64 (phC (cutA v0_2 (⟨#[59]⟩)) 1)), .v (.int .i64 (phC (cutA v0_2 (⟨#[59]⟩)) 2)), .v (.int .i64 (phC (cutA v0_2 (⟨#[59]⟩)) 3)), .v (.int .i64 (phC (cutA v0_2 (⟨#[59]⟩)) 4)), .v (.int .i64 (phC (cutA v0_2 (⟨#[59]⟩)) 5)), .v (.int .i64 (phC (cutA v0_2 (⟨#[59]⟩)) 6))]] : List (List CV))).length) mkHit (genC (v0_1 ++ ([[.v (.int .i64 (phC (cutA v0_2 (⟨#[59]⟩)) 0)), .v (.int .i64 (phC (cutA v0_2 (⟨#[59]⟩)) 1)), .v (.int .i64 (phC (cutA v0_2 (⟨#[59]⟩)) 2)), .v (.int .i64 (phC (cutA v0_2 (⟨#[59]⟩)) 3)), .v (.int .i64 (phC (cutA v0_2 (⟨#[59]⟩)) 4)), .v (.int .i64 (phC (cutA v0_2 (⟨#[59]⟩)) 5)), .v (.int .i64 (phC (cutA v0_2 (⟨#[59]⟩)) 6))]] : List (List CV))))))))])) (post (.tu [.c (.sl 7 ((v0_1 ++ ([[.v (.int .i64 (phC (cutA v0_2 (⟨#[59]⟩)) 0)), .v (.int .i64 (phC (cutA v0_2 (⟨#[59]⟩)) 1)), .v (.int .i64 (phC (cutA v0_2 (⟨#[59]⟩)) 2)), .v (.int .i64 (phC (cutA v0_2 (⟨#[59]⟩)) 3)), .v (.int .i64 (phC (cutA v0_2 (⟨#[59]⟩)) 4)), .v (.int .i64 (phC (cutA v0_2 (⟨#[59]⟩)) 5)), .v (.int .i64 (phC (cutA v0_2 (⟨#[59]⟩)) 6))]] : List (List CV))).length) (genC (v0_1 ++ ([[.v (.int .i64 (phC (cutA v0_2 (⟨#[59]⟩)) 0)), .v (.int .i64 (phC (cutA v0_2 (⟨#[59]⟩)) 1)), .v (.int .i64 (phC (cutA v0_2 (⟨#[59]⟩)) 2)), .v (.int .i64 (phC (cutA v0_2 (⟨#[59]⟩)) 3)), .v (.int .i64 (phC (cutA v0_2 (⟨#[59]⟩)) 4)), .v (.int .i64 (phC (cutA v0_2 (⟨#[59]⟩)) 5)), .v (.int .i64 (phC (cutA v0_2 (⟨#[59]⟩)) 6))]] : List (List CV))))), .c (.v (.int .i64 0))])))))))
theorem er_flash_ParseHits_0 (J : Inv) (tx : ByteArray) (v0_0 : List (List CV)) (v0_1 : List (List CV)) (v0_2 : ByteArray) (nn0 : Nat) (post : DV → Prop) : round Tryz.prog tab Sha95 ann_flash_ParseHits J Tryz.f33 post 0 (nn0 :: []) (mk_flash_ParseHits_0 tx v0_0 v0_1 v0_2) = rd_flash_ParseHits_0 J tx v0_0 v0_1 v0_2 nn0 post := by kernel_rfl
theorem lp_flash_ParseHits (J : Inv) (post : DV → Prop) : AllG J (loopsFn Tryz.prog tab Sha95 ann_flash_ParseHits J Tryz.f33 post) = ((∀ i s, J 0 [i] s → round Tryz.prog tab Sha95 ann_flash_ParseHits J Tryz.f33 post 0 [i] s) ∧ True) := by kernel_rfl
def J_flash_ParseHits (tx : ByteArray) : Inv := fun b F s => match b, F with
 | 0, [nn0] => ∃ (v0_0 : List (List CV)) (v0_1 : List (List CV)) (v0_2 : ByteArray), s = mk_flash_ParseHits_0 tx v0_0 v0_1 v0_2 ∧ (tx.size ≤ 60000 ∧ nn0 < nPc 59 tx ∧ v0_0 = [] ∧ v0_1 = (hsK tx nn0).map hitCv ∧ v0_2 = ofL (remC 59 tx.data.toList nn0) ∧ ∀ j, j < nn0 → hitB (partB tx j) = true)
 | _, _ => False
theorem rnd_flash_ParseHits_0 (tx : ByteArray) (v0_0 : List (List CV)) (v0_1 : List (List CV)) (v0_2 : ByteArray) (nn0 : Nat) (hp : (tx).size ≤ 100000000) (hi : tx.size ≤ 60000 ∧ nn0 < nPc 59 tx ∧ v0_0 = [] ∧ v0_1 = (hsK tx nn0).map hitCv ∧ v0_2 = ofL (remC 59 tx.data.toList nn0) ∧ ∀ j, j < nn0 → hitB (partB tx j) = true) : rd_flash_ParseHits_0 (J_flash_ParseHits tx) tx v0_0 v0_1 v0_2 nn0 (fun r => LeD r (.tu [.c (.sl 7 ((phL tx).length) (hitsC (phL tx))), .c (.v (.int .i64 (phE tx)))])) := by
 obtain ⟨q, i1, i2, i3, i4, i5⟩ := hi
 subst i2 i3 i4
 have np := nPc_le 59 tx
 unfold rd_flash_ParseHits_0
 rw [cutA_rem i1, cutH_rem i1, show ofL (wAt 59 tx nn0) = partB tx nn0 from rfl]
 have ea : (hsK tx nn0).map hitCv ++ [[.v (.int .i64 (phC (partB tx nn0) 0)), .v (.int .i64 (phC (partB tx nn0) 1)), .v (.int .i64 (phC (partB tx nn0) 2)), .v (.int .i64 (phC (partB tx nn0) 3)), .v (.int .i64 (phC (partB tx nn0) 4)), .v (.int .i64 (phC (partB tx nn0) 5)), .v (.int .i64 (phC (partB tx nn0) 6))]] = (hsK tx (nn0 + 1)).map hitCv := by
  rw [hsK_succ, List.map_append]; rfl
 rw [ea, hitg_listC]
 refine ⟨Nat.le_trans partB_size (by omega), cond_i (fun g => ?_) (fun g => ?_)⟩
 ·have g : hitB (partB tx nn0) = false := by simpa using g
  have e : phE tx = 7 := by unfold phE; rw [if_neg (by omega), if_pos (synH_no i1 g)]
  rw [show phL tx = [] from if_neg (by rw [e]; decide), e]
  exact le_tu (le_hits []) (LeD.refl _)
 ·have g : hitB (partB tx nn0) = true := by simpa using g
  have all : ∀ j, j < nn0 + 1 → hitB (partB tx j) = true := fun j hj => by
   rcases (by omega : j < nn0 ∨ j = nn0) with c | rfl
   ·exact i5 j c
   ·exact g
  refine ⟨by simp [roomP, maxLen, hsK_len]; omega, rfl, rfl, cond_i (fun h => ?_) (fun h => ⟨numsP_hitg _, ?_⟩)⟩
  ·have h := of_decide_eq_true h
   rw [cutZ_rem h]
   exact ⟨_, _, _, rfl, q, h, rfl, rfl, rfl, all⟩
  ·have h := of_decide_eq_false h
   have en : nn0 + 1 = nPc 59 tx := by omega
   rw [en] at all ⊢
   have e : phE tx = hitsE (hsK tx (nPc 59 tx)) := by unfold phE; rw [if_neg (by omega), if_neg (by rw [synH_yes all]; simp)]
   rw [← e]
   refine cond_i (fun g => ?_) (fun g => ?_)
   ·have g : phE tx ≠ 0 := by simpa using g
    rw [show phL tx = [] from if_neg g]
    exact le_tu le_nil (LeD.refl _)
   ·have g : phE tx = 0 := by simpa using g
    rw [show phL tx = hsK tx (nPc 59 tx) from if_pos g, g]
    exact le_tu (le_hits _) (LeD.refl _)
theorem spec_flash_ParseHits (tx : ByteArray) (hp : (tx).size ≤ 100000000) : vc_flash_ParseHits (J_flash_ParseHits tx) tx (fun r => LeD r (.tu [.c (.sl 7 ((phL tx).length) (hitsC (phL tx))), .c (.v (.int .i64 (phE tx)))])) := by
 unfold vc_flash_ParseHits
 refine cond_i (fun h => ?_) (fun h => ?_)
 ·have h := of_decide_eq_true h
  have e : phE tx = 8 := if_pos (by omega)
  rw [show phL tx = [] from if_neg (by rw [e]; decide), e]
  exact le_tu le_nil (LeD.refl _)
 ·have h := of_decide_eq_false h
  exact ⟨⟨⟨59, rfl⟩, rfl, by omega, rfl⟩, _, _, _, rfl, by omega, nPc_pos _ _, rfl, rfl, (ofL_back tx).symm, fun j hj => absurd hj (Nat.not_lt_zero _)⟩
theorem all_flash_ParseHits (tx : ByteArray) (hp : (tx).size ≤ 100000000) : AllG (J_flash_ParseHits tx) (loopsFn Tryz.prog tab Sha95 ann_flash_ParseHits (J_flash_ParseHits tx) Tryz.f33 (fun r => LeD r (.tu [.c (.sl 7 ((phL tx).length) (hitsC (phL tx))), .c (.v (.int .i64 (phE tx)))]))) := by
 rw [lp_flash_ParseHits]
 refine ⟨?_, trivial⟩
 ·intro i s h
  obtain ⟨w0, w1, w2, rfl, hi⟩ := h
  rw [er_flash_ParseHits_0]
  exact rnd_flash_ParseHits_0 tx _ _ _ _ hp hi
def con_flash_ParseHits : Con := fun args => match args with
 | [.t (.c (.v (.string tx)))] => some (.tu [.c (.sl 7 ((phL tx).length) (hitsC (phL tx))), .c (.v (.int .i64 (phE tx)))], some ((tx).size ≤ 100000000), false)
 | _ => none
theorem ok_flash_ParseHits : Ok Tryz.prog 33 con_flash_ParseHits := by
 refine Ok.fn (ann := ann_flash_ParseHits) mixed tabOK VSha95 VIlib (fn := Tryz.f33) (by kernel_rfl) (by kernel_rfl) fit_flash_ParseHits fun args r pre fresh h hp => ?_
 unfold con_flash_ParseHits at h
 split at h
 ·rename_i tx
  cases h
  refine ⟨rfl, J_flash_ParseHits tx, _, LeA.refl _, Nat.le_of_ble_eq_true (by kernel_rfl), ?_, ?_⟩
  ·rw [ev_flash_ParseHits]; exact spec_flash_ParseHits tx hp
  ·exact all_flash_ParseHits tx hp
 ·cases h
def Sha96 : Sum := addS Sha95 33 con_flash_ParseHits
theorem VSha96 : Valid Tryz.prog Sha96 := Valid.add VSha95 ok_flash_ParseHits
def Sha97 : Sum := Sha96
theorem VSha97 : Valid Tryz.prog Sha97 := VSha96
end Go.Proofs.YtdkpgodakmailaaGreatDoor
set_option linter.unusedVariables false
set_option linter.unusedSimpArgs false
namespace Go.Proofs.YtdkpgodakmailaaGreatDoor
open Go.RowKit Ev
def Shb98 : Sum := Sha97
theorem VShb98 : Valid Tryz.prog Shb98 := VSha97
def Shb99 : Sum := Shb98
theorem VShb99 : Valid Tryz.prog Shb99 := VShb98
end Go.Proofs.YtdkpgodakmailaaGreatDoor
set_option linter.unusedVariables false
set_option linter.unusedSimpArgs false
namespace Go.Proofs.YtdkpgodakmailaaGreatDoor
open Go.RowKit Ev
theorem hit_eqB (x y : FHit) : (bif (bif (x.p.x == y.p.x) then (bif (x.p.y == y.p.y) then (bif (x.p.z == y.p.z) then true else false) else false) else false) then (bif (bif (x.t.lo == y.t.lo) then (bif (x.t.hi == y.t.hi) then true else false) else false) then (bif (bif (x.c.lo == y.c.lo) then (bif (x.c.hi == y.c.hi) then true else false) else false) then true else false) else false) else false) = decide (x = y) := by
 have key : ∀ a b c d e f g : Bool, (bif (bif a then (bif b then (bif c then true else false) else false) else false) then (bif (bif d then (bif e then true else false) else false) then (bif (bif f then (bif g then true else false) else false) then true else false) else false) else false) = (a && b && c && d && e && f && g) := by decide
 rw [key]
 by_cases h : x = y
 ·subst h; simp
 ·rw [decide_eq_false h, Bool.eq_false_iff]
  intro q
  simp only [Bool.and_eq_true, beq_iff_eq] at q
  obtain ⟨⟨⟨⟨⟨⟨a, b⟩, c⟩, d⟩, e⟩, f⟩, g⟩ := q
  exact h (hit_ext.2 ⟨a, b, c, d, e, f, g⟩)
def Shc100 : Sum := Shb99
theorem VShc100 : Valid Tryz.prog Shc100 := VShb99
def Shc101 : Sum := Shc100
theorem VShc101 : Valid Tryz.prog Shc101 := VShc100
def Shc102 : Sum := Shc101
theorem VShc102 : Valid Tryz.prog Shc102 := VShc101
def Shc103 : Sum := Shc102
theorem VShc103 : Valid Tryz.prog Shc103 := VShc102
def Shc104 : Sum := Shc103
theorem VShc104 : Valid Tryz.prog Shc104 := VShc103
def mk_ref06_SameHits_0 (l : List FHit) (lu : List FHit) (v0_0 : Int) : DS := ⟨[some (.t (.c (.sl 7 l.length (hitsC l)))), some (.t (.c (.sl 7 lu.length (hitsC lu)))), none, none, none, some (.t (.c (.v (.int .i64 v0_0)))), none, none, none, none, none, none, none, none, none, none, none, none, none, none, none, none, none, none, none, none], [none, none, none, none, none, none, none, none, none, none, none, none, none, none, none, none, none, none, none, none, none, none, none, none, none, none]⟩
def vc_ref06_SameHits (J : Inv) (l : List FHit) (lu : List FHit) (post : DV → Prop) : Prop := cond (((l.length : Nat) : Int) != ((lu.length : Nat) : Int)) (post (.t (.c (.v (.bool false))))) (∃ n, J 0 (n :: []) (mk_ref06_SameHits_0 l lu 0))
def ann_ref06_SameHits : Ann := ⟨fun r => lookA r [(6, ([[], [], [0, 1], [0, 1, 2], [], [], [4, 5], [4, 5, 6], [0, 1, 2, 3, 4, 5, 6, 7]], [[], [], [], [], [], [], [], [], []]))], fun b => lookA b [(0, (none, some ⟨[0, 1, 5], [], []⟩))], fun _ => [], Ilib, false, fun _ => none, fun _ => none⟩
theorem ev_ref06_SameHits (J : Inv) (l : List FHit) (lu : List FHit) (post : DV → Prop) : evFn Tryz.prog tab Shc104 ann_ref06_SameHits J Tryz.f38 [.t (.c (.sl 7 l.length (hitsC l))), .t (.c (.sl 7 lu.length (hitsC lu)))] post = vc_ref06_SameHits J l lu post := by kernel_rfl
theorem fit_ref06_SameHits : okFn ann_ref06_SameHits Tryz.f38 = true := by kernel_rfl
def rd_ref06_SameHits_0 (J : Inv) (l : List FHit) (lu : List FHit) (v0_0 : Int) (nn0 : Nat) (post : DV → Prop) : Prop := cond (decide (v0_0 < ((l.length : Nat) : Int))) ((0 ≤ v0_0 ∧ v0_0 < ((l.length : Nat) : Int)) ∧ ((0 ≤ v0_0 ∧ v0_0 < ((lu.length : Nat) : Int)) ∧ (cond (!(bif (bif (((hitAt l v0_0.toNat).p.x) == ((hitAt lu v0_0.toNat).p.x)) then (bif (((hitAt l v0_0.toNat).p.y) == ((hitAt lu v0_0.toNat).p.y)) then (bif (((hitAt l v0_0.toNat).p.z) == ((hitAt lu v0_0.toNat).p.z)) then true else false) else false) else false) then (bif (bif (((hitAt l v0_0.toNat).t.lo) == ((hitAt lu v0_0.toNat).t.lo)) then (bif (((hitAt l v0_0.toNat).t.hi) == ((hitAt lu v0_0.toNat).t.hi)) then true else false) else false) then (bif (bif (((hitAt l v0_0.toNat).c.lo) == ((hitAt lu v0_0.toNat).c.lo)) then (bif (((hitAt l v0_0.toNat).c.hi) == ((hitAt lu v0_0.toNat).c.hi)) then true else false) else false) then true else false) else false) else false)) (post (.t (.c (.v (.bool false))))) (lt (IntKind.i64.wrap (v0_0 + (1 : Int))) fun x1 => J 0 (nn0 :: []) (mk_ref06_SameHits_0 l lu x1))))) (post (.t (.c (.v (.bool true)))))
theorem er_ref06_SameHits_0 (J : Inv) (l : List FHit) (lu : List FHit) (v0_0 : Int) (nn0 : Nat) (post : DV → Prop) : round Tryz.prog tab Shc104 ann_ref06_SameHits J Tryz.f38 post 0 (nn0 :: []) (mk_ref06_SameHits_0 l lu v0_0) = rd_ref06_SameHits_0 J l lu v0_0 nn0 post := by kernel_rfl
theorem lp_ref06_SameHits (J : Inv) (post : DV → Prop) : AllG J (loopsFn Tryz.prog tab Shc104 ann_ref06_SameHits J Tryz.f38 post) = (((∀ F s, ¬ J 0 (0 :: F) s) ∧ ∀ n F s, J 0 ((n + 1) :: F) s → round Tryz.prog tab Shc104 ann_ref06_SameHits J Tryz.f38 post 0 (n :: F) s) ∧ True) := by kernel_rfl
def J_ref06_SameHits (l : List FHit) (lu : List FHit) : Inv := fun b F s => match b, F with
 | 0, [nn0] => ∃ (v0_0 : Int), s = mk_ref06_SameHits_0 l lu v0_0 ∧ (l.length ≤ 100000000 ∧ 0 ≤ v0_0 ∧ v0_0 ≤ l.length ∧ (nn0 : Int) + v0_0 = l.length + 1 ∧ l.length = lu.length ∧ ∀ j : Nat, (j : Int) < v0_0 → hitAt l j = hitAt lu j)
 | _, _ => False
theorem rnd_ref06_SameHits_0 (l : List FHit) (lu : List FHit) (v0_0 : Int) (nn0 : Nat) (hp : (l).length ≤ 100000000) (hi : l.length ≤ 100000000 ∧ 0 ≤ v0_0 ∧ v0_0 ≤ l.length ∧ ((nn0 + 1) : Int) + v0_0 = l.length + 1 ∧ l.length = lu.length ∧ ∀ j : Nat, (j : Int) < v0_0 → hitAt l j = hitAt lu j) : rd_ref06_SameHits_0 (J_ref06_SameHits l lu) l lu v0_0 nn0 (fun r => LeD r (.t (.c (.v (.bool (decide (l = lu))))))) := by
 obtain ⟨q, i1, i2, i3, i4, i5⟩ := hi
 obtain ⟨k, rfl⟩ : ∃ k : Nat, v0_0 = k := ⟨v0_0.toNat, by omega⟩
 have hk : (k : Int).toNat = k := rfl
 unfold rd_ref06_SameHits_0
 rw [hk]
 refine cond_i (fun h => ?_) (fun h => leB ?_)
 ·have hlt : k < l.length := by have := of_decide_eq_true h; omega
  refine ⟨⟨by omega, by omega⟩, ⟨by omega, by omega⟩, ?_⟩
  rw [hit_eqB]
  refine cond_i (fun g => leB ?_) (fun g => lt_i fun x1 h1 => ?_)
  ·have g : hitAt l k ≠ hitAt lu k := by simpa using g
   refine (decide_eq_false ?_).symm
   rintro rfl
   exact g rfl
  ·have g : hitAt l k = hitAt lu k := by simpa using g
   rw [wi (by omega)] at h1
   subst h1
   exact ⟨_, rfl, q, by omega, by omega, by omega, i4, fun j hj => by
    by_cases e : j = k
    ·rw [e]; exact g
    ·exact i5 j (by omega)⟩
 ·have h := of_decide_eq_false h
  refine (decide_eq_true (List.ext_getElem i4 fun j h1 h2 => ?_)).symm
  have := i5 j (by omega)
  simpa [hitAt, List.getD, h1, h2] using this
theorem zero_ref06_SameHits_0 (l : List FHit) (lu : List FHit) (v0_0 : Int)  (hi : l.length ≤ 100000000 ∧ 0 ≤ v0_0 ∧ v0_0 ≤ l.length ∧ (0 : Int) + v0_0 = l.length + 1 ∧ l.length = lu.length ∧ ∀ j : Nat, (j : Int) < v0_0 → hitAt l j = hitAt lu j) : False := by
 omega
theorem spec_ref06_SameHits (l : List FHit) (lu : List FHit) (hp : (l).length ≤ 100000000) : vc_ref06_SameHits (J_ref06_SameHits l lu) l lu (fun r => LeD r (.t (.c (.v (.bool (decide (l = lu))))))) := by
 unfold vc_ref06_SameHits
 refine cond_i (fun h => leB ?_) (fun h => ?_)
 ·refine (decide_eq_false ?_).symm
  rintro rfl
  simp at h
 ·have h : l.length = lu.length := by
   have h : (l.length : Int) = lu.length := by simpa using h
   omega
  exact ⟨l.length + 1, 0, rfl, hp, by omega, by omega, by omega, h, fun j hj => by omega⟩
theorem all_ref06_SameHits (l : List FHit) (lu : List FHit) (hp : (l).length ≤ 100000000) : AllG (J_ref06_SameHits l lu) (loopsFn Tryz.prog tab Shc104 ann_ref06_SameHits (J_ref06_SameHits l lu) Tryz.f38 (fun r => LeD r (.t (.c (.v (.bool (decide (l = lu)))))))) := by
 rw [lp_ref06_SameHits]
 refine ⟨⟨?_, ?_⟩, trivial⟩
 ·intro F s h
  obtain _ | ⟨g, F⟩ := F
  case cons => exact h.elim
  obtain ⟨w0, rfl, hi⟩ := h
  exact zero_ref06_SameHits_0 l lu w0 hi
 ·intro n F s h
  obtain _ | ⟨g, F⟩ := F
  case cons => exact h.elim
  obtain ⟨w0, rfl, hi⟩ := h
  rw [er_ref06_SameHits_0]
  exact rnd_ref06_SameHits_0 l lu _ _ hp hi
def con_ref06_SameHits : Con := fun args => match args with
 | [.t (.c (.sl 7 n_l c_l)), .t (.c (.sl 7 n_lu c_lu))] => some (.t (.c (.v (.bool (decide ((listC n_l mkHit c_l) = (listC n_lu mkHit c_lu)))))), some (numsP 7 n_l c_l ∧ numsP 7 n_lu c_lu ∧ ((listC n_l mkHit c_l)).length ≤ 100000000), false)
 | _ => none
theorem ok_ref06_SameHits : Ok Tryz.prog 38 con_ref06_SameHits := by
 refine Ok.fn (ann := ann_ref06_SameHits) mixed tabOK VShc104 VIlib (fn := Tryz.f38) (by kernel_rfl) (by kernel_rfl) fit_ref06_SameHits fun args r pre fresh h hp => ?_
 unfold con_ref06_SameHits at h
 split at h
 ·rename_i n_l c_l n_lu c_lu
  cases h
  obtain ⟨hp0, hp1, hp⟩ := hp
  refine ⟨rfl, J_ref06_SameHits (listC n_l mkHit c_l) (listC n_lu mkHit c_lu), [.t (.c (.sl 7 ((listC n_l mkHit c_l).length) (hitsC (listC n_l mkHit c_l)))), .t (.c (.sl 7 ((listC n_lu mkHit c_lu).length) (hitsC (listC n_lu mkHit c_lu))))], ?_, Nat.le_of_ble_eq_true (by kernel_rfl), ?_, ?_⟩
  ·exact (LeA_cons (leT_c ((leL_FHit hp0))) (LeA_cons (leT_c ((leL_FHit hp1))) LeA_nil))
  ·rw [ev_ref06_SameHits]; exact spec_ref06_SameHits (listC n_l mkHit c_l) (listC n_lu mkHit c_lu) hp
  ·exact all_ref06_SameHits (listC n_l mkHit c_l) (listC n_lu mkHit c_lu) hp
 ·cases h
end Go.Proofs.YtdkpgodakmailaaGreatDoor
set_option linter.unusedVariables false
set_option linter.unusedSimpArgs false
namespace Go.Proofs.YtdkpgodakmailaaGreatDoor
open Go.RowKit Ev
noncomputable def Shf116 : Sum := addS Sf115 31 con_flash_FormatHits
theorem VShf116 : Valid Tryz.prog Shf116 := Valid.add VSf115 ok_flash_FormatHits
noncomputable def Shf117 : Sum := addS Shf116 33 con_flash_ParseHits
theorem VShf117 : Valid Tryz.prog Shf117 := Valid.add VShf116 ok_flash_ParseHits
noncomputable def Shf118 : Sum := addS Shf117 38 con_ref06_SameHits
theorem VShf118 : Valid Tryz.prog Shf118 := Valid.add VShf117 ok_ref06_SameHits
noncomputable def Shf119 : Sum := addS Shf118 41 con_ref06_TableErr
theorem VShf119 : Valid Tryz.prog Shf119 := Valid.add VShf118 ok_ref06_TableErr
def vc_top_flashSquare (a0 a1 a2 : Int) (b0 b1 b2 : Int) (post : DV → Prop) : Prop := lt (IntKind.i64.wrap (a0 - b0)) fun x1 => lt (IntKind.i64.wrap (a1 - b1)) fun x2 => lt (IntKind.i64.wrap (a2 - b2)) fun x3 => lt (IntKind.i64.wrap (x1 * x1)) fun x4 => lt (IntKind.i64.wrap (x2 * x2)) fun x5 => lt (IntKind.i64.wrap (x4 + x5)) fun x6 => lt (IntKind.i64.wrap (x3 * x3)) fun x7 => lt (IntKind.i64.wrap (x6 + x7)) fun x8 => post (.t (.c (.v (.int .i64 x8))))
def ann_top_flashSquare : Ann := ⟨fun r => lookA r [(1, ([[], [0], [], [2], [0, 1, 2, 3], [], [5], [], [7], [5, 6, 7, 8], [], [10], [], [12], [10, 11, 12, 13], [0, 1, 2, 3, 4], [0, 1, 2, 3, 4, 5, 6, 7, 8, 9, 15], [0, 1, 2, 3, 4, 5, 6, 7, 8, 9, 10, 11, 12, 13, 14, 15, 16]], [[], [], [], [], [], [], [], [], [], [], [], [], [], [], [], [], [], []]))], fun _ => none, fun _ => [], I1, false, fun _ => none, fun _ => none⟩
theorem ev_top_flashSquare (J : Inv) (a0 a1 a2 : Int) (b0 b1 b2 : Int) (post : DV → Prop) : evFn Tryz.prog tab Shf119 ann_top_flashSquare J Tryz.f51 [.t (.a [.v (.int .i64 a0), .v (.int .i64 a1), .v (.int .i64 a2)]), .t (.a [.v (.int .i64 b0), .v (.int .i64 b1), .v (.int .i64 b2)])] post = vc_top_flashSquare a0 a1 a2 b0 b1 b2 post := by kernel_rfl
theorem fit_top_flashSquare : okFn ann_top_flashSquare Tryz.f51 = true := by kernel_rfl
theorem lp_top_flashSquare (J : Inv) (post : DV → Prop) : AllG J (loopsFn Tryz.prog tab Shf119 ann_top_flashSquare J Tryz.f51 post) = (True) := by kernel_rfl
theorem spec_top_flashSquare (a0 a1 a2 : Int) (b0 b1 b2 : Int) (hp : ((⟨a0, a1, a2⟩ : P3)).bd 15000 ∧ ((⟨b0, b1, b2⟩ : P3)).bd 15000) : vc_top_flashSquare a0 a1 a2 b0 b1 b2 (fun r => LeD r (.t (.c (.v (.int .i64 (sqD (⟨a0, a1, a2⟩ : P3) (⟨b0, b1, b2⟩ : P3))))))) := by
 obtain ⟨⟨u1, u2, u3⟩, w1, w2, w3⟩ := hp
 simp only at u1 u2 u3 w1 w2 w3
 have q1 := sq_rg (d := a0 - b0) (K := 30000) (by omega)
 have q2 := sq_rg (d := a1 - b1) (K := 30000) (by omega)
 have q3 := sq_rg (d := a2 - b2) (K := 30000) (by omega)
 unfold vc_top_flashSquare
 refine lt_i fun x1 h1 => lt_i fun x2 h2 => lt_i fun x3 h3 => ?_
 rw [wi (by omega)] at h1 h2 h3
 subst h1 h2 h3
 refine lt_i fun x4 h4 => lt_i fun x5 h5 => lt_i fun x6 h6 => lt_i fun x7 h7 => lt_i fun x8 h8 => ?_
 rw [wi (by omega)] at h4 h5 h7
 subst h4 h5 h7
 rw [wi (by omega)] at h6
 subst h6
 rw [wi (by omega)] at h8
 subst h8
 exact LeD.refl _
def con_top_flashSquare : Con := fun args => match args with
 | [.t (.a [.v (.int .i64 a0), .v (.int .i64 a1), .v (.int .i64 a2)]), .t (.a [.v (.int .i64 b0), .v (.int .i64 b1), .v (.int .i64 b2)])] => some (.t (.c (.v (.int .i64 (sqD (⟨a0, a1, a2⟩ : P3) (⟨b0, b1, b2⟩ : P3))))), some (((⟨a0, a1, a2⟩ : P3)).bd 15000 ∧ ((⟨b0, b1, b2⟩ : P3)).bd 15000), false)
 | _ => none
theorem ok_top_flashSquare : Ok Tryz.prog 51 con_top_flashSquare := by
 refine Ok.fn (ann := ann_top_flashSquare) mixed tabOK VShf119 VI1 (fn := Tryz.f51) (by kernel_rfl) (by kernel_rfl) fit_top_flashSquare fun args r pre fresh h hp => ?_
 unfold con_top_flashSquare at h
 split at h
 ·rename_i a0 a1 a2 b0 b1 b2
  cases h
  refine ⟨rfl, fun _ _ _ => False, _, LeA.refl _, Nat.le_of_ble_eq_true (by kernel_rfl), ?_, ?_⟩
  ·rw [ev_top_flashSquare]; exact spec_top_flashSquare a0 a1 a2 b0 b1 b2 hp
  ·rw [lp_top_flashSquare]; trivial
 ·cases h
noncomputable def Shs120 : Sum := addS Shf119 51 con_top_flashSquare
theorem VShs120 : Valid Tryz.prog Shs120 := Valid.add VShf119 ok_top_flashSquare
def vc_top_flashAwake  (post : DV → Prop) : Prop := (muP muL.length (musC muL) ∧ numsP 1 1 (genC [[.v (.int .i64 0)]]) ∧ muSm (muOf muL.length (musC muL)) ∧ (([(0 : Int)] : List Int)).length ≤ 1000000) ∧ ((numsP 7 hitL.length (hitsC hitL)) ∧ ((cond ((hd (vvE (muOf muL.length (musC muL)) (1 : Int) ([(0 : Int)] : List Int))) == (0 : Int)) ((0 ≤ (5 : Int) ∧ (5 : Int) ≤ 1000000000000 ∧ 0 < (8 : Int) ∧ (8 : Int) ≤ 1000000000000) ∧ (cond (bif ((hd (prtN (muOf muL.length (musC muL)) (1 : Int) ([(0 : Int)] : List Int))) == (lowN (5 : Int) (8 : Int))) then (bif ((hd (prtD (muOf muL.length (musC muL)) (1 : Int) ([(0 : Int)] : List Int))) == (lowD (5 : Int) (8 : Int))) then true else false) else false) (cond ((tmsE (listC hitL.length mkHit (hitsC hitL)) (⟨(2 : Int), (0 : Int), (0 : Int)⟩ : P3)) == (0 : Int)) (True) ((false = false) ∧ (True))) ((false = false) ∧ ((false = false) ∧ (True))))) ((false = false) ∧ ((false = false) ∧ ((false = false) ∧ (True))))) ∧ (lt ((bif ((hd (vvE (muOf muL.length (musC muL)) (1 : Int) ([(0 : Int)] : List Int))) == (0 : Int)) then (bif (bif ((hd (prtN (muOf muL.length (musC muL)) (1 : Int) ([(0 : Int)] : List Int))) == (lowN (5 : Int) (8 : Int))) then (bif ((hd (prtD (muOf muL.length (musC muL)) (1 : Int) ([(0 : Int)] : List Int))) == (lowD (5 : Int) (8 : Int))) then true else false) else false) then (bif ((tmsE (listC hitL.length mkHit (hitsC hitL)) (⟨(2 : Int), (0 : Int), (0 : Int)⟩ : P3)) == (0 : Int)) then (bif (((tmsV (listC hitL.length mkHit (hitsC hitL)) (⟨(2 : Int), (0 : Int), (0 : Int)⟩ : P3)).lo) == (97 : Int)) then (bif (((tmsV (listC hitL.length mkHit (hitsC hitL)) (⟨(2 : Int), (0 : Int), (0 : Int)⟩ : P3)).hi) == (98 : Int)) then true else false) else false) else false) else false) else false)) fun x1 => post (.t (.c (.v (.bool x1)))))))
def ann_top_flashAwake : Ann := ⟨fun r => lookA r [(3, ([[], [0], [0, 1], [0, 1, 2], [0, 1, 2], [0, 1, 2, 3, 4], [0, 1, 2, 3, 4, 5], [0, 1, 2, 3, 4, 5, 6], [0, 1, 2, 3, 4, 5, 6, 7], [0, 1, 2, 3, 4, 5, 6, 7, 8], [0, 1, 2, 3, 4, 5, 6, 7, 8, 9], [0, 1, 2, 3, 4, 5, 6, 7, 8, 9, 10], [0, 1, 2, 3, 4, 5, 6, 7, 8, 9, 10, 11], [0, 1, 2, 3, 4, 5, 6, 7, 8, 9, 10, 11], [0, 1, 2, 3, 4, 5, 6, 7, 8, 9, 10, 11, 12, 13], [0, 1, 2, 3, 4, 5, 6, 7, 8, 9, 10, 11, 12, 13, 14], [0, 1, 2, 3, 4, 5, 6, 7, 8, 9, 10, 11, 12, 13, 14, 15]], [[22], [22], [22], [22], [], [], [], [], [], [], [], [], [], [], [], [], []]))], fun _ => none, fun _ => [], I1, false, fun r => lookA r [(3, (3, [0]))], fun _ => none⟩
theorem ev_top_flashAwake (J : Inv)  (post : DV → Prop) : evFn Tryz.prog tab Shs120 ann_top_flashAwake J Tryz.f6 [] post = vc_top_flashAwake  post := by kernel_rfl
theorem fit_top_flashAwake : okFn ann_top_flashAwake Tryz.f6 = true := by kernel_rfl
theorem lp_top_flashAwake (J : Inv) (post : DV → Prop) : AllG J (loopsFn Tryz.prog tab Shs120 ann_top_flashAwake J Tryz.f6 post) = (True) := by kernel_rfl
set_option maxHeartbeats 8000000 in
set_option maxRecDepth 100000 in
theorem spec_top_flashAwake  : vc_top_flashAwake  (fun r => LeD r (.t (.c (.v (.bool true))))) := by
 unfold vc_top_flashAwake
 simp only [hd_eq]
 rw [hits_listC, mus_of]
 have mm : muSm muL := by
  intro k hk
  have hk : k < 3 := hk
  rcases (by omega : k = 0 ∨ k = 1 ∨ k = 2) with rfl | rfl | rfl <;> decide
 refine ⟨⟨muP_mus _, numsP_gen [_], mm, by decide⟩, numsP_hits _, cond_t (by kernel_rfl) ⟨by decide, cond_t (by kernel_rfl) (cond_t (by kernel_rfl) trivial)⟩, lt_i fun x1 h1 => leB ?_⟩
 rw [← h1]
 kernel_rfl
def con_top_flashAwake : Con := fun args => match args with
 | [] => some (.t (.c (.v (.bool true))), none, false)
 | _ => none
theorem ok_top_flashAwake : Ok Tryz.prog 6 con_top_flashAwake := by
 refine Ok.fn (ann := ann_top_flashAwake) mixed tabOK VShs120 VI1 (fn := Tryz.f6) (by kernel_rfl) (by kernel_rfl) fit_top_flashAwake fun args r pre fresh h hp => ?_
 unfold con_top_flashAwake at h
 split at h
 ·cases h
  refine ⟨rfl, fun _ _ _ => False, _, LeA.refl _, Nat.le_of_ble_eq_true (by kernel_rfl), ?_, ?_⟩
  ·rw [ev_top_flashAwake]; exact spec_top_flashAwake 
  ·rw [lp_top_flashAwake]; trivial
 ·cases h
noncomputable def Shs121 : Sum := addS Shs120 6 con_top_flashAwake
theorem VShs121 : Valid Tryz.prog Shs121 := Valid.add VShs120 ok_top_flashAwake
end Go.Proofs.YtdkpgodakmailaaGreatDoor
set_option linter.unusedVariables false
set_option linter.unusedSimpArgs false
namespace Go.Proofs.YtdkpgodakmailaaGreatDoor
open Go.RowKit Ev
def trN (x : Lat) (y : Int) : Int := mdF y x.sz
theorem trN_rg {x : Lat} (h : latE x = 0) (y : Int) : mdF y (((allP x).length : Nat) : Int) = trN x y ∧ 0 ≤ trN x y ∧ trN x y < x.sz := by
 have hz := sz_rg h
 refine ⟨by unfold trN; rw [allP_len, show ((x.sz.toNat : Nat) : Int) = x.sz by omega], mdF_rg (by omega) y⟩
theorem plN {x : Lat} (h : latE x = 0) (y : Int) : plAt (allP x) (mdF y (((allP x).length : Nat) : Int)).toNat = posAt x (trN x y) := by
 obtain ⟨n1, n2⟩ := trN_rg h y
 rw [n1, plAt_all (by omega), show (((trN x y).toNat : Nat) : Int) = trN x y by omega]
theorem put_t (h : FHit) (a b : Int) : put (hitCv h) 3 [.v (.int .i64 a), .v (.int .i64 b)] = hitCv ⟨h.p, ⟨a, b⟩, h.c⟩ := rfl
theorem put_x (h : FHit) (a : Int) : put (hitCv h) 0 [.v (.int .i64 a)] = hitCv ⟨⟨a, h.p.y, h.p.z⟩, h.t, h.c⟩ := rfl
def casH (t : List Knot) (p : P3) (y e : Int) (h : FHit) : FHit := ⟨h.p, ⟨max 0 (y + dly p h.p - mdF h.t.lo 3), y + dly p h.p + mdF h.t.lo 3⟩, lgtR t (dsF p h) e⟩
theorem cas_ok {t : List Knot} {p : P3} {y e : Int} {l : List FHit} (ht : tabE t = 0) (hp : p.bd 15000) (hy : 0 ≤ y ∧ y ≤ 100000) (he : 0 ≤ e ∧ e ≤ 10000) (hl : okH l) : okH (l.map (casH t p y e)) := by
 refine ⟨by rw [List.length_map]; exact hl.1, by rw [List.length_map]; exact hl.2.1, fun x hx => ?_⟩
 obtain ⟨h, hh, rfl⟩ := List.mem_map.1 hx
 have d := dly_rg hp ((hit_ok (hl.2.2 h hh)).1.mono (B := 15000) (by decide))
 have m := mdF_3 h.t.lo
 have r := lgtR_rg (x := dsF p h) ht (show 0 ≤ e ∧ e ≤ 50000 by omega)
 exact err_c (c := lgtR t (dsF p h) e) (err_t (c := ⟨max 0 (y + dly p h.p - mdF h.t.lo 3), y + dly p h.p + mdF h.t.lo 3⟩) (hl.2.2 h hh) (by simp only; omega)) (by omega)
theorem cas_tms {t : List Knot} {p : P3} {y e : Int} {l : List FHit} (hp : p.bd 15000) (hy : 0 ≤ y ∧ y ≤ 100000) (hl : okH l) : (tms (l.map (casH t p y e)) p).lo ≤ y ∧ y ≤ (tms (l.map (casH t p y e)) p).hi := by
 unfold tms
 rw [comm_iff (by rw [sts_len, List.length_map]; exact hl.1)]
 intro g hg
 obtain ⟨a, ha, rfl⟩ := List.mem_map.1 hg
 obtain ⟨h, hh, rfl⟩ := List.mem_map.1 ha
 have d := dly_rg hp ((hit_ok (hl.2.2 h hh)).1.mono (B := 15000) (by decide))
 have m := mdF_3 h.t.lo
 unfold stR casH
 simp only
 omega
theorem cas_fits {t : List Knot} {p : P3} {y e : Int} {l : List FHit} (ht : tabE t = 0) (hp : p.bd 15000) (he : 0 ≤ e ∧ e ≤ 10000) (hl : okH l) : fitsB t (l.map (casH t p y e)) p e = true := by
 unfold fitsB
 rw [List.all_map, List.all_eq_true]
 intro h hh
 obtain ⟨b1, _, b3⟩ := hit_ok (hl.2.2 h hh)
 obtain ⟨l1, l2⟩ := lgt_in (e := e) ht (dsF_rg hp (b1.mono (B := 15000) (by decide))) (by omega)
 have r := lgtR_rg (x := dsF p h) ht (show 0 ≤ e ∧ e ≤ 50000 by omega)
 show fitB t p e (casH t p y e h) = true
 unfold fitB
 rw [show dsF p (casH t p y e h) = dsF p h from rfl, l1, l2]
 unfold casH
 simp only [Bool.and_eq_true, decide_eq_true_eq]
 refine ⟨trivial, ?_, ?_⟩ <;> omega
theorem cas_law {l : List FHit} {x : Lat} {t : List Knot} {n y e : Int} (hl : okH l) (hx : latE x = 0) (ht : tabE t = 0) (hn : 0 ≤ n ∧ n < x.sz) (hq : posE (posAt x n) = 0) (hy : 0 ≤ y ∧ y ≤ 100000) (he : 0 ≤ e ∧ e ≤ 10000) :
  okH (l.map (casH t (posAt x n) y e)) ∧ bothE (l.map (casH t (posAt x n) y e)) x = 0 ∧ n ∈ vtxR (l.map (casH t (posAt x n) y e)) x ∧
  (tmsE (l.map (casH t (posAt x n) y e)) (posAt x n) = 0 ∧ inB y (tmsV (l.map (casH t (posAt x n) y e)) (posAt x n)).lo (tmsV (l.map (casH t (posAt x n) y e)) (posAt x n)).hi = true) ∧
  (engE t (l.map (casH t (posAt x n) y e)) (posAt x n) = 0 ∧ inB e (engV t (l.map (casH t (posAt x n) y e)) (posAt x n)).lo (engV t (l.map (casH t (posAt x n) y e)) (posAt x n)).hi = true) ∧
  dblB (l.map (casH t (posAt x n) y e)) x = false ∧ pairE (l.map (casH t (posAt x n) y e)) x = 0 ∧
  cpE (l.map (casH t (posAt x n) y e)) x (prO (l.map (casH t (posAt x n) y e)) x).a (prO (l.map (casH t (posAt x n) y e)) x).b (prO (l.map (casH t (posAt x n) y e)) x).s (prO (l.map (casH t (posAt x n) y e)) x).t = 0 ∧
  1 ≤ cpV (l.map (casH t (posAt x n) y e)) x (prO (l.map (casH t (posAt x n) y e)) x).a (prO (l.map (casH t (posAt x n) y e)) x).b (prO (l.map (casH t (posAt x n) y e)) x).s (prO (l.map (casH t (posAt x n) y e)) x).t := by
 have hp := posAt_bd hx hn.1 hn.2
 have ok := cas_ok (l := l) ht hp hy he hl
 have tm := cas_tms (t := t) (e := e) hp hy hl
 have fi := (fits_iff ht ok hp (show 0 ≤ e ∧ e ≤ 100000 by omega)).1 (cas_fits ht hp he hl)
 generalize hL : l.map (casH t (posAt x n) y e) = L at *
 have hb : bothE L x = 0 := by unfold bothE; rw [okH_iff.2 ok, hx]; rfl
 have te : tmsE L (posAt x n) = 0 := by
  rw [show tmsE L (posAt x n) = _ from if_pos (by rw [okH_iff.2 ok, hq]; rfl), decide_eq_true (by omega)]; rfl
 have tv : tmsV L (posAt x n) = tms L (posAt x n) := if_pos te
 have e0 : engE0 t L (posAt x n) = 0 := by unfold engE0; rw [ht, okH_iff.2 ok, hq]; rfl
 have ee : engE t L (posAt x n) = 0 := by
  rw [show engE t L (posAt x n) = _ from if_pos e0, decide_eq_true (by omega)]; rfl
 have ev : engV t L (posAt x n) = engR t L (posAt x n) := if_pos ee
 have hm : n ∈ vtxR L x := mem_vtxR.2 ⟨n.toNat, by omega, by omega, by rw [show ((n.toNat : Nat) : Int) = n by omega]; omega⟩
 have hz := sz_rg hx
 have hk : n.toNat < x.sz.toNat := by omega
 have er : rlAt (allS L x) n.toNat = sts L (posAt x n) := by rw [rlAt_all hk, show ((n.toNat : Nat) : Int) = n by omega]
 have h0 : 0 < (sts L (posAt x n)).length := by rw [sts_len]; exact ok.1
 have hlos : losP (rlAt (allS L x) n.toNat) (comm (sts L (posAt x n))).lo := by
  rw [er]
  obtain ⟨i, h1, h2⟩ := comm_lo h0
  exact ⟨i, h1, h2.symm⟩
 have hall := (comm_iff (e := (comm (sts L (posAt x n))).lo) h0).1 ⟨Int.le_refl _, by unfold tms at tm; omega⟩
 have ho : okT (rlAt (allS L x) n.toNat) (rlAt (allS L x) n.toNat) (comm (sts L (posAt x n))).lo (comm (sts L (posAt x n))).lo := by
  rw [er]
  intro i hi
  have := hall (rgAt (sts L (posAt x n)) i) (by rw [show rgAt (sts L (posAt x n)) i = (sts L (posAt x n))[i] by simp [rgAt, List.getD, hi]]; exact List.getElem_mem hi)
  exact Or.inl (hasB_iff.2 this)
 obtain ⟨w1, ⟨w2, w3, w4⟩, w5, _⟩ := two_law hb (Nat.le_refl n.toNat) hk hlos hlos ho
 refine ⟨ok, hb, hm, ⟨te, by rw [tv]; exact inB_true.2 tm⟩, ⟨ee, by rw [ev]; exact inB_true.2 fi⟩, ?_, w1, w2, w3⟩
 rw [w5]
 refine decide_eq_false fun c => ?_
 rw [List.length_eq_zero_iff.1 c] at hm
 cases hm
def mvH (d : Int) (h : FHit) : FHit := ⟨⟨h.p.x + d, h.p.y, h.p.z⟩, h.t, h.c⟩
def mvX (x : Lat) (d : Int) : Lat := ⟨⟨x.o.x + d, x.o.y, x.o.z⟩, x.st, x.n⟩
theorem mv_pos (x : Lat) (d k : Int) : posAt (mvX x d) k = ⟨(posAt x k).x + d, (posAt x k).y, (posAt x k).z⟩ := by
 unfold posAt mvX
 simp only
 congr 1
 omega
theorem mv_dly (p q : P3) (d : Int) : dly ⟨p.x + d, p.y, p.z⟩ ⟨q.x + d, q.y, q.z⟩ = dly p q := by
 unfold dly sqD
 simp only
 rw [show p.x + d - (q.x + d) = p.x - q.x by omega]
theorem mv_vtx (l : List FHit) (x : Lat) (d : Int) : vtxR (l.map (mvH d)) (mvX x d) = vtxR l x := by
 unfold vtxR
 congr 1
 unfold allS allP
 rw [List.map_map, List.map_map]
 refine List.map_congr_left fun k _ => ?_
 show sts (l.map (mvH d)) (posAt (mvX x d) k) = sts l (posAt x k)
 rw [mv_pos]
 unfold sts
 rw [List.map_map]
 refine List.map_congr_left fun h _ => ?_
 show stR _ (mvH d h) = stR (posAt x k) h
 unfold stR mvH
 simp only
 rw [mv_dly]
def szW (n : Int) : Int := max n (IntKind.i64.wrap (0 - n))
theorem err_rgH {h : FHit} (e : h.err = 0) : rgH h := by
 obtain ⟨⟨⟨a1, a2⟩, ⟨b1, b2⟩, c1, c2⟩, ⟨d1, d2, d3⟩, e1, e2, e3⟩ := hit_ok e
 unfold rgH inI
 omega
theorem okH_rgH {l : List FHit} (h : okH l) : ∀ k, k < l.length → rgH (hitAt l k) := fun k hk => err_rgH (h.2.2 _ (by rw [show hitAt l k = l[k] by simp [hitAt, List.getD, hk]]; exact List.getElem_mem hk))
end Go.Proofs.YtdkpgodakmailaaGreatDoor