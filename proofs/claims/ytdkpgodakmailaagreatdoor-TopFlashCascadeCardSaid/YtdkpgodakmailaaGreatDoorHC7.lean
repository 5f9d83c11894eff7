/- Texts of this claim, together. -/
import Derived.Test.YtdkpgodakmailaaGreatDoorHC6

set_option linter.unusedVariables false
set_option linter.unusedSimpArgs false
namespace Go.Proofs.YtdkpgodakmailaaGreatDoor
open Go.RowKit Ev
def mk_flash_open_0 (l : List FHit) (g0 g1 g2 g3 g4 : Int) (v0_0 : List (List CV)) (v0_1 : List (List CV)) (v0_2 : Int) : DS := ⟨[some (.t (.c (.sl 7 l.length (hitsC l)))), none, none, some (.t (.c (.p 3 0))), some (.t (.c (.p 4 0))), none, none, some (.t (.c (.p 7 0))), none, none, none, none, none, none, none, none, none, none, none, none, none, none, none, some (.t (.c (.v (.int .i64 (((⟨⟨g0, g1, g2⟩, g3, g4⟩ : Lat)).sz))))), some (.t (.c (.v (.int .i64 v0_2)))), none, none, none, none, none, none, none, none, none, none, none, none, none, none], [some (.gen 166 1 v0_0), some (.gen 166 1 v0_1), none, some (.box 77 [.v (.int .i64 g0), .v (.int .i64 g1), .v (.int .i64 g2), .v (.int .i64 g3), .v (.int .i64 g4)]), some (.box 161 [.v (.slice none 0 0), .v (.int .i64 0), .v (.int .i64 0), .v (.int .i64 0), .v (.int .i64 0), .v (.int .i64 0), .os 0]), none, none, some (.box 161 [.sl 7 l.length (hitsC l), .v (.int .i64 g0), .v (.int .i64 g1), .v (.int .i64 g2), .v (.int .i64 g3), .v (.int .i64 g4), .os 1]), none, none, none, none, none, none, none, none, none, none, none, none, none, none, none, none, none, none, none, none, none, none, none, none, none, none, none, none, none, none, none]⟩
def vc_flash_open (J : Inv) (l : List FHit) (g0 g1 g2 g3 g4 : Int) (post : DV → Prop) : Prop := (numsP 7 l.length (hitsC l)) ∧ ((numsP 1 2 (genC [[.v (.int .i64 (hitsE (listC l.length mkHit (hitsC l))))], [.v (.int .i64 (latE (⟨⟨g0, g1, g2⟩, g3, g4⟩ : Lat)))]]) ∧ (([(hitsE (listC l.length mkHit (hitsC l))), (latE (⟨⟨g0, g1, g2⟩, g3, g4⟩ : Lat))] : List Int)).length ≤ 100) ∧ (cond ((firstNZ ([(hitsE (listC l.length mkHit (hitsC l))), (latE (⟨⟨g0, g1, g2⟩, g3, g4⟩ : Lat))] : List Int)) != (0 : Int)) (post (.tu [.a [.v (.slice none 0 0), .v (.int .i64 0), .v (.int .i64 0), .v (.int .i64 0), .v (.int .i64 0), .v (.int .i64 0), .v (.slice none 0 0)], .c (.v (.int .i64 (firstNZ ([(hitsE (listC l.length mkHit (hitsC l))), (latE (⟨⟨g0, g1, g2⟩, g3, g4⟩ : Lat))] : List Int))))])) ((latE (⟨⟨g0, g1, g2⟩, g3, g4⟩ : Lat) = 0) ∧ (∃ n, J 0 (n :: []) (mk_flash_open_0 l g0 g1 g2 g3 g4 ([]) ([]) 0)))))
def ann_flash_open : Ann := ⟨fun r => lookA r [(1, ([[], [0], [], [0, 1, 2], [0, 1, 2, 3], [0, 1, 2, 3, 4], [0, 1, 2, 3, 4, 5]], [[10, 12, 13, 14], [12, 13, 14], [10, 12, 13, 14], [13, 14], [14], [], []])), (8, ([[], [0], [], [], [], [3, 4], [2, 3, 4, 5], [2, 3, 4, 5, 6], [0, 1, 2, 3, 4, 5, 6, 7], [0, 1, 2, 3, 4, 5, 6, 7, 8], [0, 1, 2, 3, 4, 5, 6, 7, 8, 9]], [[32, 33, 34], [32, 33, 34], [32, 33, 34], [32, 33, 34], [32, 33, 34], [33, 34], [34], [], [], [], []]))], fun b => lookA b [(0, (none, some ⟨[0, 3, 4, 7, 23, 24], [3, 4, 7], []⟩))], fun b => (lookA b [(0, [(4, 6, 0, .gen 166 1 []), (7, 6, 1, .gen 166 1 [])])]).getD [], noIt, false, fun _ => none, fun _ => none⟩
theorem ev_flash_open (J : Inv) (l : List FHit) (g0 g1 g2 g3 g4 : Int) (post : DV → Prop) : evFn Tryz.prog tab S24 ann_flash_open J Tryz.f100 [.t (.c (.sl 7 l.length (hitsC l))), .t (.a [.v (.int .i64 g0), .v (.int .i64 g1), .v (.int .i64 g2), .v (.int .i64 g3), .v (.int .i64 g4)])] post = vc_flash_open J l g0 g1 g2 g3 g4 post := by kernel_rfl
theorem fit_flash_open : okFn ann_flash_open Tryz.f100 = true := by kernel_rfl
def rd_flash_open_0 (J : Inv) (l : List FHit) (g0 g1 g2 g3 g4 : Int) (v0_0 : List (List CV)) (v0_1 : List (List CV)) (v0_2 : Int) (nn0 : Nat) (post : DV → Prop) : Prop := cond (decide (v0_2 < (((⟨⟨g0, g1, g2⟩, g3, g4⟩ : Lat)).sz))) ((latE (⟨⟨g0, g1, g2⟩, g3, g4⟩ : Lat) = 0 ∧ 0 ≤ v0_2 ∧ v0_2 < ((⟨⟨g0, g1, g2⟩, g3, g4⟩ : Lat)).sz) ∧ ((numsP 7 l.length (hitsC l) ∧ hitsE (listC l.length mkHit (hitsC l)) = 0 ∧ ((posAt (⟨⟨g0, g1, g2⟩, g3, g4⟩ : Lat) v0_2)).bd 15000) ∧ ((roomP 24 (v0_1.length + ([[.sl 2 ((sts (listC l.length mkHit (hitsC l)) (posAt (⟨⟨g0, g1, g2⟩, g3, g4⟩ : Lat) v0_2)).length) (rgsC (sts (listC l.length mkHit (hitsC l)) (posAt (⟨⟨g0, g1, g2⟩, g3, g4⟩ : Lat) v0_2)))]] : List (List CV)).length)) ∧ (lt (IntKind.i64.wrap (v0_2 + (1 : Int))) fun x1 => J 0 (nn0 :: []) (mk_flash_open_0 l g0 g1 g2 g3 g4 v0_0 (v0_1 ++ ([[.sl 2 ((sts (listC l.length mkHit (hitsC l)) (posAt (⟨⟨g0, g1, g2⟩, g3, g4⟩ : Lat) v0_2)).length) (rgsC (sts (listC l.length mkHit (hitsC l)) (posAt (⟨⟨g0, g1, g2⟩, g3, g4⟩ : Lat) v0_2)))]] : List (List CV))) x1))))) (post (.tu [.a [.sl 7 l.length (hitsC l), .v (.int .i64 g0), .v (.int .i64 g1), .v (.int .i64 g2), .v (.int .i64 g3), .v (.int .i64 g4), .sl 1 v0_1.length (genC v0_1)], .c (.v (.int .i64 0))]))
theorem er_flash_open_0 (J : Inv) (l : List FHit) (g0 g1 g2 g3 g4 : Int) (v0_0 : List (List CV)) (v0_1 : List (List CV)) (v0_2 : Int) (nn0 : Nat) (post : DV → Prop) : round Tryz.prog tab S24 ann_flash_open J Tryz.f100 post 0 (nn0 :: []) (mk_flash_open_0 l g0 g1 g2 g3 g4 v0_0 v0_1 v0_2) = rd_flash_open_0 J l g0 g1 g2 g3 g4 v0_0 v0_1 v0_2 nn0 post := by kernel_rfl
theorem lp_flash_open (J : Inv) (post : DV → Prop) : AllG J (loopsFn Tryz.prog tab S24 ann_flash_open J Tryz.f100 post) = (((∀ F s, ¬ J 0 (0 :: F) s) ∧ ∀ n F s, J 0 ((n + 1) :: F) s → round Tryz.prog tab S24 ann_flash_open J Tryz.f100 post 0 (n :: F) s) ∧ True) := by kernel_rfl
def J_flash_open (l : List FHit) (g0 g1 g2 g3 g4 : Int) : Inv := fun b F s => match b, F with
 | 0, [nn0] => ∃ (v0_0 : List (List CV)) (v0_1 : List (List CV)) (v0_2 : Int), s = mk_flash_open_0 l g0 g1 g2 g3 g4 v0_0 v0_1 v0_2 ∧ (bothE l (⟨⟨g0, g1, g2⟩, g3, g4⟩ : Lat) = 0 ∧ 0 ≤ v0_2 ∧ v0_2 ≤ (⟨⟨g0, g1, g2⟩, g3, g4⟩ : Lat).sz ∧ (nn0 : Int) + v0_2 = (⟨⟨g0, g1, g2⟩, g3, g4⟩ : Lat).sz + 1 ∧ v0_1 = ((List.range v0_2.toNat).map fun k : Nat => sts l (posAt (⟨⟨g0, g1, g2⟩, g3, g4⟩ : Lat) k)).map rlCv)
 | _, _ => False
set_option maxHeartbeats 8000000 in
set_option maxRecDepth 100000 in
theorem rnd_flash_open_0 (l : List FHit) (g0 g1 g2 g3 g4 : Int) (v0_0 : List (List CV)) (v0_1 : List (List CV)) (v0_2 : Int) (nn0 : Nat) (hi : bothE l (⟨⟨g0, g1, g2⟩, g3, g4⟩ : Lat) = 0 ∧ 0 ≤ v0_2 ∧ v0_2 ≤ (⟨⟨g0, g1, g2⟩, g3, g4⟩ : Lat).sz ∧ ((nn0 + 1) : Int) + v0_2 = (⟨⟨g0, g1, g2⟩, g3, g4⟩ : Lat).sz + 1 ∧ v0_1 = ((List.range v0_2.toNat).map fun k : Nat => sts l (posAt (⟨⟨g0, g1, g2⟩, g3, g4⟩ : Lat) k)).map rlCv) : rd_flash_open_0 (J_flash_open l g0 g1 g2 g3 g4) l g0 g1 g2 g3 g4 v0_0 v0_1 v0_2 nn0 (fun r => LeD r (.tu [.a [.sl 7 ((opnH l (⟨⟨g0, g1, g2⟩, g3, g4⟩ : Lat)).length) (hitsC (opnH l (⟨⟨g0, g1, g2⟩, g3, g4⟩ : Lat))), .v (.int .i64 ((opnX l (⟨⟨g0, g1, g2⟩, g3, g4⟩ : Lat)).o.x)), .v (.int .i64 ((opnX l (⟨⟨g0, g1, g2⟩, g3, g4⟩ : Lat)).o.y)), .v (.int .i64 ((opnX l (⟨⟨g0, g1, g2⟩, g3, g4⟩ : Lat)).o.z)), .v (.int .i64 ((opnX l (⟨⟨g0, g1, g2⟩, g3, g4⟩ : Lat)).st)), .v (.int .i64 ((opnX l (⟨⟨g0, g1, g2⟩, g3, g4⟩ : Lat)).n)), .sl 1 ((opnS l (⟨⟨g0, g1, g2⟩, g3, g4⟩ : Lat)).length) (rlsC (opnS l (⟨⟨g0, g1, g2⟩, g3, g4⟩ : Lat)))], .c (.v (.int .i64 (bothE l (⟨⟨g0, g1, g2⟩, g3, g4⟩ : Lat))))])) := by
 obtain ⟨q, i1, i2, i3, i4⟩ := hi
 obtain ⟨k, rfl⟩ : ∃ k : Nat, v0_2 = k := ⟨v0_2.toNat, by omega⟩
 have hk : (k : Int).toNat = k := rfl
 rw [hk] at i4
 have hl := (fn2 q).2
 have hz := sz_rg hl
 unfold rd_flash_open_0
 rw [hits_listC]
 refine cond_i (fun h => ?_) (fun h => ?_)
 ·have h := of_decide_eq_true h
  refine ⟨⟨hl, i1, h⟩, ⟨numsP_hits l, (fn2 q).1, posAt_bd hl i1 h⟩, ?_, lt_i fun x hx => ?_⟩
  ·rw [i4]; unfold roomP maxLen; simp; omega
  ·rw [wi (by omega)] at hx
   subst hx
   refine ⟨_, _, _, rfl, q, by omega, by omega, by omega, ?_⟩
   rw [show ((k : Int) + 1).toNat = k + 1 by omega, i4, List.range_succ, List.map_append, List.map_append]; rfl
 ·have h := of_decide_eq_false h
  have e : k = (⟨⟨g0, g1, g2⟩, g3, g4⟩ : Lat).sz.toNat := by omega
  rw [show opnH l (⟨⟨g0, g1, g2⟩, g3, g4⟩ : Lat) = l from if_pos q, show opnX l (⟨⟨g0, g1, g2⟩, g3, g4⟩ : Lat) = (⟨⟨g0, g1, g2⟩, g3, g4⟩ : Lat) from if_pos q, q]
  have e2 : opnS l (⟨⟨g0, g1, g2⟩, g3, g4⟩ : Lat) = (List.range k).map fun k : Nat => sts l (posAt (⟨⟨g0, g1, g2⟩, g3, g4⟩ : Lat) k) := by rw [show opnS l (⟨⟨g0, g1, g2⟩, g3, g4⟩ : Lat) = (allP (⟨⟨g0, g1, g2⟩, g3, g4⟩ : Lat)).map (sts l) from if_pos q, e, allP, List.map_map]; rfl
  rw [e2, i4]
  exact le_tu (leT_a (LeCs.cons (LeC1.refl _) (LeCs.cons (LeC1.refl _) (LeCs.cons (LeC1.refl _) (LeCs.cons (LeC1.refl _) (LeCs.cons (LeC1.refl _) (LeCs.cons (LeC1.refl _) (LeCs.cons (leC_rls _) LeCs.nil)))))))) (LeD.refl _)
theorem zero_flash_open_0 (l : List FHit) (g0 g1 g2 g3 g4 : Int) (v0_0 : List (List CV)) (v0_1 : List (List CV)) (v0_2 : Int)  (hi : bothE l (⟨⟨g0, g1, g2⟩, g3, g4⟩ : Lat) = 0 ∧ 0 ≤ v0_2 ∧ v0_2 ≤ (⟨⟨g0, g1, g2⟩, g3, g4⟩ : Lat).sz ∧ (0 : Int) + v0_2 = (⟨⟨g0, g1, g2⟩, g3, g4⟩ : Lat).sz + 1 ∧ v0_1 = ((List.range v0_2.toNat).map fun k : Nat => sts l (posAt (⟨⟨g0, g1, g2⟩, g3, g4⟩ : Lat) k)).map rlCv) : False := by
 omega
set_option maxHeartbeats 8000000 in
set_option maxRecDepth 100000 in
theorem spec_flash_open (l : List FHit) (g0 g1 g2 g3 g4 : Int) : vc_flash_open (J_flash_open l g0 g1 g2 g3 g4) l g0 g1 g2 g3 g4 (fun r => LeD r (.tu [.a [.sl 7 ((opnH l (⟨⟨g0, g1, g2⟩, g3, g4⟩ : Lat)).length) (hitsC (opnH l (⟨⟨g0, g1, g2⟩, g3, g4⟩ : Lat))), .v (.int .i64 ((opnX l (⟨⟨g0, g1, g2⟩, g3, g4⟩ : Lat)).o.x)), .v (.int .i64 ((opnX l (⟨⟨g0, g1, g2⟩, g3, g4⟩ : Lat)).o.y)), .v (.int .i64 ((opnX l (⟨⟨g0, g1, g2⟩, g3, g4⟩ : Lat)).o.z)), .v (.int .i64 ((opnX l (⟨⟨g0, g1, g2⟩, g3, g4⟩ : Lat)).st)), .v (.int .i64 ((opnX l (⟨⟨g0, g1, g2⟩, g3, g4⟩ : Lat)).n)), .sl 1 ((opnS l (⟨⟨g0, g1, g2⟩, g3, g4⟩ : Lat)).length) (rlsC (opnS l (⟨⟨g0, g1, g2⟩, g3, g4⟩ : Lat)))], .c (.v (.int .i64 (bothE l (⟨⟨g0, g1, g2⟩, g3, g4⟩ : Lat))))])) := by
 unfold vc_flash_open
 rw [hits_listC]
 refine ⟨numsP_hits l, ⟨numsP_gen [_, _], Nat.le_of_ble_eq_true rfl⟩, cond_i (fun h => ?_) (fun h => ?_)⟩
 ·have h : bothE l (⟨⟨g0, g1, g2⟩, g3, g4⟩ : Lat) ≠ 0 := by unfold bothE; simpa using h
  rw [show opnH l (⟨⟨g0, g1, g2⟩, g3, g4⟩ : Lat) = [] from if_neg h, show opnX l (⟨⟨g0, g1, g2⟩, g3, g4⟩ : Lat) = Lat.zero from if_neg h, show opnS l (⟨⟨g0, g1, g2⟩, g3, g4⟩ : Lat) = [] from if_neg h]
  exact le_tu (leT_a (LeCs.cons leC_nil (LeCs.cons (LeC1.refl _) (LeCs.cons (LeC1.refl _) (LeCs.cons (LeC1.refl _) (LeCs.cons (LeC1.refl _) (LeCs.cons (LeC1.refl _) (LeCs.cons leC_nil LeCs.nil)))))))) (LeD.refl _)
 ·have h : bothE l (⟨⟨g0, g1, g2⟩, g3, g4⟩ : Lat) = 0 := by unfold bothE; simpa using h
  have hz := sz_rg (fn2 h).2
  exact ⟨(fn2 h).2, (⟨⟨g0, g1, g2⟩, g3, g4⟩ : Lat).sz.toNat + 1, [], [], 0, rfl, h, by omega, by omega, by omega, rfl⟩
theorem all_flash_open (l : List FHit) (g0 g1 g2 g3 g4 : Int) : AllG (J_flash_open l g0 g1 g2 g3 g4) (loopsFn Tryz.prog tab S24 ann_flash_open (J_flash_open l g0 g1 g2 g3 g4) Tryz.f100 (fun r => LeD r (.tu [.a [.sl 7 ((opnH l (⟨⟨g0, g1, g2⟩, g3, g4⟩ : Lat)).length) (hitsC (opnH l (⟨⟨g0, g1, g2⟩, g3, g4⟩ : Lat))), .v (.int .i64 ((opnX l (⟨⟨g0, g1, g2⟩, g3, g4⟩ : Lat)).o.x)), .v (.int .i64 ((opnX l (⟨⟨g0, g1, g2⟩, g3, g4⟩ : Lat)).o.y)), .v (.int .i64 ((opnX l (⟨⟨g0, g1, g2⟩, g3, g4⟩ : Lat)).o.z)), .v (.int .i64 ((opnX l (⟨⟨g0, g1, g2⟩, g3, g4⟩ : Lat)).st)), .v (.int .i64 ((opnX l (⟨⟨g0, g1, g2⟩, g3, g4⟩ : Lat)).n)), .sl 1 ((opnS l (⟨⟨g0, g1, g2⟩, g3, g4⟩ : Lat)).length) (rlsC (opnS l (⟨⟨g0, g1, g2⟩, g3, g4⟩ : Lat)))], .c (.v (.int .i64 (bothE l (⟨⟨g0, g1, g2⟩, g3, g4⟩ : Lat))))]))) := by
 rw [lp_flash_open]
 refine ⟨⟨?_, ?_⟩, trivial⟩
 ·intro F s h
  obtain _ | ⟨g, F⟩ := F
  case cons => exact h.elim
  obtain ⟨w0, w1, w2, rfl, hi⟩ := h
  exact zero_flash_open_0 l g0 g1 g2 g3 g4 w0 w1 w2 hi
 ·intro n F s h
  obtain _ | ⟨g, F⟩ := F
  case cons => exact h.elim
  obtain ⟨w0, w1, w2, rfl, hi⟩ := h
  rw [er_flash_open_0]
  exact rnd_flash_open_0 l g0 g1 g2 g3 g4 _ _ _ _ hi
def con_flash_open : Con := fun args => match args with
 | [.t (.c (.sl 7 n_l c_l)), .t (.a [.v (.int .i64 g0), .v (.int .i64 g1), .v (.int .i64 g2), .v (.int .i64 g3), .v (.int .i64 g4)])] => some (.tu [.a [.sl 7 ((opnH (listC n_l mkHit c_l) (⟨⟨g0, g1, g2⟩, g3, g4⟩ : Lat)).length) (hitsC (opnH (listC n_l mkHit c_l) (⟨⟨g0, g1, g2⟩, g3, g4⟩ : Lat))), .v (.int .i64 ((opnX (listC n_l mkHit c_l) (⟨⟨g0, g1, g2⟩, g3, g4⟩ : Lat)).o.x)), .v (.int .i64 ((opnX (listC n_l mkHit c_l) (⟨⟨g0, g1, g2⟩, g3, g4⟩ : Lat)).o.y)), .v (.int .i64 ((opnX (listC n_l mkHit c_l) (⟨⟨g0, g1, g2⟩, g3, g4⟩ : Lat)).o.z)), .v (.int .i64 ((opnX (listC n_l mkHit c_l) (⟨⟨g0, g1, g2⟩, g3, g4⟩ : Lat)).st)), .v (.int .i64 ((opnX (listC n_l mkHit c_l) (⟨⟨g0, g1, g2⟩, g3, g4⟩ : Lat)).n)), .sl 1 ((opnS (listC n_l mkHit c_l) (⟨⟨g0, g1, g2⟩, g3, g4⟩ : Lat)).length) (rlsC (opnS (listC n_l mkHit c_l) (⟨⟨g0, g1, g2⟩, g3, g4⟩ : Lat)))], .c (.v (.int .i64 (bothE (listC n_l mkHit c_l) (⟨⟨g0, g1, g2⟩, g3, g4⟩ : Lat))))], some (numsP 7 n_l c_l), false)
 | _ => none
theorem ok_flash_open : Ok Tryz.prog 100 con_flash_open := by
 refine Ok.fn (ann := ann_flash_open) mixed tabOK VS24 ValidIt.no (fn := Tryz.f100) (by kernel_rfl) (by kernel_rfl) fit_flash_open fun args r pre fresh h hp => ?_
 unfold con_flash_open at h
 split at h
 ·rename_i n_l c_l g0 g1 g2 g3 g4
  cases h
  have hp0 := hp
  refine ⟨rfl, J_flash_open (listC n_l mkHit c_l) g0 g1 g2 g3 g4, [.t (.c (.sl 7 ((listC n_l mkHit c_l).length) (hitsC (listC n_l mkHit c_l)))), .t (.a [.v (.int .i64 g0), .v (.int .i64 g1), .v (.int .i64 g2), .v (.int .i64 g3), .v (.int .i64 g4)])], ?_, Nat.le_of_ble_eq_true (by kernel_rfl), ?_, ?_⟩
  ·exact (LeA_cons (leT_c ((leL_FHit hp0))) (LeA_cons (LeD.refl _) LeA_nil))
  ·rw [ev_flash_open]; exact spec_flash_open (listC n_l mkHit c_l) g0 g1 g2 g3 g4
  ·exact all_flash_open (listC n_l mkHit c_l) g0 g1 g2 g3 g4
 ·cases h
def S25 : Sum := addS S24 100 con_flash_open
theorem VS25 : Valid Tryz.prog S25 := Valid.add VS24 ok_flash_open
def vc_flash_has (r0 r1 : Int) (a : Int) (post : DV → Prop) : Prop := post (.t (.c (.v (.bool (inB a r0 r1)))))
def ann_flash_has : Ann := ⟨fun _ => none, fun _ => none, fun _ => [], noIt, false, fun _ => none, fun _ => none⟩
theorem ev_flash_has (J : Inv) (r0 r1 : Int) (a : Int) (post : DV → Prop) : evFn Tryz.prog tab S25 ann_flash_has J Tryz.f112 [.t (.a [.v (.int .i64 r0), .v (.int .i64 r1)]), .t (.c (.v (.int .i64 a)))] post = vc_flash_has r0 r1 a post := by kernel_rfl
theorem fit_flash_has : okFn ann_flash_has Tryz.f112 = true := by kernel_rfl
theorem lp_flash_has (J : Inv) (post : DV → Prop) : AllG J (loopsFn Tryz.prog tab S25 ann_flash_has J Tryz.f112 post) = (True) := by kernel_rfl
theorem spec_flash_has (r0 r1 : Int) (a : Int) : vc_flash_has r0 r1 a (fun r => LeD r (.t (.c (.v (.bool (inB a r0 r1)))))) := by
 exact LeD.refl _
def con_flash_has : Con := fun args => match args with
 | [.t (.a [.v (.int .i64 r0), .v (.int .i64 r1)]), .t (.c (.v (.int .i64 a)))] => some (.t (.c (.v (.bool (inB a r0 r1)))), none, false)
 | _ => none
theorem ok_flash_has : Ok Tryz.prog 112 con_flash_has := by
 refine Ok.fn (ann := ann_flash_has) mixed tabOK VS25 ValidIt.no (fn := Tryz.f112) (by kernel_rfl) (by kernel_rfl) fit_flash_has fun args r pre fresh h hp => ?_
 unfold con_flash_has at h
 split at h
 ·rename_i r0 r1 a
  cases h
  refine ⟨rfl, fun _ _ _ => False, _, LeA.refl _, Nat.le_of_ble_eq_true (by kernel_rfl), ?_, ?_⟩
  ·rw [ev_flash_has]; exact spec_flash_has r0 r1 a
  ·rw [lp_flash_has]; trivial
 ·cases h
def S26 : Sum := addS S25 112 con_flash_has
theorem VS26 : Valid Tryz.prog S26 := Valid.add VS25 ok_flash_has
def vc_flash_CheckPair_1 (a : Int) (post : DV → Prop) : Prop := (0 ≤ (2000000000 : Int) ∧ (2000000000 : Int) ≤ 1000000000000) ∧ (post (.t (.c (.v (.bool (inB a (-(2000000000 : Int)) (2000000000 : Int)))))))
def ann_flash_CheckPair_1 : Ann := ⟨fun _ => none, fun _ => none, fun _ => [], noIt, false, fun _ => none, fun _ => none⟩
theorem ev_flash_CheckPair_1 (J : Inv) (a : Int) (post : DV → Prop) : evFn Tryz.prog tab S26 ann_flash_CheckPair_1 J Tryz.f108 [.t (.c (.v (.int .i64 a)))] post = vc_flash_CheckPair_1 a post := by kernel_rfl
theorem fit_flash_CheckPair_1 : okFn ann_flash_CheckPair_1 Tryz.f108 = true := by kernel_rfl
theorem lp_flash_CheckPair_1 (J : Inv) (post : DV → Prop) : AllG J (loopsFn Tryz.prog tab S26 ann_flash_CheckPair_1 J Tryz.f108 post) = (True) := by kernel_rfl
theorem spec_flash_CheckPair_1 (a : Int) : vc_flash_CheckPair_1 a (fun r => LeD r (.t (.c (.v (.bool (inB a (-2000000000) 2000000000)))))) := by
 exact ⟨by decide, LeD.refl _⟩
def con_flash_CheckPair_1 : Con := fun args => match args with
 | [.t (.c (.v (.int .i64 a)))] => some (.t (.c (.v (.bool (inB a (-2000000000) 2000000000)))), none, false)
 | _ => none
theorem ok_flash_CheckPair_1 : Ok Tryz.prog 108 con_flash_CheckPair_1 := by
 refine Ok.fn (ann := ann_flash_CheckPair_1) mixed tabOK VS26 ValidIt.no (fn := Tryz.f108) (by kernel_rfl) (by kernel_rfl) fit_flash_CheckPair_1 fun args r pre fresh h hp => ?_
 unfold con_flash_CheckPair_1 at h
 split at h
 ·rename_i a
  cases h
  refine ⟨rfl, fun _ _ _ => False, _, LeA.refl _, Nat.le_of_ble_eq_true (by kernel_rfl), ?_, ?_⟩
  ·rw [ev_flash_CheckPair_1]; exact spec_flash_CheckPair_1 a
  ·rw [lp_flash_CheckPair_1]; trivial
 ·cases h
def S27 : Sum := addS S26 108 con_flash_CheckPair_1
theorem VS27 : Valid Tryz.prog S27 := Valid.add VS26 ok_flash_CheckPair_1
def vc_flash_CheckPair_2 (a : Int) (g0 g1 g2 g3 g4 : Int) (post : DV → Prop) : Prop := (latE (⟨⟨g0, g1, g2⟩, g3, g4⟩ : Lat) = 0) ∧ (lt (IntKind.i64.wrap ((((⟨⟨g0, g1, g2⟩, g3, g4⟩ : Lat)).sz) - (1 : Int))) fun x1 => post (.t (.c (.v (.bool (inB a (0 : Int) x1))))))
def ann_flash_CheckPair_2 : Ann := ⟨fun _ => none, fun _ => none, fun _ => [], noIt, false, fun _ => none, fun _ => none⟩
theorem ev_flash_CheckPair_2 (J : Inv) (a : Int) (g0 g1 g2 g3 g4 : Int) (post : DV → Prop) : evFn Tryz.prog tab S27 ann_flash_CheckPair_2 J Tryz.f110 [.t (.c (.v (.int .i64 a))), .t (.c (.px 5 0 (boxC [.v (.int .i64 g0), .v (.int .i64 g1), .v (.int .i64 g2), .v (.int .i64 g3), .v (.int .i64 g4)])))] post = vc_flash_CheckPair_2 a g0 g1 g2 g3 g4 post := by kernel_rfl
theorem fit_flash_CheckPair_2 : okFn ann_flash_CheckPair_2 Tryz.f110 = true := by kernel_rfl
theorem lp_flash_CheckPair_2 (J : Inv) (post : DV → Prop) : AllG J (loopsFn Tryz.prog tab S27 ann_flash_CheckPair_2 J Tryz.f110 post) = (True) := by kernel_rfl
theorem spec_flash_CheckPair_2 (a : Int) (g0 g1 g2 g3 g4 : Int) (hp : latE (⟨⟨g0, g1, g2⟩, g3, g4⟩ : Lat) = 0) : vc_flash_CheckPair_2 a g0 g1 g2 g3 g4 (fun r => LeD r (.t (.c (.v (.bool (inB a 0 (((⟨⟨g0, g1, g2⟩, g3, g4⟩ : Lat)).sz - 1))))))) := by
 unfold vc_flash_CheckPair_2
 refine ⟨hp, lt_i fun x hx => leB ?_⟩
 have hz := sz_rg hp
 rw [wi (by omega)] at hx
 rw [← hx]
def con_flash_CheckPair_2 : Con := fun args => match args with
 | [.t (.c (.v (.int .i64 a))), .t (.c (.px 5 0 c_q))] => some (.t (.c (.v (.bool (inB a 0 (((⟨⟨(cvInt (c_q 0)), (cvInt (c_q 1)), (cvInt (c_q 2))⟩, (cvInt (c_q 3)), (cvInt (c_q 4))⟩ : Lat)).sz - 1))))), some (intsB [0, 1, 2, 3, 4] c_q = true ∧ latE (⟨⟨(cvInt (c_q 0)), (cvInt (c_q 1)), (cvInt (c_q 2))⟩, (cvInt (c_q 3)), (cvInt (c_q 4))⟩ : Lat) = 0), false)
 | _ => none
theorem ok_flash_CheckPair_2 : Ok Tryz.prog 110 con_flash_CheckPair_2 := by
 refine Ok.fn (ann := ann_flash_CheckPair_2) mixed tabOK VS27 ValidIt.no (fn := Tryz.f110) (by kernel_rfl) (by kernel_rfl) fit_flash_CheckPair_2 fun args r pre fresh h hp => ?_
 unfold con_flash_CheckPair_2 at h
 split at h
 ·rename_i a c_q
  cases h
  obtain ⟨hp0, hp⟩ := hp
  refine ⟨rfl, fun _ _ _ => False, [.t (.c (.v (.int .i64 a))), .t (.c (.px 5 0 (boxC [.v (.int .i64 (cvInt (c_q 0))), .v (.int .i64 (cvInt (c_q 1))), .v (.int .i64 (cvInt (c_q 2))), .v (.int .i64 (cvInt (c_q 3))), .v (.int .i64 (cvInt (c_q 4)))])))], ?_, Nat.le_of_ble_eq_true (by kernel_rfl), ?_, ?_⟩
  ·exact (LeA_cons (LeD.refl _) (LeA_cons (leT_c (leC_p (LeCs.cons (leC_i (intsB_get hp0 0 (by decide))) (LeCs.cons (leC_i (intsB_get hp0 1 (by decide))) (LeCs.cons (leC_i (intsB_get hp0 2 (by decide))) (LeCs.cons (leC_i (intsB_get hp0 3 (by decide))) (LeCs.cons (leC_i (intsB_get hp0 4 (by decide))) LeCs.nil))))))) LeA_nil))
  ·rw [ev_flash_CheckPair_2]; exact spec_flash_CheckPair_2 a (cvInt (c_q 0)) (cvInt (c_q 1)) (cvInt (c_q 2)) (cvInt (c_q 3)) (cvInt (c_q 4)) hp
  ·rw [lp_flash_CheckPair_2]; trivial
 ·cases h
def S28 : Sum := addS S27 110 con_flash_CheckPair_2
theorem VS28 : Valid Tryz.prog S28 := Valid.add VS27 ok_flash_CheckPair_2
def mk_flash_CheckPair_0 (l : List FHit) (g0 g1 g2 g3 g4 : Int) (qa : Int) (qb : Int) (qs : Int) (qt : Int) (v0_0 : Int) (v0_1 : Int) (v0_2 : Int) : DS := ⟨[none, none, none, none, none, some (.t (.c (.p 5 0))), none, none, some (.t (.c (.p 8 0))), none, none, none, some (.t (.c (.v (.int .i64 v0_0)))), some (.t (.c (.v (.int .i64 v0_1)))), none, none, none, none, none, none, none, none, none, none, none, none, none, none, none, none, none, none, none, none, none, none, none, none, none, none, none, none, none, none, none, none, none, none, none, none, none, none, none, none, none, none, none, none, none, none, some (.t (.c (.v (.int .i64 ((l.length : Nat) : Int))))), some (.t (.c (.v (.int .i64 v0_2)))), none, none, none, none, none, none, none, none, none, none, none, none, none, none, none, none, none, none, none, none, none, none, none, none, none, none, none, none, none, none, none, none, none, none, none, none, none, none, none, none, none, none, none, none, none, none, none], [none, none, none, none, none, some (.box 107 [.v (.int .i64 qa), .v (.int .i64 qb), .v (.int .i64 qs), .v (.int .i64 qt)]), none, none, some (.box 161 [.sl 7 ((opnH (listC l.length mkHit (hitsC l)) (⟨⟨g0, g1, g2⟩, g3, g4⟩ : Lat)).length) (hitsC (opnH (listC l.length mkHit (hitsC l)) (⟨⟨g0, g1, g2⟩, g3, g4⟩ : Lat))), .v (.int .i64 ((opnX (listC l.length mkHit (hitsC l)) (⟨⟨g0, g1, g2⟩, g3, g4⟩ : Lat)).o.x)), .v (.int .i64 ((opnX (listC l.length mkHit (hitsC l)) (⟨⟨g0, g1, g2⟩, g3, g4⟩ : Lat)).o.y)), .v (.int .i64 ((opnX (listC l.length mkHit (hitsC l)) (⟨⟨g0, g1, g2⟩, g3, g4⟩ : Lat)).o.z)), .v (.int .i64 ((opnX (listC l.length mkHit (hitsC l)) (⟨⟨g0, g1, g2⟩, g3, g4⟩ : Lat)).st)), .v (.int .i64 ((opnX (listC l.length mkHit (hitsC l)) (⟨⟨g0, g1, g2⟩, g3, g4⟩ : Lat)).n)), .sl 1 ((opnS (listC l.length mkHit (hitsC l)) (⟨⟨g0, g1, g2⟩, g3, g4⟩ : Lat)).length) (rlsC (opnS (listC l.length mkHit (hitsC l)) (⟨⟨g0, g1, g2⟩, g3, g4⟩ : Lat)))]), none, none, none, none, none, none, none, none, none, none, none, none, none, none, none, none, none, none, none, none, none, none, none, none, none, none, none, none, none, none, none, none, none, none, none, none, none, none, none, none, none, none, none, none, none, none, none, none, none, none, none, none, none, none, none, none, none, none, none, none, none, none, none, none, none, none, none, none, none, none, none, none, none, none, none, none, none, none, none, none, none, none, none, none, none, none, none, none, none, none, none, none, none, none, none, none, none, none, none, none]⟩
def vc_flash_CheckPair (J : Inv) (l : List FHit) (g0 g1 g2 g3 g4 : Int) (qa : Int) (qb : Int) (qs : Int) (qt : Int) (post : DV → Prop) : Prop := (numsP 7 l.length (hitsC l)) ∧ (cond ((bothE (listC l.length mkHit (hitsC l)) (⟨⟨g0, g1, g2⟩, g3, g4⟩ : Lat)) == (0 : Int)) ((intsB [0, 1, 2, 3, 4] (boxC [.v (.int .i64 g0), .v (.int .i64 g1), .v (.int .i64 g2), .v (.int .i64 g3), .v (.int .i64 g4)]) = true ∧ latE (⟨⟨g0, g1, g2⟩, g3, g4⟩ : Lat) = 0) ∧ (cond (inB qa 0 (((⟨⟨g0, g1, g2⟩, g3, g4⟩ : Lat)).sz - 1)) ((intsB [0, 1, 2, 3, 4] (boxC [.v (.int .i64 g0), .v (.int .i64 g1), .v (.int .i64 g2), .v (.int .i64 g3), .v (.int .i64 g4)]) = true ∧ latE (⟨⟨g0, g1, g2⟩, g3, g4⟩ : Lat) = 0) ∧ (cond (inB qs (-2000000000) 2000000000) ((numsP 1 3 (genC [[.v (.int .i64 (unl (inB qb 0 (((⟨⟨g0, g1, g2⟩, g3, g4⟩ : Lat)).sz - 1)) (6 : Int)))], [.v (.int .i64 (unl (decide (qa ≤ qb)) (9 : Int)))], [.v (.int .i64 (unl (inB qt (-2000000000) 2000000000) (2 : Int)))]]) ∧ (([(unl (inB qb 0 (((⟨⟨g0, g1, g2⟩, g3, g4⟩ : Lat)).sz - 1)) (6 : Int)), (unl (decide (qa ≤ qb)) (9 : Int)), (unl (inB qt (-2000000000) 2000000000) (2 : Int))] : List Int)).length ≤ 100) ∧ (cond ((firstNZ ([(unl (inB qb 0 (((⟨⟨g0, g1, g2⟩, g3, g4⟩ : Lat)).sz - 1)) (6 : Int)), (unl (decide (qa ≤ qb)) (9 : Int)), (unl (inB qt (-2000000000) 2000000000) (2 : Int))] : List Int)) != (0 : Int)) (post (.tu [.c (.v (.int .i64 0)), .c (.v (.int .i64 (firstNZ ([(unl (inB qb 0 (((⟨⟨g0, g1, g2⟩, g3, g4⟩ : Lat)).sz - 1)) (6 : Int)), (unl (decide (qa ≤ qb)) (9 : Int)), (unl (inB qt (-2000000000) 2000000000) (2 : Int))] : List Int))))])) (∃ n, J 0 (n :: []) (mk_flash_CheckPair_0 l g0 g1 g2 g3 g4 qa qb qs qt 0 0 0)))) ((false = false) ∧ ((numsP 1 3 (genC [[.v (.int .i64 (unl (inB qb 0 (((⟨⟨g0, g1, g2⟩, g3, g4⟩ : Lat)).sz - 1)) (6 : Int)))], [.v (.int .i64 (unl (decide (qa ≤ qb)) (9 : Int)))], [.v (.int .i64 (unl false (2 : Int)))]]) ∧ (([(unl (inB qb 0 (((⟨⟨g0, g1, g2⟩, g3, g4⟩ : Lat)).sz - 1)) (6 : Int)), (unl (decide (qa ≤ qb)) (9 : Int)), (unl false (2 : Int))] : List Int)).length ≤ 100) ∧ (cond ((firstNZ ([(unl (inB qb 0 (((⟨⟨g0, g1, g2⟩, g3, g4⟩ : Lat)).sz - 1)) (6 : Int)), (unl (decide (qa ≤ qb)) (9 : Int)), (unl false (2 : Int))] : List Int)) != (0 : Int)) (post (.tu [.c (.v (.int .i64 0)), .c (.v (.int .i64 (firstNZ ([(unl (inB qb 0 (((⟨⟨g0, g1, g2⟩, g3, g4⟩ : Lat)).sz - 1)) (6 : Int)), (unl (decide (qa ≤ qb)) (9 : Int)), (unl false (2 : Int))] : List Int))))])) (∃ n, J 0 (n :: []) (mk_flash_CheckPair_0 l g0 g1 g2 g3 g4 qa qb qs qt 0 0 0))))))) ((false = false) ∧ (cond (inB qs (-2000000000) 2000000000) ((numsP 1 3 (genC [[.v (.int .i64 (unl false (6 : Int)))], [.v (.int .i64 (unl (decide (qa ≤ qb)) (9 : Int)))], [.v (.int .i64 (unl (inB qt (-2000000000) 2000000000) (2 : Int)))]]) ∧ (([(unl false (6 : Int)), (unl (decide (qa ≤ qb)) (9 : Int)), (unl (inB qt (-2000000000) 2000000000) (2 : Int))] : List Int)).length ≤ 100) ∧ (cond ((firstNZ ([(unl false (6 : Int)), (unl (decide (qa ≤ qb)) (9 : Int)), (unl (inB qt (-2000000000) 2000000000) (2 : Int))] : List Int)) != (0 : Int)) (post (.tu [.c (.v (.int .i64 0)), .c (.v (.int .i64 (firstNZ ([(unl false (6 : Int)), (unl (decide (qa ≤ qb)) (9 : Int)), (unl (inB qt (-2000000000) 2000000000) (2 : Int))] : List Int))))])) (∃ n, J 0 (n :: []) (mk_flash_CheckPair_0 l g0 g1 g2 g3 g4 qa qb qs qt 0 0 0)))) ((false = false) ∧ ((numsP 1 3 (genC [[.v (.int .i64 (unl false (6 : Int)))], [.v (.int .i64 (unl (decide (qa ≤ qb)) (9 : Int)))], [.v (.int .i64 (unl false (2 : Int)))]]) ∧ (([(unl false (6 : Int)), (unl (decide (qa ≤ qb)) (9 : Int)), (unl false (2 : Int))] : List Int)).length ≤ 100) ∧ (cond ((firstNZ ([(unl false (6 : Int)), (unl (decide (qa ≤ qb)) (9 : Int)), (unl false (2 : Int))] : List Int)) != (0 : Int)) (post (.tu [.c (.v (.int .i64 0)), .c (.v (.int .i64 (firstNZ ([(unl false (6 : Int)), (unl (decide (qa ≤ qb)) (9 : Int)), (unl false (2 : Int))] : List Int))))])) (∃ n, J 0 (n :: []) (mk_flash_CheckPair_0 l g0 g1 g2 g3 g4 qa qb qs qt 0 0 0))))))))) (cond ((bothE (listC l.length mkHit (hitsC l)) (⟨⟨g0, g1, g2⟩, g3, g4⟩ : Lat)) != (0 : Int)) (post (.tu [.c (.v (.int .i64 0)), .c (.v (.int .i64 (bothE (listC l.length mkHit (hitsC l)) (⟨⟨g0, g1, g2⟩, g3, g4⟩ : Lat))))])) (∃ n, J 0 (n :: []) (mk_flash_CheckPair_0 l g0 g1 g2 g3 g4 qa qb qs qt 0 0 0))))
def ann_flash_CheckPair : Ann := ⟨fun r => lookA r [(5, ([[], [], [1], [0, 1, 2], [0, 1, 2, 3], [0, 1, 2, 3, 4], [0, 1, 2, 3, 4], [0, 1, 2, 3, 4, 6], [0, 1, 2, 3, 4, 5, 6, 7], [0, 1, 2, 3, 4, 5, 6, 7, 8], [0, 1, 2, 3, 4, 5, 6, 7, 8, 9], [], [11], [], [13], [11, 12, 13, 14], [0, 1, 2, 3, 4, 5, 6, 7, 8, 9, 10, 11, 12, 13, 14, 15], [], [], [18], [0, 1, 2, 3, 4, 5, 6, 7, 8, 9, 10, 11, 12, 13, 14, 15, 16, 17, 18, 19], [0, 1, 2, 3, 4, 5, 6, 7, 8, 9, 10, 11, 12, 13, 14, 15, 16, 17, 18, 19, 20], [0, 1, 2, 3, 4, 5, 6, 7, 8, 9, 10, 11, 12, 13, 14, 15, 16, 17, 18, 19, 20, 21], [0, 1, 2, 3, 4, 5, 6, 7, 8, 9, 10, 11, 12, 13, 14, 15, 16, 17, 18, 19, 20, 21], [0, 1, 2, 3, 4, 5, 6, 7, 8, 9, 10, 11, 12, 13, 14, 15, 16, 17, 18, 19, 20, 21, 23], [0, 1, 2, 3, 4, 5, 6, 7, 8, 9, 10, 11, 12, 13, 14, 15, 16, 17, 18, 19, 20, 21, 22, 23, 24], [0, 1, 2, 3, 4, 5, 6, 7, 8, 9, 10, 11, 12, 13, 14, 15, 16, 17, 18, 19, 20, 21, 22, 23, 24, 25], [0, 1, 2, 3, 4, 5, 6, 7, 8, 9, 10, 11, 12, 13, 14, 15, 16, 17, 18, 19, 20, 21, 22, 23, 24, 25, 26], [0, 1, 2, 3, 4, 5, 6, 7, 8, 9, 10, 11, 12, 13, 14, 15, 16, 17, 18, 19, 20, 21, 22, 23, 24, 25, 26, 27], [0, 1, 2, 3, 4, 5, 6, 7, 8, 9, 10, 11, 12, 13, 14, 15, 16, 17, 18, 19, 20, 21, 22, 23, 24, 25, 26, 27, 28], [0, 1, 2, 3, 4, 5, 6, 7, 8, 9, 10, 11, 12, 13, 14, 15, 16, 17, 18, 19, 20, 21, 22, 23, 24, 25, 26, 27, 28, 29]], [[29, 34, 36, 42, 46, 51, 53, 54, 55], [29, 34, 36, 42, 46, 51, 53, 54, 55], [29, 34, 36, 42, 46, 51, 53, 54, 55], [34, 36, 42, 46, 51, 53, 54, 55], [34, 36, 42, 46, 51, 53, 54, 55], [34, 36, 42, 46, 51, 53, 54, 55], [34, 36, 42, 46, 51, 53, 54, 55], [34, 36, 42, 46, 51, 53, 54, 55], [36, 42, 46, 51, 53, 54, 55], [36, 42, 46, 51, 53, 54, 55], [42, 46, 51, 53, 54, 55], [29, 34, 36, 42, 46, 51, 53, 54, 55], [29, 34, 36, 42, 46, 51, 53, 54, 55], [29, 34, 36, 42, 46, 51, 53, 54, 55], [29, 34, 36, 42, 46, 51, 53, 54, 55], [29, 34, 36, 42, 46, 51, 53, 54, 55], [46, 51, 53, 54, 55], [29, 34, 36, 42, 46, 51, 53, 54, 55], [29, 34, 36, 42, 46, 51, 53, 54, 55], [29, 34, 36, 42, 46, 51, 53, 54, 55], [51, 53, 54, 55], [51, 53, 54, 55], [51, 53, 54, 55], [51, 53, 54, 55], [51, 53, 54, 55], [53, 54, 55], [53, 54, 55], [54, 55], [55], [], []])), (12, ([[], [0], [], [2], [0, 1, 2, 3], [0, 1, 2, 3, 4], [], [0, 1, 2, 3, 4, 5, 6], [0, 1, 2, 3, 4, 5, 6, 7], [], [9], [0, 1, 2, 3, 4, 5, 6, 7, 8, 9, 10], [], [12], [], [14], [12, 13, 14, 15], [12, 13, 14, 15, 16], [], [12, 13, 14, 15, 16, 17, 18], [12, 13, 14, 15, 16, 17, 18, 19], [], [21], [0, 1, 2, 3, 4, 5, 6, 7, 8, 9, 10, 11, 12, 13, 14, 15, 16, 17, 18, 19, 20, 21, 22], [0, 1, 2, 3, 4, 5, 6, 7, 8, 9, 10, 11, 12, 13, 14, 15, 16, 17, 18, 19, 20, 21, 22, 23], [0, 1, 2, 3, 4, 5, 6, 7, 8, 9, 10, 11, 12, 13, 14, 15, 16, 17, 18, 19, 20, 21, 22, 23, 24]], [[75, 87], [75, 87], [75, 87], [75, 87], [75, 87], [75, 87], [75, 87], [75, 87], [75, 87], [75, 87], [75, 87], [87], [75, 87], [75, 87], [75, 87], [75, 87], [75, 87], [75, 87], [75, 87], [75, 87], [75, 87], [75, 87], [75, 87], [], [], []]))], fun b => lookA b [(0, (none, some ⟨[5, 8, 12, 13, 60, 61], [5, 8], []⟩))], fun _ => [], noIt, false, fun r => lookA r [(13, (3, [93])), (20, (3, [107]))], fun r => lookA r [(16, [12]), (18, [13])]⟩
theorem ev_flash_CheckPair (J : Inv) (l : List FHit) (g0 g1 g2 g3 g4 : Int) (qa : Int) (qb : Int) (qs : Int) (qt : Int) (post : DV → Prop) : evFn Tryz.prog tab S28 ann_flash_CheckPair J Tryz.f57 [.t (.c (.sl 7 l.length (hitsC l))), .t (.a [.v (.int .i64 g0), .v (.int .i64 g1), .v (.int .i64 g2), .v (.int .i64 g3), .v (.int .i64 g4)]), .t (.a [.v (.int .i64 qa), .v (.int .i64 qb), .v (.int .i64 qs), .v (.int .i64 qt)])] post = vc_flash_CheckPair J l g0 g1 g2 g3 g4 qa qb qs qt post := by kernel_rfl
theorem fit_flash_CheckPair : okFn ann_flash_CheckPair Tryz.f57 = true := by kernel_rfl
def rd_flash_CheckPair_0 (J : Inv) (l : List FHit) (g0 g1 g2 g3 g4 : Int) (qa : Int) (qb : Int) (qs : Int) (qt : Int) (v0_0 : Int) (v0_1 : Int) (v0_2 : Int) (nn0 : Nat) (post : DV → Prop) : Prop := cond (decide (v0_2 < ((l.length : Nat) : Int))) ((0 ≤ qa ∧ qa < (((opnS (listC l.length mkHit (hitsC l)) (⟨⟨g0, g1, g2⟩, g3, g4⟩ : Lat)).length : Nat) : Int)) ∧ ((0 ≤ v0_2 ∧ v0_2 < (((rlAt (opnS (listC l.length mkHit (hitsC l)) (⟨⟨g0, g1, g2⟩, g3, g4⟩ : Lat)) qa.toNat).length : Nat) : Int)) ∧ ((0 ≤ qb ∧ qb < (((opnS (listC l.length mkHit (hitsC l)) (⟨⟨g0, g1, g2⟩, g3, g4⟩ : Lat)).length : Nat) : Int)) ∧ ((0 ≤ v0_2 ∧ v0_2 < (((rlAt (opnS (listC l.length mkHit (hitsC l)) (⟨⟨g0, g1, g2⟩, g3, g4⟩ : Lat)) qb.toNat).length : Nat) : Int)) ∧ ((cond (!(inB qs ((rgAt (rlAt (opnS (listC l.length mkHit (hitsC l)) (⟨⟨g0, g1, g2⟩, g3, g4⟩ : Lat)) qa.toNat) v0_2.toNat).lo) ((rgAt (rlAt (opnS (listC l.length mkHit (hitsC l)) (⟨⟨g0, g1, g2⟩, g3, g4⟩ : Lat)) qa.toNat) v0_2.toNat).hi))) (True) ((false = false) ∧ (True))) ∧ (lt ((bif (!(inB qs ((rgAt (rlAt (opnS (listC l.length mkHit (hitsC l)) (⟨⟨g0, g1, g2⟩, g3, g4⟩ : Lat)) qa.toNat) v0_2.toNat).lo) ((rgAt (rlAt (opnS (listC l.length mkHit (hitsC l)) (⟨⟨g0, g1, g2⟩, g3, g4⟩ : Lat)) qa.toNat) v0_2.toNat).hi))) then (!(inB qt ((rgAt (rlAt (opnS (listC l.length mkHit (hitsC l)) (⟨⟨g0, g1, g2⟩, g3, g4⟩ : Lat)) qb.toNat) v0_2.toNat).lo) ((rgAt (rlAt (opnS (listC l.length mkHit (hitsC l)) (⟨⟨g0, g1, g2⟩, g3, g4⟩ : Lat)) qb.toNat) v0_2.toNat).hi))) else false)) fun x1 => cond x1 (post (.tu [.c (.v (.int .i64 v0_2)), .c (.v (.int .i64 19))])) ((cond (inB qs ((rgAt (rlAt (opnS (listC l.length mkHit (hitsC l)) (⟨⟨g0, g1, g2⟩, g3, g4⟩ : Lat)) qa.toNat) v0_2.toNat).lo) ((rgAt (rlAt (opnS (listC l.length mkHit (hitsC l)) (⟨⟨g0, g1, g2⟩, g3, g4⟩ : Lat)) qa.toNat) v0_2.toNat).hi)) (lt (IntKind.i64.wrap (v0_0 + (1 : Int))) fun x3 => True) (True)) ∧ (lt ((bif inB qs ((rgAt (rlAt (opnS (listC l.length mkHit (hitsC l)) (⟨⟨g0, g1, g2⟩, g3, g4⟩ : Lat)) qa.toNat) v0_2.toNat).lo) ((rgAt (rlAt (opnS (listC l.length mkHit (hitsC l)) (⟨⟨g0, g1, g2⟩, g3, g4⟩ : Lat)) qa.toNat) v0_2.toNat).hi) then (IntKind.i64.wrap (v0_0 + (1 : Int))) else v0_0)) fun x4 => (cond (inB qt ((rgAt (rlAt (opnS (listC l.length mkHit (hitsC l)) (⟨⟨g0, g1, g2⟩, g3, g4⟩ : Lat)) qb.toNat) v0_2.toNat).lo) ((rgAt (rlAt (opnS (listC l.length mkHit (hitsC l)) (⟨⟨g0, g1, g2⟩, g3, g4⟩ : Lat)) qb.toNat) v0_2.toNat).hi)) (lt (IntKind.i64.wrap (v0_1 + (1 : Int))) fun x6 => True) (True)) ∧ (lt ((bif inB qt ((rgAt (rlAt (opnS (listC l.length mkHit (hitsC l)) (⟨⟨g0, g1, g2⟩, g3, g4⟩ : Lat)) qb.toNat) v0_2.toNat).lo) ((rgAt (rlAt (opnS (listC l.length mkHit (hitsC l)) (⟨⟨g0, g1, g2⟩, g3, g4⟩ : Lat)) qb.toNat) v0_2.toNat).hi) then (IntKind.i64.wrap (v0_1 + (1 : Int))) else v0_1)) fun x7 => lt (IntKind.i64.wrap (v0_2 + (1 : Int))) fun x8 => J 0 (nn0 :: []) (mk_flash_CheckPair_0 l g0 g1 g2 g3 g4 qa qb qs qt x4 x7 x8)))))))))) ((cond (v0_0 == (0 : Int)) ((true = true) ∧ (True)) (True)) ∧ (lt ((bif (v0_0 == (0 : Int)) then true else (v0_1 == (0 : Int)))) fun x9 => cond x9 (post (.tu [.c (.v (.int .i64 0)), .c (.v (.int .i64 3))])) (post (.tu [.c (.v (.int .i64 v0_0)), .c (.v (.int .i64 0))]))))
theorem er_flash_CheckPair_0 (J : Inv) (l : List FHit) (g0 g1 g2 g3 g4 : Int) (qa : Int) (qb : Int) (qs : Int) (qt : Int) (v0_0 : Int) (v0_1 : Int) (v0_2 : Int) (nn0 : Nat) (post : DV → Prop) : round Tryz.prog tab S28 ann_flash_CheckPair J Tryz.f57 post 0 (nn0 :: []) (mk_flash_CheckPair_0 l g0 g1 g2 g3 g4 qa qb qs qt v0_0 v0_1 v0_2) = rd_flash_CheckPair_0 J l g0 g1 g2 g3 g4 qa qb qs qt v0_0 v0_1 v0_2 nn0 post := by kernel_rfl
theorem lp_flash_CheckPair (J : Inv) (post : DV → Prop) : AllG J (loopsFn Tryz.prog tab S28 ann_flash_CheckPair J Tryz.f57 post) = (((∀ F s, ¬ J 0 (0 :: F) s) ∧ ∀ n F s, J 0 ((n + 1) :: F) s → round Tryz.prog tab S28 ann_flash_CheckPair J Tryz.f57 post 0 (n :: F) s) ∧ True) := by kernel_rfl
def J_flash_CheckPair (l : List FHit) (g0 g1 g2 g3 g4 : Int) (qa : Int) (qb : Int) (qs : Int) (qt : Int) : Inv := fun b F s => match b, F with
 | 0, [nn0] => ∃ (v0_0 : Int) (v0_1 : Int) (v0_2 : Int), s = mk_flash_CheckPair_0 l g0 g1 g2 g3 g4 qa qb qs qt v0_0 v0_1 v0_2 ∧ ((bothE l (⟨⟨g0, g1, g2⟩, g3, g4⟩ : Lat) = 0 ∧ cpF (⟨⟨g0, g1, g2⟩, g3, g4⟩ : Lat) qa qb qs qt = 0) ∧ 0 ≤ v0_2 ∧ v0_2 ≤ l.length ∧ (nn0 : Int) + v0_2 = l.length + 1 ∧ (∀ j : Nat, (j : Int) < v0_2 → badB (exF l (⟨⟨g0, g1, g2⟩, g3, g4⟩ : Lat) qa qs) (exF l (⟨⟨g0, g1, g2⟩, g3, g4⟩ : Lat) qb qt) j = 0) ∧ v0_0 = cntB (exF l (⟨⟨g0, g1, g2⟩, g3, g4⟩ : Lat) qa qs) v0_2.toNat ∧ v0_1 = cntB (exF l (⟨⟨g0, g1, g2⟩, g3, g4⟩ : Lat) qb qt) v0_2.toNat)
 | _, _ => False
set_option maxHeartbeats 8000000 in
set_option maxRecDepth 100000 in
theorem rnd_flash_CheckPair_0 (l : List FHit) (g0 g1 g2 g3 g4 : Int) (qa : Int) (qb : Int) (qs : Int) (qt : Int) (v0_0 : Int) (v0_1 : Int) (v0_2 : Int) (nn0 : Nat) (hi : (bothE l (⟨⟨g0, g1, g2⟩, g3, g4⟩ : Lat) = 0 ∧ cpF (⟨⟨g0, g1, g2⟩, g3, g4⟩ : Lat) qa qb qs qt = 0) ∧ 0 ≤ v0_2 ∧ v0_2 ≤ l.length ∧ ((nn0 + 1) : Int) + v0_2 = l.length + 1 ∧ (∀ j : Nat, (j : Int) < v0_2 → badB (exF l (⟨⟨g0, g1, g2⟩, g3, g4⟩ : Lat) qa qs) (exF l (⟨⟨g0, g1, g2⟩, g3, g4⟩ : Lat) qb qt) j = 0) ∧ v0_0 = cntB (exF l (⟨⟨g0, g1, g2⟩, g3, g4⟩ : Lat) qa qs) v0_2.toNat ∧ v0_1 = cntB (exF l (⟨⟨g0, g1, g2⟩, g3, g4⟩ : Lat) qb qt) v0_2.toNat) : rd_flash_CheckPair_0 (J_flash_CheckPair l g0 g1 g2 g3 g4 qa qb qs qt) l g0 g1 g2 g3 g4 qa qb qs qt v0_0 v0_1 v0_2 nn0 (fun r => LeD r (.tu [.c (.v (.int .i64 (cpV l (⟨⟨g0, g1, g2⟩, g3, g4⟩ : Lat) qa qb qs qt))), .c (.v (.int .i64 (cpE l (⟨⟨g0, g1, g2⟩, g3, g4⟩ : Lat) qa qb qs qt)))])) := by
 obtain ⟨⟨q1, q2⟩, i1, i2, i3, i4, i5, i6⟩ := hi
 obtain ⟨k, rfl⟩ : ∃ k : Nat, v0_2 = k := ⟨v0_2.toNat, by omega⟩
 have hk : (k : Int).toNat = k := rfl
 rw [hk] at i5 i6
 have hl := (fn2 q1).2
 have hz := sz_rg hl
 obtain ⟨⟨z1, z2⟩, _⟩ := hitsE_ok (fn2 q1).1
 have eO : opnS l (⟨⟨g0, g1, g2⟩, g3, g4⟩ : Lat) = (allP (⟨⟨g0, g1, g2⟩, g3, g4⟩ : Lat)).map (sts l) := if_pos q1
 have eL : (opnS l (⟨⟨g0, g1, g2⟩, g3, g4⟩ : Lat)).length = (⟨⟨g0, g1, g2⟩, g3, g4⟩ : Lat).sz.toNat := by rw [eO, List.length_map, allP_len]
 have hq := q2
 unfold cpF at hq
 rw [firstNZ_zero] at hq
 have h6 := hq _ (List.mem_cons_self ..)
 rw [unl_0 (by decide), Bool.and_eq_true, inB_true, inB_true] at h6
 have at_ : ∀ q : Int, 0 ≤ q ∧ q ≤ (⟨⟨g0, g1, g2⟩, g3, g4⟩ : Lat).sz - 1 → rlAt (opnS l (⟨⟨g0, g1, g2⟩, g3, g4⟩ : Lat)) q.toNat = sts l (posAt (⟨⟨g0, g1, g2⟩, g3, g4⟩ : Lat) q) := fun q hq => by
  rw [rlAt_lt (by omega)]
  simp only [eO, allP, List.getElem_map, List.getElem_range]
  rw [show ((q.toNat : Nat) : Int) = q by omega]
 have eV : cpV l (⟨⟨g0, g1, g2⟩, g3, g4⟩ : Lat) qa qb qs qt = jdV (exF l (⟨⟨g0, g1, g2⟩, g3, g4⟩ : Lat) qa qs) (exF l (⟨⟨g0, g1, g2⟩, g3, g4⟩ : Lat) qb qt) l.length := (if_neg (by rw [q1]; simp)).trans (if_neg (by rw [q2]; simp))
 have eE : cpE l (⟨⟨g0, g1, g2⟩, g3, g4⟩ : Lat) qa qb qs qt = jdE (exF l (⟨⟨g0, g1, g2⟩, g3, g4⟩ : Lat) qa qs) (exF l (⟨⟨g0, g1, g2⟩, g3, g4⟩ : Lat) qb qt) l.length := (if_neg (by rw [q1]; simp)).trans (if_neg (by rw [q2]; simp))
 unfold rd_flash_CheckPair_0
 rw [hits_listC]
 rw [hk, at_ qa h6.1, at_ qb h6.2, sts_len, sts_len, eL]
 refine cond_i (fun h => ?_) (fun h => ⟨cond_i (fun _ => ⟨rfl, trivial⟩) (fun _ => trivial), lt_i fun x9 h9 => ?_⟩)
 ·have hlt : k < l.length := by have := of_decide_eq_true h; omega
  rw [sts_at hlt, sts_at hlt]
  have ea : inB qs (stR (posAt (⟨⟨g0, g1, g2⟩, g3, g4⟩ : Lat) qa) (hitAt l k)).lo (stR (posAt (⟨⟨g0, g1, g2⟩, g3, g4⟩ : Lat) qa) (hitAt l k)).hi = (exF l (⟨⟨g0, g1, g2⟩, g3, g4⟩ : Lat) qa qs) k := rfl
  have eb : inB qt (stR (posAt (⟨⟨g0, g1, g2⟩, g3, g4⟩ : Lat) qb) (hitAt l k)).lo (stR (posAt (⟨⟨g0, g1, g2⟩, g3, g4⟩ : Lat) qb) (hitAt l k)).hi = (exF l (⟨⟨g0, g1, g2⟩, g3, g4⟩ : Lat) qb qt) k := rfl
  rw [ea, eb]
  have n1 := cntB_succ (f := (exF l (⟨⟨g0, g1, g2⟩, g3, g4⟩ : Lat) qa qs)) (k := k)
  have n2 := cntB_succ (f := (exF l (⟨⟨g0, g1, g2⟩, g3, g4⟩ : Lat) qb qt)) (k := k)
  have b1 := cntB_rg (exF l (⟨⟨g0, g1, g2⟩, g3, g4⟩ : Lat) qa qs) k
  have b2 := cntB_rg (exF l (⟨⟨g0, g1, g2⟩, g3, g4⟩ : Lat) qb qt) k
  refine ⟨by omega, by omega, by omega, by omega, cond_i (fun _ => trivial) (fun _ => ⟨rfl, trivial⟩), lt_i fun x1 h1 => cond_i (fun e => ?_) (fun e => ⟨cond_i (fun _ => lt_i fun _ _ => trivial) (fun _ => trivial), lt_i fun x4 h4 => ⟨cond_i (fun _ => lt_i fun _ _ => trivial) (fun _ => trivial), lt_i fun x7 h7 => lt_i fun x8 h8 => ?_⟩⟩)⟩
  ·have hb : badB (exF l (⟨⟨g0, g1, g2⟩, g3, g4⟩ : Lat) qa qs) (exF l (⟨⟨g0, g1, g2⟩, g3, g4⟩ : Lat) qb qt) k = 19 := by
    unfold badB
    subst h1
    cases hf : (exF l (⟨⟨g0, g1, g2⟩, g3, g4⟩ : Lat) qa qs) k <;> cases hg : (exF l (⟨⟨g0, g1, g2⟩, g3, g4⟩ : Lat) qb qt) k <;> simp_all
   have s1 := scan_at (f := badB (exF l (⟨⟨g0, g1, g2⟩, g3, g4⟩ : Lat) qa qs) (exF l (⟨⟨g0, g1, g2⟩, g3, g4⟩ : Lat) qb qt)) (fun j hj => i4 j (by omega)) hlt (by rw [hb]; decide)
   have s2 := scanI_at (f := badB (exF l (⟨⟨g0, g1, g2⟩, g3, g4⟩ : Lat) qa qs) (exF l (⟨⟨g0, g1, g2⟩, g3, g4⟩ : Lat) qb qt)) (fun j hj => i4 j (by omega)) hlt (by rw [hb]; decide)
   rw [hb] at s1
   have hne : scan (badB (exF l (⟨⟨g0, g1, g2⟩, g3, g4⟩ : Lat) qa qs) (exF l (⟨⟨g0, g1, g2⟩, g3, g4⟩ : Lat) qb qt)) l.length ≠ 0 := by rw [s1]; decide
   refine le2 ?_ ?_
   ·rw [eV, show jdV (exF l (⟨⟨g0, g1, g2⟩, g3, g4⟩ : Lat) qa qs) (exF l (⟨⟨g0, g1, g2⟩, g3, g4⟩ : Lat) qb qt) l.length = scanI (badB (exF l (⟨⟨g0, g1, g2⟩, g3, g4⟩ : Lat) qa qs) (exF l (⟨⟨g0, g1, g2⟩, g3, g4⟩ : Lat) qb qt)) l.length from if_pos hne, s2]
   ·rw [eE, show jdE (exF l (⟨⟨g0, g1, g2⟩, g3, g4⟩ : Lat) qa qs) (exF l (⟨⟨g0, g1, g2⟩, g3, g4⟩ : Lat) qb qt) l.length = scan (badB (exF l (⟨⟨g0, g1, g2⟩, g3, g4⟩ : Lat) qa qs) (exF l (⟨⟨g0, g1, g2⟩, g3, g4⟩ : Lat) qb qt)) l.length from if_pos hne, s1]
  ·have hb : badB (exF l (⟨⟨g0, g1, g2⟩, g3, g4⟩ : Lat) qa qs) (exF l (⟨⟨g0, g1, g2⟩, g3, g4⟩ : Lat) qb qt) k = 0 := by
    unfold badB
    subst h1
    cases hf : (exF l (⟨⟨g0, g1, g2⟩, g3, g4⟩ : Lat) qa qs) k <;> cases hg : (exF l (⟨⟨g0, g1, g2⟩, g3, g4⟩ : Lat) qb qt) k <;> simp_all
   rw [wi (by omega)] at h8
   rw [wi (by omega)] at h4 h7
   subst h8
   refine ⟨_, _, _, rfl, ⟨q1, q2⟩, by omega, by omega, by omega, fun j hj => ?_, ?_, ?_⟩
   ·by_cases e : j = k
    ·rw [e]; exact hb
    ·exact i4 j (by omega)
   ·rw [show ((k : Int) + 1).toNat = k + 1 by omega, n1, ← h4, i5]
    cases (exF l (⟨⟨g0, g1, g2⟩, g3, g4⟩ : Lat) qa qs) k <;> simp
   ·rw [show ((k : Int) + 1).toNat = k + 1 by omega, n2, ← h7, i6]
    cases (exF l (⟨⟨g0, g1, g2⟩, g3, g4⟩ : Lat) qb qt) k <;> simp
 ·have hge : k = l.length := by have := of_decide_eq_false h; omega
  subst hge
  have s1 := scan_end (f := badB (exF l (⟨⟨g0, g1, g2⟩, g3, g4⟩ : Lat) qa qs) (exF l (⟨⟨g0, g1, g2⟩, g3, g4⟩ : Lat) qb qt)) (n := l.length) fun j hj => i4 j (by omega)
  have jV : jdV (exF l (⟨⟨g0, g1, g2⟩, g3, g4⟩ : Lat) qa qs) (exF l (⟨⟨g0, g1, g2⟩, g3, g4⟩ : Lat) qb qt) l.length = _ := if_neg (by rw [s1]; simp)
  have jE : jdE (exF l (⟨⟨g0, g1, g2⟩, g3, g4⟩ : Lat) qa qs) (exF l (⟨⟨g0, g1, g2⟩, g3, g4⟩ : Lat) qb qt) l.length = _ := if_neg (by rw [s1]; simp)
  rw [eV, eE, jV, jE]
  subst i5 i6
  refine cond_i (fun e => ?_) (fun e => ?_)
  ·have hz : cntB (exF l (⟨⟨g0, g1, g2⟩, g3, g4⟩ : Lat) qa qs) l.length = 0 ∨ cntB (exF l (⟨⟨g0, g1, g2⟩, g3, g4⟩ : Lat) qb qt) l.length = 0 := by
    subst h9
    by_cases c : cntB (exF l (⟨⟨g0, g1, g2⟩, g3, g4⟩ : Lat) qa qs) l.length = 0 <;> simp_all
   exact le2 (if_pos hz).symm (if_pos hz).symm
  ·have hz : ¬ (cntB (exF l (⟨⟨g0, g1, g2⟩, g3, g4⟩ : Lat) qa qs) l.length = 0 ∨ cntB (exF l (⟨⟨g0, g1, g2⟩, g3, g4⟩ : Lat) qb qt) l.length = 0) := by
    subst h9
    by_cases c : cntB (exF l (⟨⟨g0, g1, g2⟩, g3, g4⟩ : Lat) qa qs) l.length = 0 <;> simp_all
   exact le2 (if_neg hz).symm (if_neg hz).symm
theorem zero_flash_CheckPair_0 (l : List FHit) (g0 g1 g2 g3 g4 : Int) (qa : Int) (qb : Int) (qs : Int) (qt : Int) (v0_0 : Int) (v0_1 : Int) (v0_2 : Int)  (hi : (bothE l (⟨⟨g0, g1, g2⟩, g3, g4⟩ : Lat) = 0 ∧ cpF (⟨⟨g0, g1, g2⟩, g3, g4⟩ : Lat) qa qb qs qt = 0) ∧ 0 ≤ v0_2 ∧ v0_2 ≤ l.length ∧ (0 : Int) + v0_2 = l.length + 1 ∧ (∀ j : Nat, (j : Int) < v0_2 → badB (exF l (⟨⟨g0, g1, g2⟩, g3, g4⟩ : Lat) qa qs) (exF l (⟨⟨g0, g1, g2⟩, g3, g4⟩ : Lat) qb qt) j = 0) ∧ v0_0 = cntB (exF l (⟨⟨g0, g1, g2⟩, g3, g4⟩ : Lat) qa qs) v0_2.toNat ∧ v0_1 = cntB (exF l (⟨⟨g0, g1, g2⟩, g3, g4⟩ : Lat) qb qt) v0_2.toNat) : False := by
 omega
set_option maxHeartbeats 8000000 in
set_option maxRecDepth 100000 in
theorem spec_flash_CheckPair (l : List FHit) (g0 g1 g2 g3 g4 : Int) (qa : Int) (qb : Int) (qs : Int) (qt : Int) : vc_flash_CheckPair (J_flash_CheckPair l g0 g1 g2 g3 g4 qa qb qs qt) l g0 g1 g2 g3 g4 qa qb qs qt (fun r => LeD r (.tu [.c (.v (.int .i64 (cpV l (⟨⟨g0, g1, g2⟩, g3, g4⟩ : Lat) qa qb qs qt))), .c (.v (.int .i64 (cpE l (⟨⟨g0, g1, g2⟩, g3, g4⟩ : Lat) qa qb qs qt)))])) := by
 unfold vc_flash_CheckPair
 rw [hits_listC]
 have start : bothE l (⟨⟨g0, g1, g2⟩, g3, g4⟩ : Lat) = 0 → cpF (⟨⟨g0, g1, g2⟩, g3, g4⟩ : Lat) qa qb qs qt = 0 → ∃ n, J_flash_CheckPair l g0 g1 g2 g3 g4 qa qb qs qt 0 (n :: []) (mk_flash_CheckPair_0 l g0 g1 g2 g3 g4 qa qb qs qt 0 0 0) := fun h1 h2 => ⟨l.length + 1, 0, 0, 0, rfl, ⟨h1, h2⟩, by omega, by omega, by omega, fun j hj => by omega, rfl, rfl⟩
 have bad : bothE l (⟨⟨g0, g1, g2⟩, g3, g4⟩ : Lat) = 0 → cpF (⟨⟨g0, g1, g2⟩, g3, g4⟩ : Lat) qa qb qs qt ≠ 0 → LeD (.tu [.c (.v (.int .i64 0)), .c (.v (.int .i64 (cpF (⟨⟨g0, g1, g2⟩, g3, g4⟩ : Lat) qa qb qs qt)))]) (.tu [.c (.v (.int .i64 (cpV l (⟨⟨g0, g1, g2⟩, g3, g4⟩ : Lat) qa qb qs qt))), .c (.v (.int .i64 (cpE l (⟨⟨g0, g1, g2⟩, g3, g4⟩ : Lat) qa qb qs qt)))]) := fun h1 h2 =>
  le2 ((if_neg (by rw [h1]; simp)).trans (if_pos h2)).symm ((if_neg (by rw [h1]; simp)).trans (if_pos h2)).symm
 refine ⟨numsP_hits l, cond_i (fun h => ?_) (fun h => cond_i (fun _ => ?_) (fun e => ?_))⟩
 ·have h : bothE l (⟨⟨g0, g1, g2⟩, g3, g4⟩ : Lat) = 0 := by simpa using h
  have hl := (fn2 h).2
  refine ⟨⟨rfl, hl⟩, cond_i (fun a1 => ⟨⟨rfl, hl⟩, cond_i (fun a2 => ⟨⟨numsP_gen [_, _, _], Nat.le_of_ble_eq_true rfl⟩, ?_⟩) (fun a2 => ⟨rfl, ⟨numsP_gen [_, _, _], Nat.le_of_ble_eq_true rfl⟩, ?_⟩)⟩) (fun a1 => ⟨rfl, cond_i (fun a2 => ⟨⟨numsP_gen [_, _, _], Nat.le_of_ble_eq_true rfl⟩, ?_⟩) (fun a2 => ⟨rfl, ⟨numsP_gen [_, _, _], Nat.le_of_ble_eq_true rfl⟩, ?_⟩)⟩)⟩
  all_goals
   have e : cpF (⟨⟨g0, g1, g2⟩, g3, g4⟩ : Lat) qa qb qs qt = firstNZ [unl (inB qa 0 ((⟨⟨g0, g1, g2⟩, g3, g4⟩ : Lat).sz - 1) && inB qb 0 ((⟨⟨g0, g1, g2⟩, g3, g4⟩ : Lat).sz - 1)) 6, unl (decide (qa ≤ qb)) 9, unl (inB qs (-2000000000) 2000000000 && inB qt (-2000000000) 2000000000) 2] := rfl
   rw [a1, a2] at e
   simp only [Bool.true_and, Bool.false_and] at e
   rw [← e]
   exact cond_i (fun q => bad h (by simpa using q)) (fun q => start h (by simpa using q))
 ·have h : bothE l (⟨⟨g0, g1, g2⟩, g3, g4⟩ : Lat) ≠ 0 := by simpa using h
  exact le2 (if_pos h).symm (if_pos h).symm
 ·have h : bothE l (⟨⟨g0, g1, g2⟩, g3, g4⟩ : Lat) ≠ 0 := by simpa using h
  have e : bothE l (⟨⟨g0, g1, g2⟩, g3, g4⟩ : Lat) = 0 := by simpa using e
  exact (h e).elim
theorem all_flash_CheckPair (l : List FHit) (g0 g1 g2 g3 g4 : Int) (qa : Int) (qb : Int) (qs : Int) (qt : Int) : AllG (J_flash_CheckPair l g0 g1 g2 g3 g4 qa qb qs qt) (loopsFn Tryz.prog tab S28 ann_flash_CheckPair (J_flash_CheckPair l g0 g1 g2 g3 g4 qa qb qs qt) Tryz.f57 (fun r => LeD r (.tu [.c (.v (.int .i64 (cpV l (⟨⟨g0, g1, g2⟩, g3, g4⟩ : Lat) qa qb qs qt))), .c (.v (.int .i64 (cpE l (⟨⟨g0, g1, g2⟩, g3, g4⟩ : Lat) qa qb qs qt)))]))) := by
 rw [lp_flash_CheckPair]
 refine ⟨⟨?_, ?_⟩, trivial⟩
 ·intro F s h
  obtain _ | ⟨g, F⟩ := F
  case cons => exact h.elim
  obtain ⟨w0, w1, w2, rfl, hi⟩ := h
  exact zero_flash_CheckPair_0 l g0 g1 g2 g3 g4 qa qb qs qt w0 w1 w2 hi
 ·intro n F s h
  obtain _ | ⟨g, F⟩ := F
  case cons => exact h.elim
  obtain ⟨w0, w1, w2, rfl, hi⟩ := h
  rw [er_flash_CheckPair_0]
  exact rnd_flash_CheckPair_0 l g0 g1 g2 g3 g4 qa qb qs qt _ _ _ _ hi
def con_flash_CheckPair : Con := fun args => match args with
 | [.t (.c (.sl 7 n_l c_l)), .t (.a [.v (.int .i64 g0), .v (.int .i64 g1), .v (.int .i64 g2), .v (.int .i64 g3), .v (.int .i64 g4)]), .t (.a [.v (.int .i64 qa), .v (.int .i64 qb), .v (.int .i64 qs), .v (.int .i64 qt)])] => some (.tu [.c (.v (.int .i64 (cpV (listC n_l mkHit c_l) (⟨⟨g0, g1, g2⟩, g3, g4⟩ : Lat) qa qb qs qt))), .c (.v (.int .i64 (cpE (listC n_l mkHit c_l) (⟨⟨g0, g1, g2⟩, g3, g4⟩ : Lat) qa qb qs qt)))], some (numsP 7 n_l c_l), false)
 | _ => none
theorem ok_flash_CheckPair : Ok Tryz.prog 57 con_flash_CheckPair := by
 refine Ok.fn (ann := ann_flash_CheckPair) mixed tabOK VS28 ValidIt.no (fn := Tryz.f57) (by kernel_rfl) (by kernel_rfl) fit_flash_CheckPair fun args r pre fresh h hp => ?_
 unfold con_flash_CheckPair at h
 split at h
 ·rename_i n_l c_l g0 g1 g2 g3 g4 qa qb qs qt
  cases h
  have hp0 := hp
  refine ⟨rfl, J_flash_CheckPair (listC n_l mkHit c_l) g0 g1 g2 g3 g4 qa qb qs qt, [.t (.c (.sl 7 ((listC n_l mkHit c_l).length) (hitsC (listC n_l mkHit c_l)))), .t (.a [.v (.int .i64 g0), .v (.int .i64 g1), .v (.int .i64 g2), .v (.int .i64 g3), .v (.int .i64 g4)]), .t (.a [.v (.int .i64 qa), .v (.int .i64 qb), .v (.int .i64 qs), .v (.int .i64 qt)])], ?_, Nat.le_of_ble_eq_true (by kernel_rfl), ?_, ?_⟩
  ·exact (LeA_cons (leT_c ((leL_FHit hp0))) (LeA_cons (LeD.refl _) (LeA_cons (leT_a (LeCs.cons (LeC1.refl _) (LeCs.cons (LeC1.refl _) (LeCs.cons (LeC1.refl _) (LeCs.cons (LeC1.refl _) LeCs.nil))))) LeA_nil)))
  ·rw [ev_flash_CheckPair]; exact spec_flash_CheckPair (listC n_l mkHit c_l) g0 g1 g2 g3 g4 qa qb qs qt
  ·exact all_flash_CheckPair (listC n_l mkHit c_l) g0 g1 g2 g3 g4 qa qb qs qt
 ·cases h
def S29 : Sum := addS S28 57 con_flash_CheckPair
theorem VS29 : Valid Tryz.prog S29 := Valid.add VS28 ok_flash_CheckPair
end Go.Proofs.YtdkpgodakmailaaGreatDoor