/- Texts of this claim, together. -/
import Derived.Test.YtfadkjcfjkmalaaTB13

set_option linter.unusedVariables false
set_option linter.unusedSimpArgs false
namespace Go.Proofs.Ytfadkjcfjkmalaa
open Go.RowKit Ev
def mk_ref05_All_0 (b0 b1 b2 b3 b4 b5 : Int) (v0_0 : List (List CV)) (v0_1 : Int) : DS := ⟨[none, some (.t (.c (.p 1 0))), none, some (.t (.c (.os 3))), some (.t (.c (.v (.int .i64 v0_1)))), none, none, none, none, none, none, none, none, none, none, none, none, none, none, none, none, none, none, none, none, none, none, none, none, none, none, none, none, none, none, none, none, none, none, none, none, none, none, none, none], [none, some (.box 28 [.v (.int .i64 b0), .v (.int .i64 b1), .v (.int .i64 b2), .v (.int .i64 b3), .v (.int .i64 b4), .v (.int .i64 b5)]), none, some (.gen 22 3 v0_0), none, none, none, none, none, none, none, none, none, none, none, none, none, none, none, none, none, none, none, none, none, none, none, none, none, none, none, none, none, none, none, none, none, none, none, none, none, none, none, none, none]⟩
def mk_ref05_All_2 (b0 b1 b2 b3 b4 b5 : Int) (v2_0 : List (List CV)) (v2_1 : Int) (v2_2 : Int) : DS := ⟨[none, some (.t (.c (.p 1 0))), none, some (.t (.c (.os 3))), some (.t (.c (.v (.int .i64 v2_1)))), some (.t (.c (.v (.int .i64 v2_2)))), none, none, none, none, none, none, none, none, none, none, none, none, none, none, none, none, none, none, none, none, none, none, none, none, none, none, none, none, none, none, none, none, none, none, none, none, none, none, none], [none, some (.box 28 [.v (.int .i64 b0), .v (.int .i64 b1), .v (.int .i64 b2), .v (.int .i64 b3), .v (.int .i64 b4), .v (.int .i64 b5)]), none, some (.gen 22 3 v2_0), none, none, none, none, none, none, none, none, none, none, none, none, none, none, none, none, none, none, none, none, none, none, none, none, none, none, none, none, none, none, none, none, none, none, none, none, none, none, none, none, none]⟩
def mk_ref05_All_4 (b0 b1 b2 b3 b4 b5 : Int) (v4_0 : List (List CV)) (v4_1 : Int) (v4_2 : Int) (v4_3 : Int) : DS := ⟨[none, some (.t (.c (.p 1 0))), none, some (.t (.c (.os 3))), some (.t (.c (.v (.int .i64 v4_1)))), some (.t (.c (.v (.int .i64 v4_2)))), some (.t (.c (.v (.int .i64 v4_3)))), none, none, none, none, none, none, none, none, none, none, none, none, none, none, none, none, none, none, none, none, none, none, none, none, none, none, none, none, none, none, none, none, none, none, none, none, none, none], [none, some (.box 28 [.v (.int .i64 b0), .v (.int .i64 b1), .v (.int .i64 b2), .v (.int .i64 b3), .v (.int .i64 b4), .v (.int .i64 b5)]), none, some (.gen 22 3 v4_0), none, none, none, none, none, none, none, none, none, none, none, none, none, none, none, none, none, none, none, none, none, none, none, none, none, none, none, none, none, none, none, none, none, none, none, none, none, none, none, none, none]⟩
def vc_ref05_All (J : Inv) (b0 b1 b2 b3 b4 b5 : Int) (post : DV → Prop) : Prop := (0 ≤ (0 : Int) ∧ (0 : Int) < ((3 : Nat) : Int)) ∧ (∃ n, J 0 (n :: []) (mk_ref05_All_0 b0 b1 b2 b3 b4 b5 ([]) b0))
def ann_ref05_All : Ann := ⟨fun _ => none, fun b => lookA b [(0, (none, some ⟨[1, 4], [1], [(3, .gen 22 3 [])]⟩)), (2, (none, some ⟨[1, 4, 5], [1], [(3, .gen 22 3 [])]⟩)), (4, (none, some ⟨[1, 4, 5, 6], [1], [(3, .gen 22 3 [])]⟩))], fun _ => [], Ikv51, false, fun _ => none, fun _ => none⟩
theorem ev_ref05_All (J : Inv) (b0 b1 b2 b3 b4 b5 : Int) (post : DV → Prop) : evFn Try.prog tab Skf78 ann_ref05_All J Try.f71 [.t (.a [.v (.int .i64 b0), .v (.int .i64 b1), .v (.int .i64 b2), .v (.int .i64 b3), .v (.int .i64 b4), .v (.int .i64 b5)])] post = vc_ref05_All J b0 b1 b2 b3 b4 b5 post := by kernel_rfl
theorem fit_ref05_All : okFn ann_ref05_All Try.f71 = true := by kernel_rfl
def rd_ref05_All_0 (J : Inv) (b0 b1 b2 b3 b4 b5 : Int) (v0_0 : List (List CV)) (v0_1 : Int) (nn0 : Nat) (post : DV → Prop) : Prop := (0 ≤ (0 : Int) ∧ (0 : Int) < ((3 : Nat) : Int)) ∧ (cond (decide (v0_1 ≤ b3)) ((0 ≤ (1 : Int) ∧ (1 : Int) < ((3 : Nat) : Int)) ∧ (∃ n, J 2 (n :: nn0 :: []) (mk_ref05_All_2 b0 b1 b2 b3 b4 b5 v0_0 v0_1 b1))) (post (.t (.c (.sl 3 v0_0.length (genC v0_0))))))
theorem er_ref05_All_0 (J : Inv) (b0 b1 b2 b3 b4 b5 : Int) (v0_0 : List (List CV)) (v0_1 : Int) (nn0 : Nat) (post : DV → Prop) : round Try.prog tab Skf78 ann_ref05_All J Try.f71 post 0 (nn0 :: []) (mk_ref05_All_0 b0 b1 b2 b3 b4 b5 v0_0 v0_1) = rd_ref05_All_0 J b0 b1 b2 b3 b4 b5 v0_0 v0_1 nn0 post := by kernel_rfl
def rd_ref05_All_2 (J : Inv) (b0 b1 b2 b3 b4 b5 : Int) (v2_0 : List (List CV)) (v2_1 : Int) (v2_2 : Int) (nn2 nn0 : Nat) (post : DV → Prop) : Prop := (0 ≤ (1 : Int) ∧ (1 : Int) < ((3 : Nat) : Int)) ∧ (cond (decide (v2_2 ≤ b4)) ((0 ≤ (2 : Int) ∧ (2 : Int) < ((3 : Nat) : Int)) ∧ (∃ n, J 4 (n :: nn2 :: nn0 :: []) (mk_ref05_All_4 b0 b1 b2 b3 b4 b5 v2_0 v2_1 v2_2 b2))) (lt (IntKind.i64.wrap (v2_1 + (1 : Int))) fun x1 => J 0 (nn0 :: []) (mk_ref05_All_0 b0 b1 b2 b3 b4 b5 v2_0 x1)))
theorem er_ref05_All_2 (J : Inv) (b0 b1 b2 b3 b4 b5 : Int) (v2_0 : List (List CV)) (v2_1 : Int) (v2_2 : Int) (nn2 nn0 : Nat) (post : DV → Prop) : round Try.prog tab Skf78 ann_ref05_All J Try.f71 post 1 (nn2 :: nn0 :: []) (mk_ref05_All_2 b0 b1 b2 b3 b4 b5 v2_0 v2_1 v2_2) = rd_ref05_All_2 J b0 b1 b2 b3 b4 b5 v2_0 v2_1 v2_2 nn2 nn0 post := by kernel_rfl
def rd_ref05_All_4 (J : Inv) (b0 b1 b2 b3 b4 b5 : Int) (v4_0 : List (List CV)) (v4_1 : Int) (v4_2 : Int) (v4_3 : Int) (nn4 nn2 nn0 : Nat) (post : DV → Prop) : Prop := (0 ≤ (2 : Int) ∧ (2 : Int) < ((3 : Nat) : Int)) ∧ (cond (decide (v4_3 ≤ b5)) ((roomP 24 (v4_0.length + ([[.v (.int .i64 v4_1), .v (.int .i64 v4_2), .v (.int .i64 v4_3)]] : List (List CV)).length)) ∧ (lt (IntKind.i64.wrap (v4_3 + (1 : Int))) fun x1 => J 4 (nn4 :: nn2 :: nn0 :: []) (mk_ref05_All_4 b0 b1 b2 b3 b4 b5 (v4_0 ++ ([[.v (.int .i64 v4_1), .v (.int .i64 v4_2), .v (.int .i64 v4_3)]] : List (List CV))) v4_1 v4_2 x1))) (lt (IntKind.i64.wrap (v4_2 + (1 : Int))) fun x2 => J 2 (nn2 :: nn0 :: []) (mk_ref05_All_2 b0 b1 b2 b3 b4 b5 v4_0 v4_1 x2)))
theorem er_ref05_All_4 (J : Inv) (b0 b1 b2 b3 b4 b5 : Int) (v4_0 : List (List CV)) (v4_1 : Int) (v4_2 : Int) (v4_3 : Int) (nn4 nn2 nn0 : Nat) (post : DV → Prop) : round Try.prog tab Skf78 ann_ref05_All J Try.f71 post 2 (nn4 :: nn2 :: nn0 :: []) (mk_ref05_All_4 b0 b1 b2 b3 b4 b5 v4_0 v4_1 v4_2 v4_3) = rd_ref05_All_4 J b0 b1 b2 b3 b4 b5 v4_0 v4_1 v4_2 v4_3 nn4 nn2 nn0 post := by kernel_rfl
theorem lp_ref05_All (J : Inv) (post : DV → Prop) : AllG J (loopsFn Try.prog tab Skf78 ann_ref05_All J Try.f71 post) = (((∀ F s, ¬ J 0 (0 :: F) s) ∧ ∀ n F s, J 0 ((n + 1) :: F) s → round Try.prog tab Skf78 ann_ref05_All J Try.f71 post 0 (n :: F) s) ∧ ((∀ F s, ¬ J 2 (0 :: F) s) ∧ ∀ n F s, J 2 ((n + 1) :: F) s → round Try.prog tab Skf78 ann_ref05_All J Try.f71 post 1 (n :: F) s) ∧ ((∀ F s, ¬ J 4 (0 :: F) s) ∧ ∀ n F s, J 4 ((n + 1) :: F) s → round Try.prog tab Skf78 ann_ref05_All J Try.f71 post 2 (n :: F) s) ∧ True) := by kernel_rfl
def J_ref05_All (b0 b1 b2 b3 b4 b5 : Int) : Inv := fun b F s => match b, F with
 | 0, [nn0] => ∃ (v0_0 : List (List CV)) (v0_1 : Int), s = mk_ref05_All_0 b0 b1 b2 b3 b4 b5 v0_0 v0_1 ∧ (v0_0.length ≤ 68921 ∧ v0_0 ++ (restX (⟨⟨b0, b1, b2⟩, ⟨b3, b4, b5⟩⟩ : TBox) v0_1).map v3Cv = (⟨⟨b0, b1, b2⟩, ⟨b3, b4, b5⟩⟩ : TBox).all.map v3Cv ∧ b0 ≤ v0_1 ∧ v0_1 ≤ b3 + 1 ∧ (nn0 : Int) + v0_1 = b3 + 2)
 | 2, [nn2, nn0] => ∃ (v2_0 : List (List CV)) (v2_1 : Int) (v2_2 : Int), s = mk_ref05_All_2 b0 b1 b2 b3 b4 b5 v2_0 v2_1 v2_2 ∧ (v2_0.length ≤ 68921 ∧ v2_0 ++ (restY (⟨⟨b0, b1, b2⟩, ⟨b3, b4, b5⟩⟩ : TBox) v2_1 v2_2 ++ restX (⟨⟨b0, b1, b2⟩, ⟨b3, b4, b5⟩⟩ : TBox) (v2_1 + 1)).map v3Cv = (⟨⟨b0, b1, b2⟩, ⟨b3, b4, b5⟩⟩ : TBox).all.map v3Cv ∧ (b0 ≤ v2_1 ∧ v2_1 ≤ b3 ∧ (nn0 : Int) + v2_1 = b3 + 1) ∧ b1 ≤ v2_2 ∧ v2_2 ≤ b4 + 1 ∧ (nn2 : Int) + v2_2 = b4 + 2)
 | 4, [nn4, nn2, nn0] => ∃ (v4_0 : List (List CV)) (v4_1 : Int) (v4_2 : Int) (v4_3 : Int), s = mk_ref05_All_4 b0 b1 b2 b3 b4 b5 v4_0 v4_1 v4_2 v4_3 ∧ (v4_0.length ≤ 68921 ∧ v4_0 ++ (restZ (⟨⟨b0, b1, b2⟩, ⟨b3, b4, b5⟩⟩ : TBox) v4_1 v4_2 v4_3 ++ (restY (⟨⟨b0, b1, b2⟩, ⟨b3, b4, b5⟩⟩ : TBox) v4_1 (v4_2 + 1) ++ restX (⟨⟨b0, b1, b2⟩, ⟨b3, b4, b5⟩⟩ : TBox) (v4_1 + 1))).map v3Cv = (⟨⟨b0, b1, b2⟩, ⟨b3, b4, b5⟩⟩ : TBox).all.map v3Cv ∧ (b0 ≤ v4_1 ∧ v4_1 ≤ b3 ∧ (nn0 : Int) + v4_1 = b3 + 1) ∧ (b1 ≤ v4_2 ∧ v4_2 ≤ b4 ∧ (nn2 : Int) + v4_2 = b4 + 1) ∧ b2 ≤ v4_3 ∧ v4_3 ≤ b5 + 1 ∧ (nn4 : Int) + v4_3 = b5 + 2)
 | _, _ => False
set_option maxHeartbeats 8000000 in
set_option maxRecDepth 100000 in
theorem rnd_ref05_All_0 (b0 b1 b2 b3 b4 b5 : Int) (v0_0 : List (List CV)) (v0_1 : Int) (nn0 : Nat) (hp : ((⟨⟨b0, b1, b2⟩, ⟨b3, b4, b5⟩⟩ : TBox)).lo.inS 20 = true ∧ ((⟨⟨b0, b1, b2⟩, ⟨b3, b4, b5⟩⟩ : TBox)).hi.inS 20 = true ∧ ((⟨⟨b0, b1, b2⟩, ⟨b3, b4, b5⟩⟩ : TBox)).ok) (hi : v0_0.length ≤ 68921 ∧ v0_0 ++ (restX (⟨⟨b0, b1, b2⟩, ⟨b3, b4, b5⟩⟩ : TBox) v0_1).map v3Cv = (⟨⟨b0, b1, b2⟩, ⟨b3, b4, b5⟩⟩ : TBox).all.map v3Cv ∧ b0 ≤ v0_1 ∧ v0_1 ≤ b3 + 1 ∧ ((nn0 + 1) : Int) + v0_1 = b3 + 2) : rd_ref05_All_0 (J_ref05_All b0 b1 b2 b3 b4 b5) b0 b1 b2 b3 b4 b5 v0_0 v0_1 nn0 (fun r => LeD r (.t (.c (.sl 3 ((((⟨⟨b0, b1, b2⟩, ⟨b3, b4, b5⟩⟩ : TBox)).all).length) (plsC (((⟨⟨b0, b1, b2⟩, ⟨b3, b4, b5⟩⟩ : TBox)).all)))))) := by
 obtain ⟨q1, q2, q3⟩ := hp
 obtain ⟨a1, a2, a3⟩ := inS_iff.1 q1
 obtain ⟨c1, c2, c3⟩ := inS_iff.1 q2
 obtain ⟨o1, o2, o3⟩ := q3
 simp only [TBox.rx, TBox.ry, TBox.rz, Rg.ok] at a1 a2 a3 c1 c2 c3 o1 o2 o3
 obtain ⟨i1, i2, i3, i4⟩ := hi
 unfold rd_ref05_All_0
 refine ⟨by omega, cond_i (fun h => ⟨by omega, (b4 + 2 - b1).toNat, v0_0, v0_1, b1, rfl, i1, ?_, ?_, by omega, by omega, by omega⟩) (fun h => ?_)⟩
 ·have h := of_decide_eq_true h
  rw [← i2, restX_cons (b := (⟨⟨b0, b1, b2⟩, ⟨b3, b4, b5⟩⟩ : TBox)) (x := v0_1) (by simpa using h)]
 ·have h := of_decide_eq_true h
  omega
 ·have h := of_decide_eq_false h
  rw [restX_nil (b := (⟨⟨b0, b1, b2⟩, ⟨b3, b4, b5⟩⟩ : TBox)) (by simp only; omega), List.map_nil, List.append_nil] at i2
  rw [i2]
  exact le_v3 _
theorem zero_ref05_All_0 (b0 b1 b2 b3 b4 b5 : Int) (v0_0 : List (List CV)) (v0_1 : Int)  (hi : v0_0.length ≤ 68921 ∧ v0_0 ++ (restX (⟨⟨b0, b1, b2⟩, ⟨b3, b4, b5⟩⟩ : TBox) v0_1).map v3Cv = (⟨⟨b0, b1, b2⟩, ⟨b3, b4, b5⟩⟩ : TBox).all.map v3Cv ∧ b0 ≤ v0_1 ∧ v0_1 ≤ b3 + 1 ∧ (0 : Int) + v0_1 = b3 + 2) : False := by
 omega
set_option maxHeartbeats 8000000 in
set_option maxRecDepth 100000 in
theorem rnd_ref05_All_2 (b0 b1 b2 b3 b4 b5 : Int) (v2_0 : List (List CV)) (v2_1 : Int) (v2_2 : Int) (nn2 nn0 : Nat) (hp : ((⟨⟨b0, b1, b2⟩, ⟨b3, b4, b5⟩⟩ : TBox)).lo.inS 20 = true ∧ ((⟨⟨b0, b1, b2⟩, ⟨b3, b4, b5⟩⟩ : TBox)).hi.inS 20 = true ∧ ((⟨⟨b0, b1, b2⟩, ⟨b3, b4, b5⟩⟩ : TBox)).ok) (hi : v2_0.length ≤ 68921 ∧ v2_0 ++ (restY (⟨⟨b0, b1, b2⟩, ⟨b3, b4, b5⟩⟩ : TBox) v2_1 v2_2 ++ restX (⟨⟨b0, b1, b2⟩, ⟨b3, b4, b5⟩⟩ : TBox) (v2_1 + 1)).map v3Cv = (⟨⟨b0, b1, b2⟩, ⟨b3, b4, b5⟩⟩ : TBox).all.map v3Cv ∧ (b0 ≤ v2_1 ∧ v2_1 ≤ b3 ∧ (nn0 : Int) + v2_1 = b3 + 1) ∧ b1 ≤ v2_2 ∧ v2_2 ≤ b4 + 1 ∧ ((nn2 + 1) : Int) + v2_2 = b4 + 2) : rd_ref05_All_2 (J_ref05_All b0 b1 b2 b3 b4 b5) b0 b1 b2 b3 b4 b5 v2_0 v2_1 v2_2 nn2 nn0 (fun r => LeD r (.t (.c (.sl 3 ((((⟨⟨b0, b1, b2⟩, ⟨b3, b4, b5⟩⟩ : TBox)).all).length) (plsC (((⟨⟨b0, b1, b2⟩, ⟨b3, b4, b5⟩⟩ : TBox)).all)))))) := by
 obtain ⟨q1, q2, q3⟩ := hp
 obtain ⟨a1, a2, a3⟩ := inS_iff.1 q1
 obtain ⟨c1, c2, c3⟩ := inS_iff.1 q2
 obtain ⟨o1, o2, o3⟩ := q3
 simp only [TBox.rx, TBox.ry, TBox.rz, Rg.ok] at a1 a2 a3 c1 c2 c3 o1 o2 o3
 obtain ⟨i1, i2, i3, i4, i5⟩ := hi
 unfold rd_ref05_All_2
 refine ⟨by omega, cond_i (fun h => ⟨by omega, (b5 + 2 - b2).toNat, v2_0, v2_1, v2_2, b2, rfl, i1, ?_, by omega, ?_, by omega, by omega, by omega⟩) (fun h => lt_i fun x hx => ?_)⟩
 ·have h := of_decide_eq_true h
  rw [← i2, restY_cons (b := (⟨⟨b0, b1, b2⟩, ⟨b3, b4, b5⟩⟩ : TBox)) (y := v2_2) (by simpa using h), List.append_assoc]
 ·have h := of_decide_eq_true h
  omega
 ·have h := of_decide_eq_false h
  rw [IntWalk.i64_in _ (by omega)] at hx
  subst hx
  refine ⟨v2_0, v2_1 + 1, rfl, i1, ?_, by omega, by omega, by omega⟩
  rw [← i2, restY_nil (b := (⟨⟨b0, b1, b2⟩, ⟨b3, b4, b5⟩⟩ : TBox)) (by simp only; omega), List.nil_append]
theorem zero_ref05_All_2 (b0 b1 b2 b3 b4 b5 : Int) (v2_0 : List (List CV)) (v2_1 : Int) (v2_2 : Int) (nn0 : Nat) (hi : v2_0.length ≤ 68921 ∧ v2_0 ++ (restY (⟨⟨b0, b1, b2⟩, ⟨b3, b4, b5⟩⟩ : TBox) v2_1 v2_2 ++ restX (⟨⟨b0, b1, b2⟩, ⟨b3, b4, b5⟩⟩ : TBox) (v2_1 + 1)).map v3Cv = (⟨⟨b0, b1, b2⟩, ⟨b3, b4, b5⟩⟩ : TBox).all.map v3Cv ∧ (b0 ≤ v2_1 ∧ v2_1 ≤ b3 ∧ (nn0 : Int) + v2_1 = b3 + 1) ∧ b1 ≤ v2_2 ∧ v2_2 ≤ b4 + 1 ∧ (0 : Int) + v2_2 = b4 + 2) : False := by
 omega
set_option maxHeartbeats 8000000 in
set_option maxRecDepth 100000 in
theorem rnd_ref05_All_4 (b0 b1 b2 b3 b4 b5 : Int) (v4_0 : List (List CV)) (v4_1 : Int) (v4_2 : Int) (v4_3 : Int) (nn4 nn2 nn0 : Nat) (hp : ((⟨⟨b0, b1, b2⟩, ⟨b3, b4, b5⟩⟩ : TBox)).lo.inS 20 = true ∧ ((⟨⟨b0, b1, b2⟩, ⟨b3, b4, b5⟩⟩ : TBox)).hi.inS 20 = true ∧ ((⟨⟨b0, b1, b2⟩, ⟨b3, b4, b5⟩⟩ : TBox)).ok) (hi : v4_0.length ≤ 68921 ∧ v4_0 ++ (restZ (⟨⟨b0, b1, b2⟩, ⟨b3, b4, b5⟩⟩ : TBox) v4_1 v4_2 v4_3 ++ (restY (⟨⟨b0, b1, b2⟩, ⟨b3, b4, b5⟩⟩ : TBox) v4_1 (v4_2 + 1) ++ restX (⟨⟨b0, b1, b2⟩, ⟨b3, b4, b5⟩⟩ : TBox) (v4_1 + 1))).map v3Cv = (⟨⟨b0, b1, b2⟩, ⟨b3, b4, b5⟩⟩ : TBox).all.map v3Cv ∧ (b0 ≤ v4_1 ∧ v4_1 ≤ b3 ∧ (nn0 : Int) + v4_1 = b3 + 1) ∧ (b1 ≤ v4_2 ∧ v4_2 ≤ b4 ∧ (nn2 : Int) + v4_2 = b4 + 1) ∧ b2 ≤ v4_3 ∧ v4_3 ≤ b5 + 1 ∧ ((nn4 + 1) : Int) + v4_3 = b5 + 2) : rd_ref05_All_4 (J_ref05_All b0 b1 b2 b3 b4 b5) b0 b1 b2 b3 b4 b5 v4_0 v4_1 v4_2 v4_3 nn4 nn2 nn0 (fun r => LeD r (.t (.c (.sl 3 ((((⟨⟨b0, b1, b2⟩, ⟨b3, b4, b5⟩⟩ : TBox)).all).length) (plsC (((⟨⟨b0, b1, b2⟩, ⟨b3, b4, b5⟩⟩ : TBox)).all)))))) := by
 obtain ⟨q1, q2, q3⟩ := hp
 obtain ⟨a1, a2, a3⟩ := inS_iff.1 q1
 obtain ⟨c1, c2, c3⟩ := inS_iff.1 q2
 obtain ⟨o1, o2, o3⟩ := q3
 simp only [TBox.rx, TBox.ry, TBox.rz, Rg.ok] at a1 a2 a3 c1 c2 c3 o1 o2 o3
 obtain ⟨i1, i2, i3, i4, i5⟩ := hi
 have hn := congrArg List.length i2
 have hm := len_68921 (b := (⟨⟨b0, b1, b2⟩, ⟨b3, b4, b5⟩⟩ : TBox)) q1 q2 ⟨o1, o2, o3⟩
 unfold rd_ref05_All_4
 refine ⟨by omega, cond_i (fun h => ?_) (fun h => lt_i fun x hx => ?_)⟩
 ·have h := of_decide_eq_true h
  rw [restZ_cons (b := (⟨⟨b0, b1, b2⟩, ⟨b3, b4, b5⟩⟩ : TBox)) (by simpa using h), List.cons_append, List.map_cons] at i2 hn
  rw [List.length_append, List.length_cons, List.length_map, List.length_map] at hn
  refine ⟨?_, lt_i fun x hx => ?_⟩
  ·unfold roomP maxLen; simp; omega
  ·rw [IntWalk.i64_in _ (by omega)] at hx
   subst hx
   refine ⟨_, _, _, _, rfl, ?_, ?_, i3, i4, by omega, by omega, by omega⟩
   ·rw [List.length_append, List.length_singleton]; omega
   ·rw [← i2, List.append_assoc]; rfl
 ·have h := of_decide_eq_false h
  rw [IntWalk.i64_in _ (by omega)] at hx
  subst hx
  refine ⟨v4_0, v4_1, v4_2 + 1, rfl, i1, ?_, i3, by omega, by omega, by omega⟩
  rw [← i2, restZ_nil (b := (⟨⟨b0, b1, b2⟩, ⟨b3, b4, b5⟩⟩ : TBox)) (by simp only; omega), List.nil_append]
theorem zero_ref05_All_4 (b0 b1 b2 b3 b4 b5 : Int) (v4_0 : List (List CV)) (v4_1 : Int) (v4_2 : Int) (v4_3 : Int) (nn2 nn0 : Nat) (hi : v4_0.length ≤ 68921 ∧ v4_0 ++ (restZ (⟨⟨b0, b1, b2⟩, ⟨b3, b4, b5⟩⟩ : TBox) v4_1 v4_2 v4_3 ++ (restY (⟨⟨b0, b1, b2⟩, ⟨b3, b4, b5⟩⟩ : TBox) v4_1 (v4_2 + 1) ++ restX (⟨⟨b0, b1, b2⟩, ⟨b3, b4, b5⟩⟩ : TBox) (v4_1 + 1))).map v3Cv = (⟨⟨b0, b1, b2⟩, ⟨b3, b4, b5⟩⟩ : TBox).all.map v3Cv ∧ (b0 ≤ v4_1 ∧ v4_1 ≤ b3 ∧ (nn0 : Int) + v4_1 = b3 + 1) ∧ (b1 ≤ v4_2 ∧ v4_2 ≤ b4 ∧ (nn2 : Int) + v4_2 = b4 + 1) ∧ b2 ≤ v4_3 ∧ v4_3 ≤ b5 + 1 ∧ (0 : Int) + v4_3 = b5 + 2) : False := by
 omega
set_option maxHeartbeats 8000000 in
set_option maxRecDepth 100000 in
theorem spec_ref05_All (b0 b1 b2 b3 b4 b5 : Int) (hp : ((⟨⟨b0, b1, b2⟩, ⟨b3, b4, b5⟩⟩ : TBox)).lo.inS 20 = true ∧ ((⟨⟨b0, b1, b2⟩, ⟨b3, b4, b5⟩⟩ : TBox)).hi.inS 20 = true ∧ ((⟨⟨b0, b1, b2⟩, ⟨b3, b4, b5⟩⟩ : TBox)).ok) : vc_ref05_All (J_ref05_All b0 b1 b2 b3 b4 b5) b0 b1 b2 b3 b4 b5 (fun r => LeD r (.t (.c (.sl 3 ((((⟨⟨b0, b1, b2⟩, ⟨b3, b4, b5⟩⟩ : TBox)).all).length) (plsC (((⟨⟨b0, b1, b2⟩, ⟨b3, b4, b5⟩⟩ : TBox)).all)))))) := by
 obtain ⟨q1, q2, q3⟩ := hp
 obtain ⟨a1, a2, a3⟩ := inS_iff.1 q1
 obtain ⟨c1, c2, c3⟩ := inS_iff.1 q2
 obtain ⟨o1, o2, o3⟩ := q3
 simp only [TBox.rx, TBox.ry, TBox.rz, Rg.ok] at a1 a2 a3 c1 c2 c3 o1 o2 o3
 unfold vc_ref05_All
 exact ⟨by omega, (b3 + 2 - b0).toNat, [], b0, rfl, by simp, rfl, by omega, by omega, by omega⟩
theorem all_ref05_All (b0 b1 b2 b3 b4 b5 : Int) (hp : ((⟨⟨b0, b1, b2⟩, ⟨b3, b4, b5⟩⟩ : TBox)).lo.inS 20 = true ∧ ((⟨⟨b0, b1, b2⟩, ⟨b3, b4, b5⟩⟩ : TBox)).hi.inS 20 = true ∧ ((⟨⟨b0, b1, b2⟩, ⟨b3, b4, b5⟩⟩ : TBox)).ok) : AllG (J_ref05_All b0 b1 b2 b3 b4 b5) (loopsFn Try.prog tab Skf78 ann_ref05_All (J_ref05_All b0 b1 b2 b3 b4 b5) Try.f71 (fun r => LeD r (.t (.c (.sl 3 ((((⟨⟨b0, b1, b2⟩, ⟨b3, b4, b5⟩⟩ : TBox)).all).length) (plsC (((⟨⟨b0, b1, b2⟩, ⟨b3, b4, b5⟩⟩ : TBox)).all))))))) := by
 rw [lp_ref05_All]
 refine ⟨⟨?_, ?_⟩, ⟨?_, ?_⟩, ⟨?_, ?_⟩, trivial⟩
 ·intro F s h
  obtain _ | ⟨g, F⟩ := F
  case cons => exact h.elim
  obtain ⟨w0, w1, rfl, hi⟩ := h
  exact zero_ref05_All_0 b0 b1 b2 b3 b4 b5 w0 w1 hi
 ·intro n F s h
  obtain _ | ⟨g, F⟩ := F
  case cons => exact h.elim
  obtain ⟨w0, w1, rfl, hi⟩ := h
  rw [er_ref05_All_0]
  exact rnd_ref05_All_0 b0 b1 b2 b3 b4 b5 _ _ _ hp hi
 ·intro F s h
  obtain _ | ⟨f0, F⟩ := F
  ·exact h.elim
  obtain _ | ⟨g, F⟩ := F
  case cons => exact h.elim
  obtain ⟨w0, w1, w2, rfl, hi⟩ := h
  exact zero_ref05_All_2 b0 b1 b2 b3 b4 b5 w0 w1 w2 _ hi
 ·intro n F s h
  obtain _ | ⟨f0, F⟩ := F
  ·exact h.elim
  obtain _ | ⟨g, F⟩ := F
  case cons => exact h.elim
  obtain ⟨w0, w1, w2, rfl, hi⟩ := h
  rw [er_ref05_All_2]
  exact rnd_ref05_All_2 b0 b1 b2 b3 b4 b5 _ _ _ _ _ hp hi
 ·intro F s h
  obtain _ | ⟨f0, F⟩ := F
  ·exact h.elim
  obtain _ | ⟨f1, F⟩ := F
  ·exact h.elim
  obtain _ | ⟨g, F⟩ := F
  case cons => exact h.elim
  obtain ⟨w0, w1, w2, w3, rfl, hi⟩ := h
  exact zero_ref05_All_4 b0 b1 b2 b3 b4 b5 w0 w1 w2 w3 _ _ hi
 ·intro n F s h
  obtain _ | ⟨f0, F⟩ := F
  ·exact h.elim
  obtain _ | ⟨f1, F⟩ := F
  ·exact h.elim
  obtain _ | ⟨g, F⟩ := F
  case cons => exact h.elim
  obtain ⟨w0, w1, w2, w3, rfl, hi⟩ := h
  rw [er_ref05_All_4]
  exact rnd_ref05_All_4 b0 b1 b2 b3 b4 b5 _ _ _ _ _ _ _ hp hi
def con_ref05_All : Con := fun args => match args with
 | [.t (.a [.v (.int .i64 b0), .v (.int .i64 b1), .v (.int .i64 b2), .v (.int .i64 b3), .v (.int .i64 b4), .v (.int .i64 b5)])] => some (.t (.c (.sl 3 ((((⟨⟨b0, b1, b2⟩, ⟨b3, b4, b5⟩⟩ : TBox)).all).length) (plsC (((⟨⟨b0, b1, b2⟩, ⟨b3, b4, b5⟩⟩ : TBox)).all)))), some (((⟨⟨b0, b1, b2⟩, ⟨b3, b4, b5⟩⟩ : TBox)).lo.inS 20 = true ∧ ((⟨⟨b0, b1, b2⟩, ⟨b3, b4, b5⟩⟩ : TBox)).hi.inS 20 = true ∧ ((⟨⟨b0, b1, b2⟩, ⟨b3, b4, b5⟩⟩ : TBox)).ok), false)
 | _ => none
theorem ok_ref05_All : Ok Try.prog 71 con_ref05_All := by
 refine Ok.fn (ann := ann_ref05_All) mixed tabOK VSkf78 VIkv51 (fn := Try.f71) (by kernel_rfl) (by kernel_rfl) fit_ref05_All fun args r pre fresh h hp => ?_
 unfold con_ref05_All at h
 split at h
 ·rename_i b0 b1 b2 b3 b4 b5
  cases h
  refine ⟨rfl, J_ref05_All b0 b1 b2 b3 b4 b5, _, LeA.refl _, Nat.le_of_ble_eq_true (by kernel_rfl), ?_, ?_⟩
  ·rw [ev_ref05_All]; exact spec_ref05_All b0 b1 b2 b3 b4 b5 hp
  ·exact all_ref05_All b0 b1 b2 b3 b4 b5 hp
 ·cases h
def Skg79 : Sum := addS Skf78 71 con_ref05_All
theorem VSkg79 : Valid Try.prog Skg79 := Valid.add VSkf78 ok_ref05_All
def mk_ref05_Steps_0 (m0 m1 m2 m3 m4 m5 m6 m7 m8 m9 m10 m11 : Int) (b0 b1 b2 b3 b4 b5 : Int) (v0_0 : List (List CV)) (v0_1 : Int) : DS := ⟨[none, none, some (.t (.c (.p 2 0))), none, none, some (.t (.c (.os 5))), some (.t (.c (.sl 3 ((((⟨⟨b0, b1, b2⟩, ⟨b3, b4, b5⟩⟩ : TBox)).all).length) (plsC (((⟨⟨b0, b1, b2⟩, ⟨b3, b4, b5⟩⟩ : TBox)).all))))), some (.t (.c (.v (.int .i64 v0_1)))), none, none, none, none, none, none, none, none, none, none, none, none, none, none, none, none, none, none, none, none, none, none], [none, none, some (.box 26 [.v (.int .i64 m0), .v (.int .i64 m1), .v (.int .i64 m2), .v (.int .i64 m3), .v (.int .i64 m4), .v (.int .i64 m5), .v (.int .i64 m6), .v (.int .i64 m7), .v (.int .i64 m8), .v (.int .i64 m9), .v (.int .i64 m10), .v (.int .i64 m11)]), none, none, some (.gen 22 3 v0_0), none, none, none, none, none, none, none, none, none, none, none, none, none, none, none, none, none, none, none, none, none, none, none, none]⟩
def vc_ref05_Steps (J : Inv) (m0 m1 m2 m3 m4 m5 m6 m7 m8 m9 m10 m11 : Int) (b0 b1 b2 b3 b4 b5 : Int) (post : DV → Prop) : Prop := (((⟨⟨b0, b1, b2⟩, ⟨b3, b4, b5⟩⟩ : TBox)).lo.inS 20 = true ∧ ((⟨⟨b0, b1, b2⟩, ⟨b3, b4, b5⟩⟩ : TBox)).hi.inS 20 = true ∧ ((⟨⟨b0, b1, b2⟩, ⟨b3, b4, b5⟩⟩ : TBox)).ok) ∧ (∃ n, J 0 (n :: []) (mk_ref05_Steps_0 m0 m1 m2 m3 m4 m5 m6 m7 m8 m9 m10 m11 b0 b1 b2 b3 b4 b5 ([]) 0))
def ann_ref05_Steps : Ann := ⟨fun r => lookA r [(6, ([[], [], [], [1, 2], [1, 2, 3], [0, 1, 2, 3, 4]], [[21], [21], [21], [21], [21], []]))], fun b => lookA b [(0, (none, some ⟨[2, 6, 7], [2], [(5, .gen 22 3 [])]⟩))], fun _ => [], Ikv51, false, fun _ => none, fun _ => none⟩
theorem ev_ref05_Steps (J : Inv) (m0 m1 m2 m3 m4 m5 m6 m7 m8 m9 m10 m11 : Int) (b0 b1 b2 b3 b4 b5 : Int) (post : DV → Prop) : evFn Try.prog tab Skg79 ann_ref05_Steps J Try.f41 [.t (.a [.v (.int .i64 m0), .v (.int .i64 m1), .v (.int .i64 m2), .v (.int .i64 m3), .v (.int .i64 m4), .v (.int .i64 m5), .v (.int .i64 m6), .v (.int .i64 m7), .v (.int .i64 m8), .v (.int .i64 m9), .v (.int .i64 m10), .v (.int .i64 m11)]), .t (.a [.v (.int .i64 b0), .v (.int .i64 b1), .v (.int .i64 b2), .v (.int .i64 b3), .v (.int .i64 b4), .v (.int .i64 b5)])] post = vc_ref05_Steps J m0 m1 m2 m3 m4 m5 m6 m7 m8 m9 m10 m11 b0 b1 b2 b3 b4 b5 post := by kernel_rfl
theorem fit_ref05_Steps : okFn ann_ref05_Steps Try.f41 = true := by kernel_rfl
def rd_ref05_Steps_0 (J : Inv) (m0 m1 m2 m3 m4 m5 m6 m7 m8 m9 m10 m11 : Int) (b0 b1 b2 b3 b4 b5 : Int) (v0_0 : List (List CV)) (v0_1 : Int) (nn0 : Nat) (post : DV → Prop) : Prop := cond (decide (v0_1 < (((((⟨⟨b0, b1, b2⟩, ⟨b3, b4, b5⟩⟩ : TBox)).all).length : Nat) : Int))) ((0 ≤ v0_1 ∧ v0_1 < (((((⟨⟨b0, b1, b2⟩, ⟨b3, b4, b5⟩⟩ : TBox)).all).length : Nat) : Int)) ∧ ((((plAt (((⟨⟨b0, b1, b2⟩, ⟨b3, b4, b5⟩⟩ : TBox)).all) v0_1.toNat)).sm (plAt (((⟨⟨b0, b1, b2⟩, ⟨b3, b4, b5⟩⟩ : TBox)).all) v0_1.toNat)) ∧ (cond (((⟨m0, m1, m2, m3, m4, m5, m6, m7, m8, m9, m10, m11⟩ : TMod)).permB (plAt (((⟨⟨b0, b1, b2⟩, ⟨b3, b4, b5⟩⟩ : TBox)).all) v0_1.toNat)) ((0 ≤ v0_1 ∧ v0_1 < (((((⟨⟨b0, b1, b2⟩, ⟨b3, b4, b5⟩⟩ : TBox)).all).length : Nat) : Int)) ∧ ((roomP 24 (v0_0.length + ([[.v (.int .i64 ((plAt (((⟨⟨b0, b1, b2⟩, ⟨b3, b4, b5⟩⟩ : TBox)).all) v0_1.toNat).x)), .v (.int .i64 ((plAt (((⟨⟨b0, b1, b2⟩, ⟨b3, b4, b5⟩⟩ : TBox)).all) v0_1.toNat).y)), .v (.int .i64 ((plAt (((⟨⟨b0, b1, b2⟩, ⟨b3, b4, b5⟩⟩ : TBox)).all) v0_1.toNat).z))]] : List (List CV)).length)) ∧ (lt (IntKind.i64.wrap (v0_1 + (1 : Int))) fun x1 => J 0 (nn0 :: []) (mk_ref05_Steps_0 m0 m1 m2 m3 m4 m5 m6 m7 m8 m9 m10 m11 b0 b1 b2 b3 b4 b5 (v0_0 ++ ([[.v (.int .i64 ((plAt (((⟨⟨b0, b1, b2⟩, ⟨b3, b4, b5⟩⟩ : TBox)).all) v0_1.toNat).x)), .v (.int .i64 ((plAt (((⟨⟨b0, b1, b2⟩, ⟨b3, b4, b5⟩⟩ : TBox)).all) v0_1.toNat).y)), .v (.int .i64 ((plAt (((⟨⟨b0, b1, b2⟩, ⟨b3, b4, b5⟩⟩ : TBox)).all) v0_1.toNat).z))]] : List (List CV))) x1)))) (lt (IntKind.i64.wrap (v0_1 + (1 : Int))) fun x2 => J 0 (nn0 :: []) (mk_ref05_Steps_0 m0 m1 m2 m3 m4 m5 m6 m7 m8 m9 m10 m11 b0 b1 b2 b3 b4 b5 v0_0 x2))))) (post (.t (.c (.sl 3 v0_0.length (genC v0_0)))))
theorem er_ref05_Steps_0 (J : Inv) (m0 m1 m2 m3 m4 m5 m6 m7 m8 m9 m10 m11 : Int) (b0 b1 b2 b3 b4 b5 : Int) (v0_0 : List (List CV)) (v0_1 : Int) (nn0 : Nat) (post : DV → Prop) : round Try.prog tab Skg79 ann_ref05_Steps J Try.f41 post 0 (nn0 :: []) (mk_ref05_Steps_0 m0 m1 m2 m3 m4 m5 m6 m7 m8 m9 m10 m11 b0 b1 b2 b3 b4 b5 v0_0 v0_1) = rd_ref05_Steps_0 J m0 m1 m2 m3 m4 m5 m6 m7 m8 m9 m10 m11 b0 b1 b2 b3 b4 b5 v0_0 v0_1 nn0 post := by kernel_rfl
theorem lp_ref05_Steps (J : Inv) (post : DV → Prop) : AllG J (loopsFn Try.prog tab Skg79 ann_ref05_Steps J Try.f41 post) = (((∀ F s, ¬ J 0 (0 :: F) s) ∧ ∀ n F s, J 0 ((n + 1) :: F) s → round Try.prog tab Skg79 ann_ref05_Steps J Try.f41 post 0 (n :: F) s) ∧ True) := by kernel_rfl
def J_ref05_Steps (m0 m1 m2 m3 m4 m5 m6 m7 m8 m9 m10 m11 : Int) (b0 b1 b2 b3 b4 b5 : Int) : Inv := fun b F s => match b, F with
 | 0, [nn0] => ∃ (v0_0 : List (List CV)) (v0_1 : Int), s = mk_ref05_Steps_0 m0 m1 m2 m3 m4 m5 m6 m7 m8 m9 m10 m11 b0 b1 b2 b3 b4 b5 v0_0 v0_1 ∧ (0 ≤ v0_1 ∧ v0_1 ≤ (⟨⟨b0, b1, b2⟩, ⟨b3, b4, b5⟩⟩ : TBox).all.length ∧ (nn0 : Int) + v0_1 = (⟨⟨b0, b1, b2⟩, ⟨b3, b4, b5⟩⟩ : TBox).all.length + 1 ∧ v0_0 = (((⟨⟨b0, b1, b2⟩, ⟨b3, b4, b5⟩⟩ : TBox).all.take v0_1.toNat).filter (⟨m0, m1, m2, m3, m4, m5, m6, m7, m8, m9, m10, m11⟩ : TMod).permB).map v3Cv)
 | _, _ => False
set_option maxHeartbeats 8000000 in
set_option maxRecDepth 100000 in
theorem rnd_ref05_Steps_0 (m0 m1 m2 m3 m4 m5 m6 m7 m8 m9 m10 m11 : Int) (b0 b1 b2 b3 b4 b5 : Int) (v0_0 : List (List CV)) (v0_1 : Int) (nn0 : Nat) (hp : ((⟨⟨b0, b1, b2⟩, ⟨b3, b4, b5⟩⟩ : TBox)).lo.inS 20 = true ∧ ((⟨⟨b0, b1, b2⟩, ⟨b3, b4, b5⟩⟩ : TBox)).hi.inS 20 = true ∧ ((⟨⟨b0, b1, b2⟩, ⟨b3, b4, b5⟩⟩ : TBox)).ok) (hi : 0 ≤ v0_1 ∧ v0_1 ≤ (⟨⟨b0, b1, b2⟩, ⟨b3, b4, b5⟩⟩ : TBox).all.length ∧ ((nn0 + 1) : Int) + v0_1 = (⟨⟨b0, b1, b2⟩, ⟨b3, b4, b5⟩⟩ : TBox).all.length + 1 ∧ v0_0 = (((⟨⟨b0, b1, b2⟩, ⟨b3, b4, b5⟩⟩ : TBox).all.take v0_1.toNat).filter (⟨m0, m1, m2, m3, m4, m5, m6, m7, m8, m9, m10, m11⟩ : TMod).permB).map v3Cv) : rd_ref05_Steps_0 (J_ref05_Steps m0 m1 m2 m3 m4 m5 m6 m7 m8 m9 m10 m11 b0 b1 b2 b3 b4 b5) m0 m1 m2 m3 m4 m5 m6 m7 m8 m9 m10 m11 b0 b1 b2 b3 b4 b5 v0_0 v0_1 nn0 (fun r => LeD r (.t (.c (.sl 3 ((((⟨m0, m1, m2, m3, m4, m5, m6, m7, m8, m9, m10, m11⟩ : TMod)).steps (⟨⟨b0, b1, b2⟩, ⟨b3, b4, b5⟩⟩ : TBox)).length) (plsC (((⟨m0, m1, m2, m3, m4, m5, m6, m7, m8, m9, m10, m11⟩ : TMod)).steps (⟨⟨b0, b1, b2⟩, ⟨b3, b4, b5⟩⟩ : TBox))))))) := by
 obtain ⟨i1, i2, i3, i4⟩ := hi
 obtain ⟨k, rfl⟩ : ∃ k : Nat, v0_1 = k := ⟨v0_1.toNat, by omega⟩
 have hk : (k : Int).toNat = k := rfl
 rw [hk] at i4
 have hm := len_68921 (b := (⟨⟨b0, b1, b2⟩, ⟨b3, b4, b5⟩⟩ : TBox)) hp.1 hp.2.1 hp.2.2
 have hlen : v0_0.length ≤ 68921 := by
  rw [i4, List.length_map]
  have h1 := List.length_filter_le (⟨m0, m1, m2, m3, m4, m5, m6, m7, m8, m9, m10, m11⟩ : TMod).permB ((⟨⟨b0, b1, b2⟩, ⟨b3, b4, b5⟩⟩ : TBox).all.take k)
  rw [List.length_take] at h1
  omega
 unfold rd_ref05_Steps_0
 rw [hk]
 refine cond_i (fun h => ?_) (fun h => ?_)
 ·have hlt : k < (⟨⟨b0, b1, b2⟩, ⟨b3, b4, b5⟩⟩ : TBox).all.length := by have := of_decide_eq_true h; omega
  have hb := mem_all.1 (plAt_in hlt)
  obtain ⟨q1, q2, q3⟩ := hp
  have hsm := sm_box hb q1 q2
  have hnx : ∀ x, IntKind.i64.wrap ((k : Int) + 1) = x → x = (k : Int) + 1 := fun x hx => by rw [← hx]; exact IntWalk.i64_in _ (by omega)
  refine ⟨by omega, hsm, cond_i (fun e => ⟨by omega, ?_, lt_i fun x hx => ?_⟩) (fun e => lt_i fun x hx => ?_)⟩
  ·unfold roomP maxLen; simp; omega
  ·rw [hnx x hx]
   refine ⟨_, _, rfl, by omega, by omega, by omega, ?_⟩
   rw [show ((k : Int) + 1).toNat = k + 1 by omega, i4, plAt_take hlt, List.filter_append, List.filter_cons, if_pos e, List.map_append]; rfl
  ·rw [hnx x hx]
   refine ⟨_, _, rfl, by omega, by omega, by omega, ?_⟩
   rw [show ((k : Int) + 1).toNat = k + 1 by omega, i4, plAt_take hlt, List.filter_append, List.filter_cons, if_neg (by rw [e]; simp), List.filter_nil, List.append_nil]
 ·have hge : k = (⟨⟨b0, b1, b2⟩, ⟨b3, b4, b5⟩⟩ : TBox).all.length := by have := of_decide_eq_false h; omega
  rw [i4, hge, List.take_length]
  exact le_v3 _
theorem zero_ref05_Steps_0 (m0 m1 m2 m3 m4 m5 m6 m7 m8 m9 m10 m11 : Int) (b0 b1 b2 b3 b4 b5 : Int) (v0_0 : List (List CV)) (v0_1 : Int)  (hi : 0 ≤ v0_1 ∧ v0_1 ≤ (⟨⟨b0, b1, b2⟩, ⟨b3, b4, b5⟩⟩ : TBox).all.length ∧ (0 : Int) + v0_1 = (⟨⟨b0, b1, b2⟩, ⟨b3, b4, b5⟩⟩ : TBox).all.length + 1 ∧ v0_0 = (((⟨⟨b0, b1, b2⟩, ⟨b3, b4, b5⟩⟩ : TBox).all.take v0_1.toNat).filter (⟨m0, m1, m2, m3, m4, m5, m6, m7, m8, m9, m10, m11⟩ : TMod).permB).map v3Cv) : False := by
 omega
set_option maxHeartbeats 8000000 in
set_option maxRecDepth 100000 in
theorem spec_ref05_Steps (m0 m1 m2 m3 m4 m5 m6 m7 m8 m9 m10 m11 : Int) (b0 b1 b2 b3 b4 b5 : Int) (hp : ((⟨⟨b0, b1, b2⟩, ⟨b3, b4, b5⟩⟩ : TBox)).lo.inS 20 = true ∧ ((⟨⟨b0, b1, b2⟩, ⟨b3, b4, b5⟩⟩ : TBox)).hi.inS 20 = true ∧ ((⟨⟨b0, b1, b2⟩, ⟨b3, b4, b5⟩⟩ : TBox)).ok) : vc_ref05_Steps (J_ref05_Steps m0 m1 m2 m3 m4 m5 m6 m7 m8 m9 m10 m11 b0 b1 b2 b3 b4 b5) m0 m1 m2 m3 m4 m5 m6 m7 m8 m9 m10 m11 b0 b1 b2 b3 b4 b5 (fun r => LeD r (.t (.c (.sl 3 ((((⟨m0, m1, m2, m3, m4, m5, m6, m7, m8, m9, m10, m11⟩ : TMod)).steps (⟨⟨b0, b1, b2⟩, ⟨b3, b4, b5⟩⟩ : TBox)).length) (plsC (((⟨m0, m1, m2, m3, m4, m5, m6, m7, m8, m9, m10, m11⟩ : TMod)).steps (⟨⟨b0, b1, b2⟩, ⟨b3, b4, b5⟩⟩ : TBox))))))) := by
 unfold vc_ref05_Steps
 exact ⟨hp, (⟨⟨b0, b1, b2⟩, ⟨b3, b4, b5⟩⟩ : TBox).all.length + 1, [], 0, rfl, by omega, by omega, by omega, rfl⟩
theorem all_ref05_Steps (m0 m1 m2 m3 m4 m5 m6 m7 m8 m9 m10 m11 : Int) (b0 b1 b2 b3 b4 b5 : Int) (hp : ((⟨⟨b0, b1, b2⟩, ⟨b3, b4, b5⟩⟩ : TBox)).lo.inS 20 = true ∧ ((⟨⟨b0, b1, b2⟩, ⟨b3, b4, b5⟩⟩ : TBox)).hi.inS 20 = true ∧ ((⟨⟨b0, b1, b2⟩, ⟨b3, b4, b5⟩⟩ : TBox)).ok) : AllG (J_ref05_Steps m0 m1 m2 m3 m4 m5 m6 m7 m8 m9 m10 m11 b0 b1 b2 b3 b4 b5) (loopsFn Try.prog tab Skg79 ann_ref05_Steps (J_ref05_Steps m0 m1 m2 m3 m4 m5 m6 m7 m8 m9 m10 m11 b0 b1 b2 b3 b4 b5) Try.f41 (fun r => LeD r (.t (.c (.sl 3 ((((⟨m0, m1, m2, m3, m4, m5, m6, m7, m8, m9, m10, m11⟩ : TMod)).steps (⟨⟨b0, b1, b2⟩, ⟨b3, b4, b5⟩⟩ : TBox)).length) (plsC (((⟨m0, m1, m2, m3, m4, m5, m6, m7, m8, m9, m10, m11⟩ : TMod)).steps (⟨⟨b0, b1, b2⟩, ⟨b3, b4, b5⟩⟩ : TBox)))))))) := by
 rw [lp_ref05_Steps]
 refine ⟨⟨?_, ?_⟩, trivial⟩
 ·intro F s h
  obtain _ | ⟨g, F⟩ := F
  case cons => exact h.elim
  obtain ⟨w0, w1, rfl, hi⟩ := h
  exact zero_ref05_Steps_0 m0 m1 m2 m3 m4 m5 m6 m7 m8 m9 m10 m11 b0 b1 b2 b3 b4 b5 w0 w1 hi
 ·intro n F s h
  obtain _ | ⟨g, F⟩ := F
  case cons => exact h.elim
  obtain ⟨w0, w1, rfl, hi⟩ := h
  rw [er_ref05_Steps_0]
  exact rnd_ref05_Steps_0 m0 m1 m2 m3 m4 m5 m6 m7 m8 m9 m10 m11 b0 b1 b2 b3 b4 b5 _ _ _ hp hi
def con_ref05_Steps : Con := fun args => match args with
 | [.t (.a [.v (.int .i64 m0), .v (.int .i64 m1), .v (.int .i64 m2), .v (.int .i64 m3), .v (.int .i64 m4), .v (.int .i64 m5), .v (.int .i64 m6), .v (.int .i64 m7), .v (.int .i64 m8), .v (.int .i64 m9), .v (.int .i64 m10), .v (.int .i64 m11)]), .t (.a [.v (.int .i64 b0), .v (.int .i64 b1), .v (.int .i64 b2), .v (.int .i64 b3), .v (.int .i64 b4), .v (.int .i64 b5)])] => some (.t (.c (.sl 3 ((((⟨m0, m1, m2, m3, m4, m5, m6, m7, m8, m9, m10, m11⟩ : TMod)).steps (⟨⟨b0, b1, b2⟩, ⟨b3, b4, b5⟩⟩ : TBox)).length) (plsC (((⟨m0, m1, m2, m3, m4, m5, m6, m7, m8, m9, m10, m11⟩ : TMod)).steps (⟨⟨b0, b1, b2⟩, ⟨b3, b4, b5⟩⟩ : TBox))))), some (((⟨⟨b0, b1, b2⟩, ⟨b3, b4, b5⟩⟩ : TBox)).lo.inS 20 = true ∧ ((⟨⟨b0, b1, b2⟩, ⟨b3, b4, b5⟩⟩ : TBox)).hi.inS 20 = true ∧ ((⟨⟨b0, b1, b2⟩, ⟨b3, b4, b5⟩⟩ : TBox)).ok), false)
 | _ => none
theorem ok_ref05_Steps : Ok Try.prog 41 con_ref05_Steps := by
 refine Ok.fn (ann := ann_ref05_Steps) mixed tabOK VSkg79 VIkv51 (fn := Try.f41) (by kernel_rfl) (by kernel_rfl) fit_ref05_Steps fun args r pre fresh h hp => ?_
 unfold con_ref05_Steps at h
 split at h
 ·rename_i m0 m1 m2 m3 m4 m5 m6 m7 m8 m9 m10 m11 b0 b1 b2 b3 b4 b5
  cases h
  refine ⟨rfl, J_ref05_Steps m0 m1 m2 m3 m4 m5 m6 m7 m8 m9 m10 m11 b0 b1 b2 b3 b4 b5, _, LeA.refl _, Nat.le_of_ble_eq_true (by kernel_rfl), ?_, ?_⟩
  ·rw [ev_ref05_Steps]; exact spec_ref05_Steps m0 m1 m2 m3 m4 m5 m6 m7 m8 m9 m10 m11 b0 b1 b2 b3 b4 b5 hp
  ·exact all_ref05_Steps m0 m1 m2 m3 m4 m5 m6 m7 m8 m9 m10 m11 b0 b1 b2 b3 b4 b5 hp
 ·cases h
def Skg80 : Sum := addS Skg79 41 con_ref05_Steps
theorem VSkg80 : Valid Try.prog Skg80 := Valid.add VSkg79 ok_ref05_Steps
def mk_ref05_SameSteps_0 (l : List V3) (l2 : List V3) (v0_0 : Int) : DS := ⟨[some (.t (.c (.sl 3 l.length (plsC l)))), some (.t (.c (.sl 3 l2.length (plsC l2)))), none, none, none, some (.t (.c (.v (.int .i64 v0_0)))), none, none, none, none, none, none, none, none, none, none, none, none, none, none, none, none, none, none, none, none], [none, none, none, none, none, none, none, none, none, none, none, none, none, none, none, none, none, none, none, none, none, none, none, none, none, none]⟩
def vc_ref05_SameSteps (J : Inv) (l : List V3) (l2 : List V3) (post : DV → Prop) : Prop := cond (((l.length : Nat) : Int) != ((l2.length : Nat) : Int)) (post (.t (.c (.v (.bool false))))) (∃ n, J 0 (n :: []) (mk_ref05_SameSteps_0 l l2 0))
def ann_ref05_SameSteps : Ann := ⟨fun r => lookA r [(6, ([[], [], [0, 1], [0, 1, 2], [], [], [4, 5], [4, 5, 6], [0, 1, 2, 3, 4, 5, 6, 7]], [[], [], [], [], [], [], [], [], []]))], fun b => lookA b [(0, (none, some ⟨[0, 1, 5], [], []⟩))], fun _ => [], Ikv51, false, fun _ => none, fun _ => none⟩
theorem ev_ref05_SameSteps (J : Inv) (l : List V3) (l2 : List V3) (post : DV → Prop) : evFn Try.prog tab Skg80 ann_ref05_SameSteps J Try.f16 [.t (.c (.sl 3 l.length (plsC l))), .t (.c (.sl 3 l2.length (plsC l2)))] post = vc_ref05_SameSteps J l l2 post := by kernel_rfl
theorem fit_ref05_SameSteps : okFn ann_ref05_SameSteps Try.f16 = true := by kernel_rfl
def rd_ref05_SameSteps_0 (J : Inv) (l : List V3) (l2 : List V3) (v0_0 : Int) (nn0 : Nat) (post : DV → Prop) : Prop := cond (decide (v0_0 < ((l.length : Nat) : Int))) ((0 ≤ v0_0 ∧ v0_0 < ((l.length : Nat) : Int)) ∧ ((0 ≤ v0_0 ∧ v0_0 < ((l2.length : Nat) : Int)) ∧ (cond (!(bif (((plAt l v0_0.toNat).x) == ((plAt l2 v0_0.toNat).x)) then (bif (((plAt l v0_0.toNat).y) == ((plAt l2 v0_0.toNat).y)) then (bif (((plAt l v0_0.toNat).z) == ((plAt l2 v0_0.toNat).z)) then true else false) else false) else false)) (post (.t (.c (.v (.bool false))))) (lt (IntKind.i64.wrap (v0_0 + (1 : Int))) fun x1 => J 0 (nn0 :: []) (mk_ref05_SameSteps_0 l l2 x1))))) (post (.t (.c (.v (.bool true)))))
theorem er_ref05_SameSteps_0 (J : Inv) (l : List V3) (l2 : List V3) (v0_0 : Int) (nn0 : Nat) (post : DV → Prop) : round Try.prog tab Skg80 ann_ref05_SameSteps J Try.f16 post 0 (nn0 :: []) (mk_ref05_SameSteps_0 l l2 v0_0) = rd_ref05_SameSteps_0 J l l2 v0_0 nn0 post := by kernel_rfl
theorem lp_ref05_SameSteps (J : Inv) (post : DV → Prop) : AllG J (loopsFn Try.prog tab Skg80 ann_ref05_SameSteps J Try.f16 post) = (((∀ F s, ¬ J 0 (0 :: F) s) ∧ ∀ n F s, J 0 ((n + 1) :: F) s → round Try.prog tab Skg80 ann_ref05_SameSteps J Try.f16 post 0 (n :: F) s) ∧ True) := by kernel_rfl
def J_ref05_SameSteps (l : List V3) (l2 : List V3) : Inv := fun b F s => match b, F with
 | 0, [nn0] => ∃ (v0_0 : Int), s = mk_ref05_SameSteps_0 l l2 v0_0 ∧ (l.length ≤ 1000000 ∧ 0 ≤ v0_0 ∧ v0_0 ≤ l.length ∧ (nn0 : Int) + v0_0 = l.length + 1 ∧ l.length = l2.length ∧ ∀ j : Nat, (j : Int) < v0_0 → plAt l j = plAt l2 j)
 | _, _ => False
theorem rnd_ref05_SameSteps_0 (l : List V3) (l2 : List V3) (v0_0 : Int) (nn0 : Nat) (hp : (l).length ≤ 1000000) (hi : l.length ≤ 1000000 ∧ 0 ≤ v0_0 ∧ v0_0 ≤ l.length ∧ ((nn0 + 1) : Int) + v0_0 = l.length + 1 ∧ l.length = l2.length ∧ ∀ j : Nat, (j : Int) < v0_0 → plAt l j = plAt l2 j) : rd_ref05_SameSteps_0 (J_ref05_SameSteps l l2) l l2 v0_0 nn0 (fun r => LeD r (.t (.c (.v (.bool (decide (l = l2))))))) := by
 obtain ⟨i0, i1, i2, i3, i4, i5⟩ := hi
 obtain ⟨k, rfl⟩ : ∃ k : Nat, v0_0 = k := ⟨v0_0.toNat, by omega⟩
 have hk : (k : Int).toNat = k := rfl
 unfold rd_ref05_SameSteps_0
 rw [hk]
 refine cond_i (fun h => ?_) (fun h => leB ?_)
 ·have hlt : k < l.length := by have := of_decide_eq_true h; omega
  refine ⟨by omega, by omega, cond_i (fun e => leB ?_) (fun e => lt_i fun x hx => ?_)⟩
  ·refine (decide_eq_false fun q => ?_).symm
   rw [q] at e
   simp at e
  ·have e : plAt l k = plAt l2 k := by
    rw [v3_ext]
    simpa [Bool.cond_eq_ite, and_assoc] using e
   rw [IntWalk.i64_in _ (by omega)] at hx
   subst hx
   exact ⟨_, rfl, i0, by omega, by omega, by omega, i4, fun j hj => by
    by_cases q : j = k
    ·rw [q]; exact e
    ·exact i5 j (by omega)⟩
 ·have hge : k = l.length := by have := of_decide_eq_false h; omega
  refine (decide_eq_true (List.ext_getElem? fun i => ?_)).symm
  by_cases hi : i < l.length
  ·have := i5 i (by omega)
   unfold plAt at this
   simp only [List.getD, List.getElem?_eq_getElem hi, List.getElem?_eq_getElem (i4 ▸ hi), Option.getD_some] at this
   rw [List.getElem?_eq_getElem hi, List.getElem?_eq_getElem (i4 ▸ hi), this]
  ·rw [List.getElem?_eq_none (by omega), List.getElem?_eq_none (by omega)]
theorem zero_ref05_SameSteps_0 (l : List V3) (l2 : List V3) (v0_0 : Int)  (hi : l.length ≤ 1000000 ∧ 0 ≤ v0_0 ∧ v0_0 ≤ l.length ∧ (0 : Int) + v0_0 = l.length + 1 ∧ l.length = l2.length ∧ ∀ j : Nat, (j : Int) < v0_0 → plAt l j = plAt l2 j) : False := by
 omega
theorem spec_ref05_SameSteps (l : List V3) (l2 : List V3) (hp : (l).length ≤ 1000000) : vc_ref05_SameSteps (J_ref05_SameSteps l l2) l l2 (fun r => LeD r (.t (.c (.v (.bool (decide (l = l2))))))) := by
  unfold vc_ref05_SameSteps
  refine cond_i (fun h => leB ?_) (fun h => ?_)
  · have h : l.length ≠ l2.length := by intro e; rw [e] at h; simp at h
    exact (decide_eq_false fun e => h (by rw [e])).symm
  · have h : l.length = l2.length := by have h : (l.length : Int) = l2.length := by simpa using h
                                        omega
    exact ⟨l.length + 1, 0, rfl, hp, by omega, by omega, by omega, h, fun j hj => by omega⟩
theorem all_ref05_SameSteps (l : List V3) (l2 : List V3) (hp : (l).length ≤ 1000000) : AllG (J_ref05_SameSteps l l2) (loopsFn Try.prog tab Skg80 ann_ref05_SameSteps (J_ref05_SameSteps l l2) Try.f16 (fun r => LeD r (.t (.c (.v (.bool (decide (l = l2)))))))) := by
 rw [lp_ref05_SameSteps]
 refine ⟨⟨?_, ?_⟩, trivial⟩
 ·intro F s h
  obtain _ | ⟨g, F⟩ := F
  case cons => exact h.elim
  obtain ⟨w0, rfl, hi⟩ := h
  exact zero_ref05_SameSteps_0 l l2 w0 hi
 ·intro n F s h
  obtain _ | ⟨g, F⟩ := F
  case cons => exact h.elim
  obtain ⟨w0, rfl, hi⟩ := h
  rw [er_ref05_SameSteps_0]
  exact rnd_ref05_SameSteps_0 l l2 _ _ hp hi
def con_ref05_SameSteps : Con := fun args => match args with
 | [.t (.c (.sl 3 n_l c_l)), .t (.c (.sl 3 n_l2 c_l2))] => some (.t (.c (.v (.bool (decide ((listC n_l mkPl c_l) = (listC n_l2 mkPl c_l2)))))), some (numsP 3 n_l c_l ∧ numsP 3 n_l2 c_l2 ∧ ((listC n_l mkPl c_l)).length ≤ 1000000), false)
 | _ => none
theorem ok_ref05_SameSteps : Ok Try.prog 16 con_ref05_SameSteps := by
 refine Ok.fn (ann := ann_ref05_SameSteps) mixed tabOK VSkg80 VIkv51 (fn := Try.f16) (by kernel_rfl) (by kernel_rfl) fit_ref05_SameSteps fun args r pre fresh h hp => ?_
 unfold con_ref05_SameSteps at h
 split at h
 ·rename_i n_l c_l n_l2 c_l2
  cases h
  obtain ⟨hp0, hp1, hp⟩ := hp
  refine ⟨rfl, J_ref05_SameSteps (listC n_l mkPl c_l) (listC n_l2 mkPl c_l2), [.t (.c (.sl 3 ((listC n_l mkPl c_l).length) (plsC (listC n_l mkPl c_l)))), .t (.c (.sl 3 ((listC n_l2 mkPl c_l2).length) (plsC (listC n_l2 mkPl c_l2))))], ?_, Nat.le_of_ble_eq_true (by kernel_rfl), ?_, ?_⟩
  ·exact (LeA_cons (leT_c ((leL_V3 hp0))) (LeA_cons (leT_c ((leL_V3 hp1))) LeA_nil))
  ·rw [ev_ref05_SameSteps]; exact spec_ref05_SameSteps (listC n_l mkPl c_l) (listC n_l2 mkPl c_l2) hp
  ·exact all_ref05_SameSteps (listC n_l mkPl c_l) (listC n_l2 mkPl c_l2) hp
 ·cases h
def Skg81 : Sum := addS Skg80 16 con_ref05_SameSteps
theorem VSkg81 : Valid Try.prog Skg81 := Valid.add VSkg80 ok_ref05_SameSteps
def vc_law05_small (b0 b1 b2 b3 b4 b5 : Int) (post : DV → Prop) : Prop := (cond ((((⟨⟨b0, b1, b2⟩, ⟨b3, b4, b5⟩⟩ : TBox)).err) != (0 : Int)) ((true = true) ∧ (True)) ((((⟨⟨b0, b1, b2⟩, ⟨b3, b4, b5⟩⟩ : TBox)).lo.inS 20 = true ∧ ((⟨⟨b0, b1, b2⟩, ⟨b3, b4, b5⟩⟩ : TBox)).hi.inS 20 = true) ∧ (True))) ∧ (lt ((bif ((((⟨⟨b0, b1, b2⟩, ⟨b3, b4, b5⟩⟩ : TBox)).err) != (0 : Int)) then true else decide ((((⟨⟨b0, b1, b2⟩, ⟨b3, b4, b5⟩⟩ : TBox)).count) ≤ (120 : Int)))) fun x1 => post (.t (.c (.v (.bool x1)))))
def ann_law05_small : Ann := ⟨fun _ => none, fun _ => none, fun _ => [], Ikv51, false, fun r => lookA r [(1, (4, [2]))], fun _ => none⟩
theorem ev_law05_small (J : Inv) (b0 b1 b2 b3 b4 b5 : Int) (post : DV → Prop) : evFn Try.prog tab Skg81 ann_law05_small J Try.f7 [.t (.a [.v (.int .i64 b0), .v (.int .i64 b1), .v (.int .i64 b2), .v (.int .i64 b3), .v (.int .i64 b4), .v (.int .i64 b5)])] post = vc_law05_small b0 b1 b2 b3 b4 b5 post := by kernel_rfl
theorem fit_law05_small : okFn ann_law05_small Try.f7 = true := by kernel_rfl
theorem lp_law05_small (J : Inv) (post : DV → Prop) : AllG J (loopsFn Try.prog tab Skg81 ann_law05_small J Try.f7 post) = (True) := by kernel_rfl
theorem spec_law05_small (b0 b1 b2 b3 b4 b5 : Int) : vc_law05_small b0 b1 b2 b3 b4 b5 (fun r => LeD r (.t (.c (.v (.bool (smallB (⟨⟨b0, b1, b2⟩, ⟨b3, b4, b5⟩⟩ : TBox))))))) := by
 unfold vc_law05_small
 refine ⟨cond_i (fun h => ⟨rfl, trivial⟩) (fun h => ⟨?_, trivial⟩), lt_i fun x hx => leB ?_⟩
 ·exact box_in (by simpa using h)
 ·rw [← hx]
  unfold smallB
  by_cases h : (⟨⟨b0, b1, b2⟩, ⟨b3, b4, b5⟩⟩ : TBox).err = 0
  ·simp [h]
  ·have h2 : ((⟨⟨b0, b1, b2⟩, ⟨b3, b4, b5⟩⟩ : TBox).err != (0 : Int)) = true := by simpa using h
   rw [h2]; simp [h]
def con_law05_small : Con := fun args => match args with
 | [.t (.a [.v (.int .i64 b0), .v (.int .i64 b1), .v (.int .i64 b2), .v (.int .i64 b3), .v (.int .i64 b4), .v (.int .i64 b5)])] => some (.t (.c (.v (.bool (smallB (⟨⟨b0, b1, b2⟩, ⟨b3, b4, b5⟩⟩ : TBox))))), none, false)
 | _ => none
theorem ok_law05_small : Ok Try.prog 7 con_law05_small := by
 refine Ok.fn (ann := ann_law05_small) mixed tabOK VSkg81 VIkv51 (fn := Try.f7) (by kernel_rfl) (by kernel_rfl) fit_law05_small fun args r pre fresh h hp => ?_
 unfold con_law05_small at h
 split at h
 ·rename_i b0 b1 b2 b3 b4 b5
  cases h
  refine ⟨rfl, fun _ _ _ => False, _, LeA.refl _, Nat.le_of_ble_eq_true (by kernel_rfl), ?_, ?_⟩
  ·rw [ev_law05_small]; exact spec_law05_small b0 b1 b2 b3 b4 b5
  ·rw [lp_law05_small]; trivial
 ·cases h
def Skg82 : Sum := addS Skg81 7 con_law05_small
theorem VSkg82 : Valid Try.prog Skg82 := Valid.add VSkg81 ok_law05_small
def vc_ref05_SearchErr (b0 b1 b2 b3 b4 b5 : Int) (l : List THit) (post : DV → Prop) : Prop := cond ((((⟨⟨b0, b1, b2⟩, ⟨b3, b4, b5⟩⟩ : TBox)).err) != (0 : Int)) (post (.t (.c (.v (.int .i64 (((⟨⟨b0, b1, b2⟩, ⟨b3, b4, b5⟩⟩ : TBox)).err)))))) ((numsP 5 l.length (hitsC l)) ∧ (post (.t (.c (.v (.int .i64 (hitsE (listC l.length mkHit (hitsC l)))))))))
def ann_ref05_SearchErr : Ann := ⟨fun _ => none, fun _ => none, fun _ => [], Ikv51, false, fun _ => none, fun _ => none⟩
theorem ev_ref05_SearchErr (J : Inv) (b0 b1 b2 b3 b4 b5 : Int) (l : List THit) (post : DV → Prop) : evFn Try.prog tab Skg82 ann_ref05_SearchErr J Try.f13 [.t (.a [.v (.int .i64 b0), .v (.int .i64 b1), .v (.int .i64 b2), .v (.int .i64 b3), .v (.int .i64 b4), .v (.int .i64 b5), .sl 5 l.length (hitsC l)])] post = vc_ref05_SearchErr b0 b1 b2 b3 b4 b5 l post := by kernel_rfl
theorem fit_ref05_SearchErr : okFn ann_ref05_SearchErr Try.f13 = true := by kernel_rfl
theorem lp_ref05_SearchErr (J : Inv) (post : DV → Prop) : AllG J (loopsFn Try.prog tab Skg82 ann_ref05_SearchErr J Try.f13 post) = (True) := by kernel_rfl
theorem spec_ref05_SearchErr (b0 b1 b2 b3 b4 b5 : Int) (l : List THit) : vc_ref05_SearchErr b0 b1 b2 b3 b4 b5 l (fun r => LeD r (.t (.c (.v (.int .i64 (firstNZ [((⟨⟨b0, b1, b2⟩, ⟨b3, b4, b5⟩⟩ : TBox)).err, hitsE l])))))) := by
 unfold vc_ref05_SearchErr
 rw [hits_listC]
 refine cond_i (fun h => leI ?_) (fun h => ⟨numsP_hits l, leI ?_⟩) <;> simp_all [firstNZ]
def con_ref05_SearchErr : Con := fun args => match args with
 | [.t (.a [.v (.int .i64 b0), .v (.int .i64 b1), .v (.int .i64 b2), .v (.int .i64 b3), .v (.int .i64 b4), .v (.int .i64 b5), .sl 5 n_l c_l])] => some (.t (.c (.v (.int .i64 (firstNZ [((⟨⟨b0, b1, b2⟩, ⟨b3, b4, b5⟩⟩ : TBox)).err, hitsE (listC n_l mkHit c_l)])))), some (numsP 5 n_l c_l), false)
 | _ => none
theorem ok_ref05_SearchErr : Ok Try.prog 13 con_ref05_SearchErr := by
 refine Ok.fn (ann := ann_ref05_SearchErr) mixed tabOK VSkg82 VIkv51 (fn := Try.f13) (by kernel_rfl) (by kernel_rfl) fit_ref05_SearchErr fun args r pre fresh h hp => ?_
 unfold con_ref05_SearchErr at h
 split at h
 ·rename_i b0 b1 b2 b3 b4 b5 n_l c_l
  cases h
  have hp0 := hp
  refine ⟨rfl, fun _ _ _ => False, [.t (.a [.v (.int .i64 b0), .v (.int .i64 b1), .v (.int .i64 b2), .v (.int .i64 b3), .v (.int .i64 b4), .v (.int .i64 b5), .sl 5 ((listC n_l mkHit c_l).length) (hitsC (listC n_l mkHit c_l))])], ?_, Nat.le_of_ble_eq_true (by kernel_rfl), ?_, ?_⟩
  ·exact (LeA_cons (leT_a (LeCs.cons (LeC1.refl _) (LeCs.cons (LeC1.refl _) (LeCs.cons (LeC1.refl _) (LeCs.cons (LeC1.refl _) (LeCs.cons (LeC1.refl _) (LeCs.cons (LeC1.refl _) (LeCs.cons ((leL_THit hp0)) LeCs.nil)))))))) LeA_nil)
  ·rw [ev_ref05_SearchErr]; exact spec_ref05_SearchErr b0 b1 b2 b3 b4 b5 (listC n_l mkHit c_l)
  ·rw [lp_ref05_SearchErr]; trivial
 ·cases h
def Skg83 : Sum := addS Skg82 13 con_ref05_SearchErr
theorem VSkg83 : Valid Try.prog Skg83 := Valid.add VSkg82 ok_ref05_SearchErr
def vc_ref05_CopySearch (b0 b1 b2 b3 b4 b5 : Int) (l : List THit) (post : DV → Prop) : Prop := (numsP 5 l.length (hitsC l) ∧ ((listC l.length mkHit (hitsC l))).length ≤ 1000000) ∧ (post (.t (.a [.v (.int .i64 b0), .v (.int .i64 b1), .v (.int .i64 b2), .v (.int .i64 b3), .v (.int .i64 b4), .v (.int .i64 b5), .sl 5 ((listC l.length mkHit (hitsC l)).length) (hitsC (listC l.length mkHit (hitsC l)))])))
def ann_ref05_CopySearch : Ann := ⟨fun r => lookA r [(1, ([[], [0], [], [2], [2, 3], [0, 1, 2, 3, 4], [0, 1, 2, 3, 4, 5]], [[7], [7], [7], [7], [], [], []]))], fun _ => none, fun _ => [], Ikv51, false, fun _ => none, fun _ => none⟩
theorem ev_ref05_CopySearch (J : Inv) (b0 b1 b2 b3 b4 b5 : Int) (l : List THit) (post : DV → Prop) : evFn Try.prog tab Skg83 ann_ref05_CopySearch J Try.f11 [.t (.a [.v (.int .i64 b0), .v (.int .i64 b1), .v (.int .i64 b2), .v (.int .i64 b3), .v (.int .i64 b4), .v (.int .i64 b5), .sl 5 l.length (hitsC l)])] post = vc_ref05_CopySearch b0 b1 b2 b3 b4 b5 l post := by kernel_rfl
theorem fit_ref05_CopySearch : okFn ann_ref05_CopySearch Try.f11 = true := by kernel_rfl
theorem lp_ref05_CopySearch (J : Inv) (post : DV → Prop) : AllG J (loopsFn Try.prog tab Skg83 ann_ref05_CopySearch J Try.f11 post) = (True) := by kernel_rfl
theorem spec_ref05_CopySearch (b0 b1 b2 b3 b4 b5 : Int) (l : List THit) (hp : (l).length ≤ 1000000) : vc_ref05_CopySearch b0 b1 b2 b3 b4 b5 l (fun r => LeD r (.t (.a [.v (.int .i64 b0), .v (.int .i64 b1), .v (.int .i64 b2), .v (.int .i64 b3), .v (.int .i64 b4), .v (.int .i64 b5), .sl 5 l.length (hitsC l)]))) := by
 unfold vc_ref05_CopySearch
 rw [hits_listC]
 exact ⟨⟨numsP_hits l, hp⟩, LeD.refl _⟩
def con_ref05_CopySearch : Con := fun args => match args with
 | [.t (.a [.v (.int .i64 b0), .v (.int .i64 b1), .v (.int .i64 b2), .v (.int .i64 b3), .v (.int .i64 b4), .v (.int .i64 b5), .sl 5 n_l c_l])] => some (.t (.a [.v (.int .i64 b0), .v (.int .i64 b1), .v (.int .i64 b2), .v (.int .i64 b3), .v (.int .i64 b4), .v (.int .i64 b5), .sl 5 ((listC n_l mkHit c_l).length) (hitsC (listC n_l mkHit c_l))]), some (numsP 5 n_l c_l ∧ ((listC n_l mkHit c_l)).length ≤ 1000000), false)
 | _ => none
theorem ok_ref05_CopySearch : Ok Try.prog 11 con_ref05_CopySearch := by
 refine Ok.fn (ann := ann_ref05_CopySearch) mixed tabOK VSkg83 VIkv51 (fn := Try.f11) (by kernel_rfl) (by kernel_rfl) fit_ref05_CopySearch fun args r pre fresh h hp => ?_
 unfold con_ref05_CopySearch at h
 split at h
 ·rename_i b0 b1 b2 b3 b4 b5 n_l c_l
  cases h
  obtain ⟨hp0, hp⟩ := hp
  refine ⟨rfl, fun _ _ _ => False, [.t (.a [.v (.int .i64 b0), .v (.int .i64 b1), .v (.int .i64 b2), .v (.int .i64 b3), .v (.int .i64 b4), .v (.int .i64 b5), .sl 5 ((listC n_l mkHit c_l).length) (hitsC (listC n_l mkHit c_l))])], ?_, Nat.le_of_ble_eq_true (by kernel_rfl), ?_, ?_⟩
  ·exact (LeA_cons (leT_a (LeCs.cons (LeC1.refl _) (LeCs.cons (LeC1.refl _) (LeCs.cons (LeC1.refl _) (LeCs.cons (LeC1.refl _) (LeCs.cons (LeC1.refl _) (LeCs.cons (LeC1.refl _) (LeCs.cons ((leL_THit hp0)) LeCs.nil)))))))) LeA_nil)
  ·rw [ev_ref05_CopySearch]; exact spec_ref05_CopySearch b0 b1 b2 b3 b4 b5 (listC n_l mkHit c_l) hp
  ·rw [lp_ref05_CopySearch]; trivial
 ·cases h
def Skg84 : Sum := addS Skg83 11 con_ref05_CopySearch
theorem VSkg84 : Valid Try.prog Skg84 := Valid.add VSkg83 ok_ref05_CopySearch
def mk_ref05_Best_0 (m0 m1 m2 m3 m4 m5 m6 m7 m8 m9 m10 m11 : Int) (b0 b1 b2 b3 b4 b5 : Int) (l : List THit) (v0_0 : Int) (v0_1 : Int) (v0_2 : Int) (v0_3 : Int) (v0_4 : Int) : DS := ⟨[none, none, some (.t (.c (.sl 5 l.length (hitsC l)))), some (.t (.c (.p 3 0))), none, none, some (.t (.c (.p 6 0))), none, none, some (.t (.c (.sl 3 ((((⟨m0, m1, m2, m3, m4, m5, m6, m7, m8, m9, m10, m11⟩ : TMod)).steps (⟨⟨b0, b1, b2⟩, ⟨b3, b4, b5⟩⟩ : TBox)).length) (plsC (((⟨m0, m1, m2, m3, m4, m5, m6, m7, m8, m9, m10, m11⟩ : TMod)).steps (⟨⟨b0, b1, b2⟩, ⟨b3, b4, b5⟩⟩ : TBox)))))), some (.t (.c (.p 10 0))), some (.t (.c (.v (.int .i64 v0_3)))), some (.t (.c (.v (.int .i64 v0_4)))), none, none, none, none, none, none, none, none, none, none, none, none, none, none, none, none, none, none, none, none, none, none, none, none, none, none, none, none, none, none, none, none, none, none, none, none, none, none, none, none], [none, none, none, some (.box 26 [.v (.int .i64 m0), .v (.int .i64 m1), .v (.int .i64 m2), .v (.int .i64 m3), .v (.int .i64 m4), .v (.int .i64 m5), .v (.int .i64 m6), .v (.int .i64 m7), .v (.int .i64 m8), .v (.int .i64 m9), .v (.int .i64 m10), .v (.int .i64 m11)]), none, none, some (.box 22 [.v (.int .i64 0), .v (.int .i64 0), .v (.int .i64 0)]), none, none, none, some (.box 22 [.v (.int .i64 v0_0), .v (.int .i64 v0_1), .v (.int .i64 v0_2)]), none, none, none, none, none, none, none, none, none, none, none, none, none, none, none, none, none, none, none, none, none, none, none, none, none, none, none, none, none, none, none, none, none, none, none, none, none, none, none, none, none, none]⟩
def vc_ref05_Best (J : Inv) (m0 m1 m2 m3 m4 m5 m6 m7 m8 m9 m10 m11 : Int) (b0 b1 b2 b3 b4 b5 : Int) (l : List THit) (post : DV → Prop) : Prop := (((⟨⟨b0, b1, b2⟩, ⟨b3, b4, b5⟩⟩ : TBox)).lo.inS 20 = true ∧ ((⟨⟨b0, b1, b2⟩, ⟨b3, b4, b5⟩⟩ : TBox)).hi.inS 20 = true ∧ ((⟨⟨b0, b1, b2⟩, ⟨b3, b4, b5⟩⟩ : TBox)).ok) ∧ (cond ((((((⟨m0, m1, m2, m3, m4, m5, m6, m7, m8, m9, m10, m11⟩ : TMod)).steps (⟨⟨b0, b1, b2⟩, ⟨b3, b4, b5⟩⟩ : TBox)).length : Nat) : Int) == (0 : Int)) (post (.tu [.a [.v (.int .i64 0), .v (.int .i64 0), .v (.int .i64 0)], .c (.v (.int .i64 0)), .c (.v (.bool false))])) ((0 ≤ (0 : Int) ∧ (0 : Int) < (((((⟨m0, m1, m2, m3, m4, m5, m6, m7, m8, m9, m10, m11⟩ : TMod)).steps (⟨⟨b0, b1, b2⟩, ⟨b3, b4, b5⟩⟩ : TBox)).length : Nat) : Int)) ∧ ((0 ≤ (0 : Int) ∧ (0 : Int) < (((((⟨m0, m1, m2, m3, m4, m5, m6, m7, m8, m9, m10, m11⟩ : TMod)).steps (⟨⟨b0, b1, b2⟩, ⟨b3, b4, b5⟩⟩ : TBox)).length : Nat) : Int)) ∧ ((numsP 5 l.length (hitsC l) ∧ ((listC l.length mkHit (hitsC l))).length ≤ 12 ∧ (∀ i, i < ((listC l.length mkHit (hitsC l))).length → (hitAt (listC l.length mkHit (hitsC l)) i).Ok) ∧ ((⟨m0, m1, m2, m3, m4, m5, m6, m7, m8, m9, m10, m11⟩ : TMod)).Ok ∧ ((plAt (((⟨m0, m1, m2, m3, m4, m5, m6, m7, m8, m9, m10, m11⟩ : TMod)).steps (⟨⟨b0, b1, b2⟩, ⟨b3, b4, b5⟩⟩ : TBox)) 0)).inS 20 = true ∧ ((⟨m0, m1, m2, m3, m4, m5, m6, m7, m8, m9, m10, m11⟩ : TMod)).permit (plAt (((⟨m0, m1, m2, m3, m4, m5, m6, m7, m8, m9, m10, m11⟩ : TMod)).steps (⟨⟨b0, b1, b2⟩, ⟨b3, b4, b5⟩⟩ : TBox)) 0)) ∧ (∃ n, J 0 (n :: []) (mk_ref05_Best_0 m0 m1 m2 m3 m4 m5 m6 m7 m8 m9 m10 m11 b0 b1 b2 b3 b4 b5 l ((plAt (((⟨m0, m1, m2, m3, m4, m5, m6, m7, m8, m9, m10, m11⟩ : TMod)).steps (⟨⟨b0, b1, b2⟩, ⟨b3, b4, b5⟩⟩ : TBox)) 0).x) ((plAt (((⟨m0, m1, m2, m3, m4, m5, m6, m7, m8, m9, m10, m11⟩ : TMod)).steps (⟨⟨b0, b1, b2⟩, ⟨b3, b4, b5⟩⟩ : TBox)) 0).y) ((plAt (((⟨m0, m1, m2, m3, m4, m5, m6, m7, m8, m9, m10, m11⟩ : TMod)).steps (⟨⟨b0, b1, b2⟩, ⟨b3, b4, b5⟩⟩ : TBox)) 0).z) (((⟨m0, m1, m2, m3, m4, m5, m6, m7, m8, m9, m10, m11⟩ : TMod)).score (plAt (((⟨m0, m1, m2, m3, m4, m5, m6, m7, m8, m9, m10, m11⟩ : TMod)).steps (⟨⟨b0, b1, b2⟩, ⟨b3, b4, b5⟩⟩ : TBox)) 0) (listC l.length mkHit (hitsC l))) 1))))))
def ann_ref05_Best : Ann := ⟨fun r => lookA r [(4, ([[], [0], [0, 1], [], [], [4], [4, 5], [], [3, 4, 5, 6, 7], [], [0, 1, 2, 3, 4, 5, 6, 7, 8, 9], [0, 1, 2, 3, 4, 5, 6, 7, 8, 9, 10]], [[29, 10], [29, 10], [29, 10], [29, 10], [29, 10], [29, 10], [29, 10], [29, 10], [10], [29], [], []])), (8, ([[], [], [], [1, 2], [1, 2, 3], [], [0, 1, 2, 3, 4, 5], [0, 1, 2, 3, 4, 5, 6]], [[42], [42], [42], [42], [42], [42], [], []]))], fun b => lookA b [(0, (none, some ⟨[2, 3, 6, 9, 10, 11, 12], [3, 6, 10], []⟩))], fun _ => [], Ikv51, false, fun _ => none, fun _ => none⟩
theorem ev_ref05_Best (J : Inv) (m0 m1 m2 m3 m4 m5 m6 m7 m8 m9 m10 m11 : Int) (b0 b1 b2 b3 b4 b5 : Int) (l : List THit) (post : DV → Prop) : evFn Try.prog tab Skg84 ann_ref05_Best J Try.f14 [.t (.a [.v (.int .i64 m0), .v (.int .i64 m1), .v (.int .i64 m2), .v (.int .i64 m3), .v (.int .i64 m4), .v (.int .i64 m5), .v (.int .i64 m6), .v (.int .i64 m7), .v (.int .i64 m8), .v (.int .i64 m9), .v (.int .i64 m10), .v (.int .i64 m11)]), .t (.a [.v (.int .i64 b0), .v (.int .i64 b1), .v (.int .i64 b2), .v (.int .i64 b3), .v (.int .i64 b4), .v (.int .i64 b5)]), .t (.c (.sl 5 l.length (hitsC l)))] post = vc_ref05_Best J m0 m1 m2 m3 m4 m5 m6 m7 m8 m9 m10 m11 b0 b1 b2 b3 b4 b5 l post := by kernel_rfl
theorem fit_ref05_Best : okFn ann_ref05_Best Try.f14 = true := by kernel_rfl
def rd_ref05_Best_0 (J : Inv) (m0 m1 m2 m3 m4 m5 m6 m7 m8 m9 m10 m11 : Int) (b0 b1 b2 b3 b4 b5 : Int) (l : List THit) (v0_0 : Int) (v0_1 : Int) (v0_2 : Int) (v0_3 : Int) (v0_4 : Int) (nn0 : Nat) (post : DV → Prop) : Prop := cond (decide (v0_4 < (((((⟨m0, m1, m2, m3, m4, m5, m6, m7, m8, m9, m10, m11⟩ : TMod)).steps (⟨⟨b0, b1, b2⟩, ⟨b3, b4, b5⟩⟩ : TBox)).length : Nat) : Int))) ((0 ≤ v0_4 ∧ v0_4 < (((((⟨m0, m1, m2, m3, m4, m5, m6, m7, m8, m9, m10, m11⟩ : TMod)).steps (⟨⟨b0, b1, b2⟩, ⟨b3, b4, b5⟩⟩ : TBox)).length : Nat) : Int)) ∧ ((numsP 5 l.length (hitsC l) ∧ ((listC l.length mkHit (hitsC l))).length ≤ 12 ∧ (∀ i, i < ((listC l.length mkHit (hitsC l))).length → (hitAt (listC l.length mkHit (hitsC l)) i).Ok) ∧ ((⟨m0, m1, m2, m3, m4, m5, m6, m7, m8, m9, m10, m11⟩ : TMod)).Ok ∧ ((plAt (((⟨m0, m1, m2, m3, m4, m5, m6, m7, m8, m9, m10, m11⟩ : TMod)).steps (⟨⟨b0, b1, b2⟩, ⟨b3, b4, b5⟩⟩ : TBox)) v0_4.toNat)).inS 20 = true ∧ ((⟨m0, m1, m2, m3, m4, m5, m6, m7, m8, m9, m10, m11⟩ : TMod)).permit (plAt (((⟨m0, m1, m2, m3, m4, m5, m6, m7, m8, m9, m10, m11⟩ : TMod)).steps (⟨⟨b0, b1, b2⟩, ⟨b3, b4, b5⟩⟩ : TBox)) v0_4.toNat)) ∧ (cond (decide ((((⟨m0, m1, m2, m3, m4, m5, m6, m7, m8, m9, m10, m11⟩ : TMod)).score (plAt (((⟨m0, m1, m2, m3, m4, m5, m6, m7, m8, m9, m10, m11⟩ : TMod)).steps (⟨⟨b0, b1, b2⟩, ⟨b3, b4, b5⟩⟩ : TBox)) v0_4.toNat) (listC l.length mkHit (hitsC l))) < v0_3)) ((0 ≤ v0_4 ∧ v0_4 < (((((⟨m0, m1, m2, m3, m4, m5, m6, m7, m8, m9, m10, m11⟩ : TMod)).steps (⟨⟨b0, b1, b2⟩, ⟨b3, b4, b5⟩⟩ : TBox)).length : Nat) : Int)) ∧ (lt (IntKind.i64.wrap (v0_4 + (1 : Int))) fun x1 => J 0 (nn0 :: []) (mk_ref05_Best_0 m0 m1 m2 m3 m4 m5 m6 m7 m8 m9 m10 m11 b0 b1 b2 b3 b4 b5 l ((plAt (((⟨m0, m1, m2, m3, m4, m5, m6, m7, m8, m9, m10, m11⟩ : TMod)).steps (⟨⟨b0, b1, b2⟩, ⟨b3, b4, b5⟩⟩ : TBox)) v0_4.toNat).x) ((plAt (((⟨m0, m1, m2, m3, m4, m5, m6, m7, m8, m9, m10, m11⟩ : TMod)).steps (⟨⟨b0, b1, b2⟩, ⟨b3, b4, b5⟩⟩ : TBox)) v0_4.toNat).y) ((plAt (((⟨m0, m1, m2, m3, m4, m5, m6, m7, m8, m9, m10, m11⟩ : TMod)).steps (⟨⟨b0, b1, b2⟩, ⟨b3, b4, b5⟩⟩ : TBox)) v0_4.toNat).z) (((⟨m0, m1, m2, m3, m4, m5, m6, m7, m8, m9, m10, m11⟩ : TMod)).score (plAt (((⟨m0, m1, m2, m3, m4, m5, m6, m7, m8, m9, m10, m11⟩ : TMod)).steps (⟨⟨b0, b1, b2⟩, ⟨b3, b4, b5⟩⟩ : TBox)) v0_4.toNat) (listC l.length mkHit (hitsC l))) x1))) (lt (IntKind.i64.wrap (v0_4 + (1 : Int))) fun x2 => J 0 (nn0 :: []) (mk_ref05_Best_0 m0 m1 m2 m3 m4 m5 m6 m7 m8 m9 m10 m11 b0 b1 b2 b3 b4 b5 l v0_0 v0_1 v0_2 v0_3 x2))))) (post (.tu [.a [.v (.int .i64 v0_0), .v (.int .i64 v0_1), .v (.int .i64 v0_2)], .c (.v (.int .i64 v0_3)), .c (.v (.bool true))]))
theorem er_ref05_Best_0 (J : Inv) (m0 m1 m2 m3 m4 m5 m6 m7 m8 m9 m10 m11 : Int) (b0 b1 b2 b3 b4 b5 : Int) (l : List THit) (v0_0 : Int) (v0_1 : Int) (v0_2 : Int) (v0_3 : Int) (v0_4 : Int) (nn0 : Nat) (post : DV → Prop) : round Try.prog tab Skg84 ann_ref05_Best J Try.f14 post 0 (nn0 :: []) (mk_ref05_Best_0 m0 m1 m2 m3 m4 m5 m6 m7 m8 m9 m10 m11 b0 b1 b2 b3 b4 b5 l v0_0 v0_1 v0_2 v0_3 v0_4) = rd_ref05_Best_0 J m0 m1 m2 m3 m4 m5 m6 m7 m8 m9 m10 m11 b0 b1 b2 b3 b4 b5 l v0_0 v0_1 v0_2 v0_3 v0_4 nn0 post := by kernel_rfl
theorem lp_ref05_Best (J : Inv) (post : DV → Prop) : AllG J (loopsFn Try.prog tab Skg84 ann_ref05_Best J Try.f14 post) = (((∀ F s, ¬ J 0 (0 :: F) s) ∧ ∀ n F s, J 0 ((n + 1) :: F) s → round Try.prog tab Skg84 ann_ref05_Best J Try.f14 post 0 (n :: F) s) ∧ True) := by kernel_rfl
def J_ref05_Best (m0 m1 m2 m3 m4 m5 m6 m7 m8 m9 m10 m11 : Int) (b0 b1 b2 b3 b4 b5 : Int) (l : List THit) : Inv := fun b F s => match b, F with
 | 0, [nn0] => ∃ (v0_0 : Int) (v0_1 : Int) (v0_2 : Int) (v0_3 : Int) (v0_4 : Int), s = mk_ref05_Best_0 m0 m1 m2 m3 m4 m5 m6 m7 m8 m9 m10 m11 b0 b1 b2 b3 b4 b5 l v0_0 v0_1 v0_2 v0_3 v0_4 ∧ (1 ≤ v0_4 ∧ v0_4 ≤ ((⟨m0, m1, m2, m3, m4, m5, m6, m7, m8, m9, m10, m11⟩ : TMod).steps (⟨⟨b0, b1, b2⟩, ⟨b3, b4, b5⟩⟩ : TBox)).length ∧ (nn0 : Int) + v0_4 = ((⟨m0, m1, m2, m3, m4, m5, m6, m7, m8, m9, m10, m11⟩ : TMod).steps (⟨⟨b0, b1, b2⟩, ⟨b3, b4, b5⟩⟩ : TBox)).length + 1 ∧ (⟨m0, m1, m2, m3, m4, m5, m6, m7, m8, m9, m10, m11⟩ : TMod).bestF l (((⟨m0, m1, m2, m3, m4, m5, m6, m7, m8, m9, m10, m11⟩ : TMod).steps (⟨⟨b0, b1, b2⟩, ⟨b3, b4, b5⟩⟩ : TBox)).take v0_4.toNat) = some ⟨v0_0, v0_1, v0_2⟩ ∧ v0_3 = (⟨m0, m1, m2, m3, m4, m5, m6, m7, m8, m9, m10, m11⟩ : TMod).score ⟨v0_0, v0_1, v0_2⟩ l)
 | _, _ => False
set_option maxHeartbeats 8000000 in
set_option maxRecDepth 100000 in
theorem rnd_ref05_Best_0 (m0 m1 m2 m3 m4 m5 m6 m7 m8 m9 m10 m11 : Int) (b0 b1 b2 b3 b4 b5 : Int) (l : List THit) (v0_0 : Int) (v0_1 : Int) (v0_2 : Int) (v0_3 : Int) (v0_4 : Int) (nn0 : Nat) (hp : ((⟨m0, m1, m2, m3, m4, m5, m6, m7, m8, m9, m10, m11⟩ : TMod)).err = 0 ∧ ((⟨⟨b0, b1, b2⟩, ⟨b3, b4, b5⟩⟩ : TBox)).err = 0 ∧ hitsE l = 0) (hi : 1 ≤ v0_4 ∧ v0_4 ≤ ((⟨m0, m1, m2, m3, m4, m5, m6, m7, m8, m9, m10, m11⟩ : TMod).steps (⟨⟨b0, b1, b2⟩, ⟨b3, b4, b5⟩⟩ : TBox)).length ∧ ((nn0 + 1) : Int) + v0_4 = ((⟨m0, m1, m2, m3, m4, m5, m6, m7, m8, m9, m10, m11⟩ : TMod).steps (⟨⟨b0, b1, b2⟩, ⟨b3, b4, b5⟩⟩ : TBox)).length + 1 ∧ (⟨m0, m1, m2, m3, m4, m5, m6, m7, m8, m9, m10, m11⟩ : TMod).bestF l (((⟨m0, m1, m2, m3, m4, m5, m6, m7, m8, m9, m10, m11⟩ : TMod).steps (⟨⟨b0, b1, b2⟩, ⟨b3, b4, b5⟩⟩ : TBox)).take v0_4.toNat) = some ⟨v0_0, v0_1, v0_2⟩ ∧ v0_3 = (⟨m0, m1, m2, m3, m4, m5, m6, m7, m8, m9, m10, m11⟩ : TMod).score ⟨v0_0, v0_1, v0_2⟩ l) : rd_ref05_Best_0 (J_ref05_Best m0 m1 m2 m3 m4 m5 m6 m7 m8 m9 m10 m11 b0 b1 b2 b3 b4 b5 l) m0 m1 m2 m3 m4 m5 m6 m7 m8 m9 m10 m11 b0 b1 b2 b3 b4 b5 l v0_0 v0_1 v0_2 v0_3 v0_4 nn0 (fun r => LeD r (.tu [.a [.v (.int .i64 ((bestV (⟨m0, m1, m2, m3, m4, m5, m6, m7, m8, m9, m10, m11⟩ : TMod) (⟨⟨b0, b1, b2⟩, ⟨b3, b4, b5⟩⟩ : TBox) l).x)), .v (.int .i64 ((bestV (⟨m0, m1, m2, m3, m4, m5, m6, m7, m8, m9, m10, m11⟩ : TMod) (⟨⟨b0, b1, b2⟩, ⟨b3, b4, b5⟩⟩ : TBox) l).y)), .v (.int .i64 ((bestV (⟨m0, m1, m2, m3, m4, m5, m6, m7, m8, m9, m10, m11⟩ : TMod) (⟨⟨b0, b1, b2⟩, ⟨b3, b4, b5⟩⟩ : TBox) l).z))], .c (.v (.int .i64 (bestS (⟨m0, m1, m2, m3, m4, m5, m6, m7, m8, m9, m10, m11⟩ : TMod) (⟨⟨b0, b1, b2⟩, ⟨b3, b4, b5⟩⟩ : TBox) l))), .c (.v (.bool (decide (((⟨m0, m1, m2, m3, m4, m5, m6, m7, m8, m9, m10, m11⟩ : TMod)).steps (⟨⟨b0, b1, b2⟩, ⟨b3, b4, b5⟩⟩ : TBox) ≠ []))))])) := by
 obtain ⟨i1, i2, i3, i4, i5⟩ := hi
 obtain ⟨hm, hb, hh⟩ := hp
 obtain ⟨q6, q7⟩ := hitsE_ok hh
 obtain ⟨k, rfl⟩ : ∃ k : Nat, v0_4 = k := ⟨v0_4.toNat, by omega⟩
 have hk : (k : Int).toNat = k := rfl
 rw [hk] at i4
 have hl := steps_len (m := (⟨m0, m1, m2, m3, m4, m5, m6, m7, m8, m9, m10, m11⟩ : TMod)) hb
 unfold rd_ref05_Best_0
 rw [hk]
 simp only [hits_listC]
 refine cond_i (fun h => ?_) (fun h => ?_)
 ·have hlt : k < ((⟨m0, m1, m2, m3, m4, m5, m6, m7, m8, m9, m10, m11⟩ : TMod).steps (⟨⟨b0, b1, b2⟩, ⟨b3, b4, b5⟩⟩ : TBox)).length := by have := of_decide_eq_true h; omega
  have hs := steps_ok (m := (⟨m0, m1, m2, m3, m4, m5, m6, m7, m8, m9, m10, m11⟩ : TMod)) hb (plAt_in hlt)
  have hn := best_take i4 hlt
  have hnx : ∀ x, IntKind.i64.wrap ((k : Int) + 1) = x → x = (k : Int) + 1 := fun x hx => by rw [← hx]; exact IntWalk.i64_in _ (by omega)
  refine ⟨by omega, ⟨numsP_hits l, q6, q7, err_ok hm, hs.1, hs.2⟩, cond_i (fun e => ⟨by omega, lt_i fun x hx => ?_⟩) (fun e => lt_i fun x hx => ?_)⟩
  ·have e := of_decide_eq_true e
   rw [hnx x hx]
   refine ⟨_, _, _, _, _, rfl, by omega, by omega, by omega, ?_, rfl⟩
   rw [show ((k : Int) + 1).toNat = k + 1 by omega, hn, if_pos (by rw [← i5]; exact e)]
  ·have e := of_decide_eq_false e
   rw [hnx x hx]
   refine ⟨_, _, _, _, _, rfl, by omega, by omega, by omega, ?_, i5⟩
   rw [show ((k : Int) + 1).toNat = k + 1 by omega, hn, if_neg (by rw [← i5]; exact e)]
 ·have hge : k = ((⟨m0, m1, m2, m3, m4, m5, m6, m7, m8, m9, m10, m11⟩ : TMod).steps (⟨⟨b0, b1, b2⟩, ⟨b3, b4, b5⟩⟩ : TBox)).length := by have := of_decide_eq_false h; omega
  have hne : (⟨m0, m1, m2, m3, m4, m5, m6, m7, m8, m9, m10, m11⟩ : TMod).steps (⟨⟨b0, b1, b2⟩, ⟨b3, b4, b5⟩⟩ : TBox) ≠ [] := by intro e; rw [e] at hge; simp at hge; omega
  rw [hge, List.take_length] at i4
  unfold bestV bestS
  rw [i4, decide_eq_true hne, i5]
  exact LeD.refl _
theorem zero_ref05_Best_0 (m0 m1 m2 m3 m4 m5 m6 m7 m8 m9 m10 m11 : Int) (b0 b1 b2 b3 b4 b5 : Int) (l : List THit) (v0_0 : Int) (v0_1 : Int) (v0_2 : Int) (v0_3 : Int) (v0_4 : Int)  (hi : 1 ≤ v0_4 ∧ v0_4 ≤ ((⟨m0, m1, m2, m3, m4, m5, m6, m7, m8, m9, m10, m11⟩ : TMod).steps (⟨⟨b0, b1, b2⟩, ⟨b3, b4, b5⟩⟩ : TBox)).length ∧ (0 : Int) + v0_4 = ((⟨m0, m1, m2, m3, m4, m5, m6, m7, m8, m9, m10, m11⟩ : TMod).steps (⟨⟨b0, b1, b2⟩, ⟨b3, b4, b5⟩⟩ : TBox)).length + 1 ∧ (⟨m0, m1, m2, m3, m4, m5, m6, m7, m8, m9, m10, m11⟩ : TMod).bestF l (((⟨m0, m1, m2, m3, m4, m5, m6, m7, m8, m9, m10, m11⟩ : TMod).steps (⟨⟨b0, b1, b2⟩, ⟨b3, b4, b5⟩⟩ : TBox)).take v0_4.toNat) = some ⟨v0_0, v0_1, v0_2⟩ ∧ v0_3 = (⟨m0, m1, m2, m3, m4, m5, m6, m7, m8, m9, m10, m11⟩ : TMod).score ⟨v0_0, v0_1, v0_2⟩ l) : False := by
 omega
set_option maxHeartbeats 8000000 in
set_option maxRecDepth 100000 in
theorem spec_ref05_Best (m0 m1 m2 m3 m4 m5 m6 m7 m8 m9 m10 m11 : Int) (b0 b1 b2 b3 b4 b5 : Int) (l : List THit) (hp : ((⟨m0, m1, m2, m3, m4, m5, m6, m7, m8, m9, m10, m11⟩ : TMod)).err = 0 ∧ ((⟨⟨b0, b1, b2⟩, ⟨b3, b4, b5⟩⟩ : TBox)).err = 0 ∧ hitsE l = 0) : vc_ref05_Best (J_ref05_Best m0 m1 m2 m3 m4 m5 m6 m7 m8 m9 m10 m11 b0 b1 b2 b3 b4 b5 l) m0 m1 m2 m3 m4 m5 m6 m7 m8 m9 m10 m11 b0 b1 b2 b3 b4 b5 l (fun r => LeD r (.tu [.a [.v (.int .i64 ((bestV (⟨m0, m1, m2, m3, m4, m5, m6, m7, m8, m9, m10, m11⟩ : TMod) (⟨⟨b0, b1, b2⟩, ⟨b3, b4, b5⟩⟩ : TBox) l).x)), .v (.int .i64 ((bestV (⟨m0, m1, m2, m3, m4, m5, m6, m7, m8, m9, m10, m11⟩ : TMod) (⟨⟨b0, b1, b2⟩, ⟨b3, b4, b5⟩⟩ : TBox) l).y)), .v (.int .i64 ((bestV (⟨m0, m1, m2, m3, m4, m5, m6, m7, m8, m9, m10, m11⟩ : TMod) (⟨⟨b0, b1, b2⟩, ⟨b3, b4, b5⟩⟩ : TBox) l).z))], .c (.v (.int .i64 (bestS (⟨m0, m1, m2, m3, m4, m5, m6, m7, m8, m9, m10, m11⟩ : TMod) (⟨⟨b0, b1, b2⟩, ⟨b3, b4, b5⟩⟩ : TBox) l))), .c (.v (.bool (decide (((⟨m0, m1, m2, m3, m4, m5, m6, m7, m8, m9, m10, m11⟩ : TMod)).steps (⟨⟨b0, b1, b2⟩, ⟨b3, b4, b5⟩⟩ : TBox) ≠ []))))])) := by
 obtain ⟨hm, hb, hh⟩ := hp
 have hin := box_in hb
 obtain ⟨q6, q7⟩ := hitsE_ok hh
 unfold vc_ref05_Best
 simp only [hits_listC]
 refine ⟨⟨hin.1, hin.2, box_ok hb⟩, cond_i (fun h => ?_) (fun h => ?_)⟩
 ·have h : (⟨m0, m1, m2, m3, m4, m5, m6, m7, m8, m9, m10, m11⟩ : TMod).steps (⟨⟨b0, b1, b2⟩, ⟨b3, b4, b5⟩⟩ : TBox) = [] := by simpa using h
  unfold bestV bestS
  rw [h]
  exact LeD.refl _
 ·have h : 0 < ((⟨m0, m1, m2, m3, m4, m5, m6, m7, m8, m9, m10, m11⟩ : TMod).steps (⟨⟨b0, b1, b2⟩, ⟨b3, b4, b5⟩⟩ : TBox)).length := by
   rcases Nat.eq_zero_or_pos ((⟨m0, m1, m2, m3, m4, m5, m6, m7, m8, m9, m10, m11⟩ : TMod).steps (⟨⟨b0, b1, b2⟩, ⟨b3, b4, b5⟩⟩ : TBox)).length with e | e
   ·rw [e] at h; simp at h
   ·exact e
  have hs := steps_ok (m := (⟨m0, m1, m2, m3, m4, m5, m6, m7, m8, m9, m10, m11⟩ : TMod)) hb (plAt_in h)
  refine ⟨by omega, by omega, ⟨numsP_hits l, q6, q7, err_ok hm, hs.1, hs.2⟩, ((⟨m0, m1, m2, m3, m4, m5, m6, m7, m8, m9, m10, m11⟩ : TMod).steps (⟨⟨b0, b1, b2⟩, ⟨b3, b4, b5⟩⟩ : TBox)).length, _, _, _, _, _, rfl, by omega, by omega, by omega, ?_, rfl⟩
  rw [show (1 : Int).toNat = 1 by rfl]
  exact best_one h
theorem all_ref05_Best (m0 m1 m2 m3 m4 m5 m6 m7 m8 m9 m10 m11 : Int) (b0 b1 b2 b3 b4 b5 : Int) (l : List THit) (hp : ((⟨m0, m1, m2, m3, m4, m5, m6, m7, m8, m9, m10, m11⟩ : TMod)).err = 0 ∧ ((⟨⟨b0, b1, b2⟩, ⟨b3, b4, b5⟩⟩ : TBox)).err = 0 ∧ hitsE l = 0) : AllG (J_ref05_Best m0 m1 m2 m3 m4 m5 m6 m7 m8 m9 m10 m11 b0 b1 b2 b3 b4 b5 l) (loopsFn Try.prog tab Skg84 ann_ref05_Best (J_ref05_Best m0 m1 m2 m3 m4 m5 m6 m7 m8 m9 m10 m11 b0 b1 b2 b3 b4 b5 l) Try.f14 (fun r => LeD r (.tu [.a [.v (.int .i64 ((bestV (⟨m0, m1, m2, m3, m4, m5, m6, m7, m8, m9, m10, m11⟩ : TMod) (⟨⟨b0, b1, b2⟩, ⟨b3, b4, b5⟩⟩ : TBox) l).x)), .v (.int .i64 ((bestV (⟨m0, m1, m2, m3, m4, m5, m6, m7, m8, m9, m10, m11⟩ : TMod) (⟨⟨b0, b1, b2⟩, ⟨b3, b4, b5⟩⟩ : TBox) l).y)), .v (.int .i64 ((bestV (⟨m0, m1, m2, m3, m4, m5, m6, m7, m8, m9, m10, m11⟩ : TMod) (⟨⟨b0, b1, b2⟩, ⟨b3, b4, b5⟩⟩ : TBox) l).z))], .c (.v (.int .i64 (bestS (⟨m0, m1, m2, m3, m4, m5, m6, m7, m8, m9, m10, m11⟩ : TMod) (⟨⟨b0, b1, b2⟩, ⟨b3, b4, b5⟩⟩ : TBox) l))), .c (.v (.bool (decide (((⟨m0, m1, m2, m3, m4, m5, m6, m7, m8, m9, m10, m11⟩ : TMod)).steps (⟨⟨b0, b1, b2⟩, ⟨b3, b4, b5⟩⟩ : TBox) ≠ []))))]))) := by
 rw [lp_ref05_Best]
 refine ⟨⟨?_, ?_⟩, trivial⟩
 ·intro F s h
  obtain _ | ⟨g, F⟩ := F
  case cons => exact h.elim
  obtain ⟨w0, w1, w2, w3, w4, rfl, hi⟩ := h
  exact zero_ref05_Best_0 m0 m1 m2 m3 m4 m5 m6 m7 m8 m9 m10 m11 b0 b1 b2 b3 b4 b5 l w0 w1 w2 w3 w4 hi
 ·intro n F s h
  obtain _ | ⟨g, F⟩ := F
  case cons => exact h.elim
  obtain ⟨w0, w1, w2, w3, w4, rfl, hi⟩ := h
  rw [er_ref05_Best_0]
  exact rnd_ref05_Best_0 m0 m1 m2 m3 m4 m5 m6 m7 m8 m9 m10 m11 b0 b1 b2 b3 b4 b5 l _ _ _ _ _ _ hp hi
def con_ref05_Best : Con := fun args => match args with
 | [.t (.a [.v (.int .i64 m0), .v (.int .i64 m1), .v (.int .i64 m2), .v (.int .i64 m3), .v (.int .i64 m4), .v (.int .i64 m5), .v (.int .i64 m6), .v (.int .i64 m7), .v (.int .i64 m8), .v (.int .i64 m9), .v (.int .i64 m10), .v (.int .i64 m11)]), .t (.a [.v (.int .i64 b0), .v (.int .i64 b1), .v (.int .i64 b2), .v (.int .i64 b3), .v (.int .i64 b4), .v (.int .i64 b5)]), .t (.c (.sl 5 n_l c_l))] => some (.tu [.a [.v (.int .i64 ((bestV (⟨m0, m1, m2, m3, m4, m5, m6, m7, m8, m9, m10, m11⟩ : TMod) (⟨⟨b0, b1, b2⟩, ⟨b3, b4, b5⟩⟩ : TBox) (listC n_l mkHit c_l)).x)), .v (.int .i64 ((bestV (⟨m0, m1, m2, m3, m4, m5, m6, m7, m8, m9, m10, m11⟩ : TMod) (⟨⟨b0, b1, b2⟩, ⟨b3, b4, b5⟩⟩ : TBox) (listC n_l mkHit c_l)).y)), .v (.int .i64 ((bestV (⟨m0, m1, m2, m3, m4, m5, m6, m7, m8, m9, m10, m11⟩ : TMod) (⟨⟨b0, b1, b2⟩, ⟨b3, b4, b5⟩⟩ : TBox) (listC n_l mkHit c_l)).z))], .c (.v (.int .i64 (bestS (⟨m0, m1, m2, m3, m4, m5, m6, m7, m8, m9, m10, m11⟩ : TMod) (⟨⟨b0, b1, b2⟩, ⟨b3, b4, b5⟩⟩ : TBox) (listC n_l mkHit c_l)))), .c (.v (.bool (decide (((⟨m0, m1, m2, m3, m4, m5, m6, m7, m8, m9, m10, m11⟩ : TMod)).steps (⟨⟨b0, b1, b2⟩, ⟨b3, b4, b5⟩⟩ : TBox) ≠ []))))], some (numsP 5 n_l c_l ∧ ((⟨m0, m1, m2, m3, m4, m5, m6, m7, m8, m9, m10, m11⟩ : TMod)).err = 0 ∧ ((⟨⟨b0, b1, b2⟩, ⟨b3, b4, b5⟩⟩ : TBox)).err = 0 ∧ hitsE (listC n_l mkHit c_l) = 0), false)
 | _ => none
theorem ok_ref05_Best : Ok Try.prog 14 con_ref05_Best := by
 refine Ok.fn (ann := ann_ref05_Best) mixed tabOK VSkg84 VIkv51 (fn := Try.f14) (by kernel_rfl) (by kernel_rfl) fit_ref05_Best fun args r pre fresh h hp => ?_
 unfold con_ref05_Best at h
 split at h
 ·rename_i m0 m1 m2 m3 m4 m5 m6 m7 m8 m9 m10 m11 b0 b1 b2 b3 b4 b5 n_l c_l
  cases h
  obtain ⟨hp0, hp⟩ := hp
  refine ⟨rfl, J_ref05_Best m0 m1 m2 m3 m4 m5 m6 m7 m8 m9 m10 m11 b0 b1 b2 b3 b4 b5 (listC n_l mkHit c_l), [.t (.a [.v (.int .i64 m0), .v (.int .i64 m1), .v (.int .i64 m2), .v (.int .i64 m3), .v (.int .i64 m4), .v (.int .i64 m5), .v (.int .i64 m6), .v (.int .i64 m7), .v (.int .i64 m8), .v (.int .i64 m9), .v (.int .i64 m10), .v (.int .i64 m11)]), .t (.a [.v (.int .i64 b0), .v (.int .i64 b1), .v (.int .i64 b2), .v (.int .i64 b3), .v (.int .i64 b4), .v (.int .i64 b5)]), .t (.c (.sl 5 ((listC n_l mkHit c_l).length) (hitsC (listC n_l mkHit c_l))))], ?_, Nat.le_of_ble_eq_true (by kernel_rfl), ?_, ?_⟩
  ·exact (LeA_cons (LeD.refl _) (LeA_cons (LeD.refl _) (LeA_cons (leT_c ((leL_THit hp0))) LeA_nil)))
  ·rw [ev_ref05_Best]; exact spec_ref05_Best m0 m1 m2 m3 m4 m5 m6 m7 m8 m9 m10 m11 b0 b1 b2 b3 b4 b5 (listC n_l mkHit c_l) hp
  ·exact all_ref05_Best m0 m1 m2 m3 m4 m5 m6 m7 m8 m9 m10 m11 b0 b1 b2 b3 b4 b5 (listC n_l mkHit c_l) hp
 ·cases h
def Skg85 : Sum := addS Skg84 14 con_ref05_Best
theorem VSkg85 : Valid Try.prog Skg85 := Valid.add VSkg84 ok_ref05_Best
def mk_ref05_Cone_0 (m0 m1 m2 m3 m4 m5 m6 m7 m8 m9 m10 m11 : Int) (b0 b1 b2 b3 b4 b5 : Int) (l : List THit) (K : Int) (v0_0 : List (List CV)) (v0_1 : Int) : DS := ⟨[none, none, some (.t (.c (.sl 5 l.length (hitsC l)))), some (.t (.c (.v (.int .i64 K)))), some (.t (.c (.p 4 0))), none, none, none, none, some (.t (.c (.os 9))), some (.t (.c (.sl 3 ((((⟨m0, m1, m2, m3, m4, m5, m6, m7, m8, m9, m10, m11⟩ : TMod)).steps (⟨⟨b0, b1, b2⟩, ⟨b3, b4, b5⟩⟩ : TBox)).length) (plsC (((⟨m0, m1, m2, m3, m4, m5, m6, m7, m8, m9, m10, m11⟩ : TMod)).steps (⟨⟨b0, b1, b2⟩, ⟨b3, b4, b5⟩⟩ : TBox)))))), some (.t (.c (.v (.int .i64 v0_1)))), none, none, none, none, none, none, none, none, none, none, none, none, none, none, none, none, none, none, none, none, none, none, none, none, none, none], [none, none, none, none, some (.box 26 [.v (.int .i64 m0), .v (.int .i64 m1), .v (.int .i64 m2), .v (.int .i64 m3), .v (.int .i64 m4), .v (.int .i64 m5), .v (.int .i64 m6), .v (.int .i64 m7), .v (.int .i64 m8), .v (.int .i64 m9), .v (.int .i64 m10), .v (.int .i64 m11)]), none, none, none, none, some (.gen 22 3 v0_0), none, none, none, none, none, none, none, none, none, none, none, none, none, none, none, none, none, none, none, none, none, none, none, none, none, none, none, none]⟩
def vc_ref05_Cone (J : Inv) (m0 m1 m2 m3 m4 m5 m6 m7 m8 m9 m10 m11 : Int) (b0 b1 b2 b3 b4 b5 : Int) (l : List THit) (K : Int) (post : DV → Prop) : Prop := (((⟨⟨b0, b1, b2⟩, ⟨b3, b4, b5⟩⟩ : TBox)).lo.inS 20 = true ∧ ((⟨⟨b0, b1, b2⟩, ⟨b3, b4, b5⟩⟩ : TBox)).hi.inS 20 = true ∧ ((⟨⟨b0, b1, b2⟩, ⟨b3, b4, b5⟩⟩ : TBox)).ok) ∧ (∃ n, J 0 (n :: []) (mk_ref05_Cone_0 m0 m1 m2 m3 m4 m5 m6 m7 m8 m9 m10 m11 b0 b1 b2 b3 b4 b5 l K ([]) 0))
def ann_ref05_Cone : Ann := ⟨fun r => lookA r [(6, ([[], [], [], [1, 2], [1, 2, 3], [], [0, 1, 2, 3, 4, 5], [], [0, 1, 2, 3, 4, 5, 6, 7]], [[27], [27], [27], [27], [27], [27], [], [27], []]))], fun b => lookA b [(0, (none, some ⟨[2, 3, 4, 10, 11], [4], [(9, .gen 22 3 [])]⟩))], fun _ => [], Ikv51, true, fun _ => none, fun _ => none⟩
theorem ev_ref05_Cone (J : Inv) (m0 m1 m2 m3 m4 m5 m6 m7 m8 m9 m10 m11 : Int) (b0 b1 b2 b3 b4 b5 : Int) (l : List THit) (K : Int) (post : DV → Prop) : evFn Try.prog tab Skg85 ann_ref05_Cone J Try.f17 [.t (.a [.v (.int .i64 m0), .v (.int .i64 m1), .v (.int .i64 m2), .v (.int .i64 m3), .v (.int .i64 m4), .v (.int .i64 m5), .v (.int .i64 m6), .v (.int .i64 m7), .v (.int .i64 m8), .v (.int .i64 m9), .v (.int .i64 m10), .v (.int .i64 m11)]), .t (.a [.v (.int .i64 b0), .v (.int .i64 b1), .v (.int .i64 b2), .v (.int .i64 b3), .v (.int .i64 b4), .v (.int .i64 b5)]), .t (.c (.sl 5 l.length (hitsC l))), .t (.c (.v (.int .i64 K)))] post = vc_ref05_Cone J m0 m1 m2 m3 m4 m5 m6 m7 m8 m9 m10 m11 b0 b1 b2 b3 b4 b5 l K post := by kernel_rfl
theorem fit_ref05_Cone : okFn ann_ref05_Cone Try.f17 = true := by kernel_rfl
def rd_ref05_Cone_0 (J : Inv) (m0 m1 m2 m3 m4 m5 m6 m7 m8 m9 m10 m11 : Int) (b0 b1 b2 b3 b4 b5 : Int) (l : List THit) (K : Int) (v0_0 : List (List CV)) (v0_1 : Int) (nn0 : Nat) (post : DV → Prop) : Prop := cond (decide (v0_1 < (((((⟨m0, m1, m2, m3, m4, m5, m6, m7, m8, m9, m10, m11⟩ : TMod)).steps (⟨⟨b0, b1, b2⟩, ⟨b3, b4, b5⟩⟩ : TBox)).length : Nat) : Int))) ((0 ≤ v0_1 ∧ v0_1 < (((((⟨m0, m1, m2, m3, m4, m5, m6, m7, m8, m9, m10, m11⟩ : TMod)).steps (⟨⟨b0, b1, b2⟩, ⟨b3, b4, b5⟩⟩ : TBox)).length : Nat) : Int)) ∧ ((numsP 5 l.length (hitsC l) ∧ ((listC l.length mkHit (hitsC l))).length ≤ 12 ∧ (∀ i, i < ((listC l.length mkHit (hitsC l))).length → (hitAt (listC l.length mkHit (hitsC l)) i).Ok) ∧ ((⟨m0, m1, m2, m3, m4, m5, m6, m7, m8, m9, m10, m11⟩ : TMod)).Ok ∧ ((plAt (((⟨m0, m1, m2, m3, m4, m5, m6, m7, m8, m9, m10, m11⟩ : TMod)).steps (⟨⟨b0, b1, b2⟩, ⟨b3, b4, b5⟩⟩ : TBox)) v0_1.toNat)).inS 20 = true ∧ ((⟨m0, m1, m2, m3, m4, m5, m6, m7, m8, m9, m10, m11⟩ : TMod)).permit (plAt (((⟨m0, m1, m2, m3, m4, m5, m6, m7, m8, m9, m10, m11⟩ : TMod)).steps (⟨⟨b0, b1, b2⟩, ⟨b3, b4, b5⟩⟩ : TBox)) v0_1.toNat)) ∧ (cond (decide ((((⟨m0, m1, m2, m3, m4, m5, m6, m7, m8, m9, m10, m11⟩ : TMod)).score (plAt (((⟨m0, m1, m2, m3, m4, m5, m6, m7, m8, m9, m10, m11⟩ : TMod)).steps (⟨⟨b0, b1, b2⟩, ⟨b3, b4, b5⟩⟩ : TBox)) v0_1.toNat) (listC l.length mkHit (hitsC l))) ≤ K)) ((0 ≤ v0_1 ∧ v0_1 < (((((⟨m0, m1, m2, m3, m4, m5, m6, m7, m8, m9, m10, m11⟩ : TMod)).steps (⟨⟨b0, b1, b2⟩, ⟨b3, b4, b5⟩⟩ : TBox)).length : Nat) : Int)) ∧ ((roomP 24 (v0_0.length + ([[.v (.int .i64 ((plAt (((⟨m0, m1, m2, m3, m4, m5, m6, m7, m8, m9, m10, m11⟩ : TMod)).steps (⟨⟨b0, b1, b2⟩, ⟨b3, b4, b5⟩⟩ : TBox)) v0_1.toNat).x)), .v (.int .i64 ((plAt (((⟨m0, m1, m2, m3, m4, m5, m6, m7, m8, m9, m10, m11⟩ : TMod)).steps (⟨⟨b0, b1, b2⟩, ⟨b3, b4, b5⟩⟩ : TBox)) v0_1.toNat).y)), .v (.int .i64 ((plAt (((⟨m0, m1, m2, m3, m4, m5, m6, m7, m8, m9, m10, m11⟩ : TMod)).steps (⟨⟨b0, b1, b2⟩, ⟨b3, b4, b5⟩⟩ : TBox)) v0_1.toNat).z))]] : List (List CV)).length)) ∧ (lt (IntKind.i64.wrap (v0_1 + (1 : Int))) fun x1 => J 0 (nn0 :: []) (mk_ref05_Cone_0 m0 m1 m2 m3 m4 m5 m6 m7 m8 m9 m10 m11 b0 b1 b2 b3 b4 b5 l K (v0_0 ++ ([[.v (.int .i64 ((plAt (((⟨m0, m1, m2, m3, m4, m5, m6, m7, m8, m9, m10, m11⟩ : TMod)).steps (⟨⟨b0, b1, b2⟩, ⟨b3, b4, b5⟩⟩ : TBox)) v0_1.toNat).x)), .v (.int .i64 ((plAt (((⟨m0, m1, m2, m3, m4, m5, m6, m7, m8, m9, m10, m11⟩ : TMod)).steps (⟨⟨b0, b1, b2⟩, ⟨b3, b4, b5⟩⟩ : TBox)) v0_1.toNat).y)), .v (.int .i64 ((plAt (((⟨m0, m1, m2, m3, m4, m5, m6, m7, m8, m9, m10, m11⟩ : TMod)).steps (⟨⟨b0, b1, b2⟩, ⟨b3, b4, b5⟩⟩ : TBox)) v0_1.toNat).z))]] : List (List CV))) x1)))) (lt (IntKind.i64.wrap (v0_1 + (1 : Int))) fun x2 => J 0 (nn0 :: []) (mk_ref05_Cone_0 m0 m1 m2 m3 m4 m5 m6 m7 m8 m9 m10 m11 b0 b1 b2 b3 b4 b5 l K v0_0 x2))))) (post (.t (.c (.sl 3 v0_0.length (genC v0_0)))))
theorem er_ref05_Cone_0 (J : Inv) (m0 m1 m2 m3 m4 m5 m6 m7 m8 m9 m10 m11 : Int) (b0 b1 b2 b3 b4 b5 : Int) (l : List THit) (K : Int) (v0_0 : List (List CV)) (v0_1 : Int) (nn0 : Nat) (post : DV → Prop) : round Try.prog tab Skg85 ann_ref05_Cone J Try.f17 post 0 (nn0 :: []) (mk_ref05_Cone_0 m0 m1 m2 m3 m4 m5 m6 m7 m8 m9 m10 m11 b0 b1 b2 b3 b4 b5 l K v0_0 v0_1) = rd_ref05_Cone_0 J m0 m1 m2 m3 m4 m5 m6 m7 m8 m9 m10 m11 b0 b1 b2 b3 b4 b5 l K v0_0 v0_1 nn0 post := by kernel_rfl
theorem lp_ref05_Cone (J : Inv) (post : DV → Prop) : AllG J (loopsFn Try.prog tab Skg85 ann_ref05_Cone J Try.f17 post) = (((∀ F s, ¬ J 0 (0 :: F) s) ∧ ∀ n F s, J 0 ((n + 1) :: F) s → round Try.prog tab Skg85 ann_ref05_Cone J Try.f17 post 0 (n :: F) s) ∧ True) := by kernel_rfl
def J_ref05_Cone (m0 m1 m2 m3 m4 m5 m6 m7 m8 m9 m10 m11 : Int) (b0 b1 b2 b3 b4 b5 : Int) (l : List THit) (K : Int) : Inv := fun b F s => match b, F with
 | 0, [nn0] => ∃ (v0_0 : List (List CV)) (v0_1 : Int), s = mk_ref05_Cone_0 m0 m1 m2 m3 m4 m5 m6 m7 m8 m9 m10 m11 b0 b1 b2 b3 b4 b5 l K v0_0 v0_1 ∧ (0 ≤ v0_1 ∧ v0_1 ≤ (((⟨m0, m1, m2, m3, m4, m5, m6, m7, m8, m9, m10, m11⟩ : TMod)).steps (⟨⟨b0, b1, b2⟩, ⟨b3, b4, b5⟩⟩ : TBox)).length ∧ (nn0 : Int) + v0_1 = (((⟨m0, m1, m2, m3, m4, m5, m6, m7, m8, m9, m10, m11⟩ : TMod)).steps (⟨⟨b0, b1, b2⟩, ⟨b3, b4, b5⟩⟩ : TBox)).length + 1 ∧ v0_0 = (((((⟨m0, m1, m2, m3, m4, m5, m6, m7, m8, m9, m10, m11⟩ : TMod)).steps (⟨⟨b0, b1, b2⟩, ⟨b3, b4, b5⟩⟩ : TBox)).take v0_1.toNat).filter fun s => decide (((⟨m0, m1, m2, m3, m4, m5, m6, m7, m8, m9, m10, m11⟩ : TMod)).score s l ≤ K)).map v3Cv)
 | _, _ => False
set_option maxHeartbeats 8000000 in
set_option maxRecDepth 100000 in
theorem rnd_ref05_Cone_0 (m0 m1 m2 m3 m4 m5 m6 m7 m8 m9 m10 m11 : Int) (b0 b1 b2 b3 b4 b5 : Int) (l : List THit) (K : Int) (v0_0 : List (List CV)) (v0_1 : Int) (nn0 : Nat) (hp : ((⟨m0, m1, m2, m3, m4, m5, m6, m7, m8, m9, m10, m11⟩ : TMod)).err = 0 ∧ ((⟨⟨b0, b1, b2⟩, ⟨b3, b4, b5⟩⟩ : TBox)).err = 0 ∧ hitsE l = 0) (hi : 0 ≤ v0_1 ∧ v0_1 ≤ (((⟨m0, m1, m2, m3, m4, m5, m6, m7, m8, m9, m10, m11⟩ : TMod)).steps (⟨⟨b0, b1, b2⟩, ⟨b3, b4, b5⟩⟩ : TBox)).length ∧ ((nn0 + 1) : Int) + v0_1 = (((⟨m0, m1, m2, m3, m4, m5, m6, m7, m8, m9, m10, m11⟩ : TMod)).steps (⟨⟨b0, b1, b2⟩, ⟨b3, b4, b5⟩⟩ : TBox)).length + 1 ∧ v0_0 = (((((⟨m0, m1, m2, m3, m4, m5, m6, m7, m8, m9, m10, m11⟩ : TMod)).steps (⟨⟨b0, b1, b2⟩, ⟨b3, b4, b5⟩⟩ : TBox)).take v0_1.toNat).filter fun s => decide (((⟨m0, m1, m2, m3, m4, m5, m6, m7, m8, m9, m10, m11⟩ : TMod)).score s l ≤ K)).map v3Cv) : rd_ref05_Cone_0 (J_ref05_Cone m0 m1 m2 m3 m4 m5 m6 m7 m8 m9 m10 m11 b0 b1 b2 b3 b4 b5 l K) m0 m1 m2 m3 m4 m5 m6 m7 m8 m9 m10 m11 b0 b1 b2 b3 b4 b5 l K v0_0 v0_1 nn0 (fun r => LeD r (.t (.c (.sl 3 (((((⟨m0, m1, m2, m3, m4, m5, m6, m7, m8, m9, m10, m11⟩ : TMod)).steps (⟨⟨b0, b1, b2⟩, ⟨b3, b4, b5⟩⟩ : TBox)).filter fun s => decide (((⟨m0, m1, m2, m3, m4, m5, m6, m7, m8, m9, m10, m11⟩ : TMod)).score s l ≤ K)).length) (plsC ((((⟨m0, m1, m2, m3, m4, m5, m6, m7, m8, m9, m10, m11⟩ : TMod)).steps (⟨⟨b0, b1, b2⟩, ⟨b3, b4, b5⟩⟩ : TBox)).filter fun s => decide (((⟨m0, m1, m2, m3, m4, m5, m6, m7, m8, m9, m10, m11⟩ : TMod)).score s l ≤ K))))))) := by
 obtain ⟨i1, i2, i3, i4⟩ := hi
 obtain ⟨hm, hb, hh⟩ := hp
 obtain ⟨q6, q7⟩ := hitsE_ok hh
 obtain ⟨k, rfl⟩ : ∃ k : Nat, v0_1 = k := ⟨v0_1.toNat, by omega⟩
 have hk : (k : Int).toNat = k := rfl
 rw [hk] at i4
 have hl := steps_len (m := (⟨m0, m1, m2, m3, m4, m5, m6, m7, m8, m9, m10, m11⟩ : TMod)) hb
 unfold rd_ref05_Cone_0
 rw [hk]
 simp only [hits_listC]
 refine cond_i (fun h => ?_) (fun h => ?_)
 ·have hlt : k < (((⟨m0, m1, m2, m3, m4, m5, m6, m7, m8, m9, m10, m11⟩ : TMod)).steps (⟨⟨b0, b1, b2⟩, ⟨b3, b4, b5⟩⟩ : TBox)).length := by have := of_decide_eq_true h; omega
  have hs := steps_ok (m := (⟨m0, m1, m2, m3, m4, m5, m6, m7, m8, m9, m10, m11⟩ : TMod)) hb (plAt_in hlt)
  have ef : ((((⟨m0, m1, m2, m3, m4, m5, m6, m7, m8, m9, m10, m11⟩ : TMod)).steps (⟨⟨b0, b1, b2⟩, ⟨b3, b4, b5⟩⟩ : TBox)).take (k + 1)).filter (fun s => decide (((⟨m0, m1, m2, m3, m4, m5, m6, m7, m8, m9, m10, m11⟩ : TMod)).score s l ≤ K)) = ((((⟨m0, m1, m2, m3, m4, m5, m6, m7, m8, m9, m10, m11⟩ : TMod)).steps (⟨⟨b0, b1, b2⟩, ⟨b3, b4, b5⟩⟩ : TBox)).take k).filter (fun s => decide (((⟨m0, m1, m2, m3, m4, m5, m6, m7, m8, m9, m10, m11⟩ : TMod)).score s l ≤ K)) ++ (if decide (((⟨m0, m1, m2, m3, m4, m5, m6, m7, m8, m9, m10, m11⟩ : TMod)).score (plAt (((⟨m0, m1, m2, m3, m4, m5, m6, m7, m8, m9, m10, m11⟩ : TMod)).steps (⟨⟨b0, b1, b2⟩, ⟨b3, b4, b5⟩⟩ : TBox)) k) l ≤ K) = true then [plAt (((⟨m0, m1, m2, m3, m4, m5, m6, m7, m8, m9, m10, m11⟩ : TMod)).steps (⟨⟨b0, b1, b2⟩, ⟨b3, b4, b5⟩⟩ : TBox)) k] else []) := by
   rw [plAt_take hlt, List.filter_append, List.filter_cons, List.filter_nil]
  have hlen : (((((⟨m0, m1, m2, m3, m4, m5, m6, m7, m8, m9, m10, m11⟩ : TMod)).steps (⟨⟨b0, b1, b2⟩, ⟨b3, b4, b5⟩⟩ : TBox)).take k).filter (fun s => decide (((⟨m0, m1, m2, m3, m4, m5, m6, m7, m8, m9, m10, m11⟩ : TMod)).score s l ≤ K))).length ≤ 700 := Nat.le_trans (List.length_filter_le _ _) (by rw [List.length_take]; omega)
  refine ⟨by omega, ⟨numsP_hits l, q6, q7, err_ok hm, hs.1, hs.2⟩, cond_i (fun e => ⟨by omega, ?_, lt_i fun x hx => ?_⟩) (fun e => lt_i fun x hx => ?_)⟩
  ·rw [i4]; unfold roomP maxLen; simp; omega
  all_goals
   rw [wi (by omega)] at hx
   subst hx
   refine ⟨_, _, rfl, by omega, by omega, by omega, ?_⟩
   rw [show ((k : Int) + 1).toNat = k + 1 by omega, ef, i4]
  ·rw [if_pos e, List.map_append]; rfl
  ·rw [if_neg (by rw [e]; simp), List.append_nil]
 ·have hkl : k = (((⟨m0, m1, m2, m3, m4, m5, m6, m7, m8, m9, m10, m11⟩ : TMod)).steps (⟨⟨b0, b1, b2⟩, ⟨b3, b4, b5⟩⟩ : TBox)).length := by have := of_decide_eq_false h; omega
  rw [hkl, List.take_length] at i4
  rw [i4]
  exact le_v3 _
theorem zero_ref05_Cone_0 (m0 m1 m2 m3 m4 m5 m6 m7 m8 m9 m10 m11 : Int) (b0 b1 b2 b3 b4 b5 : Int) (l : List THit) (K : Int) (v0_0 : List (List CV)) (v0_1 : Int)  (hi : 0 ≤ v0_1 ∧ v0_1 ≤ (((⟨m0, m1, m2, m3, m4, m5, m6, m7, m8, m9, m10, m11⟩ : TMod)).steps (⟨⟨b0, b1, b2⟩, ⟨b3, b4, b5⟩⟩ : TBox)).length ∧ (0 : Int) + v0_1 = (((⟨m0, m1, m2, m3, m4, m5, m6, m7, m8, m9, m10, m11⟩ : TMod)).steps (⟨⟨b0, b1, b2⟩, ⟨b3, b4, b5⟩⟩ : TBox)).length + 1 ∧ v0_0 = (((((⟨m0, m1, m2, m3, m4, m5, m6, m7, m8, m9, m10, m11⟩ : TMod)).steps (⟨⟨b0, b1, b2⟩, ⟨b3, b4, b5⟩⟩ : TBox)).take v0_1.toNat).filter fun s => decide (((⟨m0, m1, m2, m3, m4, m5, m6, m7, m8, m9, m10, m11⟩ : TMod)).score s l ≤ K)).map v3Cv) : False := by
 omega
set_option maxHeartbeats 8000000 in
set_option maxRecDepth 100000 in
theorem spec_ref05_Cone (m0 m1 m2 m3 m4 m5 m6 m7 m8 m9 m10 m11 : Int) (b0 b1 b2 b3 b4 b5 : Int) (l : List THit) (K : Int) (hp : ((⟨m0, m1, m2, m3, m4, m5, m6, m7, m8, m9, m10, m11⟩ : TMod)).err = 0 ∧ ((⟨⟨b0, b1, b2⟩, ⟨b3, b4, b5⟩⟩ : TBox)).err = 0 ∧ hitsE l = 0) : vc_ref05_Cone (J_ref05_Cone m0 m1 m2 m3 m4 m5 m6 m7 m8 m9 m10 m11 b0 b1 b2 b3 b4 b5 l K) m0 m1 m2 m3 m4 m5 m6 m7 m8 m9 m10 m11 b0 b1 b2 b3 b4 b5 l K (fun r => LeD r (.t (.c (.sl 3 (((((⟨m0, m1, m2, m3, m4, m5, m6, m7, m8, m9, m10, m11⟩ : TMod)).steps (⟨⟨b0, b1, b2⟩, ⟨b3, b4, b5⟩⟩ : TBox)).filter fun s => decide (((⟨m0, m1, m2, m3, m4, m5, m6, m7, m8, m9, m10, m11⟩ : TMod)).score s l ≤ K)).length) (plsC ((((⟨m0, m1, m2, m3, m4, m5, m6, m7, m8, m9, m10, m11⟩ : TMod)).steps (⟨⟨b0, b1, b2⟩, ⟨b3, b4, b5⟩⟩ : TBox)).filter fun s => decide (((⟨m0, m1, m2, m3, m4, m5, m6, m7, m8, m9, m10, m11⟩ : TMod)).score s l ≤ K))))))) := by
 obtain ⟨hm, hb, hh⟩ := hp
 have hin := box_in hb
 unfold vc_ref05_Cone
 exact ⟨⟨hin.1, hin.2, box_ok hb⟩, (((⟨m0, m1, m2, m3, m4, m5, m6, m7, m8, m9, m10, m11⟩ : TMod)).steps (⟨⟨b0, b1, b2⟩, ⟨b3, b4, b5⟩⟩ : TBox)).length + 1, [], 0, rfl, by omega, by omega, by omega, rfl⟩
theorem all_ref05_Cone (m0 m1 m2 m3 m4 m5 m6 m7 m8 m9 m10 m11 : Int) (b0 b1 b2 b3 b4 b5 : Int) (l : List THit) (K : Int) (hp : ((⟨m0, m1, m2, m3, m4, m5, m6, m7, m8, m9, m10, m11⟩ : TMod)).err = 0 ∧ ((⟨⟨b0, b1, b2⟩, ⟨b3, b4, b5⟩⟩ : TBox)).err = 0 ∧ hitsE l = 0) : AllG (J_ref05_Cone m0 m1 m2 m3 m4 m5 m6 m7 m8 m9 m10 m11 b0 b1 b2 b3 b4 b5 l K) (loopsFn Try.prog tab Skg85 ann_ref05_Cone (J_ref05_Cone m0 m1 m2 m3 m4 m5 m6 m7 m8 m9 m10 m11 b0 b1 b2 b3 b4 b5 l K) Try.f17 (fun r => LeD r (.t (.c (.sl 3 (((((⟨m0, m1, m2, m3, m4, m5, m6, m7, m8, m9, m10, m11⟩ : TMod)).steps (⟨⟨b0, b1, b2⟩, ⟨b3, b4, b5⟩⟩ : TBox)).filter fun s => decide (((⟨m0, m1, m2, m3, m4, m5, m6, m7, m8, m9, m10, m11⟩ : TMod)).score s l ≤ K)).length) (plsC ((((⟨m0, m1, m2, m3, m4, m5, m6, m7, m8, m9, m10, m11⟩ : TMod)).steps (⟨⟨b0, b1, b2⟩, ⟨b3, b4, b5⟩⟩ : TBox)).filter fun s => decide (((⟨m0, m1, m2, m3, m4, m5, m6, m7, m8, m9, m10, m11⟩ : TMod)).score s l ≤ K)))))))) := by
 rw [lp_ref05_Cone]
 refine ⟨⟨?_, ?_⟩, trivial⟩
 ·intro F s h
  obtain _ | ⟨g, F⟩ := F
  case cons => exact h.elim
  obtain ⟨w0, w1, rfl, hi⟩ := h
  exact zero_ref05_Cone_0 m0 m1 m2 m3 m4 m5 m6 m7 m8 m9 m10 m11 b0 b1 b2 b3 b4 b5 l K w0 w1 hi
 ·intro n F s h
  obtain _ | ⟨g, F⟩ := F
  case cons => exact h.elim
  obtain ⟨w0, w1, rfl, hi⟩ := h
  rw [er_ref05_Cone_0]
  exact rnd_ref05_Cone_0 m0 m1 m2 m3 m4 m5 m6 m7 m8 m9 m10 m11 b0 b1 b2 b3 b4 b5 l K _ _ _ hp hi
def con_ref05_Cone : Con := fun args => match args with
 | [.t (.a [.v (.int .i64 m0), .v (.int .i64 m1), .v (.int .i64 m2), .v (.int .i64 m3), .v (.int .i64 m4), .v (.int .i64 m5), .v (.int .i64 m6), .v (.int .i64 m7), .v (.int .i64 m8), .v (.int .i64 m9), .v (.int .i64 m10), .v (.int .i64 m11)]), .t (.a [.v (.int .i64 b0), .v (.int .i64 b1), .v (.int .i64 b2), .v (.int .i64 b3), .v (.int .i64 b4), .v (.int .i64 b5)]), .t (.c (.sl 5 n_l c_l)), .t (.c (.v (.int .i64 K)))] => some (.t (.c (.sl 3 (((((⟨m0, m1, m2, m3, m4, m5, m6, m7, m8, m9, m10, m11⟩ : TMod)).steps (⟨⟨b0, b1, b2⟩, ⟨b3, b4, b5⟩⟩ : TBox)).filter fun s => decide (((⟨m0, m1, m2, m3, m4, m5, m6, m7, m8, m9, m10, m11⟩ : TMod)).score s (listC n_l mkHit c_l) ≤ K)).length) (plsC ((((⟨m0, m1, m2, m3, m4, m5, m6, m7, m8, m9, m10, m11⟩ : TMod)).steps (⟨⟨b0, b1, b2⟩, ⟨b3, b4, b5⟩⟩ : TBox)).filter fun s => decide (((⟨m0, m1, m2, m3, m4, m5, m6, m7, m8, m9, m10, m11⟩ : TMod)).score s (listC n_l mkHit c_l) ≤ K))))), some (numsP 5 n_l c_l ∧ ((⟨m0, m1, m2, m3, m4, m5, m6, m7, m8, m9, m10, m11⟩ : TMod)).err = 0 ∧ ((⟨⟨b0, b1, b2⟩, ⟨b3, b4, b5⟩⟩ : TBox)).err = 0 ∧ hitsE (listC n_l mkHit c_l) = 0), true)
 | _ => none
theorem ok_ref05_Cone : Ok Try.prog 17 con_ref05_Cone := by
 refine Ok.fnFr (ann := ann_ref05_Cone) mixed tabOK VSkg85 VIkv51 rfl (fn := Try.f17) (by kernel_rfl) (by kernel_rfl) fit_ref05_Cone fun args r pre fresh h hp => ?_
 unfold con_ref05_Cone at h
 split at h
 ·rename_i m0 m1 m2 m3 m4 m5 m6 m7 m8 m9 m10 m11 b0 b1 b2 b3 b4 b5 n_l c_l K
  cases h
  obtain ⟨hp0, hp⟩ := hp
  refine ⟨rfl, (fun i j _ hj => plain_V3 _ i j), J_ref05_Cone m0 m1 m2 m3 m4 m5 m6 m7 m8 m9 m10 m11 b0 b1 b2 b3 b4 b5 (listC n_l mkHit c_l) K, [.t (.a [.v (.int .i64 m0), .v (.int .i64 m1), .v (.int .i64 m2), .v (.int .i64 m3), .v (.int .i64 m4), .v (.int .i64 m5), .v (.int .i64 m6), .v (.int .i64 m7), .v (.int .i64 m8), .v (.int .i64 m9), .v (.int .i64 m10), .v (.int .i64 m11)]), .t (.a [.v (.int .i64 b0), .v (.int .i64 b1), .v (.int .i64 b2), .v (.int .i64 b3), .v (.int .i64 b4), .v (.int .i64 b5)]), .t (.c (.sl 5 ((listC n_l mkHit c_l).length) (hitsC (listC n_l mkHit c_l)))), .t (.c (.v (.int .i64 K)))], ?_, Nat.le_of_ble_eq_true (by kernel_rfl), ?_, ?_⟩
  ·exact (LeA_cons (LeD.refl _) (LeA_cons (LeD.refl _) (LeA_cons (leT_c ((leL_THit hp0))) (LeA_cons (LeD.refl _) LeA_nil))))
  ·rw [ev_ref05_Cone]; exact spec_ref05_Cone m0 m1 m2 m3 m4 m5 m6 m7 m8 m9 m10 m11 b0 b1 b2 b3 b4 b5 (listC n_l mkHit c_l) K hp
  ·exact all_ref05_Cone m0 m1 m2 m3 m4 m5 m6 m7 m8 m9 m10 m11 b0 b1 b2 b3 b4 b5 (listC n_l mkHit c_l) K hp
 ·cases h
def Skg86 : Sum := addS Skg85 17 con_ref05_Cone
theorem VSkg86 : Valid Try.prog Skg86 := Valid.add VSkg85 ok_ref05_Cone
end Go.Proofs.Ytfadkjcfjkmalaa
set_option linter.unusedVariables false
set_option linter.unusedSimpArgs false
namespace Go.Proofs.Ytfadkjcfjkmalaa
open Go.RowKit Ev
theorem bs_d (a b c : Int) : (bif (a == (0 : Int)) then firstNZ [b, c] else a) = firstNZ [firstNZ [a, b], c] := by
 by_cases h : a = 0
 ·subst h
  rw [fz2]
  by_cases g : b = 0
  ·subst g; simp [firstNZ]
  ·simp [firstNZ, g]
 ·rw [show (a == (0 : Int)) = false by simpa using h]
  simp [firstNZ, h]
theorem cnE_1 {m : TMod} {b : TBox} {l : List THit} {K : Int} (h : firstNZ [firstNZ [m.err, b.err], hitsE l] ≠ 0) : cnE m b l K = firstNZ [firstNZ [m.err, b.err], hitsE l] ∧ cnL m b l K = [] := by
 have e : coE m b l K = firstNZ [firstNZ [m.err, b.err], hitsE l] := by unfold coE; exact fz1 h
 have e2 : cnE m b l K = firstNZ [firstNZ [m.err, b.err], hitsE l] := by unfold cnE; rw [if_pos (by rw [e]; exact h), e]
 exact ⟨e2, if_neg (by rw [e2]; exact h)⟩
theorem cnE_2 {m : TMod} {b : TBox} {l : List THit} {K : Int} (h : firstNZ [firstNZ [m.err, b.err], hitsE l] = 0) (hk : inB K 0 120000 = false) : cnE m b l K = 2 ∧ cnL m b l K = [] := by
 have e : coE m b l K = 2 := by unfold coE; rw [h, hk]; rfl
 have e2 : cnE m b l K = 2 := by unfold cnE; rw [if_pos (by rw [e]; decide), e]
 exact ⟨e2, if_neg (by rw [e2]; decide)⟩
theorem cnE_3 {m : TMod} {b : TBox} {l : List THit} {K : Int} (h : firstNZ [firstNZ [m.err, b.err], hitsE l] = 0) (hk : inB K 0 120000 = true) : cnE m b l K = biE m b l := by
 have e : coE m b l K = 0 := by unfold coE; rw [h, hk]; rfl
 unfold cnE
 rw [if_neg (by rw [e]; simp)]
theorem bi_1 {m : TMod} {b : TBox} {l : List THit} (h : firstNZ [firstNZ [m.err, b.err], hitsE l] ≠ 0) : biE m b l = firstNZ [firstNZ [m.err, b.err], hitsE l] ∧ biV m b l = ⟨0, 0, 0⟩ ∧ biS m b l = 0 := by
 have e : biE m b l = firstNZ [firstNZ [m.err, b.err], hitsE l] := if_pos h
 exact ⟨e, if_neg (by rw [e]; exact h), if_neg (by rw [e]; exact h)⟩
theorem bi_2 {m : TMod} {b : TBox} {l : List THit} (h : firstNZ [firstNZ [m.err, b.err], hitsE l] = 0) (hs : m.steps b = []) : biE m b l = 12 ∧ biV m b l = ⟨0, 0, 0⟩ ∧ biS m b l = 0 := by
 have e : biE m b l = 12 := (if_neg (by rw [h]; simp)).trans (if_pos hs)
 exact ⟨e, if_neg (by rw [e]; decide), if_neg (by rw [e]; decide)⟩
theorem bi_3 {m : TMod} {b : TBox} {l : List THit} (h : firstNZ [firstNZ [m.err, b.err], hitsE l] = 0) (hs : m.steps b ≠ []) : biE m b l = 0 ∧ biV m b l = bestV m b l ∧ biS m b l = bestS m b l := by
 have e : biE m b l = 0 := (if_neg (by rw [h]; simp)).trans (if_neg hs)
 exact ⟨e, if_pos e, if_pos e⟩
theorem best_rg {m : TMod} {b : TBox} {l : List THit} (ho : m.Ok) (hh : hitsE l = 0) : -120000 ≤ bestS m b l ∧ bestS m b l ≤ 120000 := by
 unfold bestS
 split
 ·exact score_120 ho hh
 ·omega
def vc_law05_TrackBest (m0 m1 m2 m3 m4 m5 m6 m7 m8 m9 m10 m11 : Int) (b0 b1 b2 b3 b4 b5 : Int) (l : List THit) (K : Int) (post : DV → Prop) : Prop := (numsP 5 l.length (hitsC l)) ∧ ((cond (!(decide (((listC l.length mkHit (hitsC l))).length ≤ 14))) ((true = true) ∧ (True)) (True)) ∧ (lt ((bif (!(decide (((listC l.length mkHit (hitsC l))).length ≤ 14))) then true else (!(smallB (⟨⟨b0, b1, b2⟩, ⟨b3, b4, b5⟩⟩ : TBox))))) fun x1 => cond x1 (post (.t (.c (.v (.bool true))))) ((numsP 5 l.length (hitsC l) ∧ ((listC l.length mkHit (hitsC l))).length ≤ 1000000) ∧ (lt ((biV (⟨m0, m1, m2, m3, m4, m5, m6, m7, m8, m9, m10, m11⟩ : TMod) (⟨⟨b0, b1, b2⟩, ⟨b3, b4, b5⟩⟩ : TBox) (listC ((listC l.length mkHit (hitsC l)).length) mkHit (hitsC (listC l.length mkHit (hitsC l))))).x) fun x2 => lt ((biV (⟨m0, m1, m2, m3, m4, m5, m6, m7, m8, m9, m10, m11⟩ : TMod) (⟨⟨b0, b1, b2⟩, ⟨b3, b4, b5⟩⟩ : TBox) (listC ((listC l.length mkHit (hitsC l)).length) mkHit (hitsC (listC l.length mkHit (hitsC l))))).y) fun x3 => lt ((biV (⟨m0, m1, m2, m3, m4, m5, m6, m7, m8, m9, m10, m11⟩ : TMod) (⟨⟨b0, b1, b2⟩, ⟨b3, b4, b5⟩⟩ : TBox) (listC ((listC l.length mkHit (hitsC l)).length) mkHit (hitsC (listC l.length mkHit (hitsC l))))).z) fun x4 => lt (biS (⟨m0, m1, m2, m3, m4, m5, m6, m7, m8, m9, m10, m11⟩ : TMod) (⟨⟨b0, b1, b2⟩, ⟨b3, b4, b5⟩⟩ : TBox) (listC ((listC l.length mkHit (hitsC l)).length) mkHit (hitsC (listC l.length mkHit (hitsC l))))) fun x5 => lt (biE (⟨m0, m1, m2, m3, m4, m5, m6, m7, m8, m9, m10, m11⟩ : TMod) (⟨⟨b0, b1, b2⟩, ⟨b3, b4, b5⟩⟩ : TBox) (listC ((listC l.length mkHit (hitsC l)).length) mkHit (hitsC (listC l.length mkHit (hitsC l))))) fun x6 => (numsP 5 ((listC l.length mkHit (hitsC l)).length) (hitsC (listC l.length mkHit (hitsC l)))) ∧ ((numsP 5 l.length (hitsC l) ∧ ((listC l.length mkHit (hitsC l))).length ≤ 1000000) ∧ (lt (cnE (⟨m0, m1, m2, m3, m4, m5, m6, m7, m8, m9, m10, m11⟩ : TMod) (⟨⟨b0, b1, b2⟩, ⟨b3, b4, b5⟩⟩ : TBox) (listC ((listC l.length mkHit (hitsC l)).length) mkHit (hitsC (listC l.length mkHit (hitsC l)))) K) fun x7 => (numsP 5 ((listC l.length mkHit (hitsC l)).length) (hitsC (listC l.length mkHit (hitsC l)))) ∧ ((cond ((((⟨m0, m1, m2, m3, m4, m5, m6, m7, m8, m9, m10, m11⟩ : TMod)).err) == (0 : Int)) ((numsP 5 l.length (hitsC l)) ∧ (True)) (True)) ∧ (lt ((bif ((((⟨m0, m1, m2, m3, m4, m5, m6, m7, m8, m9, m10, m11⟩ : TMod)).err) == (0 : Int)) then firstNZ [((⟨⟨b0, b1, b2⟩, ⟨b3, b4, b5⟩⟩ : TBox)).err, hitsE (listC l.length mkHit (hitsC l))] else ((⟨m0, m1, m2, m3, m4, m5, m6, m7, m8, m9, m10, m11⟩ : TMod)).err)) fun x8 => cond (x8 != (0 : Int)) ((cond (x6 == x8) (cond (bif (x2 == (0 : Int)) then (bif (x3 == (0 : Int)) then (bif (x4 == (0 : Int)) then true else false) else false) else false) (cond (x5 == (0 : Int)) (cond (x7 == x8) (True) ((false = false) ∧ (True))) ((false = false) ∧ ((false = false) ∧ (True)))) ((false = false) ∧ ((false = false) ∧ ((false = false) ∧ (True))))) ((false = false) ∧ ((false = false) ∧ ((false = false) ∧ ((false = false) ∧ (True)))))) ∧ (lt ((bif (x6 == x8) then (bif (bif (x2 == (0 : Int)) then (bif (x3 == (0 : Int)) then (bif (x4 == (0 : Int)) then true else false) else false) else false) then (bif (x5 == (0 : Int)) then (bif (x7 == x8) then ((((cnL (⟨m0, m1, m2, m3, m4, m5, m6, m7, m8, m9, m10, m11⟩ : TMod) (⟨⟨b0, b1, b2⟩, ⟨b3, b4, b5⟩⟩ : TBox) (listC ((listC l.length mkHit (hitsC l)).length) mkHit (hitsC (listC l.length mkHit (hitsC l)))) K).length : Nat) : Int) == (0 : Int)) else false) else false) else false) else false)) fun x9 => post (.t (.c (.v (.bool x9)))))) (lt ((bestV (⟨m0, m1, m2, m3, m4, m5, m6, m7, m8, m9, m10, m11⟩ : TMod) (⟨⟨b0, b1, b2⟩, ⟨b3, b4, b5⟩⟩ : TBox) (listC l.length mkHit (hitsC l))).x) fun x10 => lt ((bestV (⟨m0, m1, m2, m3, m4, m5, m6, m7, m8, m9, m10, m11⟩ : TMod) (⟨⟨b0, b1, b2⟩, ⟨b3, b4, b5⟩⟩ : TBox) (listC l.length mkHit (hitsC l))).y) fun x11 => lt ((bestV (⟨m0, m1, m2, m3, m4, m5, m6, m7, m8, m9, m10, m11⟩ : TMod) (⟨⟨b0, b1, b2⟩, ⟨b3, b4, b5⟩⟩ : TBox) (listC l.length mkHit (hitsC l))).z) fun x12 => lt (bestS (⟨m0, m1, m2, m3, m4, m5, m6, m7, m8, m9, m10, m11⟩ : TMod) (⟨⟨b0, b1, b2⟩, ⟨b3, b4, b5⟩⟩ : TBox) (listC l.length mkHit (hitsC l))) fun x13 => lt (decide (((⟨m0, m1, m2, m3, m4, m5, m6, m7, m8, m9, m10, m11⟩ : TMod)).steps (⟨⟨b0, b1, b2⟩, ⟨b3, b4, b5⟩⟩ : TBox) ≠ [])) fun x14 => (numsP 5 l.length (hitsC l) ∧ ((⟨m0, m1, m2, m3, m4, m5, m6, m7, m8, m9, m10, m11⟩ : TMod)).err = 0 ∧ ((⟨⟨b0, b1, b2⟩, ⟨b3, b4, b5⟩⟩ : TBox)).err = 0 ∧ hitsE (listC l.length mkHit (hitsC l)) = 0) ∧ ((cond x14 (cond (x6 != (0 : Int)) ((true = true) ∧ ((true = true) ∧ ((true = true) ∧ (True)))) (cond (!(bif (x2 == x10) then (bif (x3 == x11) then (bif (x4 == x12) then true else false) else false) else false)) ((true = true) ∧ ((true = true) ∧ (True))) (cond (x5 != x13) ((true = true) ∧ (True)) (cond (!x14) (cond (x6 != (12 : Int)) ((true = true) ∧ ((true = true) ∧ (True))) (cond (!(bif (x2 == (0 : Int)) then (bif (x3 == (0 : Int)) then (bif (x4 == (0 : Int)) then true else false) else false) else false)) ((true = true) ∧ (True)) (True))) ((false = false) ∧ (True)))))) ((false = false) ∧ (cond (!x14) (cond (x6 != (12 : Int)) ((true = true) ∧ ((true = true) ∧ (True))) (cond (!(bif (x2 == (0 : Int)) then (bif (x3 == (0 : Int)) then (bif (x4 == (0 : Int)) then true else false) else false) else false)) ((true = true) ∧ (True)) (True))) ((false = false) ∧ (True))))) ∧ (lt ((bif x14 then (bif (x6 != (0 : Int)) then true else (bif (!(bif (x2 == x10) then (bif (x3 == x11) then (bif (x4 == x12) then true else false) else false) else false)) then true else (bif (x5 != x13) then true else (bif (!x14) then (bif (x6 != (12 : Int)) then true else (bif (!(bif (x2 == (0 : Int)) then (bif (x3 == (0 : Int)) then (bif (x4 == (0 : Int)) then true else false) else false) else false)) then true else (x5 != (0 : Int)))) else false)))) else (bif (!x14) then (bif (x6 != (12 : Int)) then true else (bif (!(bif (x2 == (0 : Int)) then (bif (x3 == (0 : Int)) then (bif (x4 == (0 : Int)) then true else false) else false) else false)) then true else (x5 != (0 : Int)))) else false))) fun x15 => cond x15 (post (.t (.c (.v (.bool false))))) (cond (!(inB K (0 : Int) (120000 : Int))) ((cond (x7 == (2 : Int)) (True) ((false = false) ∧ (True))) ∧ (lt ((bif (x7 == (2 : Int)) then ((((cnL (⟨m0, m1, m2, m3, m4, m5, m6, m7, m8, m9, m10, m11⟩ : TMod) (⟨⟨b0, b1, b2⟩, ⟨b3, b4, b5⟩⟩ : TBox) (listC ((listC l.length mkHit (hitsC l)).length) mkHit (hitsC (listC l.length mkHit (hitsC l)))) K).length : Nat) : Int) == (0 : Int)) else false)) fun x16 => post (.t (.c (.v (.bool x16)))))) (cond (!x14) ((cond (x7 == (12 : Int)) (True) ((false = false) ∧ (True))) ∧ (lt ((bif (x7 == (12 : Int)) then ((((cnL (⟨m0, m1, m2, m3, m4, m5, m6, m7, m8, m9, m10, m11⟩ : TMod) (⟨⟨b0, b1, b2⟩, ⟨b3, b4, b5⟩⟩ : TBox) (listC ((listC l.length mkHit (hitsC l)).length) mkHit (hitsC (listC l.length mkHit (hitsC l)))) K).length : Nat) : Int) == (0 : Int)) else false)) fun x17 => post (.t (.c (.v (.bool x17)))))) ((cond (x7 == (0 : Int)) (lt (IntKind.i64.wrap (x13 + K)) fun x19 => (numsP 5 l.length (hitsC l) ∧ ((⟨m0, m1, m2, m3, m4, m5, m6, m7, m8, m9, m10, m11⟩ : TMod)).err = 0 ∧ ((⟨⟨b0, b1, b2⟩, ⟨b3, b4, b5⟩⟩ : TBox)).err = 0 ∧ hitsE (listC l.length mkHit (hitsC l)) = 0) ∧ ((numsP 3 ((cnL (⟨m0, m1, m2, m3, m4, m5, m6, m7, m8, m9, m10, m11⟩ : TMod) (⟨⟨b0, b1, b2⟩, ⟨b3, b4, b5⟩⟩ : TBox) (listC ((listC l.length mkHit (hitsC l)).length) mkHit (hitsC (listC l.length mkHit (hitsC l)))) K).length) (plsC (cnL (⟨m0, m1, m2, m3, m4, m5, m6, m7, m8, m9, m10, m11⟩ : TMod) (⟨⟨b0, b1, b2⟩, ⟨b3, b4, b5⟩⟩ : TBox) (listC ((listC l.length mkHit (hitsC l)).length) mkHit (hitsC (listC l.length mkHit (hitsC l)))) K)) ∧ numsP 3 (((((⟨m0, m1, m2, m3, m4, m5, m6, m7, m8, m9, m10, m11⟩ : TMod)).steps (⟨⟨b0, b1, b2⟩, ⟨b3, b4, b5⟩⟩ : TBox)).filter fun s => decide (((⟨m0, m1, m2, m3, m4, m5, m6, m7, m8, m9, m10, m11⟩ : TMod)).score s (listC l.length mkHit (hitsC l)) ≤ x19)).length) (plsC ((((⟨m0, m1, m2, m3, m4, m5, m6, m7, m8, m9, m10, m11⟩ : TMod)).steps (⟨⟨b0, b1, b2⟩, ⟨b3, b4, b5⟩⟩ : TBox)).filter fun s => decide (((⟨m0, m1, m2, m3, m4, m5, m6, m7, m8, m9, m10, m11⟩ : TMod)).score s (listC l.length mkHit (hitsC l)) ≤ x19))) ∧ ((listC ((cnL (⟨m0, m1, m2, m3, m4, m5, m6, m7, m8, m9, m10, m11⟩ : TMod) (⟨⟨b0, b1, b2⟩, ⟨b3, b4, b5⟩⟩ : TBox) (listC ((listC l.length mkHit (hitsC l)).length) mkHit (hitsC (listC l.length mkHit (hitsC l)))) K).length) mkPl (plsC (cnL (⟨m0, m1, m2, m3, m4, m5, m6, m7, m8, m9, m10, m11⟩ : TMod) (⟨⟨b0, b1, b2⟩, ⟨b3, b4, b5⟩⟩ : TBox) (listC ((listC l.length mkHit (hitsC l)).length) mkHit (hitsC (listC l.length mkHit (hitsC l)))) K)))).length ≤ 1000000) ∧ (True))) ((false = false) ∧ (True))) ∧ (lt ((bif (x7 == (0 : Int)) then decide ((listC ((cnL (⟨m0, m1, m2, m3, m4, m5, m6, m7, m8, m9, m10, m11⟩ : TMod) (⟨⟨b0, b1, b2⟩, ⟨b3, b4, b5⟩⟩ : TBox) (listC ((listC l.length mkHit (hitsC l)).length) mkHit (hitsC (listC l.length mkHit (hitsC l)))) K).length) mkPl (plsC (cnL (⟨m0, m1, m2, m3, m4, m5, m6, m7, m8, m9, m10, m11⟩ : TMod) (⟨⟨b0, b1, b2⟩, ⟨b3, b4, b5⟩⟩ : TBox) (listC ((listC l.length mkHit (hitsC l)).length) mkHit (hitsC (listC l.length mkHit (hitsC l)))) K))) = (listC (((((⟨m0, m1, m2, m3, m4, m5, m6, m7, m8, m9, m10, m11⟩ : TMod)).steps (⟨⟨b0, b1, b2⟩, ⟨b3, b4, b5⟩⟩ : TBox)).filter fun s => decide (((⟨m0, m1, m2, m3, m4, m5, m6, m7, m8, m9, m10, m11⟩ : TMod)).score s (listC l.length mkHit (hitsC l)) ≤ (IntKind.i64.wrap (x13 + K)))).length) mkPl (plsC ((((⟨m0, m1, m2, m3, m4, m5, m6, m7, m8, m9, m10, m11⟩ : TMod)).steps (⟨⟨b0, b1, b2⟩, ⟨b3, b4, b5⟩⟩ : TBox)).filter fun s => decide (((⟨m0, m1, m2, m3, m4, m5, m6, m7, m8, m9, m10, m11⟩ : TMod)).score s (listC l.length mkHit (hitsC l)) ≤ (IntKind.i64.wrap (x13 + K))))))) else false)) fun x20 => post (.t (.c (.v (.bool x20)))))))))))))))))))
def ann_law05_TrackBest : Ann := ⟨fun r => lookA r [(5, ([[], [], [1], [], [3], [3, 4], [0, 1, 2, 3, 4, 5], [0, 1, 2, 3, 4, 5, 6], [0, 1, 2, 3, 4, 5, 6, 7], [0, 1, 2, 3, 4, 5, 6, 7], [0, 1, 2, 3, 4, 5, 6, 7], [], [0, 1, 2, 3, 4, 5, 6, 7, 8, 11], [0, 1, 2, 3, 4, 5, 6, 7, 8, 9, 11, 12], [0, 1, 2, 3, 4, 5, 6, 7, 8, 9, 10, 11, 12, 13]], [[34, 35, 7], [34, 35, 7], [34, 35, 7], [34, 35, 7], [34, 35, 7], [35, 7], [7], [7], [7], [7], [7], [34, 35], [], [], []])), (6, ([[], [], [1], [], [0, 1, 2, 3], [0, 1, 2, 3, 4], [0, 1, 2, 3, 4, 5], [0, 1, 2, 3, 4, 5], [0, 1, 2, 3, 4, 5, 6], [0, 1, 2, 3, 4, 5, 6, 7, 8]], [[42, 44], [42, 44], [44], [42, 44], [], [], [], [], [], []]))], fun _ => none, fun _ => [], Ikv51, false, fun r => lookA r [(3, (5, [27])), (11, (4, [6])), (13, (2, [118])), (16, (3, [6])), (18, (3, [6])), (19, (3, [6]))], fun r => lookA r [(9, [12])]⟩
theorem ev_law05_TrackBest (J : Inv) (m0 m1 m2 m3 m4 m5 m6 m7 m8 m9 m10 m11 : Int) (b0 b1 b2 b3 b4 b5 : Int) (l : List THit) (K : Int) (post : DV → Prop) : evFn Try.prog tab Skg86 ann_law05_TrackBest J Try.f3 [.t (.a [.v (.int .i64 m0), .v (.int .i64 m1), .v (.int .i64 m2), .v (.int .i64 m3), .v (.int .i64 m4), .v (.int .i64 m5), .v (.int .i64 m6), .v (.int .i64 m7), .v (.int .i64 m8), .v (.int .i64 m9), .v (.int .i64 m10), .v (.int .i64 m11)]), .t (.a [.v (.int .i64 b0), .v (.int .i64 b1), .v (.int .i64 b2), .v (.int .i64 b3), .v (.int .i64 b4), .v (.int .i64 b5), .sl 5 l.length (hitsC l)]), .t (.c (.v (.int .i64 K)))] post = vc_law05_TrackBest m0 m1 m2 m3 m4 m5 m6 m7 m8 m9 m10 m11 b0 b1 b2 b3 b4 b5 l K post := by kernel_rfl
theorem fit_law05_TrackBest : okFn ann_law05_TrackBest Try.f3 = true := by kernel_rfl
theorem lp_law05_TrackBest (J : Inv) (post : DV → Prop) : AllG J (loopsFn Try.prog tab Skg86 ann_law05_TrackBest J Try.f3 post) = (True) := by kernel_rfl
set_option maxHeartbeats 8000000 in
set_option maxRecDepth 100000 in
theorem spec_law05_TrackBest (m0 m1 m2 m3 m4 m5 m6 m7 m8 m9 m10 m11 : Int) (b0 b1 b2 b3 b4 b5 : Int) (l : List THit) (K : Int) : vc_law05_TrackBest m0 m1 m2 m3 m4 m5 m6 m7 m8 m9 m10 m11 b0 b1 b2 b3 b4 b5 l K (fun r => LeD r (.t (.c (.v (.bool true))))) := by
 unfold vc_law05_TrackBest
 simp only [hits_listC, pls_listC]
 refine ⟨numsP_hits l, by (repeat' first | trivial | assumption | (refine cond_i ?_ ?_ <;> intro _) | (refine And.intro ?_ ?_)), lt_i fun x1 h1 => cond_i (fun _ => LeD.refl _) (fun g => ?_)⟩
 subst g
 have h14 : l.length ≤ 14 := by
  by_cases c : l.length ≤ 14
  ·exact c
  ·rw [decide_eq_false c] at h1; cases h1
 clear h1
 refine ⟨⟨numsP_hits l, by omega⟩, lt_i fun x2 h2 => lt_i fun x3 h3 => lt_i fun x4 h4 => lt_i fun x5 h5 => lt_i fun x6 h6 => ⟨numsP_hits l, ⟨numsP_hits l, by omega⟩, lt_i fun x7 h7 => ⟨numsP_hits l, cond_i (fun _ => ⟨numsP_hits l, trivial⟩) (fun _ => trivial), lt_i fun x8 h8 => ?_⟩⟩⟩
 rw [bs_d] at h8
 refine cond_i (fun e => ⟨by (repeat' first | trivial | assumption | (refine cond_i ?_ ?_ <;> intro _) | (refine And.intro ?_ ?_)), lt_i fun x9 h9 => leB ?_⟩) (fun e => lt_i fun x10 h10 => lt_i fun x11 h11 => lt_i fun x12 h12 => lt_i fun x13 h13 => lt_i fun x14 h14 => ?_)
 ·have e : firstNZ [firstNZ [((⟨m0, m1, m2, m3, m4, m5, m6, m7, m8, m9, m10, m11⟩ : TMod)).err, ((⟨⟨b0, b1, b2⟩, ⟨b3, b4, b5⟩⟩ : TBox)).err], hitsE l] ≠ 0 := by rw [h8]; simpa using e
  obtain ⟨a1, a2, a3⟩ := bi_1 (l := l) e
  obtain ⟨c1, c2⟩ := cnE_1 (K := K) e
  rw [a2] at h2 h3 h4
  rw [a3] at h5
  rw [a1, h8] at h6
  rw [c1, h8] at h7
  rw [← h9, c2, ← h2, ← h3, ← h4, ← h5, ← h6, ← h7]
  simp
 have e : firstNZ [firstNZ [((⟨m0, m1, m2, m3, m4, m5, m6, m7, m8, m9, m10, m11⟩ : TMod)).err, ((⟨⟨b0, b1, b2⟩, ⟨b3, b4, b5⟩⟩ : TBox)).err], hitsE l] = 0 := by rw [h8]; simpa using e
 obtain ⟨q1, q2⟩ := fn2 e
 obtain ⟨q3, q4⟩ := fn2 q1
 have hb := best_rg (b := (⟨⟨b0, b1, b2⟩, ⟨b3, b4, b5⟩⟩ : TBox)) (err_ok q3) q2
 refine ⟨⟨numsP_hits l, q3, q4, q2⟩, by (repeat' first | trivial | assumption | (refine cond_i ?_ ?_ <;> intro _) | (refine And.intro ?_ ?_)), lt_i fun x15 h15 => ?_⟩
 by_cases hs : ((⟨m0, m1, m2, m3, m4, m5, m6, m7, m8, m9, m10, m11⟩ : TMod)).steps (⟨⟨b0, b1, b2⟩, ⟨b3, b4, b5⟩⟩ : TBox) = []
 ·obtain ⟨a1, a2, a3⟩ := bi_2 (l := l) e hs
  rw [a2] at h2 h3 h4
  rw [a3] at h5
  rw [a1] at h6
  rw [decide_eq_false (fun q => q hs)] at h14
  subst h2 h3 h4 h5 h6 h14
  have e15 : x15 = false := by rw [← h15]; rfl
  subst e15
  refine cond_i (fun g => by cases g) (fun _ => cond_i (fun g => ⟨by (repeat' first | trivial | assumption | (refine cond_i ?_ ?_ <;> intro _) | (refine And.intro ?_ ?_)), lt_i fun x16 h16 => leB ?_⟩) (fun g => cond_i (fun _ => ⟨by (repeat' first | trivial | assumption | (refine cond_i ?_ ?_ <;> intro _) | (refine And.intro ?_ ?_)), lt_i fun x17 h17 => leB ?_⟩) (fun q => by cases q)))
  ·obtain ⟨c1, c2⟩ := cnE_2 (m := (⟨m0, m1, m2, m3, m4, m5, m6, m7, m8, m9, m10, m11⟩ : TMod)) (b := (⟨⟨b0, b1, b2⟩, ⟨b3, b4, b5⟩⟩ : TBox)) (l := l) (K := K) e (by simpa using g)
   rw [c1] at h7
   rw [← h16, c2, ← h7]; rfl
  ·have c1 := cnE_3 (m := (⟨m0, m1, m2, m3, m4, m5, m6, m7, m8, m9, m10, m11⟩ : TMod)) (b := (⟨⟨b0, b1, b2⟩, ⟨b3, b4, b5⟩⟩ : TBox)) (l := l) (K := K) e (by simpa using g)
   rw [a1] at c1
   rw [c1] at h7
   rw [← h17, show cnL (⟨m0, m1, m2, m3, m4, m5, m6, m7, m8, m9, m10, m11⟩ : TMod) (⟨⟨b0, b1, b2⟩, ⟨b3, b4, b5⟩⟩ : TBox) l K = [] from if_neg (by rw [c1]; decide), ← h7]; rfl
 ·obtain ⟨a1, a2, a3⟩ := bi_3 (l := l) e hs
  rw [a2] at h2 h3 h4
  rw [a3] at h5
  rw [a1] at h6
  rw [h10] at h2
  rw [h11] at h3
  rw [h12] at h4
  rw [h13] at h5
  rw [h13] at hb
  rw [decide_eq_true hs] at h14
  subst h2 h3 h4 h5 h6 h14
  have e15 : x15 = false := by rw [← h15]; simp
  subst e15
  refine cond_i (fun g => by cases g) (fun _ => cond_i (fun g => ⟨by (repeat' first | trivial | assumption | (refine cond_i ?_ ?_ <;> intro _) | (refine And.intro ?_ ?_)), lt_i fun x16 h16 => leB ?_⟩) (fun g => cond_i (fun q => by cases q) (fun _ => ?_)))
  ·obtain ⟨c1, c2⟩ := cnE_2 (m := (⟨m0, m1, m2, m3, m4, m5, m6, m7, m8, m9, m10, m11⟩ : TMod)) (b := (⟨⟨b0, b1, b2⟩, ⟨b3, b4, b5⟩⟩ : TBox)) (l := l) (K := K) e (by simpa using g)
   rw [c1] at h7
   rw [← h16, c2, ← h7]; rfl
  ·have hk : inB K 0 120000 = true := by simpa using g
   have c1 := cnE_3 (m := (⟨m0, m1, m2, m3, m4, m5, m6, m7, m8, m9, m10, m11⟩ : TMod)) (b := (⟨⟨b0, b1, b2⟩, ⟨b3, b4, b5⟩⟩ : TBox)) (l := l) (K := K) e hk
   rw [a1] at c1
   rw [inB_true] at hk
   have ec : cnL (⟨m0, m1, m2, m3, m4, m5, m6, m7, m8, m9, m10, m11⟩ : TMod) (⟨⟨b0, b1, b2⟩, ⟨b3, b4, b5⟩⟩ : TBox) l K = (((⟨m0, m1, m2, m3, m4, m5, m6, m7, m8, m9, m10, m11⟩ : TMod)).steps (⟨⟨b0, b1, b2⟩, ⟨b3, b4, b5⟩⟩ : TBox)).filter (fun s => decide (((⟨m0, m1, m2, m3, m4, m5, m6, m7, m8, m9, m10, m11⟩ : TMod)).score s l ≤ x13 + K)) := by
    rw [show cnL (⟨m0, m1, m2, m3, m4, m5, m6, m7, m8, m9, m10, m11⟩ : TMod) (⟨⟨b0, b1, b2⟩, ⟨b3, b4, b5⟩⟩ : TBox) l K = coL (⟨m0, m1, m2, m3, m4, m5, m6, m7, m8, m9, m10, m11⟩ : TMod) (⟨⟨b0, b1, b2⟩, ⟨b3, b4, b5⟩⟩ : TBox) l K from if_pos c1]
    unfold coL
    congr 1
    funext s
    unfold coQ
    rw [h13]
   have hlen := Nat.le_trans (List.length_filter_le (fun s => decide (((⟨m0, m1, m2, m3, m4, m5, m6, m7, m8, m9, m10, m11⟩ : TMod)).score s l ≤ x13 + K)) (((⟨m0, m1, m2, m3, m4, m5, m6, m7, m8, m9, m10, m11⟩ : TMod)).steps (⟨⟨b0, b1, b2⟩, ⟨b3, b4, b5⟩⟩ : TBox))) (steps_len (m := (⟨m0, m1, m2, m3, m4, m5, m6, m7, m8, m9, m10, m11⟩ : TMod)) q4)
   rw [c1] at h7
   subst h7
   simp only [wi (n := x13 + K) (by omega), ec]
   refine ⟨cond_i (fun _ => lt_i fun x19 h19 => ?_) (fun q => by cases q), lt_i fun x20 h20 => leB ?_⟩
   ·rw [← h19]
    exact ⟨⟨numsP_hits l, q3, q4, q2⟩, ⟨numsP_pls _, numsP_pls _, by omega⟩, trivial⟩
   ·rw [← h20]; simp
theorem law_law05_TrackBest (m0 m1 m2 m3 m4 m5 m6 m7 m8 m9 m10 m11 : Int) (b0 b1 b2 b3 b4 b5 : Int) (l : List THit) (K : Int) (W : World) (N : Nat → Prop) (vs : List Value) (h : All2 (RelD (RelF W N)) [.t (.a [.v (.int .i64 m0), .v (.int .i64 m1), .v (.int .i64 m2), .v (.int .i64 m3), .v (.int .i64 m4), .v (.int .i64 m5), .v (.int .i64 m6), .v (.int .i64 m7), .v (.int .i64 m8), .v (.int .i64 m9), .v (.int .i64 m10), .v (.int .i64 m11)]), .t (.a [.v (.int .i64 b0), .v (.int .i64 b1), .v (.int .i64 b2), .v (.int .i64 b3), .v (.int .i64 b4), .v (.int .i64 b5), .sl 5 l.length (hitsC l)]), .t (.c (.v (.int .i64 K)))] vs) : Calls Try.prog 3 vs.toArray W fun e w' => e = .returned (.bool true) ∧ Below W.heap.size W w' :=
 law_end (fn_sound mixed tabOK VSkg86 (ann := ann_law05_TrackBest) VIkv51 (fn := Try.f3) (J := fun _ _ _ => False) (by kernel_rfl) fit_law05_TrackBest (args := [.t (.a [.v (.int .i64 m0), .v (.int .i64 m1), .v (.int .i64 m2), .v (.int .i64 m3), .v (.int .i64 m4), .v (.int .i64 m5), .v (.int .i64 m6), .v (.int .i64 m7), .v (.int .i64 m8), .v (.int .i64 m9), .v (.int .i64 m10), .v (.int .i64 m11)]), .t (.a [.v (.int .i64 b0), .v (.int .i64 b1), .v (.int .i64 b2), .v (.int .i64 b3), .v (.int .i64 b4), .v (.int .i64 b5), .sl 5 l.length (hitsC l)]), .t (.c (.v (.int .i64 K)))]) (post := (fun r => LeD r (.t (.c (.v (.bool true)))))) (by rw [ev_law05_TrackBest]; exact spec_law05_TrackBest m0 m1 m2 m3 m4 m5 m6 m7 m8 m9 m10 m11 b0 b1 b2 b3 b4 b5 l K) (by rw [lp_law05_TrackBest]; trivial) (Nat.le_of_ble_eq_true (by kernel_rfl)) W N vs trivial h)
end Go.Proofs.Ytfadkjcfjkmalaa