/- Texts of this claim, together. -/
import Derived.Test.YtfadkjcfjkmalaaGreatDoorLT12

set_option maxRecDepth 100000
set_option linter.unusedVariables false
set_option linter.unusedSimpArgs false
namespace Go.Proofs.YtfadkjcfjkmalaaGreatDoor
open Go.RowKit Ev
def q2u (m0 m1 m2 m3 m4 m5 m6 m7 m8 m9 mA mB b0 b1 b2 b3 b4 b5 : Int) (l : List TH) (K : Int) (v0_0 : List (List CV)) : DS := ⟨[none, none, none, none, some (.t (.c (.p 4 0))), some (.t (.c (.p 5 0))), none, none, some (.t (.c (.p 8 0))), none, none, some (.t (.c (.p 11 0))), some (.t (.c (.p 12 0))), none, none, none, none, none, none, none, none, none, none, none, none, none, none, none, none, none, none, none, none, none, none, none, none, none, none, none, none, none, none, none, none, none, none, none, some (.t (.fn 100 [.px 6 0 (boxC [.v (.int .i64 b0), .v (.int .i64 b1), .v (.int .i64 b2), .v (.int .i64 b3), .v (.int .i64 b4), .v (.int .i64 b5)]), .px 12 0 (boxC [.v (.int .i64 m0), .v (.int .i64 m1), .v (.int .i64 m2), .v (.int .i64 m3), .v (.int .i64 m4), .v (.int .i64 m5), .v (.int .i64 m6), .v (.int .i64 m7), .v (.int .i64 m8), .v (.int .i64 m9), .v (.int .i64 mA), .v (.int .i64 mB)])])), none, none, none, none, none, none, none, none, none, none, none, none, none, none, none], [some (.gen 23 3 v0_0), none, none, none, some (.box 59 [.v (.int .i64 b0), .v (.int .i64 b1), .v (.int .i64 b2), .v (.int .i64 b3), .v (.int .i64 b4), .v (.int .i64 b5), .sl 5 l.length (qi l)]), some (.box 3 [.v (.int .i64 K)]), none, none, some (.box 106 [.v (.int .i64 m0), .v (.int .i64 m1), .v (.int .i64 m2), .v (.int .i64 m3), .v (.int .i64 m4), .v (.int .i64 m5), .v (.int .i64 m6), .v (.int .i64 m7), .v (.int .i64 m8), .v (.int .i64 m9), .v (.int .i64 mA), .v (.int .i64 mB)]), none, none, some (.box 3 [.v (.int .i64 (biS (TM.mk m0 m1 m2 m3 m4 m5 m6 m7 m8 m9 mA mB) (TB.mk (.mk b0 b1 b2) (.mk b3 b4 b5)) (qa l.length qc (qi l))))]), some (.box 48 [.os 0]), none, none, none, none, none, none, none, none, none, none, none, none, none, none, none, none, none, none, none, none, none, none, none, none, none, none, none, none, none, none, none, none, none, none, none, none, none, none, none, none, none, none, none, none, none, none, none, none, none, none, none]⟩
def q9y (J : Inv) (m0 m1 m2 m3 m4 m5 m6 m7 m8 m9 mA mB b0 b1 b2 b3 b4 b5 : Int) (l : List TH) (K : Int) (post : DV → Prop) : Prop := (fun (Z1 : TM) (Z2 : TB) (Z3 : List TH) => (qj 5 l.length (qi l)) ∧ ((qj 1 2 (genC [[.v (.int .i64 (qd [qd [(Z1).err, (Z2).err], ql Z3]))], [.v (.int .i64 (unl (inB K (0 : Int) (120000 : Int)) (2 : Int)))]]) ∧ (([(qd [qd [(Z1).err, (Z2).err], ql Z3]), (unl (inB K (0 : Int) (120000 : Int)) (2 : Int))] : List Int)).length ≤ 100) ∧ (cond ((qd ([(qd [qd [(Z1).err, (Z2).err], ql Z3]), (unl (inB K (0 : Int) (120000 : Int)) (2 : Int))] : List Int)) != (0 : Int)) (post (.tu [.c (.v (.slice none 0 0)), .c (.v (.int .i64 (qd ([(qd [qd [(Z1).err, (Z2).err], ql Z3]), (unl (inB K (0 : Int) (120000 : Int)) (2 : Int))] : List Int))))])) ((qj 5 l.length (qi l)) ∧ (cond ((biE Z1 Z2 Z3) != (0 : Int)) (post (.tu [.c (.v (.slice none 0 0)), .c (.v (.int .i64 (biE Z1 Z2 Z3)))])) ((q4v 6 (boxC [.v (.int .i64 b0), .v (.int .i64 b1), .v (.int .i64 b2), .v (.int .i64 b3), .v (.int .i64 b4), .v (.int .i64 b5)]) = true ∧ q4v 12 (boxC [.v (.int .i64 m0), .v (.int .i64 m1), .v (.int .i64 m2), .v (.int .i64 m3), .v (.int .i64 m4), .v (.int .i64 m5), .v (.int .i64 m6), .v (.int .i64 m7), .v (.int .i64 m8), .v (.int .i64 m9), .v (.int .i64 mA), .v (.int .i64 mB)]) = true ∧ (Z2).lo.inS 20 = true ∧ (Z2).hi.inS 20 = true ∧ (Z2).ok) ∧ (J 0 [0] (q2u m0 m1 m2 m3 m4 m5 m6 m7 m8 m9 mA mB b0 b1 b2 b3 b4 b5 l K ([]))))))))) (TM.mk m0 m1 m2 m3 m4 m5 m6 m7 m8 m9 mA mB) (TB.mk (.mk b0 b1 b2) (.mk b3 b4 b5)) (qa l.length qc (qi l))
def q3i : Ann := ⟨fun r => qr r [(11, ([[], [], [], [2], [0, 1, 2, 3], [], [], [5, 6], [0, 1, 2, 3, 4, 5, 6, 7]], [[54], [54], [54], [54], [], [54], [54], [54], []]))], fun b => qr b [(0, (none, some ⟨[4, 5, 8, 11, 12, 48], [4, 5, 8, 11, 12], []⟩))], fun b => (qr b [(0, [(12, 0, 0, .gen 23 3 [])])]).getD [], Ikv64, true, fun _ => none, fun _ => none⟩
def q7M (J : Inv) (m0 m1 m2 m3 m4 m5 m6 m7 m8 m9 mA mB b0 b1 b2 b3 b4 b5 : Int) (l : List TH) (K : Int) (v0_0 : List (List CV)) (nn0 : Nat) (post : DV → Prop) : Prop := (fun (Z1 : TM) (Z2 : TB) (Z3 : List TH) => (nn0 = (qC b0 b1 b2 b3 b4 b5 m0 m1 m2 m3 m4 m5 m6 m7 m8 m9 mA mB) → post (.tu [.c (.sl 3 v0_0.length (genC v0_0)), .c (.v (.int .i64 0))])) ∧ (nn0 < (qC b0 b1 b2 b3 b4 b5 m0 m1 m2 m3 m4 m5 m6 m7 m8 m9 mA mB) → (qj 5 l.length (qi l) ∧ (Z1).Ok ∧ ((plAt ((Z1).steps Z2) nn0) : V3).inS 20 = true ∧ (Z1).permit (plAt ((Z1).steps Z2) nn0) ∧ (Z3).length ≤ 12 ∧ ∀ i, i < (Z3).length → (qe Z3 i).Ok) ∧ (lt (IntKind.i64.wrap ((biS Z1 Z2 Z3) + K)) fun x1 => cond (decide (((Z1).score (plAt ((Z1).steps Z2) nn0) Z3) ≤ x1)) ((q0k 24 (v0_0.length + ([[.v (.int .i64 ((plAt ((Z1).steps Z2) nn0).x)), .v (.int .i64 ((plAt ((Z1).steps Z2) nn0).y)), .v (.int .i64 ((plAt ((Z1).steps Z2) nn0).z))]] : List (List CV)).length)) ∧ (((some (.t (.fn 100 [.px 6 0 (boxC [.v (.int .i64 b0), .v (.int .i64 b1), .v (.int .i64 b2), .v (.int .i64 b3), .v (.int .i64 b4), .v (.int .i64 b5)]), .px 12 0 (boxC [.v (.int .i64 m0), .v (.int .i64 m1), .v (.int .i64 m2), .v (.int .i64 m3), .v (.int .i64 m4), .v (.int .i64 m5), .v (.int .i64 m6), .v (.int .i64 m7), .v (.int .i64 m8), .v (.int .i64 m9), .v (.int .i64 mA), .v (.int .i64 mB)])])) : Option DV) = some (.t (.fn 100 [.px 6 0 (boxC [.v (.int .i64 b0), .v (.int .i64 b1), .v (.int .i64 b2), .v (.int .i64 b3), .v (.int .i64 b4), .v (.int .i64 b5)]), .px 12 0 (boxC [.v (.int .i64 m0), .v (.int .i64 m1), .v (.int .i64 m2), .v (.int .i64 m3), .v (.int .i64 m4), .v (.int .i64 m5), .v (.int .i64 m6), .v (.int .i64 m7), .v (.int .i64 m8), .v (.int .i64 m9), .v (.int .i64 mA), .v (.int .i64 mB)])]))) ∧ J 0 [nn0 + 1] (q2u m0 m1 m2 m3 m4 m5 m6 m7 m8 m9 mA mB b0 b1 b2 b3 b4 b5 l K (v0_0 ++ ([[.v (.int .i64 ((plAt ((Z1).steps Z2) nn0).x)), .v (.int .i64 ((plAt ((Z1).steps Z2) nn0).y)), .v (.int .i64 ((plAt ((Z1).steps Z2) nn0).z))]] : List (List CV)))))) (((some (.t (.fn 100 [.px 6 0 (boxC [.v (.int .i64 b0), .v (.int .i64 b1), .v (.int .i64 b2), .v (.int .i64 b3), .v (.int .i64 b4), .v (.int .i64 b5)]), .px 12 0 (boxC [.v (.int .i64 m0), .v (.int .i64 m1), .v (.int .i64 m2), .v (.int .i64 m3), .v (.int .i64 m4), .v (.int .i64 m5), .v (.int .i64 m6), .v (.int .i64 m7), .v (.int .i64 m8), .v (.int .i64 m9), .v (.int .i64 mA), .v (.int .i64 mB)])])) : Option DV) = some (.t (.fn 100 [.px 6 0 (boxC [.v (.int .i64 b0), .v (.int .i64 b1), .v (.int .i64 b2), .v (.int .i64 b3), .v (.int .i64 b4), .v (.int .i64 b5)]), .px 12 0 (boxC [.v (.int .i64 m0), .v (.int .i64 m1), .v (.int .i64 m2), .v (.int .i64 m3), .v (.int .i64 m4), .v (.int .i64 m5), .v (.int .i64 m6), .v (.int .i64 m7), .v (.int .i64 m8), .v (.int .i64 m9), .v (.int .i64 mA), .v (.int .i64 mB)])]))) ∧ J 0 [nn0 + 1] (q2u m0 m1 m2 m3 m4 m5 m6 m7 m8 m9 mA mB b0 b1 b2 b3 b4 b5 l K v0_0))))) (TM.mk m0 m1 m2 m3 m4 m5 m6 m7 m8 m9 mA mB) (TB.mk (.mk b0 b1 b2) (.mk b3 b4 b5)) (qa l.length qc (qi l))
theorem qgL (J : Inv) (post : DV → Prop) : AllG J (qz Tryz.prog tab Sly71 q3i J Tryz.f27 post) = ((∀ i s, J 0 [i] s → round Tryz.prog tab Sly71 q3i J Tryz.f27 post 0 [i] s) ∧ True) := by kernel_rfl
def q2H (m0 m1 m2 m3 m4 m5 m6 m7 m8 m9 mA mB b0 b1 b2 b3 b4 b5 : Int) (l : List TH) (K : Int) : Inv := fun b F s => match b, F with
 | 0, [nn0] => ∃ (v0_0 : List (List CV)), s = q2u m0 m1 m2 m3 m4 m5 m6 m7 m8 m9 mA mB b0 b1 b2 b3 b4 b5 l K v0_0 ∧ (coE (TM.mk m0 m1 m2 m3 m4 m5 m6 m7 m8 m9 mA mB) (TB.mk (.mk b0 b1 b2) (.mk b3 b4 b5)) l K = 0 ∧ biE (TM.mk m0 m1 m2 m3 m4 m5 m6 m7 m8 m9 mA mB) (TB.mk (.mk b0 b1 b2) (.mk b3 b4 b5)) l = 0 ∧ nn0 ≤ (((TM.mk m0 m1 m2 m3 m4 m5 m6 m7 m8 m9 mA mB)).steps (TB.mk (.mk b0 b1 b2) (.mk b3 b4 b5))).length ∧ v0_0 = (((((TM.mk m0 m1 m2 m3 m4 m5 m6 m7 m8 m9 mA mB)).steps (TB.mk (.mk b0 b1 b2) (.mk b3 b4 b5))).take nn0).filter (coQ (TM.mk m0 m1 m2 m3 m4 m5 m6 m7 m8 m9 mA mB) (TB.mk (.mk b0 b1 b2) (.mk b3 b4 b5)) l K)).map v3Cv)
 | _, _ => False
set_option maxHeartbeats 8000000 in
theorem qdj (m0 m1 m2 m3 m4 m5 m6 m7 m8 m9 mA mB b0 b1 b2 b3 b4 b5 : Int) (l : List TH) (K : Int) (v0_0 : List (List CV)) (nn0 : Nat) (hi : coE (TM.mk m0 m1 m2 m3 m4 m5 m6 m7 m8 m9 mA mB) (TB.mk (.mk b0 b1 b2) (.mk b3 b4 b5)) l K = 0 ∧ biE (TM.mk m0 m1 m2 m3 m4 m5 m6 m7 m8 m9 mA mB) (TB.mk (.mk b0 b1 b2) (.mk b3 b4 b5)) l = 0 ∧ nn0 ≤ (((TM.mk m0 m1 m2 m3 m4 m5 m6 m7 m8 m9 mA mB)).steps (TB.mk (.mk b0 b1 b2) (.mk b3 b4 b5))).length ∧ v0_0 = (((((TM.mk m0 m1 m2 m3 m4 m5 m6 m7 m8 m9 mA mB)).steps (TB.mk (.mk b0 b1 b2) (.mk b3 b4 b5))).take nn0).filter (coQ (TM.mk m0 m1 m2 m3 m4 m5 m6 m7 m8 m9 mA mB) (TB.mk (.mk b0 b1 b2) (.mk b3 b4 b5)) l K)).map v3Cv) : q7M (q2H m0 m1 m2 m3 m4 m5 m6 m7 m8 m9 mA mB b0 b1 b2 b3 b4 b5 l K) m0 m1 m2 m3 m4 m5 m6 m7 m8 m9 mA mB b0 b1 b2 b3 b4 b5 l K v0_0 nn0 (fun r => LeD r (.tu [.c (.sl 3 ((cnL (TM.mk m0 m1 m2 m3 m4 m5 m6 m7 m8 m9 mA mB) (TB.mk (.mk b0 b1 b2) (.mk b3 b4 b5)) l K).length) (plsC (cnL (TM.mk m0 m1 m2 m3 m4 m5 m6 m7 m8 m9 mA mB) (TB.mk (.mk b0 b1 b2) (.mk b3 b4 b5)) l K))), .c (.v (.int .i64 (cnE (TM.mk m0 m1 m2 m3 m4 m5 m6 m7 m8 m9 mA mB) (TB.mk (.mk b0 b1 b2) (.mk b3 b4 b5)) l K)))])) := by
 obtain ⟨i1, i2, i3, i4⟩ := hi
 obtain ⟨q3, q4, q2, _⟩ := biE_0 i2
 have hl2 := qdi (m := (TM.mk m0 m1 m2 m3 m4 m5 m6 m7 m8 m9 mA mB)) q4
 obtain ⟨hl12, hok⟩ := q1N q2
 have ho := q1g q3
 unfold q7M
 simp only [qP]
 refine ⟨fun h => ?_, fun h => ?_⟩
 ·have h : nn0 = (((TM.mk m0 m1 m2 m3 m4 m5 m6 m7 m8 m9 mA mB)).steps (TB.mk (.mk b0 b1 b2) (.mk b3 b4 b5))).length := h
  have e : cnE (TM.mk m0 m1 m2 m3 m4 m5 m6 m7 m8 m9 mA mB) (TB.mk (.mk b0 b1 b2) (.mk b3 b4 b5)) l K = 0 := (if_neg (by rw [i1]; simp)).trans i2
  rw [show cnL (TM.mk m0 m1 m2 m3 m4 m5 m6 m7 m8 m9 mA mB) (TB.mk (.mk b0 b1 b2) (.mk b3 b4 b5)) l K = coL (TM.mk m0 m1 m2 m3 m4 m5 m6 m7 m8 m9 mA mB) (TB.mk (.mk b0 b1 b2) (.mk b3 b4 b5)) l K from if_pos e, e, i4, h, List.take_length]
  exact le_tu (le_v3 _) (LeD.refl _)
 ·have h : nn0 < (((TM.mk m0 m1 m2 m3 m4 m5 m6 m7 m8 m9 mA mB)).steps (TB.mk (.mk b0 b1 b2) (.mk b3 b4 b5))).length := h
  have hs := q8M (m := (TM.mk m0 m1 m2 m3 m4 m5 m6 m7 m8 m9 mA mB)) q4 (qdO h)
  have hK : inB K 0 120000 = true := by have := (fn2 i1).2; rwa [unl_0 (by decide)] at this
  rw [q0Q] at hK
  have hB : -120000 ≤ q3M (TM.mk m0 m1 m2 m3 m4 m5 m6 m7 m8 m9 mA mB) (TB.mk (.mk b0 b1 b2) (.mk b3 b4 b5)) l ∧ q3M (TM.mk m0 m1 m2 m3 m4 m5 m6 m7 m8 m9 mA mB) (TB.mk (.mk b0 b1 b2) (.mk b3 b4 b5)) l ≤ 120000 := by
   unfold q3M
   split
   ·exact score_120 ho q2
   ·omega
  rw [show biS (TM.mk m0 m1 m2 m3 m4 m5 m6 m7 m8 m9 mA mB) (TB.mk (.mk b0 b1 b2) (.mk b3 b4 b5)) l = q3M (TM.mk m0 m1 m2 m3 m4 m5 m6 m7 m8 m9 mA mB) (TB.mk (.mk b0 b1 b2) (.mk b3 b4 b5)) l from if_pos i2]
  refine ⟨⟨qA l, ho, hs.1, hs.2, hl12, hok⟩, lt_i fun x1 h1 => ?_⟩
  rw [wi (by omega)] at h1
  subst h1
  have ef : ((((TM.mk m0 m1 m2 m3 m4 m5 m6 m7 m8 m9 mA mB)).steps (TB.mk (.mk b0 b1 b2) (.mk b3 b4 b5))).take (nn0 + 1)).filter (coQ (TM.mk m0 m1 m2 m3 m4 m5 m6 m7 m8 m9 mA mB) (TB.mk (.mk b0 b1 b2) (.mk b3 b4 b5)) l K) = ((((TM.mk m0 m1 m2 m3 m4 m5 m6 m7 m8 m9 mA mB)).steps (TB.mk (.mk b0 b1 b2) (.mk b3 b4 b5))).take nn0).filter (coQ (TM.mk m0 m1 m2 m3 m4 m5 m6 m7 m8 m9 mA mB) (TB.mk (.mk b0 b1 b2) (.mk b3 b4 b5)) l K) ++ (if coQ (TM.mk m0 m1 m2 m3 m4 m5 m6 m7 m8 m9 mA mB) (TB.mk (.mk b0 b1 b2) (.mk b3 b4 b5)) l K (plAt (((TM.mk m0 m1 m2 m3 m4 m5 m6 m7 m8 m9 mA mB)).steps (TB.mk (.mk b0 b1 b2) (.mk b3 b4 b5))) nn0) = true then [plAt (((TM.mk m0 m1 m2 m3 m4 m5 m6 m7 m8 m9 mA mB)).steps (TB.mk (.mk b0 b1 b2) (.mk b3 b4 b5))) nn0] else []) := by
   rw [q7o h, List.filter_append, List.filter_cons, List.filter_nil]
  have hlen : (((((TM.mk m0 m1 m2 m3 m4 m5 m6 m7 m8 m9 mA mB)).steps (TB.mk (.mk b0 b1 b2) (.mk b3 b4 b5))).take nn0).filter (coQ (TM.mk m0 m1 m2 m3 m4 m5 m6 m7 m8 m9 mA mB) (TB.mk (.mk b0 b1 b2) (.mk b3 b4 b5)) l K)).length ≤ 700 := Nat.le_trans (List.length_filter_le _ _) (by rw [List.length_take]; omega)
  refine qg (fun e => ⟨?_, by trivial, _, rfl, i1, i2, h, ?_⟩) (fun e => ⟨by trivial, _, rfl, i1, i2, h, ?_⟩)
  ·rw [i4]; unfold q0k maxLen; simp; omega
  ·rw [i4, ef, if_pos (show coQ (TM.mk m0 m1 m2 m3 m4 m5 m6 m7 m8 m9 mA mB) (TB.mk (.mk b0 b1 b2) (.mk b3 b4 b5)) l K (plAt (((TM.mk m0 m1 m2 m3 m4 m5 m6 m7 m8 m9 mA mB)).steps (TB.mk (.mk b0 b1 b2) (.mk b3 b4 b5))) nn0) = true from e), List.map_append]; rfl
  ·rw [i4, ef, if_neg (by unfold coQ; rw [e]; simp), List.append_nil]
set_option maxHeartbeats 8000000 in
theorem qep (m0 m1 m2 m3 m4 m5 m6 m7 m8 m9 mA mB b0 b1 b2 b3 b4 b5 : Int) (l : List TH) (K : Int) : q9y (q2H m0 m1 m2 m3 m4 m5 m6 m7 m8 m9 mA mB b0 b1 b2 b3 b4 b5 l K) m0 m1 m2 m3 m4 m5 m6 m7 m8 m9 mA mB b0 b1 b2 b3 b4 b5 l K (fun r => LeD r (.tu [.c (.sl 3 ((cnL (TM.mk m0 m1 m2 m3 m4 m5 m6 m7 m8 m9 mA mB) (TB.mk (.mk b0 b1 b2) (.mk b3 b4 b5)) l K).length) (plsC (cnL (TM.mk m0 m1 m2 m3 m4 m5 m6 m7 m8 m9 mA mB) (TB.mk (.mk b0 b1 b2) (.mk b3 b4 b5)) l K))), .c (.v (.int .i64 (cnE (TM.mk m0 m1 m2 m3 m4 m5 m6 m7 m8 m9 mA mB) (TB.mk (.mk b0 b1 b2) (.mk b3 b4 b5)) l K)))])) := by
 unfold q9y
 simp only [qP]
 rw [show qd ([qd [qd [((TM.mk m0 m1 m2 m3 m4 m5 m6 m7 m8 m9 mA mB)).err, ((TB.mk (.mk b0 b1 b2) (.mk b3 b4 b5))).err], ql l], unl (inB K 0 120000) 2] : List Int) = coE (TM.mk m0 m1 m2 m3 m4 m5 m6 m7 m8 m9 mA mB) (TB.mk (.mk b0 b1 b2) (.mk b3 b4 b5)) l K from rfl]
 refine ⟨qA l, ⟨q0n [_, _], Nat.le_of_ble_eq_true rfl⟩, qg (fun h => ?_) (fun h => ⟨qA l, qg (fun g => ?_) (fun g => ?_)⟩)⟩
 ·have h : coE (TM.mk m0 m1 m2 m3 m4 m5 m6 m7 m8 m9 mA mB) (TB.mk (.mk b0 b1 b2) (.mk b3 b4 b5)) l K ≠ 0 := by simpa using h
  have e : cnE (TM.mk m0 m1 m2 m3 m4 m5 m6 m7 m8 m9 mA mB) (TB.mk (.mk b0 b1 b2) (.mk b3 b4 b5)) l K = coE (TM.mk m0 m1 m2 m3 m4 m5 m6 m7 m8 m9 mA mB) (TB.mk (.mk b0 b1 b2) (.mk b3 b4 b5)) l K := if_pos h
  rw [show cnL (TM.mk m0 m1 m2 m3 m4 m5 m6 m7 m8 m9 mA mB) (TB.mk (.mk b0 b1 b2) (.mk b3 b4 b5)) l K = [] from if_neg (by rw [e]; exact h), e]
  exact le_tu q3V (LeD.refl _)
 ·have h : coE (TM.mk m0 m1 m2 m3 m4 m5 m6 m7 m8 m9 mA mB) (TB.mk (.mk b0 b1 b2) (.mk b3 b4 b5)) l K = 0 := by simpa using h
  have g : biE (TM.mk m0 m1 m2 m3 m4 m5 m6 m7 m8 m9 mA mB) (TB.mk (.mk b0 b1 b2) (.mk b3 b4 b5)) l ≠ 0 := by simpa using g
  have e : cnE (TM.mk m0 m1 m2 m3 m4 m5 m6 m7 m8 m9 mA mB) (TB.mk (.mk b0 b1 b2) (.mk b3 b4 b5)) l K = biE (TM.mk m0 m1 m2 m3 m4 m5 m6 m7 m8 m9 mA mB) (TB.mk (.mk b0 b1 b2) (.mk b3 b4 b5)) l := if_neg (by rw [h]; simp)
  rw [show cnL (TM.mk m0 m1 m2 m3 m4 m5 m6 m7 m8 m9 mA mB) (TB.mk (.mk b0 b1 b2) (.mk b3 b4 b5)) l K = [] from if_neg (by rw [e]; exact g), e]
  exact le_tu q3V (LeD.refl _)
 ·have h : coE (TM.mk m0 m1 m2 m3 m4 m5 m6 m7 m8 m9 mA mB) (TB.mk (.mk b0 b1 b2) (.mk b3 b4 b5)) l K = 0 := by simpa using h
  have g : biE (TM.mk m0 m1 m2 m3 m4 m5 m6 m7 m8 m9 mA mB) (TB.mk (.mk b0 b1 b2) (.mk b3 b4 b5)) l = 0 := by simpa using g
  obtain ⟨_, q4, _, _⟩ := biE_0 g
  have hb := q0Z q4
  exact ⟨⟨rfl, rfl, hb.1, hb.2, q0c q4⟩, _, rfl, h, g, Nat.zero_le _, rfl⟩
theorem qfC (m0 m1 m2 m3 m4 m5 m6 m7 m8 m9 mA mB b0 b1 b2 b3 b4 b5 : Int) (l : List TH) (K : Int) : AllG (q2H m0 m1 m2 m3 m4 m5 m6 m7 m8 m9 mA mB b0 b1 b2 b3 b4 b5 l K) (qz Tryz.prog tab Sly71 q3i (q2H m0 m1 m2 m3 m4 m5 m6 m7 m8 m9 mA mB b0 b1 b2 b3 b4 b5 l K) Tryz.f27 (fun r => LeD r (.tu [.c (.sl 3 ((cnL (TM.mk m0 m1 m2 m3 m4 m5 m6 m7 m8 m9 mA mB) (TB.mk (.mk b0 b1 b2) (.mk b3 b4 b5)) l K).length) (plsC (cnL (TM.mk m0 m1 m2 m3 m4 m5 m6 m7 m8 m9 mA mB) (TB.mk (.mk b0 b1 b2) (.mk b3 b4 b5)) l K))), .c (.v (.int .i64 (cnE (TM.mk m0 m1 m2 m3 m4 m5 m6 m7 m8 m9 mA mB) (TB.mk (.mk b0 b1 b2) (.mk b3 b4 b5)) l K)))]))) := by
 rw [qgL]
 refine ⟨?_, trivial⟩
 ·intro i s h
  obtain ⟨w0, rfl, hi⟩ := h
  exact cast (by kernel_rfl) (qdj m0 m1 m2 m3 m4 m5 m6 m7 m8 m9 mA mB b0 b1 b2 b3 b4 b5 l K _ _ hi)
def q5j : Con := fun args => match args with
 | [.t (.a [.v (.int .i64 m0), .v (.int .i64 m1), .v (.int .i64 m2), .v (.int .i64 m3), .v (.int .i64 m4), .v (.int .i64 m5), .v (.int .i64 m6), .v (.int .i64 m7), .v (.int .i64 m8), .v (.int .i64 m9), .v (.int .i64 mA), .v (.int .i64 mB)]), .t (.a [.v (.int .i64 b0), .v (.int .i64 b1), .v (.int .i64 b2), .v (.int .i64 b3), .v (.int .i64 b4), .v (.int .i64 b5), .sl 5 n_l c_l]), .t (.c (.v (.int .i64 K)))] => some (.tu [.c (.sl 3 ((cnL (TM.mk m0 m1 m2 m3 m4 m5 m6 m7 m8 m9 mA mB) (TB.mk (.mk b0 b1 b2) (.mk b3 b4 b5)) (qa n_l qc c_l) K).length) (plsC (cnL (TM.mk m0 m1 m2 m3 m4 m5 m6 m7 m8 m9 mA mB) (TB.mk (.mk b0 b1 b2) (.mk b3 b4 b5)) (qa n_l qc c_l) K))), .c (.v (.int .i64 (cnE (TM.mk m0 m1 m2 m3 m4 m5 m6 m7 m8 m9 mA mB) (TB.mk (.mk b0 b1 b2) (.mk b3 b4 b5)) (qa n_l qc c_l) K)))], some (qj 5 n_l c_l), true)
 | _ => none
theorem qgM : Ok Tryz.prog 27 q5j := by
 refine Ok.fnFr (ann := q3i) mixed qo VSly71 VIkv64 rfl (fn := Tryz.f27) (by kernel_rfl) (by kernel_rfl) (by kernel_rfl) fun args r pre fresh h hp => ?_
 unfold q5j at h
 split at h
 ·rename_i m0 m1 m2 m3 m4 m5 m6 m7 m8 m9 mA mB b0 b1 b2 b3 b4 b5 n_l c_l K
  cases h
  have hp0 := hp
  refine ⟨rfl, (by intro x hx; simp only [List.mem_cons, List.not_mem_nil, or_false] at hx; rcases hx with rfl | rfl; exact (fun i j _ hj => plain_V3 _ i j); exact trivial), q2H m0 m1 m2 m3 m4 m5 m6 m7 m8 m9 mA mB b0 b1 b2 b3 b4 b5 (qa n_l qc c_l) K, _, (qk (LeD.refl _) (qk (leT_a (LeCs.cons (LeC1.refl _) (LeCs.cons (LeC1.refl _) (LeCs.cons (LeC1.refl _) (LeCs.cons (LeC1.refl _) (LeCs.cons (LeC1.refl _) (LeCs.cons (LeC1.refl _) (LeCs.cons ((qY hp0)) LeCs.nil)))))))) (qk (LeD.refl _) qM))), Nat.le_of_ble_eq_true (by kernel_rfl), ?_, ?_⟩
  ·exact cast (by kernel_rfl) (qep m0 m1 m2 m3 m4 m5 m6 m7 m8 m9 mA mB b0 b1 b2 b3 b4 b5 (qa n_l qc c_l) K)
  ·exact qfC m0 m1 m2 m3 m4 m5 m6 m7 m8 m9 mA mB b0 b1 b2 b3 b4 b5 (qa n_l qc c_l) K
 ·cases h
def Slz72 : Sum := addS Sly71 27 q5j
theorem VSlz72 : Valid Tryz.prog Slz72 := Valid.add VSly71 qgM
theorem or8 (a b c d e f g h : Bool) : (bif (!a) then true else (bif (!b) then true else (bif (!c) then true else (bif (!d) then true else (bif (!e) then true else (bif (!f) then true else (bif (!g) then true else (!h)))))))) = !(a && b && c && d && e && f && g && h) := by cases a <;> cases b <;> cases c <;> cases d <;> cases e <;> cases f <;> cases g <;> cases h <;> rfl
def qaJ (a b c : Int) (post : DV → Prop) : Prop := cond (decide (b ≤ a)) (post (.t (.c (.v (.bool (decide (a ≤ c))))))) ((false = false) ∧ (post (.t (.c (.v (.bool false))))))
def qgN : Ann := ⟨fun _ => none, fun _ => none, fun _ => [], Ikv64, false, fun _ => none, fun _ => none⟩
theorem qfD (a b c : Int) : qaJ a b c (fun r => LeD r (.t (.c (.v (.bool (inB a b c)))))) := by
 unfold qaJ
 refine qg (fun h => leB ?_) (fun h => ⟨rfl, leB ?_⟩)
 ·unfold inB; rw [h]; rfl
 ·unfold inB; rw [h]; rfl
def q6b : Con := fun args => match args with
 | [.t (.c (.v (.int .i64 a))), .t (.c (.v (.int .i64 b))), .t (.c (.v (.int .i64 c)))] => some (.t (.c (.v (.bool (inB a b c)))), none, false)
 | _ => none
theorem qhK : Ok Tryz.prog 49 q6b := by
 refine Ok.fn (ann := qgN) mixed qo VSlz72 VIkv64 (fn := Tryz.f49) (by kernel_rfl) (by kernel_rfl) (by kernel_rfl) fun args r pre fresh h hp => ?_
 unfold q6b at h
 split at h
 ·rename_i a b c
  cases h
  refine ⟨rfl, fun _ _ _ => False, _, LeA.refl _, Nat.le_of_ble_eq_true (by kernel_rfl), ?_, ?_⟩
  ·exact cast (by kernel_rfl) (qfD a b c)
  ·exact cast (by kernel_rfl) trivial
 ·cases h
def Slf73 : Sum := addS Slz72 49 q6b
theorem VSlf73 : Valid Tryz.prog Slf73 := Valid.add VSlz72 qhK
def Slf74 : Sum := Slf73
theorem VSlf74 : Valid Tryz.prog Slf74 := VSlf73
def qgO (n : Int) (post : DV → Prop) : Prop := post (.t (.c (.v (.bool (inB n (-20 : Int) (20 : Int))))))
def qfE : Ann := ⟨fun _ => none, fun _ => none, fun _ => [], Ikv64, false, fun _ => none, fun _ => none⟩
theorem qeq (n : Int) : qgO n (fun r => LeD r (.t (.c (.v (.bool (inB n (-20) 20)))))) := by
 exact LeD.refl _
def q5k : Con := fun args => match args with
 | [.t (.c (.v (.int .i64 n)))] => some (.t (.c (.v (.bool (inB n (-20) 20)))), none, false)
 | _ => none
theorem qgP : Ok Tryz.prog 46 q5k := by
 refine Ok.fn (ann := qfE) mixed qo VSlf74 VIkv64 (fn := Tryz.f46) (by kernel_rfl) (by kernel_rfl) (by kernel_rfl) fun args r pre fresh h hp => ?_
 unfold q5k at h
 split at h
 ·rename_i n
  cases h
  refine ⟨rfl, fun _ _ _ => False, _, LeA.refl _, Nat.le_of_ble_eq_true (by kernel_rfl), ?_, ?_⟩
  ·exact cast (by kernel_rfl) (qeq n)
  ·exact cast (by kernel_rfl) trivial
 ·cases h
def Slf75 : Sum := addS Slf74 46 q5k
theorem VSlf75 : Valid Tryz.prog Slf75 := Valid.add VSlf74 qgP
def qaK (b0 b1 b2 b3 b4 b5 : Int) (post : DV → Prop) : Prop := (0 ≤ (0 : Int) ∧ (0 : Int) < ((3 : Nat) : Int)) ∧ ((0 ≤ (0 : Int) ∧ (0 : Int) < ((3 : Nat) : Int)) ∧ (lt (IntKind.i64.wrap (b3 - b0)) fun x1 => lt (IntKind.i64.wrap (x1 + (1 : Int))) fun x2 => (0 ≤ (1 : Int) ∧ (1 : Int) < ((3 : Nat) : Int)) ∧ ((0 ≤ (1 : Int) ∧ (1 : Int) < ((3 : Nat) : Int)) ∧ (lt (IntKind.i64.wrap (b4 - b1)) fun x3 => lt (IntKind.i64.wrap (x3 + (1 : Int))) fun x4 => lt (IntKind.i64.wrap (x2 * x4)) fun x5 => (0 ≤ (2 : Int) ∧ (2 : Int) < ((3 : Nat) : Int)) ∧ ((0 ≤ (2 : Int) ∧ (2 : Int) < ((3 : Nat) : Int)) ∧ (lt (IntKind.i64.wrap (b5 - b2)) fun x6 => lt (IntKind.i64.wrap (x6 + (1 : Int))) fun x7 => lt (IntKind.i64.wrap (x5 * x7)) fun x8 => post (.t (.c (.v (.int .i64 x8))))))))))
def qgQ : Ann := ⟨fun _ => none, fun _ => none, fun _ => [], Ikv64, false, fun _ => none, fun _ => none⟩
theorem qfF (b0 b1 b2 b3 b4 b5 : Int) (hp : ((TB.mk (.mk b0 b1 b2) (.mk b3 b4 b5))).lo.inS 20 = true ∧ ((TB.mk (.mk b0 b1 b2) (.mk b3 b4 b5))).hi.inS 20 = true) : qaK b0 b1 b2 b3 b4 b5 (fun r => LeD r (.t (.c (.v (.int .i64 (((TB.mk (.mk b0 b1 b2) (.mk b3 b4 b5))).count)))))) := by
 obtain ⟨a1, a2, a3⟩ := qn.1 hp.1
 obtain ⟨c1, c2, c3⟩ := qn.1 hp.2
 simp only at a1 a2 a3 c1 c2 c3
 unfold qaK
 (repeat' with_reducible first | (refine lt_i ?_; intro _ _) | (refine qg ?_ ?_ <;> intro _) | (refine And.intro ?_ ?_))
 all_goals first | decide | skip
 rename_i x1 h1 x2 h2 x3 h3 x4 h4 x5 h5 x6 h6 x7 h7 x8 h8
 rw [IntWalk.i64_in _ (by omega)] at h1
 rw [IntWalk.i64_in _ (by omega)] at h2
 rw [IntWalk.i64_in _ (by omega)] at h3
 rw [IntWalk.i64_in _ (by omega)] at h4
 have m1 := qv (x := x2) (y := x4) (A := 41) (B := 41) (C := 1681) (by omega) (by omega) (by decide)
 rw [IntWalk.i64_in _ (by omega)] at h5
 rw [IntWalk.i64_in _ (by omega)] at h6
 rw [IntWalk.i64_in _ (by omega)] at h7
 have m2 := qv (x := x5) (y := x7) (A := 1681) (B := 41) (C := 68921) (by omega) (by omega) (by decide)
 rw [IntWalk.i64_in _ (by omega)] at h8
 refine LeD.of ?_
 unfold TB.count
 simp only
 rw [← h8, ← h5, ← h2, ← h4, ← h7, ← h1, ← h3, ← h6]
def q6c : Con := fun args => match args with
 | [.t (.a [.v (.int .i64 b0), .v (.int .i64 b1), .v (.int .i64 b2), .v (.int .i64 b3), .v (.int .i64 b4), .v (.int .i64 b5)])] => some (.t (.c (.v (.int .i64 (((TB.mk (.mk b0 b1 b2) (.mk b3 b4 b5))).count)))), some (((TB.mk (.mk b0 b1 b2) (.mk b3 b4 b5))).lo.inS 20 = true ∧ ((TB.mk (.mk b0 b1 b2) (.mk b3 b4 b5))).hi.inS 20 = true), false)
 | _ => none
theorem qhL : Ok Tryz.prog 21 q6c := by
 refine Ok.fn (ann := qgQ) mixed qo VSlf75 VIkv64 (fn := Tryz.f21) (by kernel_rfl) (by kernel_rfl) (by kernel_rfl) fun args r pre fresh h hp => ?_
 unfold q6c at h
 split at h
 ·rename_i b0 b1 b2 b3 b4 b5
  cases h
  refine ⟨rfl, fun _ _ _ => False, _, LeA.refl _, Nat.le_of_ble_eq_true (by kernel_rfl), ?_, ?_⟩
  ·exact cast (by kernel_rfl) (qfF b0 b1 b2 b3 b4 b5 hp)
  ·exact cast (by kernel_rfl) trivial
 ·cases h
def Slf76 : Sum := addS Slf75 21 q6c
theorem VSlf76 : Valid Tryz.prog Slf76 := Valid.add VSlf75 qhL
def q9z (b0 b1 b2 b3 b4 b5 : Int) (post : DV → Prop) : Prop := (0 ≤ (0 : Int) ∧ (0 : Int) < ((3 : Nat) : Int)) ∧ (cond (!(inB b0 (-20) 20)) ((true = true) ∧ (post (.t (.c (.v (.int .i64 2)))))) ((0 ≤ (0 : Int) ∧ (0 : Int) < ((3 : Nat) : Int)) ∧ (cond (!(inB b3 (-20) 20)) (post (.t (.c (.v (.int .i64 2))))) ((0 ≤ (1 : Int) ∧ (1 : Int) < ((3 : Nat) : Int)) ∧ (cond (!(inB b1 (-20) 20)) ((true = true) ∧ (post (.t (.c (.v (.int .i64 2)))))) ((0 ≤ (1 : Int) ∧ (1 : Int) < ((3 : Nat) : Int)) ∧ (cond (!(inB b4 (-20) 20)) (post (.t (.c (.v (.int .i64 2))))) ((0 ≤ (2 : Int) ∧ (2 : Int) < ((3 : Nat) : Int)) ∧ (cond (!(inB b2 (-20) 20)) ((true = true) ∧ (post (.t (.c (.v (.int .i64 2)))))) ((0 ≤ (2 : Int) ∧ (2 : Int) < ((3 : Nat) : Int)) ∧ (cond (!(inB b5 (-20) 20)) (post (.t (.c (.v (.int .i64 2))))) ((0 ≤ (0 : Int) ∧ (0 : Int) < ((3 : Nat) : Int)) ∧ ((0 ≤ (0 : Int) ∧ (0 : Int) < ((3 : Nat) : Int)) ∧ (cond (decide (b0 > b3)) (post (.t (.c (.v (.int .i64 9))))) ((0 ≤ (1 : Int) ∧ (1 : Int) < ((3 : Nat) : Int)) ∧ ((0 ≤ (1 : Int) ∧ (1 : Int) < ((3 : Nat) : Int)) ∧ (cond (decide (b1 > b4)) (post (.t (.c (.v (.int .i64 9))))) ((0 ≤ (2 : Int) ∧ (2 : Int) < ((3 : Nat) : Int)) ∧ ((0 ≤ (2 : Int) ∧ (2 : Int) < ((3 : Nat) : Int)) ∧ (cond (decide (b2 > b5)) (post (.t (.c (.v (.int .i64 9))))) ((((TB.mk (.mk b0 b1 b2) (.mk b3 b4 b5))).lo.inS 20 = true ∧ ((TB.mk (.mk b0 b1 b2) (.mk b3 b4 b5))).hi.inS 20 = true) ∧ (cond (decide ((((TB.mk (.mk b0 b1 b2) (.mk b3 b4 b5))).count) > (700 : Int))) (post (.t (.c (.v (.int .i64 8))))) (post (.t (.c (.v (.int .i64 0)))))))))))))))))))))))))))
def qfG : Ann := ⟨fun r => qr r [(9, ([[], [], [0, 1], [0, 1, 2], [], [], [4, 5], [4, 5, 6], [0, 1, 2, 3, 4, 5, 6, 7]], [[], [], [], [], [], [], [], [], []]))], fun b => qr b [(0, (some 4, some ⟨[1, 3], [1], []⟩)), (2, (some 4, some ⟨[1, 4], [1], []⟩))], fun _ => [], Ikv64, false, fun _ => none, fun _ => none⟩
theorem qer (b0 b1 b2 b3 b4 b5 : Int) : q9z b0 b1 b2 b3 b4 b5 (fun r => LeD r (.t (.c (.v (.int .i64 (((TB.mk (.mk b0 b1 b2) (.mk b3 b4 b5))).err)))))) := by
 unfold q9z
 (repeat' with_reducible first | (refine lt_i ?_; intro _ _) | (refine qg ?_ ?_ <;> intro _) | (refine And.intro ?_ ?_))
 all_goals first
  | decide
  | (refine leI ?_; simp_all [TB.err, qd, unl, V3.inS]; done)
  | (simp_all [V3.inS]; done)
  | (refine leI ?_; simp_all [TB.err, qd, unl, V3.inS]; omega)
def q5l : Con := fun args => match args with
 | [.t (.a [.v (.int .i64 b0), .v (.int .i64 b1), .v (.int .i64 b2), .v (.int .i64 b3), .v (.int .i64 b4), .v (.int .i64 b5)])] => some (.t (.c (.v (.int .i64 (((TB.mk (.mk b0 b1 b2) (.mk b3 b4 b5))).err)))), none, false)
 | _ => none
theorem qgR : Ok Tryz.prog 18 q5l := by
 refine Ok.fn (ann := qfG) mixed qo VSlf76 VIkv64 (fn := Tryz.f18) (by kernel_rfl) (by kernel_rfl) (by kernel_rfl) fun args r pre fresh h hp => ?_
 unfold q5l at h
 split at h
 ·rename_i b0 b1 b2 b3 b4 b5
  cases h
  refine ⟨rfl, fun _ _ _ => False, _, LeA.refl _, Nat.le_of_ble_eq_true (by kernel_rfl), ?_, ?_⟩
  ·exact cast (by kernel_rfl) (qer b0 b1 b2 b3 b4 b5)
  ·exact cast (by kernel_rfl) trivial
 ·cases h
def Slf77 : Sum := addS Slf76 18 q5l
theorem VSlf77 : Valid Tryz.prog Slf77 := Valid.add VSlf76 qgR
def q8N (n : Int) (post : DV → Prop) : Prop := cond (!(inB n (-10000 : Int) (10000 : Int))) (post (.t (.c (.v (.int .i64 2))))) (post (.t (.c (.v (.int .i64 0)))))
def qes : Ann := ⟨fun _ => none, fun _ => none, fun _ => [], Ikv64, false, fun _ => none, fun _ => none⟩
theorem qdk (n : Int) : q8N n (fun r => LeD r (.t (.c (.v (.int .i64 (tmE n)))))) := by
 unfold q8N tmE
 refine qg (fun h => leI ?_) (fun h => leI ?_)
 ·rw [show inB n (-10000) 10000 = false by simpa using h]; rfl
 ·rw [show inB n (-10000) 10000 = true by simpa using h]; rfl
def q4G : Con := fun args => match args with
 | [.t (.c (.v (.int .i64 n)))] => some (.t (.c (.v (.int .i64 (tmE n)))), none, false)
 | _ => none
theorem qfH : Ok Tryz.prog 48 q4G := by
 refine Ok.fn (ann := qes) mixed qo VSlf77 VIkv64 (fn := Tryz.f48) (by kernel_rfl) (by kernel_rfl) (by kernel_rfl) fun args r pre fresh h hp => ?_
 unfold q4G at h
 split at h
 ·rename_i n
  cases h
  refine ⟨rfl, fun _ _ _ => False, _, LeA.refl _, Nat.le_of_ble_eq_true (by kernel_rfl), ?_, ?_⟩
  ·exact cast (by kernel_rfl) (qdk n)
  ·exact cast (by kernel_rfl) trivial
 ·cases h
def Slf78 : Sum := addS Slf77 48 q4G
theorem VSlf78 : Valid Tryz.prog Slf78 := Valid.add VSlf77 qfH
def qet (n : Int) (post : DV → Prop) : Prop := post (.t (.c (.v (.bool (inB n (0 : Int) (100 : Int))))))
def qdl : Ann := ⟨fun _ => none, fun _ => none, fun _ => [], Ikv64, false, fun _ => none, fun _ => none⟩
theorem qcs (n : Int) : qet n (fun r => LeD r (.t (.c (.v (.bool (inB n 0 100)))))) := by
 exact LeD.refl _
def q4h : Con := fun args => match args with
 | [.t (.c (.v (.int .i64 n)))] => some (.t (.c (.v (.bool (inB n 0 100)))), none, false)
 | _ => none
theorem qeu : Ok Tryz.prog 50 q4h := by
 refine Ok.fn (ann := qdl) mixed qo VSlf78 VIkv64 (fn := Tryz.f50) (by kernel_rfl) (by kernel_rfl) (by kernel_rfl) fun args r pre fresh h hp => ?_
 unfold q4h at h
 split at h
 ·rename_i n
  cases h
  refine ⟨rfl, fun _ _ _ => False, _, LeA.refl _, Nat.le_of_ble_eq_true (by kernel_rfl), ?_, ?_⟩
  ·exact cast (by kernel_rfl) (qcs n)
  ·exact cast (by kernel_rfl) trivial
 ·cases h
def Slf79 : Sum := addS Slf78 50 q4h
theorem VSlf79 : Valid Tryz.prog Slf79 := Valid.add VSlf78 qeu
def q7N (p0 p1 p2 : Int) (post : DV → Prop) : Prop := (0 ≤ (0 : Int) ∧ (0 : Int) < ((3 : Nat) : Int)) ∧ (cond (!(inB p0 (-1000 : Int) (1000 : Int))) (post (.t (.c (.v (.int .i64 2))))) ((0 ≤ (1 : Int) ∧ (1 : Int) < ((3 : Nat) : Int)) ∧ (cond (!(inB p1 (-1000 : Int) (1000 : Int))) (post (.t (.c (.v (.int .i64 2))))) ((0 ≤ (2 : Int) ∧ (2 : Int) < ((3 : Nat) : Int)) ∧ (cond (!(inB p2 (-1000 : Int) (1000 : Int))) (post (.t (.c (.v (.int .i64 2))))) (post (.t (.c (.v (.int .i64 0))))))))))
def qdm : Ann := ⟨fun _ => none, fun b => qr b [(0, (some 4, some ⟨[1, 3], [1], []⟩))], fun _ => [], Ikv64, false, fun _ => none, fun _ => none⟩
theorem qct (p0 p1 p2 : Int) : q7N p0 p1 p2 (fun r => LeD r (.t (.c (.v (.int .i64 (plE (V3.mk p0 p1 p2))))))) := by
 unfold q7N
 unfold plE V3.inS
 simp only
 refine ⟨by decide, qg (fun h => leI ?_) (fun h => ⟨by decide, qg (fun g => leI ?_) (fun g => ⟨by decide, qg (fun f => leI ?_) (fun f => leI ?_)⟩)⟩)⟩
 ·rw [show inB p0 (-1000) 1000 = false by simpa using h]; rfl
 ·rw [show inB p1 (-1000) 1000 = false by simpa using g, Bool.and_false]; rfl
 ·rw [show inB p2 (-1000) 1000 = false by simpa using f, Bool.and_false]; rfl
 ·rw [show inB p0 (-1000) 1000 = true by simpa using h, show inB p1 (-1000) 1000 = true by simpa using g, show inB p2 (-1000) 1000 = true by simpa using f]; rfl
def q4i : Con := fun args => match args with
 | [.t (.a [.v (.int .i64 p0), .v (.int .i64 p1), .v (.int .i64 p2)])] => some (.t (.c (.v (.int .i64 (plE (V3.mk p0 p1 p2))))), none, false)
 | _ => none
theorem qev : Ok Tryz.prog 47 q4i := by
 refine Ok.fn (ann := qdm) mixed qo VSlf79 VIkv64 (fn := Tryz.f47) (by kernel_rfl) (by kernel_rfl) (by kernel_rfl) fun args r pre fresh h hp => ?_
 unfold q4i at h
 split at h
 ·rename_i p0 p1 p2
  cases h
  refine ⟨rfl, fun _ _ _ => False, _, LeA.refl _, Nat.le_of_ble_eq_true (by kernel_rfl), ?_, ?_⟩
  ·exact cast (by kernel_rfl) (qct p0 p1 p2)
  ·exact cast (by kernel_rfl) trivial
 ·cases h
def Slf80 : Sum := addS Slf79 47 q4i
theorem VSlf80 : Valid Tryz.prog Slf80 := Valid.add VSlf79 qev
def q3j (l : List TH) (v0_0 : Int) : DS := ⟨[some (.t (.c (.sl 5 l.length (qi l)))), none, none, none, some (.t (.c (.v (.int .i64 v0_0)))), none, none, none, none, none, none, none, none, none, none, none, none, none, none, none, none, none, none, none, none, none, none, none, none, none, none, none, none, none, none, none, none, none, none, none, none, none, none, none], [none, none, none, none, none, none, none, none, none, none, none, none, none, none, none, none, none, none, none, none, none, none, none, none, none, none, none, none, none, none, none, none, none, none, none, none, none, none, none, none, none, none, none, none]⟩
def q7s (J : Inv) (l : List TH) (post : DV → Prop) : Prop := cond (decide (((l.length : Nat) : Int) > (12 : Int))) (post (.tu [.c (.v (.int .i64 0)), .c (.v (.int .i64 8))])) (∃ n, J 0 (n :: []) (q3j l 0))
def q1S : Ann := ⟨fun _ => none, fun b => qr b [(0, (none, some ⟨[0, 4], [], []⟩))], fun _ => [], Ikv64, false, fun _ => none, fun _ => none⟩
def q6d (J : Inv) (l : List TH) (v0_0 : Int) (nn0 : Nat) (post : DV → Prop) : Prop := cond (decide (v0_0 < ((l.length : Nat) : Int))) ((0 ≤ v0_0 ∧ v0_0 < ((l.length : Nat) : Int)) ∧ (cond ((plE (qe l v0_0.toNat).p) != (0 : Int)) (post (.tu [.c (.v (.int .i64 v0_0)), .c (.v (.int .i64 (plE (qe l v0_0.toNat).p)))])) ((0 ≤ v0_0 ∧ v0_0 < ((l.length : Nat) : Int)) ∧ (cond ((tmE ((qe l v0_0.toNat).t)) != (0 : Int)) (post (.tu [.c (.v (.int .i64 v0_0)), .c (.v (.int .i64 (tmE ((qe l v0_0.toNat).t))))])) ((0 ≤ v0_0 ∧ v0_0 < ((l.length : Nat) : Int)) ∧ (cond (!(inB ((qe l v0_0.toNat).w) 0 100)) (post (.tu [.c (.v (.int .i64 v0_0)), .c (.v (.int .i64 2))])) (lt (IntKind.i64.wrap (v0_0 + (1 : Int))) fun x1 => J 0 (nn0 :: []) (q3j l x1)))))))) (post (.tu [.c (.v (.int .i64 0)), .c (.v (.int .i64 0))]))
theorem qdn (J : Inv) (post : DV → Prop) : AllG J (qz Tryz.prog tab Slf80 q1S J Tryz.f45 post) = (((∀ F s, ¬ J 0 (0 :: F) s) ∧ ∀ n F s, J 0 ((n + 1) :: F) s → round Tryz.prog tab Slf80 q1S J Tryz.f45 post 0 (n :: F) s) ∧ True) := by kernel_rfl
def q1v (l : List TH) : Inv := fun b F s => match b, F with
 | 0, [nn0] => ∃ (v0_0 : Int), s = q3j l v0_0 ∧ (0 ≤ v0_0 ∧ v0_0 ≤ l.length ∧ (nn0 : Int) + v0_0 = l.length + 1 ∧ l.length ≤ 12 ∧ ∀ j : Nat, (j : Int) < v0_0 → (qe l j).err = 0)
 | _, _ => False
theorem qaL (l : List TH) (v0_0 : Int) (nn0 : Nat) (hi : 0 ≤ v0_0 ∧ v0_0 ≤ l.length ∧ ((nn0 + 1) : Int) + v0_0 = l.length + 1 ∧ l.length ≤ 12 ∧ ∀ j : Nat, (j : Int) < v0_0 → (qe l j).err = 0) : q6d (q1v l) l v0_0 nn0 (fun r => LeD r (.tu [.c (.v (.int .i64 (q1p l))), .c (.v (.int .i64 (ql l)))])) := by
 obtain ⟨h1, h2, h3, h4, h5⟩ := hi
 obtain ⟨k, rfl⟩ : ∃ k : Nat, v0_0 = k := ⟨v0_0.toNat, by omega⟩
 have hk : (k : Int).toNat = k := rfl
 have hz : ∀ j, j < k → (qe l j).err = 0 := fun j hj => h5 j (by omega)
 unfold q6d
 rw [hk]
 have hne : k < l.length → (qe l k).err ≠ 0 → q1p l = k ∧ ql l = (qe l k).err := fun hlt hn => ⟨(if_neg (by omega)).trans (qf6 hz hlt hn), (if_neg (by omega)).trans (q8d hz hlt hn)⟩
 have he : (qe l k).err = qd [plE (qe l k).p, tmE (qe l k).t, unl (inB (qe l k).w 0 100) 2] := rfl
 refine qg (fun h => ?_) (fun h => ?_)
 ·have hlt : k < l.length := by have := of_decide_eq_true h; omega
  refine ⟨by omega, qg (fun e => ?_) (fun e => ⟨by omega, qg (fun e2 => ?_) (fun e2 => ⟨by omega, qg (fun e3 => ?_) (fun e3 => lt_i fun x hx => ?_)⟩)⟩)⟩
  ·have e : plE (qe l k).p ≠ 0 := by simpa using e
   have e4 : (qe l k).err = plE (qe l k).p := by rw [he]; simp [qd, e]
   obtain ⟨q1, q2⟩ := hne hlt (by rw [e4]; exact e)
   rw [q1, q2, e4]; exact LeD.refl _
  ·have e : plE (qe l k).p = 0 := by simpa using e
   have e2 : tmE (qe l k).t ≠ 0 := by simpa using e2
   have e4 : (qe l k).err = tmE (qe l k).t := by rw [he]; simp [qd, e, e2]
   obtain ⟨q1, q2⟩ := hne hlt (by rw [e4]; exact e2)
   rw [q1, q2, e4]; exact LeD.refl _
  ·have e : plE (qe l k).p = 0 := by simpa using e
   have e2 : tmE (qe l k).t = 0 := by simpa using e2
   have e3 : inB (qe l k).w 0 100 = false := by simpa using e3
   have e4 : (qe l k).err = 2 := by rw [he]; simp [qd, e, e2, e3, unl]
   obtain ⟨q1, q2⟩ := hne hlt (by rw [e4]; decide)
   rw [q1, q2, e4]; exact LeD.refl _
  ·have e : plE (qe l k).p = 0 := by simpa using e
   have e2 : tmE (qe l k).t = 0 := by simpa using e2
   have e3 : inB (qe l k).w 0 100 = true := by simpa using e3
   have e4 : (qe l k).err = 0 := by rw [he]; simp [qd, e, e2, e3, unl]
   rw [IntWalk.i64_in _ (by omega)] at hx
   refine ⟨_, rfl, by omega, by omega, by omega, h4, fun j hj => ?_⟩
   by_cases q : j = k
   ·rw [q]; exact e4
   ·exact hz j (by omega)
 ·have hge : ¬ (k < l.length) := by have := of_decide_eq_false h; omega
  have hkl : k = l.length := by omega
  subst hkl
  rw [show q1p l = 0 from (if_neg (by omega)).trans (qiz hz), show ql l = 0 from (if_neg (by omega)).trans (q3T hz)]
  exact LeD.refl _
theorem qbR (l : List TH) : q7s (q1v l) l (fun r => LeD r (.tu [.c (.v (.int .i64 (q1p l))), .c (.v (.int .i64 (ql l)))])) := by
 unfold q7s
 refine qg (fun h => LeD.of ?_) (fun h => ⟨l.length + 1, _, rfl, ?_⟩)
 ·have h := of_decide_eq_true h
  rw [show q1p l = 0 from if_pos (by omega), show ql l = 8 from if_pos (by omega)]
 ·have h := of_decide_eq_false h
  exact ⟨by omega, by omega, by omega, by omega, fun j hj => by omega⟩
theorem qcu (l : List TH) : AllG (q1v l) (qz Tryz.prog tab Slf80 q1S (q1v l) Tryz.f45 (fun r => LeD r (.tu [.c (.v (.int .i64 (q1p l))), .c (.v (.int .i64 (ql l)))]))) := by
 rw [qdn]
 refine ⟨⟨?_, ?_⟩, trivial⟩
 ·intro F s h
  obtain _ | ⟨g, F⟩ := F
  case cons => exact h.elim
  obtain ⟨w0, rfl, hi⟩ := h
  omega
 ·intro n F s h
  obtain _ | ⟨g, F⟩ := F
  case cons => exact h.elim
  obtain ⟨w0, rfl, hi⟩ := h
  exact cast (by kernel_rfl) (qaL l _ _ hi)
def q3E : Con := fun args => match args with
 | [.t (.c (.sl 5 n_l c_l))] => some (.tu [.c (.v (.int .i64 (q1p (qa n_l qc c_l)))), .c (.v (.int .i64 (ql (qa n_l qc c_l))))], some (qj 5 n_l c_l), false)
 | _ => none
theorem qdo : Ok Tryz.prog 45 q3E := by
 refine Ok.fn (ann := q1S) mixed qo VSlf80 VIkv64 (fn := Tryz.f45) (by kernel_rfl) (by kernel_rfl) (by kernel_rfl) fun args r pre fresh h hp => ?_
 unfold q3E at h
 split at h
 ·rename_i n_l c_l
  cases h
  have hp0 := hp
  refine ⟨rfl, q1v (qa n_l qc c_l), _, (qk (leT_c ((qY hp0))) qM), Nat.le_of_ble_eq_true (by kernel_rfl), ?_, ?_⟩
  ·exact cast (by kernel_rfl) (qbR (qa n_l qc c_l))
  ·exact qcu (qa n_l qc c_l)
 ·cases h
def Slf81 : Sum := addS Slf80 45 q3E
theorem VSlf81 : Valid Tryz.prog Slf81 := Valid.add VSlf80 qdo
def q8O (l : List TH) (post : DV → Prop) : Prop := (qj 5 l.length (qi l)) ∧ (post (.t (.c (.v (.int .i64 (ql (qa l.length qc (qi l))))))))
def qew : Ann := ⟨fun _ => none, fun _ => none, fun _ => [], Ikv64, false, fun _ => none, fun _ => none⟩
theorem qdp (l : List TH) : q8O l (fun r => LeD r (.t (.c (.v (.int .i64 (ql l)))))) := by
 unfold q8O
 rw [qP]
 exact ⟨qA l, LeD.refl _⟩
def q4H : Con := fun args => match args with
 | [.t (.c (.sl 5 n_l c_l))] => some (.t (.c (.v (.int .i64 (ql (qa n_l qc c_l))))), some (qj 5 n_l c_l), false)
 | _ => none
theorem qfI : Ok Tryz.prog 17 q4H := by
 refine Ok.fn (ann := qew) mixed qo VSlf81 VIkv64 (fn := Tryz.f17) (by kernel_rfl) (by kernel_rfl) (by kernel_rfl) fun args r pre fresh h hp => ?_
 unfold q4H at h
 split at h
 ·rename_i n_l c_l
  cases h
  have hp0 := hp
  refine ⟨rfl, fun _ _ _ => False, _, (qk (leT_c ((qY hp0))) qM), Nat.le_of_ble_eq_true (by kernel_rfl), ?_, ?_⟩
  ·exact cast (by kernel_rfl) (qdp (qa n_l qc c_l))
  ·exact cast (by kernel_rfl) trivial
 ·cases h
def Slf82 : Sum := addS Slf81 17 q4H
theorem VSlf82 : Valid Tryz.prog Slf82 := Valid.add VSlf81 qfI
def qc5 (l : List TH) (post : DV → Prop) : Prop := (q0k 40 (([] : List (List CV)).length + ((List.range l.length).map fun i => fwd ((qi l) i) 0 5).length)) ∧ (post (.t (.c (.sl 5 ((([] : List (List CV)) ++ ((List.range l.length).map fun i => fwd ((qi l) i) 0 5)).length) (genC (([] : List (List CV)) ++ ((List.range l.length).map fun i => fwd ((qi l) i) 0 5)))))))
def qhM : Ann := ⟨fun _ => none, fun _ => none, fun _ => [], Ikv64, true, fun _ => none, fun _ => none⟩
theorem qgS (l : List TH) (hp : (l).length ≤ 1000000) : qc5 l (fun r => LeD r (.t (.c (.sl 5 l.length (qi l))))) := by
 unfold qc5
 rw [qk8]
 exact ⟨by simp [q0k, maxLen]; omega, qai l⟩
def q6T : Con := fun args => match args with
 | [.t (.c (.sl 5 n_l c_l))] => some (.t (.c (.sl 5 ((qa n_l qc c_l).length) (qi (qa n_l qc c_l)))), some (qj 5 n_l c_l ∧ ((qa n_l qc c_l)).length ≤ 1000000), true)
 | _ => none
theorem qj1 : Ok Tryz.prog 8 q6T := by
 refine Ok.fnFr (ann := qhM) mixed qo VSlf82 VIkv64 rfl (fn := Tryz.f8) (by kernel_rfl) (by kernel_rfl) (by kernel_rfl) fun args r pre fresh h hp => ?_
 unfold q6T at h
 split at h
 ·rename_i n_l c_l
  cases h
  obtain ⟨hp0, hp⟩ := hp
  refine ⟨rfl, (fun i j _ hj => qbu _ i j), fun _ _ _ => False, _, (qk (leT_c ((qY hp0))) qM), Nat.le_of_ble_eq_true (by kernel_rfl), ?_, ?_⟩
  ·exact cast (by kernel_rfl) (qgS (qa n_l qc c_l) hp)
  ·exact cast (by kernel_rfl) trivial
 ·cases h
def Slf83 : Sum := addS Slf82 8 q6T
theorem VSlf83 : Valid Tryz.prog Slf83 := Valid.add VSlf82 qj1
def q6e (l : List TH) (l2 : List TH) (v0_0 : Int) : DS := ⟨[some (.t (.c (.sl 5 l.length (qi l)))), some (.t (.c (.sl 5 l2.length (qi l2)))), none, none, none, some (.t (.c (.v (.int .i64 v0_0)))), none, none, none, none, none, none, none, none, none, none, none, none, none, none, none, none, none, none, none, none], [none, none, none, none, none, none, none, none, none, none, none, none, none, none, none, none, none, none, none, none, none, none, none, none, none, none]⟩
def qc6 (J : Inv) (l : List TH) (l2 : List TH) (post : DV → Prop) : Prop := cond (((l.length : Nat) : Int) != ((l2.length : Nat) : Int)) (post (.t (.c (.v (.bool false))))) (∃ n, J 0 (n :: []) (q6e l l2 0))
def q4q : Ann := ⟨fun r => qr r [(6, ([[], [], [0, 1], [0, 1, 2], [], [], [4, 5], [4, 5, 6], [0, 1, 2, 3, 4, 5, 6, 7]], [[], [], [], [], [], [], [], [], []]))], fun b => qr b [(0, (none, some ⟨[0, 1, 5], [], []⟩))], fun _ => [], Ikv64, false, fun _ => none, fun _ => none⟩
def q9A (J : Inv) (l : List TH) (l2 : List TH) (v0_0 : Int) (nn0 : Nat) (post : DV → Prop) : Prop := cond (decide (v0_0 < ((l.length : Nat) : Int))) ((0 ≤ v0_0 ∧ v0_0 < ((l.length : Nat) : Int)) ∧ ((0 ≤ v0_0 ∧ v0_0 < ((l2.length : Nat) : Int)) ∧ (cond (!(bif (bif (((qe l v0_0.toNat).p.x) == ((qe l2 v0_0.toNat).p.x)) then (bif (((qe l v0_0.toNat).p.y) == ((qe l2 v0_0.toNat).p.y)) then (bif (((qe l v0_0.toNat).p.z) == ((qe l2 v0_0.toNat).p.z)) then true else false) else false) else false) then (bif (((qe l v0_0.toNat).t) == ((qe l2 v0_0.toNat).t)) then (bif (((qe l v0_0.toNat).w) == ((qe l2 v0_0.toNat).w)) then true else false) else false) else false)) (post (.t (.c (.v (.bool false))))) (lt (IntKind.i64.wrap (v0_0 + (1 : Int))) fun x1 => J 0 (nn0 :: []) (q6e l l2 x1))))) (post (.t (.c (.v (.bool true)))))
theorem qj2 (J : Inv) (post : DV → Prop) : AllG J (qz Tryz.prog tab Slf83 q4q J Tryz.f16 post) = (((∀ F s, ¬ J 0 (0 :: F) s) ∧ ∀ n F s, J 0 ((n + 1) :: F) s → round Tryz.prog tab Slf83 q4q J Tryz.f16 post 0 (n :: F) s) ∧ True) := by kernel_rfl
def q4j (l : List TH) (l2 : List TH) : Inv := fun b F s => match b, F with
 | 0, [nn0] => ∃ (v0_0 : Int), s = q6e l l2 v0_0 ∧ (l.length ≤ 1000000 ∧ 0 ≤ v0_0 ∧ v0_0 ≤ l.length ∧ (nn0 : Int) + v0_0 = l.length + 1 ∧ l.length = l2.length ∧ ∀ j : Nat, (j : Int) < v0_0 → qe l j = qe l2 j)
 | _, _ => False
theorem qfJ (l : List TH) (l2 : List TH) (v0_0 : Int) (nn0 : Nat) (hp : (l).length ≤ 1000000) (hi : l.length ≤ 1000000 ∧ 0 ≤ v0_0 ∧ v0_0 ≤ l.length ∧ ((nn0 + 1) : Int) + v0_0 = l.length + 1 ∧ l.length = l2.length ∧ ∀ j : Nat, (j : Int) < v0_0 → qe l j = qe l2 j) : q9A (q4j l l2) l l2 v0_0 nn0 (fun r => LeD r (.t (.c (.v (.bool (decide (l = l2))))))) := by
 obtain ⟨i0, i1, i2, i3, i4, i5⟩ := hi
 obtain ⟨k, rfl⟩ : ∃ k : Nat, v0_0 = k := ⟨v0_0.toNat, by omega⟩
 have hk : (k : Int).toNat = k := rfl
 unfold q9A
 rw [hk]
 refine qg (fun h => ?_) (fun h => leB ?_)
 ·have hlt : k < l.length := by have := of_decide_eq_true h; omega
  refine ⟨by omega, by omega, qg (fun e => leB ?_) (fun e => lt_i fun x hx => ?_)⟩
  ·refine (decide_eq_false fun q => ?_).symm
   rw [q] at e
   simp at e
  ·have e : qe l k = qe l2 k := by
    rw [hit_ext]
    simpa [Bool.cond_eq_ite, and_assoc] using e
   rw [IntWalk.i64_in _ (by omega)] at hx
   subst hx
   exact ⟨_, rfl, i0, by omega, by omega, by omega, i4, fun j hj => by
    by_cases q : j = k
    ·rw [q]; exact e
    ·exact i5 j (by omega)⟩
 ·have hge : k = l.length := by have := of_decide_eq_false h; omega
  refine (decide_eq_true (List.ext_getElem? fun i => ?_)).symm
  by_cases hi : i < l.length
  ·have := i5 i (by omega)
   unfold qe at this
   simp only [List.getD, List.getElem?_eq_getElem hi, List.getElem?_eq_getElem (i4 ▸ hi), Option.getD_some] at this
   rw [List.getElem?_eq_getElem hi, List.getElem?_eq_getElem (i4 ▸ hi), this]
  ·rw [List.getElem?_eq_none (by omega), List.getElem?_eq_none (by omega)]
theorem qgT (l : List TH) (l2 : List TH) (hp : (l).length ≤ 1000000) : qc6 (q4j l l2) l l2 (fun r => LeD r (.t (.c (.v (.bool (decide (l = l2))))))) := by
  unfold qc6
  refine qg (fun h => leB ?_) (fun h => ?_)
  · have h : l.length ≠ l2.length := by intro e; rw [e] at h; simp at h
    exact (decide_eq_false fun e => h (by rw [e])).symm
  · have h : l.length = l2.length := by have h : (l.length : Int) = l2.length := by simpa using h
                                        omega
    exact ⟨l.length + 1, 0, rfl, hp, by omega, by omega, by omega, h, fun j hj => by omega⟩
theorem qhN (l : List TH) (l2 : List TH) (hp : (l).length ≤ 1000000) : AllG (q4j l l2) (qz Tryz.prog tab Slf83 q4q (q4j l l2) Tryz.f16 (fun r => LeD r (.t (.c (.v (.bool (decide (l = l2)))))))) := by
 rw [qj2]
 refine ⟨⟨?_, ?_⟩, trivial⟩
 ·intro F s h
  obtain _ | ⟨g, F⟩ := F
  case cons => exact h.elim
  obtain ⟨w0, rfl, hi⟩ := h
  omega
 ·intro n F s h
  obtain _ | ⟨g, F⟩ := F
  case cons => exact h.elim
  obtain ⟨w0, rfl, hi⟩ := h
  exact cast (by kernel_rfl) (qfJ l l2 _ _ hp hi)
def q6U : Con := fun args => match args with
 | [.t (.c (.sl 5 n_l c_l)), .t (.c (.sl 5 n_l2 c_l2))] => some (.t (.c (.v (.bool (decide ((qa n_l qc c_l) = (qa n_l2 qc c_l2)))))), some (qj 5 n_l c_l ∧ qj 5 n_l2 c_l2 ∧ ((qa n_l qc c_l)).length ≤ 1000000), false)
 | _ => none
theorem qj3 : Ok Tryz.prog 16 q6U := by
 refine Ok.fn (ann := q4q) mixed qo VSlf83 VIkv64 (fn := Tryz.f16) (by kernel_rfl) (by kernel_rfl) (by kernel_rfl) fun args r pre fresh h hp => ?_
 unfold q6U at h
 split at h
 ·rename_i n_l c_l n_l2 c_l2
  cases h
  obtain ⟨hp0, hp1, hp⟩ := hp
  refine ⟨rfl, q4j (qa n_l qc c_l) (qa n_l2 qc c_l2), _, (qk (leT_c ((qY hp0))) (qk (leT_c ((qY hp1))) qM)), Nat.le_of_ble_eq_true (by kernel_rfl), ?_, ?_⟩
  ·exact cast (by kernel_rfl) (qgT (qa n_l qc c_l) (qa n_l2 qc c_l2) hp)
  ·exact qhN (qa n_l qc c_l) (qa n_l2 qc c_l2) hp
 ·cases h
def Slf84 : Sum := addS Slf83 16 q6U
theorem VSlf84 : Valid Tryz.prog Slf84 := Valid.add VSlf83 qj3
def q7O (m0 m1 m2 m3 m4 m5 m6 m7 m8 m9 mA mB : Int) (post : DV → Prop) : Prop := cond ((plE (V3.mk m0 m1 m2)) != (0 : Int)) (post (.t (.c (.v (.int .i64 (plE (V3.mk m0 m1 m2))))))) (cond ((tmE m3) != (0 : Int)) (post (.t (.c (.v (.int .i64 (tmE m3)))))) ((cond (!(inB m4 (1 : Int) (20 : Int))) ((true = true) ∧ ((true = true) ∧ ((true = true) ∧ ((true = true) ∧ ((true = true) ∧ ((true = true) ∧ ((true = true) ∧ (True)))))))) (cond (!(inB m5 (1 : Int) (1200 : Int))) ((true = true) ∧ ((true = true) ∧ ((true = true) ∧ ((true = true) ∧ ((true = true) ∧ ((true = true) ∧ (True))))))) (cond (!(inB m6 (1 : Int) (1200 : Int))) ((true = true) ∧ ((true = true) ∧ ((true = true) ∧ ((true = true) ∧ ((true = true) ∧ (True)))))) (cond (!(inB m7 (1 : Int) (100 : Int))) ((true = true) ∧ ((true = true) ∧ ((true = true) ∧ ((true = true) ∧ (True))))) (cond (!(inB m8 0 100)) ((true = true) ∧ ((true = true) ∧ ((true = true) ∧ (True)))) (cond (!(inB m9 0 100)) ((true = true) ∧ ((true = true) ∧ (True))) (cond (!(inB mA 0 100)) ((true = true) ∧ (True)) (True)))))))) ∧ (lt ((bif (!(inB m4 (1 : Int) (20 : Int))) then true else (bif (!(inB m5 (1 : Int) (1200 : Int))) then true else (bif (!(inB m6 (1 : Int) (1200 : Int))) then true else (bif (!(inB m7 (1 : Int) (100 : Int))) then true else (bif (!(inB m8 0 100)) then true else (bif (!(inB m9 0 100)) then true else (bif (!(inB mA 0 100)) then true else (!(inB mB 0 100)))))))))) fun x1 => cond x1 (post (.t (.c (.v (.int .i64 2))))) (cond (decide (m5 > m6)) (post (.t (.c (.v (.int .i64 9))))) (lt (IntKind.i64.wrap (m7 * m4)) fun x2 => lt (IntKind.i64.wrap (x2 * m4)) fun x3 => cond (decide (m5 ≤ x3)) (post (.t (.c (.v (.int .i64 13))))) (post (.t (.c (.v (.int .i64 0))))))))))
def qdq : Ann := ⟨fun _ => none, fun _ => none, fun _ => [], Ikv64, false, fun r => qr r [(8, (5, [67]))], fun _ => none⟩
theorem qcv (m0 m1 m2 m3 m4 m5 m6 m7 m8 m9 mA mB : Int) : q7O m0 m1 m2 m3 m4 m5 m6 m7 m8 m9 mA mB (fun r => LeD r (.t (.c (.v (.int .i64 (((TM.mk m0 m1 m2 m3 m4 m5 m6 m7 m8 m9 mA mB)).err)))))) := by
 unfold q7O TM.err
 rw [or8]
 have hp : TM.pl (TM.mk m0 m1 m2 m3 m4 m5 m6 m7 m8 m9 mA mB) = ⟨m0, m1, m2⟩ := rfl
 rw [hp]
 simp only
 have hr : (inB m4 1 20 && inB m5 1 1200 && inB m6 1 1200 && inB m7 1 100 && inB m8 0 100 && inB m9 0 100 && inB mA 0 100 && inB mB 0 100) = ((TM.mk m0 m1 m2 m3 m4 m5 m6 m7 m8 m9 mA mB)).right := rfl
 rw [hr]
 refine qg (fun h => leI ?_) (fun h => qg (fun h2 => leI ?_) (fun h2 => ⟨by (repeat' first | trivial | (refine qg ?_ ?_ <;> intro _) | (refine And.intro ?_ ?_) | (refine lt_i ?_; intro _ _)), lt_i fun x1 h1 => qg (fun e => leI ?_) (fun e => qg (fun e2 => leI ?_) (fun e2 => lt_i fun x2 h3 => lt_i fun x3 h4 => ?_))⟩))
 ·have h : plE (V3.mk m0 m1 m2) ≠ 0 := by simpa using h
  simp [qd, h]
 ·have h : plE (V3.mk m0 m1 m2) = 0 := by simpa using h
  have h2 : tmE m3 ≠ 0 := by simpa using h2
  simp [qd, h, h2]
 all_goals have h : plE (V3.mk m0 m1 m2) = 0 := by simpa using h
 all_goals have h2 : tmE m3 = 0 := by simpa using h2
 ·have e : ((TM.mk m0 m1 m2 m3 m4 m5 m6 m7 m8 m9 mA mB)).right = false := by rw [e] at h1; simpa using h1
  rw [h, h2, e]; rfl
 all_goals have e : ((TM.mk m0 m1 m2 m3 m4 m5 m6 m7 m8 m9 mA mB)).right = true := by rw [e] at h1; simpa using h1
 ·have e2 := of_decide_eq_true e2
  rw [h, h2, e, decide_eq_false (show ¬ m5 ≤ m6 by omega)]; rfl
 have e2 := of_decide_eq_false e2
 unfold TM.right at e
 simp only [Bool.and_eq_true, q0Q] at e
 obtain ⟨⟨⟨⟨⟨⟨⟨b1, b2⟩, b3⟩, b4⟩, b5⟩, b6⟩, b7⟩, b8⟩ := e
 have k3 := qv (x := m7) (y := m4) (A := 100) (B := 20) (C := 2000) (by omega) (by omega) (by decide)
 rw [wi (by omega)] at h3
 subst h3
 have k4 := qv (x := m7 * m4) (y := m4) (A := 2000) (B := 20) (C := 40000) k3 (by omega) (by decide)
 rw [wi (by omega)] at h4
 have h4 : ((TM.mk m0 m1 m2 m3 m4 m5 m6 m7 m8 m9 mA mB)).slow = x3 := h4
 have er : ((TM.mk m0 m1 m2 m3 m4 m5 m6 m7 m8 m9 mA mB)).right = true := by
  unfold TM.right
  simp only [Bool.and_eq_true, q0Q]
  exact ⟨⟨⟨⟨⟨⟨⟨b1, b2⟩, b3⟩, b4⟩, b5⟩, b6⟩, b7⟩, b8⟩
 rw [h, h2, er, decide_eq_true (show m5 ≤ m6 by omega), h4]
 refine qg (fun e3 => leI ?_) (fun e3 => leI ?_)
 ·have e3 := of_decide_eq_true e3
  rw [decide_eq_false (show ¬ x3 < m5 by omega)]; rfl
 ·have e3 := of_decide_eq_false e3
  rw [decide_eq_true (show x3 < m5 by omega)]; rfl
def q4k : Con := fun args => match args with
 | [.t (.a [.v (.int .i64 m0), .v (.int .i64 m1), .v (.int .i64 m2), .v (.int .i64 m3), .v (.int .i64 m4), .v (.int .i64 m5), .v (.int .i64 m6), .v (.int .i64 m7), .v (.int .i64 m8), .v (.int .i64 m9), .v (.int .i64 mA), .v (.int .i64 mB)])] => some (.t (.c (.v (.int .i64 (((TM.mk m0 m1 m2 m3 m4 m5 m6 m7 m8 m9 mA mB)).err)))), none, false)
 | _ => none
theorem qex : Ok Tryz.prog 20 q4k := by
 refine Ok.fn (ann := qdq) mixed qo VSlf84 VIkv64 (fn := Tryz.f20) (by kernel_rfl) (by kernel_rfl) (by kernel_rfl) fun args r pre fresh h hp => ?_
 unfold q4k at h
 split at h
 ·rename_i m0 m1 m2 m3 m4 m5 m6 m7 m8 m9 mA mB
  cases h
  refine ⟨rfl, fun _ _ _ => False, _, LeA.refl _, Nat.le_of_ble_eq_true (by kernel_rfl), ?_, ?_⟩
  ·exact cast (by kernel_rfl) (qcv m0 m1 m2 m3 m4 m5 m6 m7 m8 m9 mA mB)
  ·exact cast (by kernel_rfl) trivial
 ·cases h
def Slf85 : Sum := addS Slf84 20 q4k
theorem VSlf85 : Valid Tryz.prog Slf85 := Valid.add VSlf84 qex
def qdr (s0 s1 s2 t0 t1 t2 : Int) (post : DV → Prop) : Prop := (0 ≤ (0 : Int) ∧ (0 : Int) < ((3 : Nat) : Int)) ∧ ((0 ≤ (0 : Int) ∧ (0 : Int) < ((3 : Nat) : Int)) ∧ (lt (IntKind.i64.wrap (s0 * t0)) fun x1 => (0 ≤ (1 : Int) ∧ (1 : Int) < ((3 : Nat) : Int)) ∧ ((0 ≤ (1 : Int) ∧ (1 : Int) < ((3 : Nat) : Int)) ∧ (lt (IntKind.i64.wrap (s1 * t1)) fun x2 => lt (IntKind.i64.wrap (x1 + x2)) fun x3 => (0 ≤ (2 : Int) ∧ (2 : Int) < ((3 : Nat) : Int)) ∧ ((0 ≤ (2 : Int) ∧ (2 : Int) < ((3 : Nat) : Int)) ∧ (lt (IntKind.i64.wrap (s2 * t2)) fun x4 => lt (IntKind.i64.wrap (x3 + x4)) fun x5 => post (.t (.c (.v (.int .i64 x5))))))))))
def qj4 : Ann := ⟨fun _ => none, fun _ => none, fun _ => [], Ikv64, false, fun _ => none, fun _ => none⟩
theorem qhO (s0 s1 s2 t0 t1 t2 : Int) : qdr s0 s1 s2 t0 t1 t2 (fun r => LeD r (.t (.c (.v (.int .i64 (dotW (V3.mk s0 s1 s2) (V3.mk t0 t1 t2))))))) := by
 unfold qdr
 refine ⟨by decide, by decide, lt_i fun x1 h1 => ⟨by decide, by decide, lt_i fun x2 h2 => lt_i fun x3 h3 => ⟨by decide, by decide, lt_i fun x4 h4 => lt_i fun x5 h5 => leI ?_⟩⟩⟩
 unfold dotW
 rw [← h5, ← h4, ← h3, ← h2, ← h1]
def q7D : Con := fun args => match args with
 | [.t (.a [.v (.int .i64 s0), .v (.int .i64 s1), .v (.int .i64 s2)]), .t (.a [.v (.int .i64 t0), .v (.int .i64 t1), .v (.int .i64 t2)])] => some (.t (.c (.v (.int .i64 (dotW (V3.mk s0 s1 s2) (V3.mk t0 t1 t2))))), none, false)
 | _ => none
theorem qks : Ok Tryz.prog 90 q7D := by
 refine Ok.fn (ann := qj4) mixed qo VSlf85 VIkv64 (fn := Tryz.f90) (by kernel_rfl) (by kernel_rfl) (by kernel_rfl) fun args r pre fresh h hp => ?_
 unfold q7D at h
 split at h
 ·rename_i s0 s1 s2 t0 t1 t2
  cases h
  refine ⟨rfl, fun _ _ _ => False, _, LeA.refl _, Nat.le_of_ble_eq_true (by kernel_rfl), ?_, ?_⟩
  ·exact cast (by kernel_rfl) (qhO s0 s1 s2 t0 t1 t2)
  ·exact cast (by kernel_rfl) trivial
 ·cases h
def Slf86 : Sum := addS Slf85 90 q7D
theorem VSlf86 : Valid Tryz.prog Slf86 := Valid.add VSlf85 qks
def q6f (m0 m1 m2 m3 m4 m5 m6 m7 m8 m9 mA mB s0 s1 s2 : Int) (post : DV → Prop) : Prop := lt (dotW (V3.mk s0 s1 s2) (V3.mk s0 s1 s2)) fun x1 => post (.t (.c (.v (.bool (inB x1 m5 m6)))))
def qaM : Ann := ⟨fun r => qr r [(1, ([[], [], [0, 1], [], [3], [3, 4], [], [6], [6, 7], [0, 1, 2, 3, 4, 5, 6, 7, 8], [0, 1, 2, 3, 4, 5, 6, 7, 8, 9]], [[7, 14], [7, 14], [14], [7, 14], [7, 14], [7, 14], [7, 14], [7, 14], [7, 14], [], []]))], fun _ => none, fun _ => [], Ikv64, false, fun _ => none, fun _ => none⟩
theorem qa3 (m0 m1 m2 m3 m4 m5 m6 m7 m8 m9 mA mB s0 s1 s2 : Int) (hp : ((V3.mk s0 s1 s2)).sm (V3.mk s0 s1 s2)) : q6f m0 m1 m2 m3 m4 m5 m6 m7 m8 m9 mA mB s0 s1 s2 (fun r => LeD r (.t (.c (.v (.bool (((TM.mk m0 m1 m2 m3 m4 m5 m6 m7 m8 m9 mA mB)).permB (V3.mk s0 s1 s2))))))) := by
 have e : dotW (V3.mk s0 s1 s2) ⟨s0, s1, s2⟩ = (V3.mk s0 s1 s2).dot ⟨s0, s1, s2⟩ := dotW_sm hp
 unfold q6f
 rw [e]
 refine lt_i fun x hx => leB ?_
 rw [← hx]
 rfl
def q2I : Con := fun args => match args with
 | [.t (.a [.v (.int .i64 m0), .v (.int .i64 m1), .v (.int .i64 m2), .v (.int .i64 m3), .v (.int .i64 m4), .v (.int .i64 m5), .v (.int .i64 m6), .v (.int .i64 m7), .v (.int .i64 m8), .v (.int .i64 m9), .v (.int .i64 mA), .v (.int .i64 mB)]), .t (.a [.v (.int .i64 s0), .v (.int .i64 s1), .v (.int .i64 s2)])] => some (.t (.c (.v (.bool (((TM.mk m0 m1 m2 m3 m4 m5 m6 m7 m8 m9 mA mB)).permB (V3.mk s0 s1 s2))))), some (((V3.mk s0 s1 s2)).sm (V3.mk s0 s1 s2)), false)
 | _ => none
theorem qbS : Ok Tryz.prog 52 q2I := by
 refine Ok.fn (ann := qaM) mixed qo VSlf86 VIkv64 (fn := Tryz.f52) (by kernel_rfl) (by kernel_rfl) (by kernel_rfl) fun args r pre fresh h hp => ?_
 unfold q2I at h
 split at h
 ·rename_i m0 m1 m2 m3 m4 m5 m6 m7 m8 m9 mA mB s0 s1 s2
  cases h
  refine ⟨rfl, fun _ _ _ => False, _, LeA.refl _, Nat.le_of_ble_eq_true (by kernel_rfl), ?_, ?_⟩
  ·exact cast (by kernel_rfl) (qa3 m0 m1 m2 m3 m4 m5 m6 m7 m8 m9 mA mB s0 s1 s2 hp)
  ·exact cast (by kernel_rfl) trivial
 ·cases h
def Slf87 : Sum := addS Slf86 52 q2I
theorem VSlf87 : Valid Tryz.prog Slf87 := Valid.add VSlf86 qbS
def q6V (b0 b1 b2 b3 b4 b5 : Int) (v0_0 : List (List CV)) (v0_1 : Int) : DS := ⟨[none, some (.t (.c (.p 1 0))), none, some (.t (.c (.os 3))), some (.t (.c (.v (.int .i64 v0_1)))), none, none, none, none, none, none, none, none, none, none, none, none, none, none, none, none, none, none, none, none, none, none, none, none, none, none, none, none, none, none, none, none, none, none, none, none, none, none, none, none], [none, some (.box 25 [.v (.int .i64 b0), .v (.int .i64 b1), .v (.int .i64 b2), .v (.int .i64 b3), .v (.int .i64 b4), .v (.int .i64 b5)]), none, some (.gen 23 3 v0_0), none, none, none, none, none, none, none, none, none, none, none, none, none, none, none, none, none, none, none, none, none, none, none, none, none, none, none, none, none, none, none, none, none, none, none, none, none, none, none, none, none]⟩
def q6W (b0 b1 b2 b3 b4 b5 : Int) (v2_0 : List (List CV)) (v2_1 v2_2 : Int) : DS := ⟨[none, some (.t (.c (.p 1 0))), none, some (.t (.c (.os 3))), some (.t (.c (.v (.int .i64 v2_1)))), some (.t (.c (.v (.int .i64 v2_2)))), none, none, none, none, none, none, none, none, none, none, none, none, none, none, none, none, none, none, none, none, none, none, none, none, none, none, none, none, none, none, none, none, none, none, none, none, none, none, none], [none, some (.box 25 [.v (.int .i64 b0), .v (.int .i64 b1), .v (.int .i64 b2), .v (.int .i64 b3), .v (.int .i64 b4), .v (.int .i64 b5)]), none, some (.gen 23 3 v2_0), none, none, none, none, none, none, none, none, none, none, none, none, none, none, none, none, none, none, none, none, none, none, none, none, none, none, none, none, none, none, none, none, none, none, none, none, none, none, none, none, none]⟩
def q6X (b0 b1 b2 b3 b4 b5 : Int) (v4_0 : List (List CV)) (v4_1 v4_2 v4_3 : Int) : DS := ⟨[none, some (.t (.c (.p 1 0))), none, some (.t (.c (.os 3))), some (.t (.c (.v (.int .i64 v4_1)))), some (.t (.c (.v (.int .i64 v4_2)))), some (.t (.c (.v (.int .i64 v4_3)))), none, none, none, none, none, none, none, none, none, none, none, none, none, none, none, none, none, none, none, none, none, none, none, none, none, none, none, none, none, none, none, none, none, none, none, none, none, none], [none, some (.box 25 [.v (.int .i64 b0), .v (.int .i64 b1), .v (.int .i64 b2), .v (.int .i64 b3), .v (.int .i64 b4), .v (.int .i64 b5)]), none, some (.gen 23 3 v4_0), none, none, none, none, none, none, none, none, none, none, none, none, none, none, none, none, none, none, none, none, none, none, none, none, none, none, none, none, none, none, none, none, none, none, none, none, none, none, none, none, none]⟩
def qds (J : Inv) (b0 b1 b2 b3 b4 b5 : Int) (post : DV → Prop) : Prop := (0 ≤ (0 : Int) ∧ (0 : Int) < ((3 : Nat) : Int)) ∧ (∃ n, J 0 (n :: []) (q6V b0 b1 b2 b3 b4 b5 ([]) b0))
def q2c : Ann := ⟨fun _ => none, fun b => qr b [(0, (none, some ⟨[1, 4], [1], [(3, .gen 23 3 [])]⟩)), (2, (none, some ⟨[1, 4, 5], [1], [(3, .gen 23 3 [])]⟩)), (4, (none, some ⟨[1, 4, 5, 6], [1], [(3, .gen 23 3 [])]⟩))], fun _ => [], Ikv64, false, fun _ => none, fun _ => none⟩
def qaN (J : Inv) (b0 b1 b2 b3 b4 b5 : Int) (v0_0 : List (List CV)) (v0_1 : Int) (nn0 : Nat) (post : DV → Prop) : Prop := (0 ≤ (0 : Int) ∧ (0 : Int) < ((3 : Nat) : Int)) ∧ (cond (decide (v0_1 ≤ b3)) ((0 ≤ (1 : Int) ∧ (1 : Int) < ((3 : Nat) : Int)) ∧ (∃ n, J 2 (n :: nn0 :: []) (q6W b0 b1 b2 b3 b4 b5 v0_0 v0_1 b1))) (post (.t (.c (.sl 3 v0_0.length (genC v0_0))))))
def qaO (J : Inv) (b0 b1 b2 b3 b4 b5 : Int) (v2_0 : List (List CV)) (v2_1 v2_2 : Int) (nn2 nn0 : Nat) (post : DV → Prop) : Prop := (0 ≤ (1 : Int) ∧ (1 : Int) < ((3 : Nat) : Int)) ∧ (cond (decide (v2_2 ≤ b4)) ((0 ≤ (2 : Int) ∧ (2 : Int) < ((3 : Nat) : Int)) ∧ (∃ n, J 4 (n :: nn2 :: nn0 :: []) (q6X b0 b1 b2 b3 b4 b5 v2_0 v2_1 v2_2 b2))) (lt (IntKind.i64.wrap (v2_1 + (1 : Int))) fun x1 => J 0 (nn0 :: []) (q6V b0 b1 b2 b3 b4 b5 v2_0 x1)))
def qaP (J : Inv) (b0 b1 b2 b3 b4 b5 : Int) (v4_0 : List (List CV)) (v4_1 v4_2 v4_3 : Int) (nn4 nn2 nn0 : Nat) (post : DV → Prop) : Prop := (0 ≤ (2 : Int) ∧ (2 : Int) < ((3 : Nat) : Int)) ∧ (cond (decide (v4_3 ≤ b5)) ((q0k 24 (v4_0.length + ([[.v (.int .i64 v4_1), .v (.int .i64 v4_2), .v (.int .i64 v4_3)]] : List (List CV)).length)) ∧ (lt (IntKind.i64.wrap (v4_3 + (1 : Int))) fun x1 => J 4 (nn4 :: nn2 :: nn0 :: []) (q6X b0 b1 b2 b3 b4 b5 (v4_0 ++ ([[.v (.int .i64 v4_1), .v (.int .i64 v4_2), .v (.int .i64 v4_3)]] : List (List CV))) v4_1 v4_2 x1))) (lt (IntKind.i64.wrap (v4_2 + (1 : Int))) fun x2 => J 2 (nn2 :: nn0 :: []) (q6W b0 b1 b2 b3 b4 b5 v4_0 v4_1 x2)))
theorem qkt (J : Inv) (post : DV → Prop) : AllG J (qz Tryz.prog tab Slf87 q2c J Tryz.f51 post) = (((∀ F s, ¬ J 0 (0 :: F) s) ∧ ∀ n F s, J 0 ((n + 1) :: F) s → round Tryz.prog tab Slf87 q2c J Tryz.f51 post 0 (n :: F) s) ∧ ((∀ F s, ¬ J 2 (0 :: F) s) ∧ ∀ n F s, J 2 ((n + 1) :: F) s → round Tryz.prog tab Slf87 q2c J Tryz.f51 post 1 (n :: F) s) ∧ ((∀ F s, ¬ J 4 (0 :: F) s) ∧ ∀ n F s, J 4 ((n + 1) :: F) s → round Tryz.prog tab Slf87 q2c J Tryz.f51 post 2 (n :: F) s) ∧ True) := by kernel_rfl
def q2o (b0 b1 b2 b3 b4 b5 : Int) : Inv := fun b F s => match b, F with
 | 0, [nn0] => ∃ (v0_0 : List (List CV)) (v0_1 : Int), s = q6V b0 b1 b2 b3 b4 b5 v0_0 v0_1 ∧ (v0_0.length ≤ 68921 ∧ v0_0 ++ (q2g (TB.mk (.mk b0 b1 b2) (.mk b3 b4 b5)) v0_1).map v3Cv = (TB.mk (.mk b0 b1 b2) (.mk b3 b4 b5)).all.map v3Cv ∧ b0 ≤ v0_1 ∧ v0_1 ≤ b3 + 1 ∧ (nn0 : Int) + v0_1 = b3 + 2)
 | 2, [nn2, nn0] => ∃ (v2_0 : List (List CV)) (v2_1 : Int) (v2_2 : Int), s = q6W b0 b1 b2 b3 b4 b5 v2_0 v2_1 v2_2 ∧ (v2_0.length ≤ 68921 ∧ v2_0 ++ (q3o (TB.mk (.mk b0 b1 b2) (.mk b3 b4 b5)) v2_1 v2_2 ++ q2g (TB.mk (.mk b0 b1 b2) (.mk b3 b4 b5)) (v2_1 + 1)).map v3Cv = (TB.mk (.mk b0 b1 b2) (.mk b3 b4 b5)).all.map v3Cv ∧ (b0 ≤ v2_1 ∧ v2_1 ≤ b3 ∧ (nn0 : Int) + v2_1 = b3 + 1) ∧ b1 ≤ v2_2 ∧ v2_2 ≤ b4 + 1 ∧ (nn2 : Int) + v2_2 = b4 + 2)
 | 4, [nn4, nn2, nn0] => ∃ (v4_0 : List (List CV)) (v4_1 : Int) (v4_2 : Int) (v4_3 : Int), s = q6X b0 b1 b2 b3 b4 b5 v4_0 v4_1 v4_2 v4_3 ∧ (v4_0.length ≤ 68921 ∧ v4_0 ++ (q6o (TB.mk (.mk b0 b1 b2) (.mk b3 b4 b5)) v4_1 v4_2 v4_3 ++ (q3o (TB.mk (.mk b0 b1 b2) (.mk b3 b4 b5)) v4_1 (v4_2 + 1) ++ q2g (TB.mk (.mk b0 b1 b2) (.mk b3 b4 b5)) (v4_1 + 1))).map v3Cv = (TB.mk (.mk b0 b1 b2) (.mk b3 b4 b5)).all.map v3Cv ∧ (b0 ≤ v4_1 ∧ v4_1 ≤ b3 ∧ (nn0 : Int) + v4_1 = b3 + 1) ∧ (b1 ≤ v4_2 ∧ v4_2 ≤ b4 ∧ (nn2 : Int) + v4_2 = b4 + 1) ∧ b2 ≤ v4_3 ∧ v4_3 ≤ b5 + 1 ∧ (nn4 : Int) + v4_3 = b5 + 2)
 | _, _ => False
set_option maxHeartbeats 8000000 in
theorem qgU (b0 b1 b2 b3 b4 b5 : Int) (v0_0 : List (List CV)) (v0_1 : Int) (nn0 : Nat) (hp : ((TB.mk (.mk b0 b1 b2) (.mk b3 b4 b5))).lo.inS 20 = true ∧ ((TB.mk (.mk b0 b1 b2) (.mk b3 b4 b5))).hi.inS 20 = true ∧ ((TB.mk (.mk b0 b1 b2) (.mk b3 b4 b5))).ok) (hi : v0_0.length ≤ 68921 ∧ v0_0 ++ (q2g (TB.mk (.mk b0 b1 b2) (.mk b3 b4 b5)) v0_1).map v3Cv = (TB.mk (.mk b0 b1 b2) (.mk b3 b4 b5)).all.map v3Cv ∧ b0 ≤ v0_1 ∧ v0_1 ≤ b3 + 1 ∧ ((nn0 + 1) : Int) + v0_1 = b3 + 2) : qaN (q2o b0 b1 b2 b3 b4 b5) b0 b1 b2 b3 b4 b5 v0_0 v0_1 nn0 (fun r => LeD r (.t (.c (.sl 3 ((((TB.mk (.mk b0 b1 b2) (.mk b3 b4 b5))).all).length) (plsC (((TB.mk (.mk b0 b1 b2) (.mk b3 b4 b5))).all)))))) := by
 obtain ⟨q1, q2, q3⟩ := hp
 obtain ⟨a1, a2, a3⟩ := qn.1 q1
 obtain ⟨c1, c2, c3⟩ := qn.1 q2
 obtain ⟨o1, o2, o3⟩ := q3
 simp only [TB.rx, TB.ry, TB.rz, Rg.ok] at a1 a2 a3 c1 c2 c3 o1 o2 o3
 obtain ⟨i1, i2, i3, i4⟩ := hi
 unfold qaN
 refine ⟨by omega, qg (fun h => ⟨by omega, (b4 + 2 - b1).toNat, v0_0, v0_1, b1, rfl, i1, ?_, ?_, by omega, by omega, by omega⟩) (fun h => ?_)⟩
 ·have h := of_decide_eq_true h
  rw [← i2, qgF (b := (TB.mk (.mk b0 b1 b2) (.mk b3 b4 b5))) (x := v0_1) (by simpa using h)]
 ·have h := of_decide_eq_true h
  omega
 ·have h := of_decide_eq_false h
  rw [qiL (b := (TB.mk (.mk b0 b1 b2) (.mk b3 b4 b5))) (by simp only; omega), List.map_nil, List.append_nil] at i2
  rw [i2]
  exact le_v3 _
set_option maxHeartbeats 8000000 in
theorem qgV (b0 b1 b2 b3 b4 b5 : Int) (v2_0 : List (List CV)) (v2_1 v2_2 : Int) (nn2 nn0 : Nat) (hp : ((TB.mk (.mk b0 b1 b2) (.mk b3 b4 b5))).lo.inS 20 = true ∧ ((TB.mk (.mk b0 b1 b2) (.mk b3 b4 b5))).hi.inS 20 = true ∧ ((TB.mk (.mk b0 b1 b2) (.mk b3 b4 b5))).ok) (hi : v2_0.length ≤ 68921 ∧ v2_0 ++ (q3o (TB.mk (.mk b0 b1 b2) (.mk b3 b4 b5)) v2_1 v2_2 ++ q2g (TB.mk (.mk b0 b1 b2) (.mk b3 b4 b5)) (v2_1 + 1)).map v3Cv = (TB.mk (.mk b0 b1 b2) (.mk b3 b4 b5)).all.map v3Cv ∧ (b0 ≤ v2_1 ∧ v2_1 ≤ b3 ∧ (nn0 : Int) + v2_1 = b3 + 1) ∧ b1 ≤ v2_2 ∧ v2_2 ≤ b4 + 1 ∧ ((nn2 + 1) : Int) + v2_2 = b4 + 2) : qaO (q2o b0 b1 b2 b3 b4 b5) b0 b1 b2 b3 b4 b5 v2_0 v2_1 v2_2 nn2 nn0 (fun r => LeD r (.t (.c (.sl 3 ((((TB.mk (.mk b0 b1 b2) (.mk b3 b4 b5))).all).length) (plsC (((TB.mk (.mk b0 b1 b2) (.mk b3 b4 b5))).all)))))) := by
 obtain ⟨q1, q2, q3⟩ := hp
 obtain ⟨a1, a2, a3⟩ := qn.1 q1
 obtain ⟨c1, c2, c3⟩ := qn.1 q2
 obtain ⟨o1, o2, o3⟩ := q3
 simp only [TB.rx, TB.ry, TB.rz, Rg.ok] at a1 a2 a3 c1 c2 c3 o1 o2 o3
 obtain ⟨i1, i2, i3, i4, i5⟩ := hi
 unfold qaO
 refine ⟨by omega, qg (fun h => ⟨by omega, (b5 + 2 - b2).toNat, v2_0, v2_1, v2_2, b2, rfl, i1, ?_, by omega, ?_, by omega, by omega, by omega⟩) (fun h => lt_i fun x hx => ?_)⟩
 ·have h := of_decide_eq_true h
  rw [← i2, qgG (b := (TB.mk (.mk b0 b1 b2) (.mk b3 b4 b5))) (y := v2_2) (by simpa using h), List.append_assoc]
 ·have h := of_decide_eq_true h
  omega
 ·have h := of_decide_eq_false h
  rw [IntWalk.i64_in _ (by omega)] at hx
  subst hx
  refine ⟨v2_0, v2_1 + 1, rfl, i1, ?_, by omega, by omega, by omega⟩
  rw [← i2, qiM (b := (TB.mk (.mk b0 b1 b2) (.mk b3 b4 b5))) (by simp only; omega), List.nil_append]
set_option maxHeartbeats 8000000 in
theorem qgW (b0 b1 b2 b3 b4 b5 : Int) (v4_0 : List (List CV)) (v4_1 v4_2 v4_3 : Int) (nn4 nn2 nn0 : Nat) (hp : ((TB.mk (.mk b0 b1 b2) (.mk b3 b4 b5))).lo.inS 20 = true ∧ ((TB.mk (.mk b0 b1 b2) (.mk b3 b4 b5))).hi.inS 20 = true ∧ ((TB.mk (.mk b0 b1 b2) (.mk b3 b4 b5))).ok) (hi : v4_0.length ≤ 68921 ∧ v4_0 ++ (q6o (TB.mk (.mk b0 b1 b2) (.mk b3 b4 b5)) v4_1 v4_2 v4_3 ++ (q3o (TB.mk (.mk b0 b1 b2) (.mk b3 b4 b5)) v4_1 (v4_2 + 1) ++ q2g (TB.mk (.mk b0 b1 b2) (.mk b3 b4 b5)) (v4_1 + 1))).map v3Cv = (TB.mk (.mk b0 b1 b2) (.mk b3 b4 b5)).all.map v3Cv ∧ (b0 ≤ v4_1 ∧ v4_1 ≤ b3 ∧ (nn0 : Int) + v4_1 = b3 + 1) ∧ (b1 ≤ v4_2 ∧ v4_2 ≤ b4 ∧ (nn2 : Int) + v4_2 = b4 + 1) ∧ b2 ≤ v4_3 ∧ v4_3 ≤ b5 + 1 ∧ ((nn4 + 1) : Int) + v4_3 = b5 + 2) : qaP (q2o b0 b1 b2 b3 b4 b5) b0 b1 b2 b3 b4 b5 v4_0 v4_1 v4_2 v4_3 nn4 nn2 nn0 (fun r => LeD r (.t (.c (.sl 3 ((((TB.mk (.mk b0 b1 b2) (.mk b3 b4 b5))).all).length) (plsC (((TB.mk (.mk b0 b1 b2) (.mk b3 b4 b5))).all)))))) := by
 obtain ⟨q1, q2, q3⟩ := hp
 obtain ⟨a1, a2, a3⟩ := qn.1 q1
 obtain ⟨c1, c2, c3⟩ := qn.1 q2
 obtain ⟨o1, o2, o3⟩ := q3
 simp only [TB.rx, TB.ry, TB.rz, Rg.ok] at a1 a2 a3 c1 c2 c3 o1 o2 o3
 obtain ⟨i1, i2, i3, i4, i5⟩ := hi
 have hn := congrArg List.length i2
 have hm := qiO (b := (TB.mk (.mk b0 b1 b2) (.mk b3 b4 b5))) q1 q2 ⟨o1, o2, o3⟩
 unfold qaP
 refine ⟨by omega, qg (fun h => ?_) (fun h => lt_i fun x hx => ?_)⟩
 ·have h := of_decide_eq_true h
  rw [qgH (b := (TB.mk (.mk b0 b1 b2) (.mk b3 b4 b5))) (by simpa using h), List.cons_append, List.map_cons] at i2 hn
  rw [List.length_append, List.length_cons, List.length_map, List.length_map] at hn
  refine ⟨?_, lt_i fun x hx => ?_⟩
  ·unfold q0k maxLen; simp; omega
  ·rw [IntWalk.i64_in _ (by omega)] at hx
   subst hx
   refine ⟨_, _, _, _, rfl, ?_, ?_, i3, i4, by omega, by omega, by omega⟩
   ·rw [List.length_append, List.length_singleton]; omega
   ·rw [← i2, List.append_assoc]; rfl
 ·have h := of_decide_eq_false h
  rw [IntWalk.i64_in _ (by omega)] at hx
  subst hx
  refine ⟨v4_0, v4_1, v4_2 + 1, rfl, i1, ?_, i3, by omega, by omega, by omega⟩
  rw [← i2, qiN (b := (TB.mk (.mk b0 b1 b2) (.mk b3 b4 b5))) (by simp only; omega), List.nil_append]
set_option maxHeartbeats 8000000 in
theorem qhP (b0 b1 b2 b3 b4 b5 : Int) (hp : ((TB.mk (.mk b0 b1 b2) (.mk b3 b4 b5))).lo.inS 20 = true ∧ ((TB.mk (.mk b0 b1 b2) (.mk b3 b4 b5))).hi.inS 20 = true ∧ ((TB.mk (.mk b0 b1 b2) (.mk b3 b4 b5))).ok) : qds (q2o b0 b1 b2 b3 b4 b5) b0 b1 b2 b3 b4 b5 (fun r => LeD r (.t (.c (.sl 3 ((((TB.mk (.mk b0 b1 b2) (.mk b3 b4 b5))).all).length) (plsC (((TB.mk (.mk b0 b1 b2) (.mk b3 b4 b5))).all)))))) := by
 obtain ⟨q1, q2, q3⟩ := hp
 obtain ⟨a1, a2, a3⟩ := qn.1 q1
 obtain ⟨c1, c2, c3⟩ := qn.1 q2
 obtain ⟨o1, o2, o3⟩ := q3
 simp only [TB.rx, TB.ry, TB.rz, Rg.ok] at a1 a2 a3 c1 c2 c3 o1 o2 o3
 unfold qds
 exact ⟨by omega, (b3 + 2 - b0).toNat, [], b0, rfl, by simp, rfl, by omega, by omega, by omega⟩
theorem qj5 (b0 b1 b2 b3 b4 b5 : Int) (hp : ((TB.mk (.mk b0 b1 b2) (.mk b3 b4 b5))).lo.inS 20 = true ∧ ((TB.mk (.mk b0 b1 b2) (.mk b3 b4 b5))).hi.inS 20 = true ∧ ((TB.mk (.mk b0 b1 b2) (.mk b3 b4 b5))).ok) : AllG (q2o b0 b1 b2 b3 b4 b5) (qz Tryz.prog tab Slf87 q2c (q2o b0 b1 b2 b3 b4 b5) Tryz.f51 (fun r => LeD r (.t (.c (.sl 3 ((((TB.mk (.mk b0 b1 b2) (.mk b3 b4 b5))).all).length) (plsC (((TB.mk (.mk b0 b1 b2) (.mk b3 b4 b5))).all))))))) := by
 rw [qkt]
 refine ⟨⟨?_, ?_⟩, ⟨?_, ?_⟩, ⟨?_, ?_⟩, trivial⟩
 ·intro F s h
  obtain _ | ⟨g, F⟩ := F
  case cons => exact h.elim
  obtain ⟨w0, w1, rfl, hi⟩ := h
  omega
 ·intro n F s h
  obtain _ | ⟨g, F⟩ := F
  case cons => exact h.elim
  obtain ⟨w0, w1, rfl, hi⟩ := h
  exact cast (by kernel_rfl) (qgU b0 b1 b2 b3 b4 b5 _ _ _ hp hi)
 ·intro F s h
  obtain _ | ⟨f0, F⟩ := F
  ·exact h.elim
  obtain _ | ⟨g, F⟩ := F
  case cons => exact h.elim
  obtain ⟨w0, w1, w2, rfl, hi⟩ := h
  omega
 ·intro n F s h
  obtain _ | ⟨f0, F⟩ := F
  ·exact h.elim
  obtain _ | ⟨g, F⟩ := F
  case cons => exact h.elim
  obtain ⟨w0, w1, w2, rfl, hi⟩ := h
  exact cast (by kernel_rfl) (qgV b0 b1 b2 b3 b4 b5 _ _ _ _ _ hp hi)
 ·intro F s h
  obtain _ | ⟨f0, F⟩ := F
  ·exact h.elim
  obtain _ | ⟨f1, F⟩ := F
  ·exact h.elim
  obtain _ | ⟨g, F⟩ := F
  case cons => exact h.elim
  obtain ⟨w0, w1, w2, w3, rfl, hi⟩ := h
  omega
 ·intro n F s h
  obtain _ | ⟨f0, F⟩ := F
  ·exact h.elim
  obtain _ | ⟨f1, F⟩ := F
  ·exact h.elim
  obtain _ | ⟨g, F⟩ := F
  case cons => exact h.elim
  obtain ⟨w0, w1, w2, w3, rfl, hi⟩ := h
  exact cast (by kernel_rfl) (qgW b0 b1 b2 b3 b4 b5 _ _ _ _ _ _ _ hp hi)
def q7E : Con := fun args => match args with
 | [.t (.a [.v (.int .i64 b0), .v (.int .i64 b1), .v (.int .i64 b2), .v (.int .i64 b3), .v (.int .i64 b4), .v (.int .i64 b5)])] => some (.t (.c (.sl 3 ((((TB.mk (.mk b0 b1 b2) (.mk b3 b4 b5))).all).length) (plsC (((TB.mk (.mk b0 b1 b2) (.mk b3 b4 b5))).all)))), some (((TB.mk (.mk b0 b1 b2) (.mk b3 b4 b5))).lo.inS 20 = true ∧ ((TB.mk (.mk b0 b1 b2) (.mk b3 b4 b5))).hi.inS 20 = true ∧ ((TB.mk (.mk b0 b1 b2) (.mk b3 b4 b5))).ok), false)
 | _ => none
theorem qku : Ok Tryz.prog 51 q7E := by
 refine Ok.fn (ann := q2c) mixed qo VSlf87 VIkv64 (fn := Tryz.f51) (by kernel_rfl) (by kernel_rfl) (by kernel_rfl) fun args r pre fresh h hp => ?_
 unfold q7E at h
 split at h
 ·rename_i b0 b1 b2 b3 b4 b5
  cases h
  refine ⟨rfl, q2o b0 b1 b2 b3 b4 b5, _, LeA.refl _, Nat.le_of_ble_eq_true (by kernel_rfl), ?_, ?_⟩
  ·exact cast (by kernel_rfl) (qhP b0 b1 b2 b3 b4 b5 hp)
  ·exact qj5 b0 b1 b2 b3 b4 b5 hp
 ·cases h
def Slg88 : Sum := addS Slf87 51 q7E
theorem VSlg88 : Valid Tryz.prog Slg88 := Valid.add VSlf87 qku
def q3k (m0 m1 m2 m3 m4 m5 m6 m7 m8 m9 mA mB b0 b1 b2 b3 b4 b5 : Int) (v0_0 : List (List CV)) (v0_1 : Int) : DS := ⟨[none, none, some (.t (.c (.p 2 0))), none, none, some (.t (.c (.os 5))), some (.t (.c (.sl 3 ((((TB.mk (.mk b0 b1 b2) (.mk b3 b4 b5))).all).length) (plsC (((TB.mk (.mk b0 b1 b2) (.mk b3 b4 b5))).all))))), some (.t (.c (.v (.int .i64 v0_1)))), none, none, none, none, none, none, none, none, none, none, none, none, none, none, none, none, none, none, none, none, none, none], [none, none, some (.box 47 [.v (.int .i64 m0), .v (.int .i64 m1), .v (.int .i64 m2), .v (.int .i64 m3), .v (.int .i64 m4), .v (.int .i64 m5), .v (.int .i64 m6), .v (.int .i64 m7), .v (.int .i64 m8), .v (.int .i64 m9), .v (.int .i64 mA), .v (.int .i64 mB)]), none, none, some (.gen 23 3 v0_0), none, none, none, none, none, none, none, none, none, none, none, none, none, none, none, none, none, none, none, none, none, none, none, none]⟩
def qaQ (J : Inv) (m0 m1 m2 m3 m4 m5 m6 m7 m8 m9 mA mB b0 b1 b2 b3 b4 b5 : Int) (post : DV → Prop) : Prop := (((TB.mk (.mk b0 b1 b2) (.mk b3 b4 b5))).lo.inS 20 = true ∧ ((TB.mk (.mk b0 b1 b2) (.mk b3 b4 b5))).hi.inS 20 = true ∧ ((TB.mk (.mk b0 b1 b2) (.mk b3 b4 b5))).ok) ∧ (∃ n, J 0 (n :: []) (q3k m0 m1 m2 m3 m4 m5 m6 m7 m8 m9 mA mB b0 b1 b2 b3 b4 b5 ([]) 0))
def q3L : Ann := ⟨fun r => qr r [(6, ([[], [], [], [1, 2], [1, 2, 3], [0, 1, 2, 3, 4]], [[21], [21], [21], [21], [21], []]))], fun b => qr b [(0, (none, some ⟨[2, 6, 7], [2], [(5, .gen 23 3 [])]⟩))], fun _ => [], Ikv64, false, fun _ => none, fun _ => none⟩
def q8P (J : Inv) (m0 m1 m2 m3 m4 m5 m6 m7 m8 m9 mA mB b0 b1 b2 b3 b4 b5 : Int) (v0_0 : List (List CV)) (v0_1 : Int) (nn0 : Nat) (post : DV → Prop) : Prop := (fun (Z1 : TB) => cond (decide (v0_1 < ((((Z1).all).length : Nat) : Int))) ((0 ≤ v0_1 ∧ v0_1 < ((((Z1).all).length : Nat) : Int)) ∧ ((((plAt ((Z1).all) v0_1.toNat)).sm (plAt ((Z1).all) v0_1.toNat)) ∧ (cond (((TM.mk m0 m1 m2 m3 m4 m5 m6 m7 m8 m9 mA mB)).permB (plAt ((Z1).all) v0_1.toNat)) ((0 ≤ v0_1 ∧ v0_1 < ((((Z1).all).length : Nat) : Int)) ∧ ((q0k 24 (v0_0.length + ([[.v (.int .i64 ((plAt ((Z1).all) v0_1.toNat).x)), .v (.int .i64 ((plAt ((Z1).all) v0_1.toNat).y)), .v (.int .i64 ((plAt ((Z1).all) v0_1.toNat).z))]] : List (List CV)).length)) ∧ (lt (IntKind.i64.wrap (v0_1 + (1 : Int))) fun x1 => J 0 (nn0 :: []) (q3k m0 m1 m2 m3 m4 m5 m6 m7 m8 m9 mA mB b0 b1 b2 b3 b4 b5 (v0_0 ++ ([[.v (.int .i64 ((plAt ((Z1).all) v0_1.toNat).x)), .v (.int .i64 ((plAt ((Z1).all) v0_1.toNat).y)), .v (.int .i64 ((plAt ((Z1).all) v0_1.toNat).z))]] : List (List CV))) x1)))) (lt (IntKind.i64.wrap (v0_1 + (1 : Int))) fun x2 => J 0 (nn0 :: []) (q3k m0 m1 m2 m3 m4 m5 m6 m7 m8 m9 mA mB b0 b1 b2 b3 b4 b5 v0_0 x2))))) (post (.t (.c (.sl 3 v0_0.length (genC v0_0)))))) (TB.mk (.mk b0 b1 b2) (.mk b3 b4 b5))
theorem qhQ (J : Inv) (post : DV → Prop) : AllG J (qz Tryz.prog tab Slg88 q3L J Tryz.f22 post) = (((∀ F s, ¬ J 0 (0 :: F) s) ∧ ∀ n F s, J 0 ((n + 1) :: F) s → round Tryz.prog tab Slg88 q3L J Tryz.f22 post 0 (n :: F) s) ∧ True) := by kernel_rfl
def q3r (m0 m1 m2 m3 m4 m5 m6 m7 m8 m9 mA mB b0 b1 b2 b3 b4 b5 : Int) : Inv := fun b F s => match b, F with
 | 0, [nn0] => ∃ (v0_0 : List (List CV)) (v0_1 : Int), s = q3k m0 m1 m2 m3 m4 m5 m6 m7 m8 m9 mA mB b0 b1 b2 b3 b4 b5 v0_0 v0_1 ∧ (0 ≤ v0_1 ∧ v0_1 ≤ (TB.mk (.mk b0 b1 b2) (.mk b3 b4 b5)).all.length ∧ (nn0 : Int) + v0_1 = (TB.mk (.mk b0 b1 b2) (.mk b3 b4 b5)).all.length + 1 ∧ v0_0 = (((TB.mk (.mk b0 b1 b2) (.mk b3 b4 b5)).all.take v0_1.toNat).filter (TM.mk m0 m1 m2 m3 m4 m5 m6 m7 m8 m9 mA mB).permB).map v3Cv)
 | _, _ => False
set_option maxHeartbeats 8000000 in
theorem qey (m0 m1 m2 m3 m4 m5 m6 m7 m8 m9 mA mB b0 b1 b2 b3 b4 b5 : Int) (v0_0 : List (List CV)) (v0_1 : Int) (nn0 : Nat) (hp : ((TB.mk (.mk b0 b1 b2) (.mk b3 b4 b5))).lo.inS 20 = true ∧ ((TB.mk (.mk b0 b1 b2) (.mk b3 b4 b5))).hi.inS 20 = true ∧ ((TB.mk (.mk b0 b1 b2) (.mk b3 b4 b5))).ok) (hi : 0 ≤ v0_1 ∧ v0_1 ≤ (TB.mk (.mk b0 b1 b2) (.mk b3 b4 b5)).all.length ∧ ((nn0 + 1) : Int) + v0_1 = (TB.mk (.mk b0 b1 b2) (.mk b3 b4 b5)).all.length + 1 ∧ v0_0 = (((TB.mk (.mk b0 b1 b2) (.mk b3 b4 b5)).all.take v0_1.toNat).filter (TM.mk m0 m1 m2 m3 m4 m5 m6 m7 m8 m9 mA mB).permB).map v3Cv) : q8P (q3r m0 m1 m2 m3 m4 m5 m6 m7 m8 m9 mA mB b0 b1 b2 b3 b4 b5) m0 m1 m2 m3 m4 m5 m6 m7 m8 m9 mA mB b0 b1 b2 b3 b4 b5 v0_0 v0_1 nn0 (fun r => LeD r (.t (.c (.sl 3 ((((TM.mk m0 m1 m2 m3 m4 m5 m6 m7 m8 m9 mA mB)).steps (TB.mk (.mk b0 b1 b2) (.mk b3 b4 b5))).length) (plsC (((TM.mk m0 m1 m2 m3 m4 m5 m6 m7 m8 m9 mA mB)).steps (TB.mk (.mk b0 b1 b2) (.mk b3 b4 b5)))))))) := by
 obtain ⟨i1, i2, i3, i4⟩ := hi
 obtain ⟨k, rfl⟩ : ∃ k : Nat, v0_1 = k := ⟨v0_1.toNat, by omega⟩
 have hk : (k : Int).toNat = k := rfl
 rw [hk] at i4
 have hm := qiO (b := (TB.mk (.mk b0 b1 b2) (.mk b3 b4 b5))) hp.1 hp.2.1 hp.2.2
 have hlen : v0_0.length ≤ 68921 := by
  rw [i4, List.length_map]
  have h1 := List.length_filter_le (TM.mk m0 m1 m2 m3 m4 m5 m6 m7 m8 m9 mA mB).permB ((TB.mk (.mk b0 b1 b2) (.mk b3 b4 b5)).all.take k)
  rw [List.length_take] at h1
  omega
 unfold q8P
 rw [hk]
 refine qg (fun h => ?_) (fun h => ?_)
 ·have hlt : k < (TB.mk (.mk b0 b1 b2) (.mk b3 b4 b5)).all.length := by have := of_decide_eq_true h; omega
  have hb := q8f.1 (qdO hlt)
  obtain ⟨q1, q2, q3⟩ := hp
  have hsm := sm_box hb q1 q2
  have hnx : ∀ x, IntKind.i64.wrap ((k : Int) + 1) = x → x = (k : Int) + 1 := fun x hx => by rw [← hx]; exact IntWalk.i64_in _ (by omega)
  refine ⟨by omega, hsm, qg (fun e => ⟨by omega, ?_, lt_i fun x hx => ?_⟩) (fun e => lt_i fun x hx => ?_)⟩
  ·unfold q0k maxLen; simp; omega
  ·rw [hnx x hx]
   refine ⟨_, _, rfl, by omega, by omega, by omega, ?_⟩
   rw [show ((k : Int) + 1).toNat = k + 1 by omega, i4, q7o hlt, List.filter_append, List.filter_cons, if_pos e, List.map_append]; rfl
  ·rw [hnx x hx]
   refine ⟨_, _, rfl, by omega, by omega, by omega, ?_⟩
   rw [show ((k : Int) + 1).toNat = k + 1 by omega, i4, q7o hlt, List.filter_append, List.filter_cons, if_neg (by rw [e]; simp), List.filter_nil, List.append_nil]
 ·have hge : k = (TB.mk (.mk b0 b1 b2) (.mk b3 b4 b5)).all.length := by have := of_decide_eq_false h; omega
  rw [i4, hge, List.take_length]
  exact le_v3 _
set_option maxHeartbeats 8000000 in
theorem qfK (m0 m1 m2 m3 m4 m5 m6 m7 m8 m9 mA mB b0 b1 b2 b3 b4 b5 : Int) (hp : ((TB.mk (.mk b0 b1 b2) (.mk b3 b4 b5))).lo.inS 20 = true ∧ ((TB.mk (.mk b0 b1 b2) (.mk b3 b4 b5))).hi.inS 20 = true ∧ ((TB.mk (.mk b0 b1 b2) (.mk b3 b4 b5))).ok) : qaQ (q3r m0 m1 m2 m3 m4 m5 m6 m7 m8 m9 mA mB b0 b1 b2 b3 b4 b5) m0 m1 m2 m3 m4 m5 m6 m7 m8 m9 mA mB b0 b1 b2 b3 b4 b5 (fun r => LeD r (.t (.c (.sl 3 ((((TM.mk m0 m1 m2 m3 m4 m5 m6 m7 m8 m9 mA mB)).steps (TB.mk (.mk b0 b1 b2) (.mk b3 b4 b5))).length) (plsC (((TM.mk m0 m1 m2 m3 m4 m5 m6 m7 m8 m9 mA mB)).steps (TB.mk (.mk b0 b1 b2) (.mk b3 b4 b5)))))))) := by
 unfold qaQ
 exact ⟨hp, (TB.mk (.mk b0 b1 b2) (.mk b3 b4 b5)).all.length + 1, [], 0, rfl, by omega, by omega, by omega, rfl⟩
theorem qgX (m0 m1 m2 m3 m4 m5 m6 m7 m8 m9 mA mB b0 b1 b2 b3 b4 b5 : Int) (hp : ((TB.mk (.mk b0 b1 b2) (.mk b3 b4 b5))).lo.inS 20 = true ∧ ((TB.mk (.mk b0 b1 b2) (.mk b3 b4 b5))).hi.inS 20 = true ∧ ((TB.mk (.mk b0 b1 b2) (.mk b3 b4 b5))).ok) : AllG (q3r m0 m1 m2 m3 m4 m5 m6 m7 m8 m9 mA mB b0 b1 b2 b3 b4 b5) (qz Tryz.prog tab Slg88 q3L (q3r m0 m1 m2 m3 m4 m5 m6 m7 m8 m9 mA mB b0 b1 b2 b3 b4 b5) Tryz.f22 (fun r => LeD r (.t (.c (.sl 3 ((((TM.mk m0 m1 m2 m3 m4 m5 m6 m7 m8 m9 mA mB)).steps (TB.mk (.mk b0 b1 b2) (.mk b3 b4 b5))).length) (plsC (((TM.mk m0 m1 m2 m3 m4 m5 m6 m7 m8 m9 mA mB)).steps (TB.mk (.mk b0 b1 b2) (.mk b3 b4 b5))))))))) := by
 rw [qhQ]
 refine ⟨⟨?_, ?_⟩, trivial⟩
 ·intro F s h
  obtain _ | ⟨g, F⟩ := F
  case cons => exact h.elim
  obtain ⟨w0, w1, rfl, hi⟩ := h
  omega
 ·intro n F s h
  obtain _ | ⟨g, F⟩ := F
  case cons => exact h.elim
  obtain ⟨w0, w1, rfl, hi⟩ := h
  exact cast (by kernel_rfl) (qey m0 m1 m2 m3 m4 m5 m6 m7 m8 m9 mA mB b0 b1 b2 b3 b4 b5 _ _ _ hp hi)
def q6g : Con := fun args => match args with
 | [.t (.a [.v (.int .i64 m0), .v (.int .i64 m1), .v (.int .i64 m2), .v (.int .i64 m3), .v (.int .i64 m4), .v (.int .i64 m5), .v (.int .i64 m6), .v (.int .i64 m7), .v (.int .i64 m8), .v (.int .i64 m9), .v (.int .i64 mA), .v (.int .i64 mB)]), .t (.a [.v (.int .i64 b0), .v (.int .i64 b1), .v (.int .i64 b2), .v (.int .i64 b3), .v (.int .i64 b4), .v (.int .i64 b5)])] => some (.t (.c (.sl 3 ((((TM.mk m0 m1 m2 m3 m4 m5 m6 m7 m8 m9 mA mB)).steps (TB.mk (.mk b0 b1 b2) (.mk b3 b4 b5))).length) (plsC (((TM.mk m0 m1 m2 m3 m4 m5 m6 m7 m8 m9 mA mB)).steps (TB.mk (.mk b0 b1 b2) (.mk b3 b4 b5)))))), some (((TB.mk (.mk b0 b1 b2) (.mk b3 b4 b5))).lo.inS 20 = true ∧ ((TB.mk (.mk b0 b1 b2) (.mk b3 b4 b5))).hi.inS 20 = true ∧ ((TB.mk (.mk b0 b1 b2) (.mk b3 b4 b5))).ok), false)
 | _ => none
theorem qhR : Ok Tryz.prog 22 q6g := by
 refine Ok.fn (ann := q3L) mixed qo VSlg88 VIkv64 (fn := Tryz.f22) (by kernel_rfl) (by kernel_rfl) (by kernel_rfl) fun args r pre fresh h hp => ?_
 unfold q6g at h
 split at h
 ·rename_i m0 m1 m2 m3 m4 m5 m6 m7 m8 m9 mA mB b0 b1 b2 b3 b4 b5
  cases h
  refine ⟨rfl, q3r m0 m1 m2 m3 m4 m5 m6 m7 m8 m9 mA mB b0 b1 b2 b3 b4 b5, _, LeA.refl _, Nat.le_of_ble_eq_true (by kernel_rfl), ?_, ?_⟩
  ·exact cast (by kernel_rfl) (qfK m0 m1 m2 m3 m4 m5 m6 m7 m8 m9 mA mB b0 b1 b2 b3 b4 b5 hp)
  ·exact qgX m0 m1 m2 m3 m4 m5 m6 m7 m8 m9 mA mB b0 b1 b2 b3 b4 b5 hp
 ·cases h
def Slg89 : Sum := addS Slg88 22 q6g
theorem VSlg89 : Valid Tryz.prog Slg89 := Valid.add VSlg88 qhR
def q6x (b0 b1 b2 b3 b4 b5 : Int) (l : List TH) (post : DV → Prop) : Prop := (qj 5 l.length (qi l) ∧ ((qa l.length qc (qi l))).length ≤ 1000000) ∧ (post (.t (.a [.v (.int .i64 b0), .v (.int .i64 b1), .v (.int .i64 b2), .v (.int .i64 b3), .v (.int .i64 b4), .v (.int .i64 b5), .sl 5 ((qa l.length qc (qi l)).length) (qi (qa l.length qc (qi l)))])))
def qbT : Ann := ⟨fun r => qr r [(1, ([[], [0], [], [2], [2, 3], [0, 1, 2, 3, 4], [0, 1, 2, 3, 4, 5]], [[7], [7], [7], [7], [], [], []]))], fun _ => none, fun _ => [], Ikv64, false, fun _ => none, fun _ => none⟩
theorem qaR (b0 b1 b2 b3 b4 b5 : Int) (l : List TH) (hp : (l).length ≤ 1000000) : q6x b0 b1 b2 b3 b4 b5 l (fun r => LeD r (.t (.a [.v (.int .i64 b0), .v (.int .i64 b1), .v (.int .i64 b2), .v (.int .i64 b3), .v (.int .i64 b4), .v (.int .i64 b5), .sl 5 l.length (qi l)]))) := by
 unfold q6x
 rw [qP]
 exact ⟨⟨qA l, hp⟩, LeD.refl _⟩
def q3l : Con := fun args => match args with
 | [.t (.a [.v (.int .i64 b0), .v (.int .i64 b1), .v (.int .i64 b2), .v (.int .i64 b3), .v (.int .i64 b4), .v (.int .i64 b5), .sl 5 n_l c_l])] => some (.t (.a [.v (.int .i64 b0), .v (.int .i64 b1), .v (.int .i64 b2), .v (.int .i64 b3), .v (.int .i64 b4), .v (.int .i64 b5), .sl 5 ((qa n_l qc c_l).length) (qi (qa n_l qc c_l))]), some (qj 5 n_l c_l ∧ ((qa n_l qc c_l)).length ≤ 1000000), false)
 | _ => none
theorem qcw : Ok Tryz.prog 28 q3l := by
 refine Ok.fn (ann := qbT) mixed qo VSlg89 VIkv64 (fn := Tryz.f28) (by kernel_rfl) (by kernel_rfl) (by kernel_rfl) fun args r pre fresh h hp => ?_
 unfold q3l at h
 split at h
 ·rename_i b0 b1 b2 b3 b4 b5 n_l c_l
  cases h
  obtain ⟨hp0, hp⟩ := hp
  refine ⟨rfl, fun _ _ _ => False, _, (qk (leT_a (LeCs.cons (LeC1.refl _) (LeCs.cons (LeC1.refl _) (LeCs.cons (LeC1.refl _) (LeCs.cons (LeC1.refl _) (LeCs.cons (LeC1.refl _) (LeCs.cons (LeC1.refl _) (LeCs.cons ((qY hp0)) LeCs.nil)))))))) qM), Nat.le_of_ble_eq_true (by kernel_rfl), ?_, ?_⟩
  ·exact cast (by kernel_rfl) (qaR b0 b1 b2 b3 b4 b5 (qa n_l qc c_l) hp)
  ·exact cast (by kernel_rfl) trivial
 ·cases h
def Slg90 : Sum := addS Slg89 28 q3l
theorem VSlg90 : Valid Tryz.prog Slg90 := Valid.add VSlg89 qcw
end Go.Proofs.YtfadkjcfjkmalaaGreatDoor
