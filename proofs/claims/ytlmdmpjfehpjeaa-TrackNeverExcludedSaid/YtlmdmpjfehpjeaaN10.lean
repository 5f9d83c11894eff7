/- Texts of this claim, together. -/
import Derived.Test.YtlmdmpjfehpjeaaN9
import Derived.Test.YtlmdmpjfehpjeaaN7
import Derived.Test.YtlmdmpjfehpjeaaN5
import Derived.Test.YtlmdmpjfehpjeaaN6

set_option linter.unusedVariables false
set_option linter.unusedSimpArgs false
namespace Go.Proofs.Ytlmdmpjfehpjeaa
open Go.RowKit Ev
theorem fn3 {a b c : Int} (h : firstNZ [a, b, c] = 0) : a = 0 ∧ b = 0 ∧ c = 0 := by
 simp only [firstNZ] at h
 by_cases h1 : a = 0 <;> by_cases h2 : b = 0 <;> by_cases h3 : c = 0 <;> simp_all
theorem fn2 {a b : Int} (h : firstNZ [a, b] = 0) : a = 0 ∧ b = 0 := by
 simp only [firstNZ] at h
 by_cases h1 : a = 0 <;> by_cases h2 : b = 0 <;> simp_all
theorem unl_0 {b : Bool} {n : Int} (h : n ≠ 0) : unl b n = 0 ↔ b = true := by cases b <;> simp [unl, h]
theorem box_in {b : TBox} (h : b.err = 0) : b.lo.inS 20 = true ∧ b.hi.inS 20 = true := by
 unfold TBox.err at h
 obtain ⟨h1, _⟩ := fn3 h
 rw [unl_0 (by decide)] at h1
 simpa using h1
theorem mom_ok {p : V3} {t : Int} (h : momE p t = 0) : p.inS 1000 = true ∧ -1000101 ≤ t ∧ t ≤ 1000100 := by
 unfold momE at h
 obtain ⟨h1, h2⟩ := fn2 h
 rw [unl_0 (by decide)] at h2
 unfold plE at h1
 rw [unl_0 (by decide)] at h1
 unfold inB at h2
 simp at h2
 exact ⟨h1, by omega, by omega⟩
def con_law05_awake : Con := fun args => match args with
 | [] => some (.t (.c (.v (.bool true))), none, false)
 | _ => none
theorem ok_law05_awake : Ok Try.prog 13 con_law05_awake := by
 refine Ok.oldG (Enters.of (fn := Try.f13) (by kernel_rfl) (by kernel_rfl) (by kernel_rfl)) fun args r pre fresh h hp => ?_
 unfold con_law05_awake at h
 split at h
 ·cases h
  refine ⟨rfl, _, rfl, fun W N vs hv => ?_⟩
  have ev := hv.nil_inv
  subst ev
  exact law_awake5 W
 ·cases h
def S27 : Sum := addS S26 13 con_law05_awake
theorem VS27 : Valid Try.prog S27 := Valid.add VS26 ok_law05_awake
def con_track_model_scores : Con := fun args => match args with
 | [.t (.a [.v (.int .i64 m0), .v (.int .i64 m1), .v (.int .i64 m2), .v (.int .i64 m3), .v (.int .i64 m4), .v (.int .i64 m5), .v (.int .i64 m6), .v (.int .i64 m7), .v (.int .i64 m8), .v (.int .i64 m9), .v (.int .i64 m10), .v (.int .i64 m11)]), .t (.a [.v (.int .i64 b0), .v (.int .i64 b1), .v (.int .i64 b2), .v (.int .i64 b3), .v (.int .i64 b4), .v (.int .i64 b5)]), .t (.c (.sl 5 n_l c_l))] => some (.t (.a [.v (.int .i64 ((((⟨m0, m1, m2, m3, m4, m5, m6, m7, m8, m9, m10, m11⟩ : TMod)).scores (⟨⟨b0, b1, b2⟩, ⟨b3, b4, b5⟩⟩ : TBox) (listC n_l mkHit c_l)).lo)), .v (.int .i64 ((((⟨m0, m1, m2, m3, m4, m5, m6, m7, m8, m9, m10, m11⟩ : TMod)).scores (⟨⟨b0, b1, b2⟩, ⟨b3, b4, b5⟩⟩ : TBox) (listC n_l mkHit c_l)).hi))]), some (numsP 5 n_l c_l ∧ ((⟨m0, m1, m2, m3, m4, m5, m6, m7, m8, m9, m10, m11⟩ : TMod)).Ok ∧ ((⟨⟨b0, b1, b2⟩, ⟨b3, b4, b5⟩⟩ : TBox)).lo.inS 20 = true ∧ ((⟨⟨b0, b1, b2⟩, ⟨b3, b4, b5⟩⟩ : TBox)).hi.inS 20 = true ∧ ((⟨m0, m1, m2, m3, m4, m5, m6, m7, m8, m9, m10, m11⟩ : TMod)).canBe (⟨⟨b0, b1, b2⟩, ⟨b3, b4, b5⟩⟩ : TBox) ∧ ((listC n_l mkHit c_l)).length ≤ 12 ∧ ∀ i, i < ((listC n_l mkHit c_l)).length → (hitAt (listC n_l mkHit c_l) i).Ok), false)
 | _ => none
theorem ok_track_model_scores : Ok Try.prog 96 con_track_model_scores := by
 refine Ok.oldG (Enters.of (fn := Try.f96) (by kernel_rfl) (by kernel_rfl) (by kernel_rfl)) fun args r pre fresh h hp => ?_
 unfold con_track_model_scores at h
 split at h
 ·rename_i m0 m1 m2 m3 m4 m5 m6 m7 m8 m9 m10 m11 b0 b1 b2 b3 b4 b5 n_l c_l
  cases h
  refine ⟨rfl, _, rfl, fun W N vs hv => ?_⟩
  obtain ⟨hp0, hp⟩ := hp
  obtain ⟨u0, ws0, k0, g0, hv0⟩ := hv.cons_inv
  subst k0
  have e0 := plain_arg rfl g0
  subst e0
  obtain ⟨u1, ws1, k1, g1, hv1⟩ := hv0.cons_inv
  subst k1
  have e1 := plain_arg rfl g1
  subst e1
  obtain ⟨v_l, ws2, k2, g2, hv2⟩ := hv1.cons_inv
  subst k2
  have h_l := at_THit hp0 g2
  have ev := hv2.nil_inv
  subst ev
  generalize listC n_l mkHit c_l = l at *
  exact track_scores (⟨m0, m1, m2, m3, m4, m5, m6, m7, m8, m9, m10, m11⟩ : TMod) (⟨⟨b0, b1, b2⟩, ⟨b3, b4, b5⟩⟩ : TBox) l v_l W h_l hp.2.2.2.2.1 hp.2.2.2.2.2 hp.1 hp.2.1 hp.2.2.1 hp.2.2.2.1
 ·cases h
def S28 : Sum := addS S27 96 con_track_model_scores
theorem VS28 : Valid Try.prog S28 := Valid.add VS27 ok_track_model_scores
def vc_track_AnswerIn (m0 m1 m2 m3 m4 m5 m6 m7 m8 m9 m10 m11 : Int) (b0 b1 b2 b3 b4 b5 : Int) (p0 p1 p2 p3 : Int) (post : DV → Prop) : Prop := (fun (Z1 : TMod) (Z2 : TBox) => lt ((sqsW Z2).lo) fun x1 => lt ((sqsW Z2).hi) fun x2 => lt (canW Z1 Z2) fun x3 => (numsP 1 3 (genC [[.v (.int .i64 (firstNZ [(Z1).err, (Z2).err]))], [.v (.int .i64 (momE ⟨p0, p1, p2⟩ p3))], [.v (.int .i64 (unl x3 (12 : Int)))]])) ∧ (cond ((firstNZ ([(firstNZ [(Z1).err, (Z2).err]), (momE ⟨p0, p1, p2⟩ p3), (unl x3 (12 : Int))] : List Int)) != (0 : Int)) (post (.tu [.c (.v (.int .i64 0)), .c (.v (.int .i64 (firstNZ ([(firstNZ [(Z1).err, (Z2).err]), (momE ⟨p0, p1, p2⟩ p3), (unl x3 (12 : Int))] : List Int))))])) (((Z1).Ok ∧ (Z2).lo.inS 20 = true ∧ (Z2).hi.inS 20 = true ∧ (Z1).canBe Z2 ∧ (⟨p0, p1, p2⟩ : V3).inS 1000 = true ∧ -1000101 ≤ p3 ∧ p3 ≤ 1000100) ∧ (post (.tu [.c (.v (.int .i64 ((Z1).ans Z2 ⟨p0, p1, p2⟩ p3))), .c (.v (.int .i64 0))]))))) (⟨m0, m1, m2, m3, m4, m5, m6, m7, m8, m9, m10, m11⟩ : TMod) (⟨⟨b0, b1, b2⟩, ⟨b3, b4, b5⟩⟩ : TBox)
def ann_track_AnswerIn : Ann := ⟨fun _ => none, fun _ => none, fun _ => [], noIt, false, fun _ => none, fun _ => none⟩
theorem ev_track_AnswerIn (J : Inv) (m0 m1 m2 m3 m4 m5 m6 m7 m8 m9 m10 m11 : Int) (b0 b1 b2 b3 b4 b5 : Int) (p0 p1 p2 p3 : Int) (post : DV → Prop) : evFn Try.prog tab S28 ann_track_AnswerIn J Try.f37 [.t (.a [.v (.int .i64 m0), .v (.int .i64 m1), .v (.int .i64 m2), .v (.int .i64 m3), .v (.int .i64 m4), .v (.int .i64 m5), .v (.int .i64 m6), .v (.int .i64 m7), .v (.int .i64 m8), .v (.int .i64 m9), .v (.int .i64 m10), .v (.int .i64 m11)]), .t (.a [.v (.int .i64 b0), .v (.int .i64 b1), .v (.int .i64 b2), .v (.int .i64 b3), .v (.int .i64 b4), .v (.int .i64 b5)]), .t (.a [.v (.int .i64 p0), .v (.int .i64 p1), .v (.int .i64 p2), .v (.int .i64 p3)])] post = vc_track_AnswerIn m0 m1 m2 m3 m4 m5 m6 m7 m8 m9 m10 m11 b0 b1 b2 b3 b4 b5 p0 p1 p2 p3 post := by kernel_rfl
theorem fit_track_AnswerIn : okFn ann_track_AnswerIn Try.f37 = true := by kernel_rfl
theorem lp_track_AnswerIn (J : Inv) (post : DV → Prop) : AllG J (loopsFn Try.prog tab S28 ann_track_AnswerIn J Try.f37 post) = (True) := by kernel_rfl
theorem spec_track_AnswerIn (m0 m1 m2 m3 m4 m5 m6 m7 m8 m9 m10 m11 : Int) (b0 b1 b2 b3 b4 b5 : Int) (p0 p1 p2 p3 : Int) : vc_track_AnswerIn m0 m1 m2 m3 m4 m5 m6 m7 m8 m9 m10 m11 b0 b1 b2 b3 b4 b5 p0 p1 p2 p3 (fun r => LeD r (.tu [.c (.v (.int .i64 (if (firstNZ [firstNZ [((⟨m0, m1, m2, m3, m4, m5, m6, m7, m8, m9, m10, m11⟩ : TMod)).err, ((⟨⟨b0, b1, b2⟩, ⟨b3, b4, b5⟩⟩ : TBox)).err], momE ⟨p0, p1, p2⟩ p3, unl (canW (⟨m0, m1, m2, m3, m4, m5, m6, m7, m8, m9, m10, m11⟩ : TMod) (⟨⟨b0, b1, b2⟩, ⟨b3, b4, b5⟩⟩ : TBox)) 12]) ≠ 0 then 0 else ((⟨m0, m1, m2, m3, m4, m5, m6, m7, m8, m9, m10, m11⟩ : TMod)).ans (⟨⟨b0, b1, b2⟩, ⟨b3, b4, b5⟩⟩ : TBox) ⟨p0, p1, p2⟩ p3))), .c (.v (.int .i64 (firstNZ [firstNZ [((⟨m0, m1, m2, m3, m4, m5, m6, m7, m8, m9, m10, m11⟩ : TMod)).err, ((⟨⟨b0, b1, b2⟩, ⟨b3, b4, b5⟩⟩ : TBox)).err], momE ⟨p0, p1, p2⟩ p3, unl (canW (⟨m0, m1, m2, m3, m4, m5, m6, m7, m8, m9, m10, m11⟩ : TMod) (⟨⟨b0, b1, b2⟩, ⟨b3, b4, b5⟩⟩ : TBox)) 12])))])) := by
 unfold vc_track_AnswerIn
 (repeat (refine lt_i ?_; intro _ _))
 subst_vars
 refine ⟨numsP_gen [_, _, _], cond_i (fun h => ?_) (fun h => ?_)⟩
 ·have h : (firstNZ [firstNZ [((⟨m0, m1, m2, m3, m4, m5, m6, m7, m8, m9, m10, m11⟩ : TMod)).err, ((⟨⟨b0, b1, b2⟩, ⟨b3, b4, b5⟩⟩ : TBox)).err], momE ⟨p0, p1, p2⟩ p3, unl (canW (⟨m0, m1, m2, m3, m4, m5, m6, m7, m8, m9, m10, m11⟩ : TMod) (⟨⟨b0, b1, b2⟩, ⟨b3, b4, b5⟩⟩ : TBox)) 12]) ≠ 0 := by simpa using h
  rw [if_pos h]; exact LeD.refl _
 ·have h : (firstNZ [firstNZ [((⟨m0, m1, m2, m3, m4, m5, m6, m7, m8, m9, m10, m11⟩ : TMod)).err, ((⟨⟨b0, b1, b2⟩, ⟨b3, b4, b5⟩⟩ : TBox)).err], momE ⟨p0, p1, p2⟩ p3, unl (canW (⟨m0, m1, m2, m3, m4, m5, m6, m7, m8, m9, m10, m11⟩ : TMod) (⟨⟨b0, b1, b2⟩, ⟨b3, b4, b5⟩⟩ : TBox)) 12]) = 0 := by simpa using h
  obtain ⟨q1, q2, q3⟩ := fn3 h
  obtain ⟨q4, q5⟩ := fn2 q1
  have hb := box_in q5
  have hc := canW_eq (m := (⟨m0, m1, m2, m3, m4, m5, m6, m7, m8, m9, m10, m11⟩ : TMod)) hb.1 hb.2
  rw [unl_0 (by decide)] at q3
  obtain ⟨q6, q7, q8⟩ := mom_ok q2
  refine ⟨⟨err_ok q4, hb.1, hb.2, canB_iff.1 (by rw [← hc]; exact q3), q6, q7, q8⟩, ?_⟩
  rw [h, if_neg (by simp)]
  exact LeD.refl _
def con_track_AnswerIn : Con := fun args => match args with
 | [.t (.a [.v (.int .i64 m0), .v (.int .i64 m1), .v (.int .i64 m2), .v (.int .i64 m3), .v (.int .i64 m4), .v (.int .i64 m5), .v (.int .i64 m6), .v (.int .i64 m7), .v (.int .i64 m8), .v (.int .i64 m9), .v (.int .i64 m10), .v (.int .i64 m11)]), .t (.a [.v (.int .i64 b0), .v (.int .i64 b1), .v (.int .i64 b2), .v (.int .i64 b3), .v (.int .i64 b4), .v (.int .i64 b5)]), .t (.a [.v (.int .i64 p0), .v (.int .i64 p1), .v (.int .i64 p2), .v (.int .i64 p3)])] => some (.tu [.c (.v (.int .i64 (if (firstNZ [firstNZ [((⟨m0, m1, m2, m3, m4, m5, m6, m7, m8, m9, m10, m11⟩ : TMod)).err, ((⟨⟨b0, b1, b2⟩, ⟨b3, b4, b5⟩⟩ : TBox)).err], momE ⟨p0, p1, p2⟩ p3, unl (canW (⟨m0, m1, m2, m3, m4, m5, m6, m7, m8, m9, m10, m11⟩ : TMod) (⟨⟨b0, b1, b2⟩, ⟨b3, b4, b5⟩⟩ : TBox)) 12]) ≠ 0 then 0 else ((⟨m0, m1, m2, m3, m4, m5, m6, m7, m8, m9, m10, m11⟩ : TMod)).ans (⟨⟨b0, b1, b2⟩, ⟨b3, b4, b5⟩⟩ : TBox) ⟨p0, p1, p2⟩ p3))), .c (.v (.int .i64 (firstNZ [firstNZ [((⟨m0, m1, m2, m3, m4, m5, m6, m7, m8, m9, m10, m11⟩ : TMod)).err, ((⟨⟨b0, b1, b2⟩, ⟨b3, b4, b5⟩⟩ : TBox)).err], momE ⟨p0, p1, p2⟩ p3, unl (canW (⟨m0, m1, m2, m3, m4, m5, m6, m7, m8, m9, m10, m11⟩ : TMod) (⟨⟨b0, b1, b2⟩, ⟨b3, b4, b5⟩⟩ : TBox)) 12])))], none, false)
 | _ => none
theorem ok_track_AnswerIn : Ok Try.prog 37 con_track_AnswerIn := by
 refine Ok.fn (ann := ann_track_AnswerIn) mixed tabOK VS28 ValidIt.no (fn := Try.f37) (by kernel_rfl) (by kernel_rfl) fit_track_AnswerIn fun args r pre fresh h hp => ?_
 unfold con_track_AnswerIn at h
 split at h
 ·rename_i m0 m1 m2 m3 m4 m5 m6 m7 m8 m9 m10 m11 b0 b1 b2 b3 b4 b5 p0 p1 p2 p3
  cases h
  refine ⟨rfl, fun _ _ _ => False, _, LeA.refl _, Nat.le_of_ble_eq_true (by kernel_rfl), ?_, ?_⟩
  ·rw [ev_track_AnswerIn]; exact spec_track_AnswerIn m0 m1 m2 m3 m4 m5 m6 m7 m8 m9 m10 m11 b0 b1 b2 b3 b4 b5 p0 p1 p2 p3
  ·rw [lp_track_AnswerIn]; trivial
 ·cases h
def S29 : Sum := addS S28 37 con_track_AnswerIn
theorem VS29 : Valid Try.prog S29 := Valid.add VS28 ok_track_AnswerIn
end Go.Proofs.Ytlmdmpjfehpjeaa
set_option linter.unusedVariables false
set_option linter.unusedSimpArgs false
namespace Go.Proofs.Ytlmdmpjfehpjeaa
open Go.RowKit Ev
theorem numsP_hits (l : List THit) : numsP 5 l.length (hitsC l) := by
 intro i j hi hj
 rcases (by omega : j = 0 ∨ j = 1 ∨ j = 2 ∨ j = 3 ∨ j = 4) with rfl | rfl | rfl | rfl | rfl <;> rfl
theorem hits_listC (l : List THit) : listC l.length mkHit (hitsC l) = l := listC_id THit.zero fun i hi => rfl
theorem le_sl {sz n : Nat} {c c' : Nat → Nat → CV} (h : ∀ i j, i < n → j < sz → c i j = c' i j) : LeD (.t (.c (.sl sz n c))) (.t (.c (.sl sz n c'))) := fun w N v g => RelF.sl g h
def vc_track_ScoresIn (m0 m1 m2 m3 m4 m5 m6 m7 m8 m9 m10 m11 : Int) (b0 b1 b2 b3 b4 b5 : Int) (l : List THit) (post : DV → Prop) : Prop := (fun (Z1 : TMod) (Z2 : TBox) (Z3 : List THit) => (numsP 5 l.length (hitsC l)) ∧ (lt ((sqsW Z2).lo) fun x1 => lt ((sqsW Z2).hi) fun x2 => lt (canW Z1 Z2) fun x3 => (numsP 1 2 (genC [[.v (.int .i64 (firstNZ [firstNZ [(Z1).err, (Z2).err], hitsE Z3]))], [.v (.int .i64 (unl x3 (12 : Int)))]])) ∧ (cond ((firstNZ ([(firstNZ [firstNZ [(Z1).err, (Z2).err], hitsE Z3]), (unl x3 (12 : Int))] : List Int)) != (0 : Int)) (post (.tu [.a [.v (.int .i64 0), .v (.int .i64 0)], .c (.v (.int .i64 (firstNZ ([(firstNZ [firstNZ [(Z1).err, (Z2).err], hitsE Z3]), (unl x3 (12 : Int))] : List Int))))])) ((numsP 5 l.length (hitsC l) ∧ (Z1).Ok ∧ (Z2).lo.inS 20 = true ∧ (Z2).hi.inS 20 = true ∧ (Z1).canBe Z2 ∧ (Z3).length ≤ 12 ∧ ∀ i, i < (Z3).length → (hitAt Z3 i).Ok) ∧ (post (.tu [.a [.v (.int .i64 (((Z1).scores Z2 Z3).lo)), .v (.int .i64 (((Z1).scores Z2 Z3).hi))], .c (.v (.int .i64 0))])))))) (⟨m0, m1, m2, m3, m4, m5, m6, m7, m8, m9, m10, m11⟩ : TMod) (⟨⟨b0, b1, b2⟩, ⟨b3, b4, b5⟩⟩ : TBox) (listC l.length mkHit (hitsC l))
def ann_track_ScoresIn : Ann := ⟨fun _ => none, fun _ => none, fun _ => [], noIt, false, fun _ => none, fun _ => none⟩
theorem ev_track_ScoresIn (J : Inv) (m0 m1 m2 m3 m4 m5 m6 m7 m8 m9 m10 m11 : Int) (b0 b1 b2 b3 b4 b5 : Int) (l : List THit) (post : DV → Prop) : evFn Try.prog tab S29 ann_track_ScoresIn J Try.f38 [.t (.a [.v (.int .i64 m0), .v (.int .i64 m1), .v (.int .i64 m2), .v (.int .i64 m3), .v (.int .i64 m4), .v (.int .i64 m5), .v (.int .i64 m6), .v (.int .i64 m7), .v (.int .i64 m8), .v (.int .i64 m9), .v (.int .i64 m10), .v (.int .i64 m11)]), .t (.a [.v (.int .i64 b0), .v (.int .i64 b1), .v (.int .i64 b2), .v (.int .i64 b3), .v (.int .i64 b4), .v (.int .i64 b5)]), .t (.c (.sl 5 l.length (hitsC l)))] post = vc_track_ScoresIn m0 m1 m2 m3 m4 m5 m6 m7 m8 m9 m10 m11 b0 b1 b2 b3 b4 b5 l post := by kernel_rfl
theorem fit_track_ScoresIn : okFn ann_track_ScoresIn Try.f38 = true := by kernel_rfl
theorem lp_track_ScoresIn (J : Inv) (post : DV → Prop) : AllG J (loopsFn Try.prog tab S29 ann_track_ScoresIn J Try.f38 post) = (True) := by kernel_rfl
theorem spec_track_ScoresIn (m0 m1 m2 m3 m4 m5 m6 m7 m8 m9 m10 m11 : Int) (b0 b1 b2 b3 b4 b5 : Int) (l : List THit) : vc_track_ScoresIn m0 m1 m2 m3 m4 m5 m6 m7 m8 m9 m10 m11 b0 b1 b2 b3 b4 b5 l (fun r => LeD r (.tu [.a [.v (.int .i64 (if (firstNZ [firstNZ [firstNZ [((⟨m0, m1, m2, m3, m4, m5, m6, m7, m8, m9, m10, m11⟩ : TMod)).err, ((⟨⟨b0, b1, b2⟩, ⟨b3, b4, b5⟩⟩ : TBox)).err], hitsE l], unl (canW (⟨m0, m1, m2, m3, m4, m5, m6, m7, m8, m9, m10, m11⟩ : TMod) (⟨⟨b0, b1, b2⟩, ⟨b3, b4, b5⟩⟩ : TBox)) 12]) ≠ 0 then 0 else (((⟨m0, m1, m2, m3, m4, m5, m6, m7, m8, m9, m10, m11⟩ : TMod)).scores (⟨⟨b0, b1, b2⟩, ⟨b3, b4, b5⟩⟩ : TBox) l).lo)), .v (.int .i64 (if (firstNZ [firstNZ [firstNZ [((⟨m0, m1, m2, m3, m4, m5, m6, m7, m8, m9, m10, m11⟩ : TMod)).err, ((⟨⟨b0, b1, b2⟩, ⟨b3, b4, b5⟩⟩ : TBox)).err], hitsE l], unl (canW (⟨m0, m1, m2, m3, m4, m5, m6, m7, m8, m9, m10, m11⟩ : TMod) (⟨⟨b0, b1, b2⟩, ⟨b3, b4, b5⟩⟩ : TBox)) 12]) ≠ 0 then 0 else (((⟨m0, m1, m2, m3, m4, m5, m6, m7, m8, m9, m10, m11⟩ : TMod)).scores (⟨⟨b0, b1, b2⟩, ⟨b3, b4, b5⟩⟩ : TBox) l).hi))], .c (.v (.int .i64 (firstNZ [firstNZ [firstNZ [((⟨m0, m1, m2, m3, m4, m5, m6, m7, m8, m9, m10, m11⟩ : TMod)).err, ((⟨⟨b0, b1, b2⟩, ⟨b3, b4, b5⟩⟩ : TBox)).err], hitsE l], unl (canW (⟨m0, m1, m2, m3, m4, m5, m6, m7, m8, m9, m10, m11⟩ : TMod) (⟨⟨b0, b1, b2⟩, ⟨b3, b4, b5⟩⟩ : TBox)) 12])))])) := by
 unfold vc_track_ScoresIn
 rw [hits_listC]
 refine ⟨numsP_hits l, ?_⟩
 (repeat (refine lt_i ?_; intro _ _))
 subst_vars
 refine ⟨numsP_gen [_, _], cond_i (fun h => ?_) (fun h => ?_)⟩
 ·have h : (firstNZ [firstNZ [firstNZ [((⟨m0, m1, m2, m3, m4, m5, m6, m7, m8, m9, m10, m11⟩ : TMod)).err, ((⟨⟨b0, b1, b2⟩, ⟨b3, b4, b5⟩⟩ : TBox)).err], hitsE l], unl (canW (⟨m0, m1, m2, m3, m4, m5, m6, m7, m8, m9, m10, m11⟩ : TMod) (⟨⟨b0, b1, b2⟩, ⟨b3, b4, b5⟩⟩ : TBox)) 12]) ≠ 0 := by simpa using h
  rw [if_pos h, if_pos h]; exact LeD.refl _
 ·have h : (firstNZ [firstNZ [firstNZ [((⟨m0, m1, m2, m3, m4, m5, m6, m7, m8, m9, m10, m11⟩ : TMod)).err, ((⟨⟨b0, b1, b2⟩, ⟨b3, b4, b5⟩⟩ : TBox)).err], hitsE l], unl (canW (⟨m0, m1, m2, m3, m4, m5, m6, m7, m8, m9, m10, m11⟩ : TMod) (⟨⟨b0, b1, b2⟩, ⟨b3, b4, b5⟩⟩ : TBox)) 12]) = 0 := by simpa using h
  obtain ⟨q1, q3⟩ := fn2 h
  obtain ⟨q0, q2⟩ := fn2 q1
  obtain ⟨q4, q5⟩ := fn2 q0
  have hb := box_in q5
  have hc := canW_eq (m := (⟨m0, m1, m2, m3, m4, m5, m6, m7, m8, m9, m10, m11⟩ : TMod)) hb.1 hb.2
  rw [unl_0 (by decide)] at q3
  obtain ⟨q6, q7⟩ := hitsE_ok q2
  refine ⟨⟨numsP_hits l, err_ok q4, hb.1, hb.2, canB_iff.1 (by rw [← hc]; exact q3), q6, q7⟩, ?_⟩
  rw [h, if_neg (by simp), if_neg (by simp)]
  exact LeD.refl _
def con_track_ScoresIn : Con := fun args => match args with
 | [.t (.a [.v (.int .i64 m0), .v (.int .i64 m1), .v (.int .i64 m2), .v (.int .i64 m3), .v (.int .i64 m4), .v (.int .i64 m5), .v (.int .i64 m6), .v (.int .i64 m7), .v (.int .i64 m8), .v (.int .i64 m9), .v (.int .i64 m10), .v (.int .i64 m11)]), .t (.a [.v (.int .i64 b0), .v (.int .i64 b1), .v (.int .i64 b2), .v (.int .i64 b3), .v (.int .i64 b4), .v (.int .i64 b5)]), .t (.c (.sl 5 n_l c_l))] => some (.tu [.a [.v (.int .i64 (if (firstNZ [firstNZ [firstNZ [((⟨m0, m1, m2, m3, m4, m5, m6, m7, m8, m9, m10, m11⟩ : TMod)).err, ((⟨⟨b0, b1, b2⟩, ⟨b3, b4, b5⟩⟩ : TBox)).err], hitsE (listC n_l mkHit c_l)], unl (canW (⟨m0, m1, m2, m3, m4, m5, m6, m7, m8, m9, m10, m11⟩ : TMod) (⟨⟨b0, b1, b2⟩, ⟨b3, b4, b5⟩⟩ : TBox)) 12]) ≠ 0 then 0 else (((⟨m0, m1, m2, m3, m4, m5, m6, m7, m8, m9, m10, m11⟩ : TMod)).scores (⟨⟨b0, b1, b2⟩, ⟨b3, b4, b5⟩⟩ : TBox) (listC n_l mkHit c_l)).lo)), .v (.int .i64 (if (firstNZ [firstNZ [firstNZ [((⟨m0, m1, m2, m3, m4, m5, m6, m7, m8, m9, m10, m11⟩ : TMod)).err, ((⟨⟨b0, b1, b2⟩, ⟨b3, b4, b5⟩⟩ : TBox)).err], hitsE (listC n_l mkHit c_l)], unl (canW (⟨m0, m1, m2, m3, m4, m5, m6, m7, m8, m9, m10, m11⟩ : TMod) (⟨⟨b0, b1, b2⟩, ⟨b3, b4, b5⟩⟩ : TBox)) 12]) ≠ 0 then 0 else (((⟨m0, m1, m2, m3, m4, m5, m6, m7, m8, m9, m10, m11⟩ : TMod)).scores (⟨⟨b0, b1, b2⟩, ⟨b3, b4, b5⟩⟩ : TBox) (listC n_l mkHit c_l)).hi))], .c (.v (.int .i64 (firstNZ [firstNZ [firstNZ [((⟨m0, m1, m2, m3, m4, m5, m6, m7, m8, m9, m10, m11⟩ : TMod)).err, ((⟨⟨b0, b1, b2⟩, ⟨b3, b4, b5⟩⟩ : TBox)).err], hitsE (listC n_l mkHit c_l)], unl (canW (⟨m0, m1, m2, m3, m4, m5, m6, m7, m8, m9, m10, m11⟩ : TMod) (⟨⟨b0, b1, b2⟩, ⟨b3, b4, b5⟩⟩ : TBox)) 12])))], some (numsP 5 n_l c_l), false)
 | _ => none
theorem ok_track_ScoresIn : Ok Try.prog 38 con_track_ScoresIn := by
 refine Ok.fn (ann := ann_track_ScoresIn) mixed tabOK VS29 ValidIt.no (fn := Try.f38) (by kernel_rfl) (by kernel_rfl) fit_track_ScoresIn fun args r pre fresh h hp => ?_
 unfold con_track_ScoresIn at h
 split at h
 ·rename_i m0 m1 m2 m3 m4 m5 m6 m7 m8 m9 m10 m11 b0 b1 b2 b3 b4 b5 n_l c_l
  cases h
  have hp0 := hp
  refine ⟨rfl, fun _ _ _ => False, [.t (.a [.v (.int .i64 m0), .v (.int .i64 m1), .v (.int .i64 m2), .v (.int .i64 m3), .v (.int .i64 m4), .v (.int .i64 m5), .v (.int .i64 m6), .v (.int .i64 m7), .v (.int .i64 m8), .v (.int .i64 m9), .v (.int .i64 m10), .v (.int .i64 m11)]), .t (.a [.v (.int .i64 b0), .v (.int .i64 b1), .v (.int .i64 b2), .v (.int .i64 b3), .v (.int .i64 b4), .v (.int .i64 b5)]), .t (.c (.sl 5 ((listC n_l mkHit c_l).length) (hitsC (listC n_l mkHit c_l))))], ?_, Nat.le_of_ble_eq_true (by kernel_rfl), ?_, ?_⟩
  ·exact (LeA_cons (LeD.refl _) (LeA_cons (LeD.refl _) (LeA_cons (leT_c ((leL_THit hp0))) LeA_nil)))
  ·rw [ev_track_ScoresIn]; exact spec_track_ScoresIn m0 m1 m2 m3 m4 m5 m6 m7 m8 m9 m10 m11 b0 b1 b2 b3 b4 b5 (listC n_l mkHit c_l)
  ·rw [lp_track_ScoresIn]; trivial
 ·cases h
def S30 : Sum := addS S29 38 con_track_ScoresIn
theorem VS30 : Valid Try.prog S30 := Valid.add VS29 ok_track_ScoresIn
def vc_ref05_Copy (l : List THit) (post : DV → Prop) : Prop := (roomP 40 (([] : List (List CV)).length + ((List.range l.length).map fun i => fwd ((hitsC l) i) 0 5).length)) ∧ (post (.t (.c (.sl 5 ((([] : List (List CV)) ++ ((List.range l.length).map fun i => fwd ((hitsC l) i) 0 5)).length) (genC (([] : List (List CV)) ++ ((List.range l.length).map fun i => fwd ((hitsC l) i) 0 5)))))))
def ann_ref05_Copy : Ann := ⟨fun _ => none, fun _ => none, fun _ => [], noIt, false, fun _ => none, fun _ => none⟩
theorem ev_ref05_Copy (J : Inv) (l : List THit) (post : DV → Prop) : evFn Try.prog tab S30 ann_ref05_Copy J Try.f30 [.t (.c (.sl 5 l.length (hitsC l)))] post = vc_ref05_Copy l post := by kernel_rfl
theorem fit_ref05_Copy : okFn ann_ref05_Copy Try.f30 = true := by kernel_rfl
theorem lp_ref05_Copy (J : Inv) (post : DV → Prop) : AllG J (loopsFn Try.prog tab S30 ann_ref05_Copy J Try.f30 post) = (True) := by kernel_rfl
theorem spec_ref05_Copy (l : List THit) (hp : (l).length ≤ 1000000) : vc_ref05_Copy l (fun r => LeD r (.t (.c (.sl 5 l.length (hitsC l))))) := by
 unfold vc_ref05_Copy
 have e : (([] : List (List CV)) ++ ((List.range l.length).map fun i => fwd ((hitsC l) i) 0 5)).length = l.length := by simp
 refine ⟨?_, ?_⟩
 ·unfold roomP maxLen; simp; omega
 ·rw [e]
  refine le_sl fun i j hi hj => ?_
  unfold genC
  simp only [List.nil_append, List.getD_eq_getElem?_getD, List.getElem?_map, List.getElem?_range hi, Option.map_some, Option.getD_some]
  rcases (by omega : j = 0 ∨ j = 1 ∨ j = 2 ∨ j = 3 ∨ j = 4) with rfl | rfl | rfl | rfl | rfl <;> rfl
def con_ref05_Copy : Con := fun args => match args with
 | [.t (.c (.sl 5 n_l c_l))] => some (.t (.c (.sl 5 ((listC n_l mkHit c_l).length) (hitsC (listC n_l mkHit c_l)))), some (numsP 5 n_l c_l ∧ ((listC n_l mkHit c_l)).length ≤ 1000000), false)
 | _ => none
theorem ok_ref05_Copy : Ok Try.prog 30 con_ref05_Copy := by
 refine Ok.fn (ann := ann_ref05_Copy) mixed tabOK VS30 ValidIt.no (fn := Try.f30) (by kernel_rfl) (by kernel_rfl) fit_ref05_Copy fun args r pre fresh h hp => ?_
 unfold con_ref05_Copy at h
 split at h
 ·rename_i n_l c_l
  cases h
  obtain ⟨hp0, hp⟩ := hp
  refine ⟨rfl, fun _ _ _ => False, [.t (.c (.sl 5 ((listC n_l mkHit c_l).length) (hitsC (listC n_l mkHit c_l))))], ?_, Nat.le_of_ble_eq_true (by kernel_rfl), ?_, ?_⟩
  ·exact (LeA_cons (leT_c ((leL_THit hp0))) LeA_nil)
  ·rw [ev_ref05_Copy]; exact spec_ref05_Copy (listC n_l mkHit c_l) hp
  ·rw [lp_ref05_Copy]; trivial
 ·cases h
def S31 : Sum := addS S30 30 con_ref05_Copy
theorem VS31 : Valid Try.prog S31 := Valid.add VS30 ok_ref05_Copy
def S32 : Sum := S31
theorem VS32 : Valid Try.prog S32 := VS31
end Go.Proofs.Ytlmdmpjfehpjeaa
set_option linter.unusedVariables false
set_option linter.unusedSimpArgs false
namespace Go.Proofs.Ytlmdmpjfehpjeaa
open Go.RowKit Ev
def plAt (l : List V3) (i : Nat) : V3 := l.getD i ⟨0, 0, 0⟩
def plsC (l : List V3) : Nat → Nat → CV := fun i j => match j with
 | 0 => .v (.int .i64 (plAt l i).x)
 | 1 => .v (.int .i64 (plAt l i).y)
 | _ => .v (.int .i64 (plAt l i).z)
theorem plAt_take {l : List V3} {k : Nat} (h : k < l.length) : l.take (k + 1) = l.take k ++ [plAt l k] := by
 rw [List.take_succ_eq_append_getElem h]; simp [plAt, List.getD, h]
theorem le_tu {a a' b b' : TV} (h1 : LeD (.t a) (.t a')) (h2 : LeD (.t b) (.t b')) : LeD (.tu [a, b]) (.tu [a', b']) := by
 rintro w N v ⟨vs, e, g⟩
 match vs, g with
 | [x, y], g => exact ⟨[x, y], e, h1 w N x g.1, h2 w N y g.2.1, trivial⟩
 | [], g => exact g.elim
 | [_], g => exact g.2.elim
 | _ :: _ :: _ :: _, g => exact g.2.2.elim
theorem le_nil {sz : Nat} {c : Nat → Nat → CV} : LeD (.t (.c (.v (.slice none 0 0)))) (.t (.c (.sl sz 0 c))) := by
 intro w N v h
 exact ⟨none, 0, h.1, Nat.le_refl _, by unfold maxLen; omega, fun _ => rfl, fun h => by omega⟩
theorem hit_ext {a b : THit} : a = b ↔ a.p.x = b.p.x ∧ a.p.y = b.p.y ∧ a.p.z = b.p.z ∧ a.t = b.t ∧ a.w = b.w := by
 obtain ⟨⟨_, _, _⟩, _, _⟩ := a
 obtain ⟨⟨_, _, _⟩, _, _⟩ := b
 simp [and_assoc]
instance : DecidableEq THit := fun a b => decidable_of_iff _ hit_ext.symm
def S33 : Sum := S32
theorem VS33 : Valid Try.prog S33 := VS32
def S34 : Sum := S33
theorem VS34 : Valid Try.prog S34 := VS33
def S35 : Sum := S34
theorem VS35 : Valid Try.prog S35 := VS34
def S36 : Sum := S35
theorem VS36 : Valid Try.prog S36 := VS35
def S37 : Sum := S36
theorem VS37 : Valid Try.prog S37 := VS36
def S38 : Sum := S37
theorem VS38 : Valid Try.prog S38 := VS37
def S39 : Sum := S38
theorem VS39 : Valid Try.prog S39 := VS38
def S40 : Sum := S39
theorem VS40 : Valid Try.prog S40 := VS39
def con_track_ScoreOf : Con := fun args => match args with
 | [.t (.a [.v (.int .i64 m0), .v (.int .i64 m1), .v (.int .i64 m2), .v (.int .i64 m3), .v (.int .i64 m4), .v (.int .i64 m5), .v (.int .i64 m6), .v (.int .i64 m7), .v (.int .i64 m8), .v (.int .i64 m9), .v (.int .i64 m10), .v (.int .i64 m11)]), .t (.a [.v (.int .i64 s0), .v (.int .i64 s1), .v (.int .i64 s2)]), .t (.c (.sl 5 n_l c_l))] => some (.tu [.c (.v (.int .i64 (if firstNZ [((⟨m0, m1, m2, m3, m4, m5, m6, m7, m8, m9, m10, m11⟩ : TMod)).both (⟨s0, s1, s2⟩ : V3), hitsE (listC n_l mkHit c_l)] = 0 then ((⟨m0, m1, m2, m3, m4, m5, m6, m7, m8, m9, m10, m11⟩ : TMod)).score (⟨s0, s1, s2⟩ : V3) (listC n_l mkHit c_l) else 0))), .c (.v (.int .i64 (firstNZ [((⟨m0, m1, m2, m3, m4, m5, m6, m7, m8, m9, m10, m11⟩ : TMod)).both (⟨s0, s1, s2⟩ : V3), hitsE (listC n_l mkHit c_l)])))], some (numsP 5 n_l c_l), false)
 | _ => none
theorem ok_track_ScoreOf : Ok Try.prog 32 con_track_ScoreOf := by
 refine Ok.oldG (Enters.of (fn := Try.f32) (by kernel_rfl) (by kernel_rfl) (by kernel_rfl)) fun args r pre fresh h hp => ?_
 unfold con_track_ScoreOf at h
 split at h
 ·rename_i m0 m1 m2 m3 m4 m5 m6 m7 m8 m9 m10 m11 s0 s1 s2 n_l c_l
  cases h
  refine ⟨rfl, _, rfl, fun W N vs hv => ?_⟩
  have hp0 := hp
  obtain ⟨u0, ws0, k0, g0, hv0⟩ := hv.cons_inv
  subst k0
  have e0 := plain_arg rfl g0
  subst e0
  obtain ⟨u1, ws1, k1, g1, hv1⟩ := hv0.cons_inv
  subst k1
  have e1 := plain_arg rfl g1
  subst e1
  obtain ⟨v_l, ws2, k2, g2, hv2⟩ := hv1.cons_inv
  subst k2
  have h_l := at_THit hp0 g2
  have ev := hv2.nil_inv
  subst ev
  generalize listC n_l mkHit c_l = l at *
  exact by
   refine (track_ScoreOf (⟨m0, m1, m2, m3, m4, m5, m6, m7, m8, m9, m10, m11⟩ : TMod) (⟨s0, s1, s2⟩ : V3) l v_l W h_l).mono fun e w' h => ⟨?_, h.2.2⟩
   by_cases hq : firstNZ [TMod.both (⟨m0, m1, m2, m3, m4, m5, m6, m7, m8, m9, m10, m11⟩ : TMod) (⟨s0, s1, s2⟩ : V3), hitsE l] = 0
   ·rw [h.1 hq, if_pos hq, hq]
   ·rw [h.2.1 hq, if_neg hq]
 ·cases h
def S41 : Sum := addS S40 32 con_track_ScoreOf
theorem VS41 : Valid Try.prog S41 := Valid.add VS40 ok_track_ScoreOf
def S42 : Sum := S41
theorem VS42 : Valid Try.prog S42 := VS41
def S43 : Sum := S42
theorem VS43 : Valid Try.prog S43 := VS42
end Go.Proofs.Ytlmdmpjfehpjeaa
set_option linter.unusedVariables false
set_option linter.unusedSimpArgs false
namespace Go.Proofs.Ytlmdmpjfehpjeaa
open Go.RowKit Ev
theorem upto_cons {lo hi : Int} (h : lo ≤ hi) : upto lo hi = lo :: upto (lo + 1) hi := by
 unfold upto
 rw [show (hi - lo + 1).toNat = (hi - (lo + 1) + 1).toNat + 1 by omega, List.range_succ_eq_map, List.map_cons, List.map_map]
 congr 1
 ·simp
 ·apply List.map_congr_left
  intro k _
  simp only [Function.comp_def, Nat.succ_eq_add_one]
  omega
theorem upto_nil {lo hi : Int} (h : hi < lo) : upto lo hi = [] := by
 unfold upto
 rw [show (hi - lo + 1).toNat = 0 by omega]; rfl
def restZ (b : TBox) (x y z : Int) : List V3 := (upto z b.hi.z).map fun z => ⟨x, y, z⟩
def restY (b : TBox) (x y : Int) : List V3 := (upto y b.hi.y).flatMap fun y => restZ b x y b.lo.z
def restX (b : TBox) (x : Int) : List V3 := (upto x b.hi.x).flatMap fun x => restY b x b.lo.y
theorem restX_cons {b : TBox} {x : Int} (h : x ≤ b.hi.x) : restX b x = restY b x b.lo.y ++ restX b (x + 1) := by unfold restX; rw [upto_cons h]; rfl
theorem restX_nil {b : TBox} {x : Int} (h : b.hi.x < x) : restX b x = [] := by unfold restX; rw [upto_nil h]; rfl
theorem restY_cons {b : TBox} {x y : Int} (h : y ≤ b.hi.y) : restY b x y = restZ b x y b.lo.z ++ restY b x (y + 1) := by unfold restY; rw [upto_cons h]; rfl
theorem restY_nil {b : TBox} {x y : Int} (h : b.hi.y < y) : restY b x y = [] := by unfold restY; rw [upto_nil h]; rfl
theorem restZ_cons {b : TBox} {x y z : Int} (h : z ≤ b.hi.z) : restZ b x y z = ⟨x, y, z⟩ :: restZ b x y (z + 1) := by unfold restZ; rw [upto_cons h]; rfl
theorem restZ_nil {b : TBox} {x y z : Int} (h : b.hi.z < z) : restZ b x y z = [] := by unfold restZ; rw [upto_nil h]; rfl
def v3Cv (s : V3) : List CV := [.v (.int .i64 s.x), .v (.int .i64 s.y), .v (.int .i64 s.z)]
theorem le_v3 (l : List V3) : LeD (.t (.c (.sl 3 (l.map v3Cv).length (genC (l.map v3Cv))))) (.t (.c (.sl 3 l.length (plsC l)))) := by
 rw [List.length_map]
 refine le_sl fun i j hi hj => ?_
 unfold genC plsC plAt
 simp only [List.getD_eq_getElem?_getD, List.getElem?_map, List.getElem?_eq_getElem hi, Option.map_some, Option.getD_some]
 rcases (by omega : j = 0 ∨ j = 1 ∨ j = 2) with rfl | rfl | rfl <;> rfl
theorem v3_ext {a b : V3} : a = b ↔ a.x = b.x ∧ a.y = b.y ∧ a.z = b.z := by
 obtain ⟨_, _, _⟩ := a
 obtain ⟨_, _, _⟩ := b
 simp
instance : DecidableEq V3 := fun a b => decidable_of_iff _ v3_ext.symm
theorem drop_cons {l : List V3} {k : Nat} {s : V3} {r : List V3} (h : l.drop k = s :: r) : k < l.length ∧ plAt l k = s ∧ l.drop (k + 1) = r := by
 have hl : k < l.length := by
  rcases Nat.lt_or_ge k l.length with h1 | h1
  ·exact h1
  ·rw [List.drop_eq_nil_of_le h1] at h; cases h
 rw [List.drop_eq_getElem_cons hl] at h
 injection h with h1 h2
 exact ⟨hl, by simp [plAt, List.getD, hl, h1], h2⟩
theorem sm_in {s : V3} (hx : -20 ≤ s.x ∧ s.x ≤ 20) (hy : -20 ≤ s.y ∧ s.y ≤ 20) (hz : -20 ≤ s.z ∧ s.z ≤ 20) : s.sm s := by
 have h1 := mul_rg (C := 400) hx hx (by decide)
 have h2 := mul_rg (C := 400) hy hy (by decide)
 have h3 := mul_rg (C := 400) hz hz (by decide)
 unfold V3.sm
 omega
theorem plAt_in {l : List V3} {k : Nat} (h : k < l.length) : plAt l k ∈ l := by simp [plAt, List.getD, h]
theorem len_68921 {b : TBox} (hl : b.lo.inS 20 = true) (hh : b.hi.inS 20 = true) (ho : b.ok) : b.all.length ≤ 68921 := by
 have h := len_all ho
 obtain ⟨a1, a2, a3⟩ := inS_iff.1 hl
 obtain ⟨c1, c2, c3⟩ := inS_iff.1 hh
 obtain ⟨o1, o2, o3⟩ := ho
 unfold TBox.rx TBox.ry TBox.rz Rg.ok at *
 simp only at *
 unfold TBox.count at h
 have m1 := mul_rg (x := b.hi.x - b.lo.x + 1) (y := b.hi.y - b.lo.y + 1) (A := 41) (B := 41) (C := 1681) (by omega) (by omega) (by decide)
 have m2 := mul_rg (y := b.hi.z - b.lo.z + 1) (A := 1681) (B := 41) (C := 68921) m1 (by omega) (by decide)
 omega
theorem box_ok {b : TBox} (h : b.err = 0) : b.ok := by
 unfold TBox.err at h
 obtain ⟨_, h1, _⟩ := (by simpa only [firstNZ_cons] using h : _ ∧ _ ∧ _)
 rw [unl_0 (by decide)] at h1
 simp only [Bool.and_eq_true, decide_eq_true_eq] at h1
 exact ⟨h1.1.1, h1.1.2, h1.2⟩
def stepsL (m : TMod) (b : TBox) : List V3 := if firstNZ [m.err, b.err] ≠ 0 then [] else m.steps b
def S44 : Sum := S43
theorem VS44 : Valid Try.prog S44 := VS43
def con_track_CheckBox : Con := fun args => match args with
 | [.t (.a [.v (.int .i64 b0), .v (.int .i64 b1), .v (.int .i64 b2), .v (.int .i64 b3), .v (.int .i64 b4), .v (.int .i64 b5)])] => some (.t (.c (.v (.int .i64 (((⟨⟨b0, b1, b2⟩, ⟨b3, b4, b5⟩⟩ : TBox)).err)))), none, false)
 | _ => none
theorem ok_track_CheckBox : Ok Try.prog 47 con_track_CheckBox := by
 refine Ok.oldG (Enters.of (fn := Try.f47) (by kernel_rfl) (by kernel_rfl) (by kernel_rfl)) fun args r pre fresh h hp => ?_
 unfold con_track_CheckBox at h
 split at h
 ·rename_i b0 b1 b2 b3 b4 b5
  cases h
  refine ⟨rfl, _, rfl, fun W N vs hv => ?_⟩
  obtain ⟨u0, ws0, k0, g0, hv0⟩ := hv.cons_inv
  subst k0
  have e0 := plain_arg rfl g0
  subst e0
  have ev := hv0.nil_inv
  subst ev
  exact track_CheckBox (⟨⟨b0, b1, b2⟩, ⟨b3, b4, b5⟩⟩ : TBox) W
 ·cases h
def S45 : Sum := addS S44 47 con_track_CheckBox
theorem VS45 : Valid Try.prog S45 := Valid.add VS44 ok_track_CheckBox
def con_track_count : Con := fun args => match args with
 | [.t (.a [.v (.int .i64 b0), .v (.int .i64 b1), .v (.int .i64 b2), .v (.int .i64 b3), .v (.int .i64 b4), .v (.int .i64 b5)])] => some (.t (.c (.v (.int .i64 (((⟨⟨b0, b1, b2⟩, ⟨b3, b4, b5⟩⟩ : TBox)).count)))), some (((⟨⟨b0, b1, b2⟩, ⟨b3, b4, b5⟩⟩ : TBox)).lo.inS 20 = true ∧ ((⟨⟨b0, b1, b2⟩, ⟨b3, b4, b5⟩⟩ : TBox)).hi.inS 20 = true ∧ ((⟨⟨b0, b1, b2⟩, ⟨b3, b4, b5⟩⟩ : TBox)).ok), false)
 | _ => none
theorem ok_track_count : Ok Try.prog 103 con_track_count := by
 refine Ok.oldG (Enters.of (fn := Try.f103) (by kernel_rfl) (by kernel_rfl) (by kernel_rfl)) fun args r pre fresh h hp => ?_
 unfold con_track_count at h
 split at h
 ·rename_i b0 b1 b2 b3 b4 b5
  cases h
  refine ⟨rfl, _, rfl, fun W N vs hv => ?_⟩
  have hp := hp
  obtain ⟨u0, ws0, k0, g0, hv0⟩ := hv.cons_inv
  subst k0
  have e0 := plain_arg rfl g0
  subst e0
  have ev := hv0.nil_inv
  subst ev
  exact track_count (⟨⟨b0, b1, b2⟩, ⟨b3, b4, b5⟩⟩ : TBox) W hp.1 hp.2.1 hp.2.2
 ·cases h
def S46 : Sum := addS S45 103 con_track_count
theorem VS46 : Valid Try.prog S46 := Valid.add VS45 ok_track_count
def con_track_model_permitted : Con := fun args => match args with
 | [.t (.a [.v (.int .i64 m0), .v (.int .i64 m1), .v (.int .i64 m2), .v (.int .i64 m3), .v (.int .i64 m4), .v (.int .i64 m5), .v (.int .i64 m6), .v (.int .i64 m7), .v (.int .i64 m8), .v (.int .i64 m9), .v (.int .i64 m10), .v (.int .i64 m11)]), .t (.a [.v (.int .i64 s0), .v (.int .i64 s1), .v (.int .i64 s2)])] => some (.t (.c (.v (.bool (((⟨m0, m1, m2, m3, m4, m5, m6, m7, m8, m9, m10, m11⟩ : TMod)).permB (⟨s0, s1, s2⟩ : V3))))), some (((⟨s0, s1, s2⟩ : V3)).sm (⟨s0, s1, s2⟩ : V3)), false)
 | _ => none
theorem ok_track_model_permitted : Ok Try.prog 120 con_track_model_permitted := by
 refine Ok.oldG (Enters.of (fn := Try.f120) (by kernel_rfl) (by kernel_rfl) (by kernel_rfl)) fun args r pre fresh h hp => ?_
 unfold con_track_model_permitted at h
 split at h
 ·rename_i m0 m1 m2 m3 m4 m5 m6 m7 m8 m9 m10 m11 s0 s1 s2
  cases h
  refine ⟨rfl, _, rfl, fun W N vs hv => ?_⟩
  have hp := hp
  obtain ⟨u0, ws0, k0, g0, hv0⟩ := hv.cons_inv
  subst k0
  have e0 := plain_arg rfl g0
  subst e0
  obtain ⟨u1, ws1, k1, g1, hv1⟩ := hv0.cons_inv
  subst k1
  have e1 := plain_arg rfl g1
  subst e1
  have ev := hv1.nil_inv
  subst ev
  exact track_permitted (⟨m0, m1, m2, m3, m4, m5, m6, m7, m8, m9, m10, m11⟩ : TMod) (⟨s0, s1, s2⟩ : V3) W hp
 ·cases h
def S47 : Sum := addS S46 120 con_track_model_permitted
theorem VS47 : Valid Try.prog S47 := Valid.add VS46 ok_track_model_permitted
def S48 : Sum := S47
theorem VS48 : Valid Try.prog S48 := VS47
def n_it_track_model_steps_1 (b0 b1 b2 b3 b4 b5 : Int) (m0 m1 m2 m3 m4 m5 m6 m7 m8 m9 m10 m11 : Int) : Nat := (((⟨m0, m1, m2, m3, m4, m5, m6, m7, m8, m9, m10, m11⟩ : TMod)).steps (⟨⟨b0, b1, b2⟩, ⟨b3, b4, b5⟩⟩ : TBox)).length
def y_it_track_model_steps_1 (b0 b1 b2 b3 b4 b5 : Int) (m0 m1 m2 m3 m4 m5 m6 m7 m8 m9 m10 m11 : Int) (i : Nat) : List TV := [.a (v3Cv (plAt (((⟨m0, m1, m2, m3, m4, m5, m6, m7, m8, m9, m10, m11⟩ : TMod)).steps (⟨⟨b0, b1, b2⟩, ⟨b3, b4, b5⟩⟩ : TBox)) i))]
def mk_it_track_model_steps_1_0 (l0 : Nat) (b0 b1 b2 b3 b4 b5 : Int) (m0 m1 m2 m3 m4 m5 m6 m7 m8 m9 m10 m11 : Int) (v0_0 : Int) : DS := ⟨[some (.t (.c (.v (.func (.yield l0) #[] #[])))), some (.t (.c (.px 6 0 (boxC [.v (.int .i64 b0), .v (.int .i64 b1), .v (.int .i64 b2), .v (.int .i64 b3), .v (.int .i64 b4), .v (.int .i64 b5)])))), some (.t (.c (.px 12 0 (boxC [.v (.int .i64 m0), .v (.int .i64 m1), .v (.int .i64 m2), .v (.int .i64 m3), .v (.int .i64 m4), .v (.int .i64 m5), .v (.int .i64 m6), .v (.int .i64 m7), .v (.int .i64 m8), .v (.int .i64 m9), .v (.int .i64 m10), .v (.int .i64 m11)])))), none, some (.t (.c (.v (.int .i64 v0_0)))), none, none, none, none, none, none, none, none, none, none, none, none, none, none, none, none, none, none, none, none, none, none, none, none, none, none, none, none, none, none, none, none, none, none, none, none, none, none, none, none, none, none, none, none, none, none], [none, none, none, none, none, none, none, none, none, none, none, none, none, none, none, none, none, none, none, none, none, none, none, none, none, none, none, none, none, none, none, none, none, none, none, none, none, none, none, none, none, none, none, none, none, none, none, none, none, none, none]⟩
def mk_it_track_model_steps_1_2 (l0 : Nat) (b0 b1 b2 b3 b4 b5 : Int) (m0 m1 m2 m3 m4 m5 m6 m7 m8 m9 m10 m11 : Int) (v2_0 : Int) (v2_1 : Int) : DS := ⟨[some (.t (.c (.v (.func (.yield l0) #[] #[])))), some (.t (.c (.px 6 0 (boxC [.v (.int .i64 b0), .v (.int .i64 b1), .v (.int .i64 b2), .v (.int .i64 b3), .v (.int .i64 b4), .v (.int .i64 b5)])))), some (.t (.c (.px 12 0 (boxC [.v (.int .i64 m0), .v (.int .i64 m1), .v (.int .i64 m2), .v (.int .i64 m3), .v (.int .i64 m4), .v (.int .i64 m5), .v (.int .i64 m6), .v (.int .i64 m7), .v (.int .i64 m8), .v (.int .i64 m9), .v (.int .i64 m10), .v (.int .i64 m11)])))), none, some (.t (.c (.v (.int .i64 v2_0)))), some (.t (.c (.v (.int .i64 v2_1)))), none, none, none, none, none, none, none, none, none, none, none, none, none, none, none, none, none, none, none, none, none, none, none, none, none, none, none, none, none, none, none, none, none, none, none, none, none, none, none, none, none, none, none, none, none], [none, none, none, none, none, none, none, none, none, none, none, none, none, none, none, none, none, none, none, none, none, none, none, none, none, none, none, none, none, none, none, none, none, none, none, none, none, none, none, none, none, none, none, none, none, none, none, none, none, none, none]⟩
def mk_it_track_model_steps_1_4 (l0 : Nat) (b0 b1 b2 b3 b4 b5 : Int) (m0 m1 m2 m3 m4 m5 m6 m7 m8 m9 m10 m11 : Int) (v4_0 : Int) (v4_1 : Int) (v4_2 : Int) : DS := ⟨[some (.t (.c (.v (.func (.yield l0) #[] #[])))), some (.t (.c (.px 6 0 (boxC [.v (.int .i64 b0), .v (.int .i64 b1), .v (.int .i64 b2), .v (.int .i64 b3), .v (.int .i64 b4), .v (.int .i64 b5)])))), some (.t (.c (.px 12 0 (boxC [.v (.int .i64 m0), .v (.int .i64 m1), .v (.int .i64 m2), .v (.int .i64 m3), .v (.int .i64 m4), .v (.int .i64 m5), .v (.int .i64 m6), .v (.int .i64 m7), .v (.int .i64 m8), .v (.int .i64 m9), .v (.int .i64 m10), .v (.int .i64 m11)])))), none, some (.t (.c (.v (.int .i64 v4_0)))), some (.t (.c (.v (.int .i64 v4_1)))), some (.t (.c (.v (.int .i64 v4_2)))), none, none, none, none, none, none, none, none, none, none, none, none, none, none, none, none, none, none, none, none, none, none, none, none, none, none, none, none, none, none, none, none, none, none, none, none, none, none, none, none, none, none, none, none], [none, none, none, none, none, none, none, none, none, none, none, none, none, none, none, none, none, none, none, none, none, none, none, none, none, none, none, none, none, none, none, none, none, none, none, none, none, none, none, none, none, none, none, none, none, none, none, none, none, none, none]⟩
def vc_it_track_model_steps_1 (J : Inv) (l0 : Nat) (b0 b1 b2 b3 b4 b5 : Int) (m0 m1 m2 m3 m4 m5 m6 m7 m8 m9 m10 m11 : Int) : Prop := (0 ≤ (0 : Int) ∧ (0 : Int) < ((3 : Nat) : Int)) ∧ (∃ m, J 0 (0 :: m :: []) (mk_it_track_model_steps_1_0 l0 b0 b1 b2 b3 b4 b5 m0 m1 m2 m3 m4 m5 m6 m7 m8 m9 m10 m11 b0))
def ann_it_track_model_steps_1 : Ann := ⟨fun _ => none, fun b => lookA b [(0, (none, some ⟨[0, 1, 2, 4], [], []⟩)), (2, (none, some ⟨[0, 1, 2, 4, 5], [], []⟩)), (4, (none, some ⟨[0, 1, 2, 4, 5, 6], [], []⟩))], fun _ => [], noIt, false, fun _ => none, fun _ => none⟩
theorem ev_it_track_model_steps_1 (J : Inv) (l0 : Nat) (b0 b1 b2 b3 b4 b5 : Int) (m0 m1 m2 m3 m4 m5 m6 m7 m8 m9 m10 m11 : Int) : evIt Try.prog tab S48 ann_it_track_model_steps_1 J l0 (n_it_track_model_steps_1 b0 b1 b2 b3 b4 b5 m0 m1 m2 m3 m4 m5 m6 m7 m8 m9 m10 m11) (y_it_track_model_steps_1 b0 b1 b2 b3 b4 b5 m0 m1 m2 m3 m4 m5 m6 m7 m8 m9 m10 m11) (keepOf 1 [.px 6 0 (boxC [.v (.int .i64 b0), .v (.int .i64 b1), .v (.int .i64 b2), .v (.int .i64 b3), .v (.int .i64 b4), .v (.int .i64 b5)]), .px 12 0 (boxC [.v (.int .i64 m0), .v (.int .i64 m1), .v (.int .i64 m2), .v (.int .i64 m3), .v (.int .i64 m4), .v (.int .i64 m5), .v (.int .i64 m6), .v (.int .i64 m7), .v (.int .i64 m8), .v (.int .i64 m9), .v (.int .i64 m10), .v (.int .i64 m11)])]) Try.f134 ([.px 6 0 (boxC [.v (.int .i64 b0), .v (.int .i64 b1), .v (.int .i64 b2), .v (.int .i64 b3), .v (.int .i64 b4), .v (.int .i64 b5)]), .px 12 0 (boxC [.v (.int .i64 m0), .v (.int .i64 m1), .v (.int .i64 m2), .v (.int .i64 m3), .v (.int .i64 m4), .v (.int .i64 m5), .v (.int .i64 m6), .v (.int .i64 m7), .v (.int .i64 m8), .v (.int .i64 m9), .v (.int .i64 m10), .v (.int .i64 m11)])].map fun x => .t (.c x)) = vc_it_track_model_steps_1 J l0 b0 b1 b2 b3 b4 b5 m0 m1 m2 m3 m4 m5 m6 m7 m8 m9 m10 m11 := by kernel_rfl
theorem fit_it_track_model_steps_1 (b0 b1 b2 b3 b4 b5 : Int) (m0 m1 m2 m3 m4 m5 m6 m7 m8 m9 m10 m11 : Int) : okIt ann_it_track_model_steps_1 (keepOf 1 [.px 6 0 (boxC [.v (.int .i64 b0), .v (.int .i64 b1), .v (.int .i64 b2), .v (.int .i64 b3), .v (.int .i64 b4), .v (.int .i64 b5)]), .px 12 0 (boxC [.v (.int .i64 m0), .v (.int .i64 m1), .v (.int .i64 m2), .v (.int .i64 m3), .v (.int .i64 m4), .v (.int .i64 m5), .v (.int .i64 m6), .v (.int .i64 m7), .v (.int .i64 m8), .v (.int .i64 m9), .v (.int .i64 m10), .v (.int .i64 m11)])]) Try.f134 = true := by kernel_rfl
def rd_it_track_model_steps_1_0 (J : Inv) (l0 : Nat) (b0 b1 b2 b3 b4 b5 : Int) (m0 m1 m2 m3 m4 m5 m6 m7 m8 m9 m10 m11 : Int) (v0_0 : Int) (cc nn0 : Nat) : Prop := (0 ≤ (0 : Int) ∧ (0 : Int) < ((3 : Nat) : Int)) ∧ (cond (decide (v0_0 ≤ b3)) ((0 ≤ (1 : Int) ∧ (1 : Int) < ((3 : Nat) : Int)) ∧ (∃ m, J 2 (cc :: m :: nn0 :: []) (mk_it_track_model_steps_1_2 l0 b0 b1 b2 b3 b4 b5 m0 m1 m2 m3 m4 m5 m6 m7 m8 m9 m10 m11 v0_0 b1))) (cc = (n_it_track_model_steps_1 b0 b1 b2 b3 b4 b5 m0 m1 m2 m3 m4 m5 m6 m7 m8 m9 m10 m11)))
theorem er_it_track_model_steps_1_0 (J : Inv) (l0 : Nat) (b0 b1 b2 b3 b4 b5 : Int) (m0 m1 m2 m3 m4 m5 m6 m7 m8 m9 m10 m11 : Int) (v0_0 : Int) (cc nn0 : Nat) : roundIt Try.prog tab S48 ann_it_track_model_steps_1 J l0 (n_it_track_model_steps_1 b0 b1 b2 b3 b4 b5 m0 m1 m2 m3 m4 m5 m6 m7 m8 m9 m10 m11) (y_it_track_model_steps_1 b0 b1 b2 b3 b4 b5 m0 m1 m2 m3 m4 m5 m6 m7 m8 m9 m10 m11) (keepOf 1 [.px 6 0 (boxC [.v (.int .i64 b0), .v (.int .i64 b1), .v (.int .i64 b2), .v (.int .i64 b3), .v (.int .i64 b4), .v (.int .i64 b5)]), .px 12 0 (boxC [.v (.int .i64 m0), .v (.int .i64 m1), .v (.int .i64 m2), .v (.int .i64 m3), .v (.int .i64 m4), .v (.int .i64 m5), .v (.int .i64 m6), .v (.int .i64 m7), .v (.int .i64 m8), .v (.int .i64 m9), .v (.int .i64 m10), .v (.int .i64 m11)])]) Try.f134 0 cc (nn0 :: []) (mk_it_track_model_steps_1_0 l0 b0 b1 b2 b3 b4 b5 m0 m1 m2 m3 m4 m5 m6 m7 m8 m9 m10 m11 v0_0) = rd_it_track_model_steps_1_0 J l0 b0 b1 b2 b3 b4 b5 m0 m1 m2 m3 m4 m5 m6 m7 m8 m9 m10 m11 v0_0 cc nn0 := by kernel_rfl
def rd_it_track_model_steps_1_2 (J : Inv) (l0 : Nat) (b0 b1 b2 b3 b4 b5 : Int) (m0 m1 m2 m3 m4 m5 m6 m7 m8 m9 m10 m11 : Int) (v2_0 : Int) (v2_1 : Int) (cc nn2 nn0 : Nat) : Prop := (0 ≤ (1 : Int) ∧ (1 : Int) < ((3 : Nat) : Int)) ∧ (cond (decide (v2_1 ≤ b4)) ((0 ≤ (2 : Int) ∧ (2 : Int) < ((3 : Nat) : Int)) ∧ (∃ m, J 4 (cc :: m :: nn2 :: nn0 :: []) (mk_it_track_model_steps_1_4 l0 b0 b1 b2 b3 b4 b5 m0 m1 m2 m3 m4 m5 m6 m7 m8 m9 m10 m11 v2_0 v2_1 b2))) (lt (IntKind.i64.wrap (v2_0 + (1 : Int))) fun x1 => J 0 (cc :: nn0 :: []) (mk_it_track_model_steps_1_0 l0 b0 b1 b2 b3 b4 b5 m0 m1 m2 m3 m4 m5 m6 m7 m8 m9 m10 m11 x1)))
theorem er_it_track_model_steps_1_2 (J : Inv) (l0 : Nat) (b0 b1 b2 b3 b4 b5 : Int) (m0 m1 m2 m3 m4 m5 m6 m7 m8 m9 m10 m11 : Int) (v2_0 : Int) (v2_1 : Int) (cc nn2 nn0 : Nat) : roundIt Try.prog tab S48 ann_it_track_model_steps_1 J l0 (n_it_track_model_steps_1 b0 b1 b2 b3 b4 b5 m0 m1 m2 m3 m4 m5 m6 m7 m8 m9 m10 m11) (y_it_track_model_steps_1 b0 b1 b2 b3 b4 b5 m0 m1 m2 m3 m4 m5 m6 m7 m8 m9 m10 m11) (keepOf 1 [.px 6 0 (boxC [.v (.int .i64 b0), .v (.int .i64 b1), .v (.int .i64 b2), .v (.int .i64 b3), .v (.int .i64 b4), .v (.int .i64 b5)]), .px 12 0 (boxC [.v (.int .i64 m0), .v (.int .i64 m1), .v (.int .i64 m2), .v (.int .i64 m3), .v (.int .i64 m4), .v (.int .i64 m5), .v (.int .i64 m6), .v (.int .i64 m7), .v (.int .i64 m8), .v (.int .i64 m9), .v (.int .i64 m10), .v (.int .i64 m11)])]) Try.f134 1 cc (nn2 :: nn0 :: []) (mk_it_track_model_steps_1_2 l0 b0 b1 b2 b3 b4 b5 m0 m1 m2 m3 m4 m5 m6 m7 m8 m9 m10 m11 v2_0 v2_1) = rd_it_track_model_steps_1_2 J l0 b0 b1 b2 b3 b4 b5 m0 m1 m2 m3 m4 m5 m6 m7 m8 m9 m10 m11 v2_0 v2_1 cc nn2 nn0 := by kernel_rfl
def rd_it_track_model_steps_1_4 (J : Inv) (l0 : Nat) (b0 b1 b2 b3 b4 b5 : Int) (m0 m1 m2 m3 m4 m5 m6 m7 m8 m9 m10 m11 : Int) (v4_0 : Int) (v4_1 : Int) (v4_2 : Int) (cc nn4 nn2 nn0 : Nat) : Prop := (0 ≤ (2 : Int) ∧ (2 : Int) < ((3 : Nat) : Int)) ∧ (cond (decide (v4_2 ≤ b5)) ((((⟨v4_0, v4_1, v4_2⟩ : V3)).sm (⟨v4_0, v4_1, v4_2⟩ : V3)) ∧ (cond (((⟨m0, m1, m2, m3, m4, m5, m6, m7, m8, m9, m10, m11⟩ : TMod)).permB (⟨v4_0, v4_1, v4_2⟩ : V3)) ((l0 = l0 ∧ cc < (n_it_track_model_steps_1 b0 b1 b2 b3 b4 b5 m0 m1 m2 m3 m4 m5 m6 m7 m8 m9 m10 m11) ∧ ([.a [.v (.int .i64 v4_0), .v (.int .i64 v4_1), .v (.int .i64 v4_2)]] : List TV) = (y_it_track_model_steps_1 b0 b1 b2 b3 b4 b5 m0 m1 m2 m3 m4 m5 m6 m7 m8 m9 m10 m11) cc) ∧ (lt (IntKind.i64.wrap (v4_2 + (1 : Int))) fun x1 => J 4 ((cc + 1) :: nn4 :: nn2 :: nn0 :: []) (mk_it_track_model_steps_1_4 l0 b0 b1 b2 b3 b4 b5 m0 m1 m2 m3 m4 m5 m6 m7 m8 m9 m10 m11 v4_0 v4_1 x1)) ∧ (True)) ((false = false) ∧ (lt (IntKind.i64.wrap (v4_2 + (1 : Int))) fun x2 => J 4 (cc :: nn4 :: nn2 :: nn0 :: []) (mk_it_track_model_steps_1_4 l0 b0 b1 b2 b3 b4 b5 m0 m1 m2 m3 m4 m5 m6 m7 m8 m9 m10 m11 v4_0 v4_1 x2))))) (lt (IntKind.i64.wrap (v4_1 + (1 : Int))) fun x3 => J 2 (cc :: nn2 :: nn0 :: []) (mk_it_track_model_steps_1_2 l0 b0 b1 b2 b3 b4 b5 m0 m1 m2 m3 m4 m5 m6 m7 m8 m9 m10 m11 v4_0 x3)))
theorem er_it_track_model_steps_1_4 (J : Inv) (l0 : Nat) (b0 b1 b2 b3 b4 b5 : Int) (m0 m1 m2 m3 m4 m5 m6 m7 m8 m9 m10 m11 : Int) (v4_0 : Int) (v4_1 : Int) (v4_2 : Int) (cc nn4 nn2 nn0 : Nat) : roundIt Try.prog tab S48 ann_it_track_model_steps_1 J l0 (n_it_track_model_steps_1 b0 b1 b2 b3 b4 b5 m0 m1 m2 m3 m4 m5 m6 m7 m8 m9 m10 m11) (y_it_track_model_steps_1 b0 b1 b2 b3 b4 b5 m0 m1 m2 m3 m4 m5 m6 m7 m8 m9 m10 m11) (keepOf 1 [.px 6 0 (boxC [.v (.int .i64 b0), .v (.int .i64 b1), .v (.int .i64 b2), .v (.int .i64 b3), .v (.int .i64 b4), .v (.int .i64 b5)]), .px 12 0 (boxC [.v (.int .i64 m0), .v (.int .i64 m1), .v (.int .i64 m2), .v (.int .i64 m3), .v (.int .i64 m4), .v (.int .i64 m5), .v (.int .i64 m6), .v (.int .i64 m7), .v (.int .i64 m8), .v (.int .i64 m9), .v (.int .i64 m10), .v (.int .i64 m11)])]) Try.f134 2 cc (nn4 :: nn2 :: nn0 :: []) (mk_it_track_model_steps_1_4 l0 b0 b1 b2 b3 b4 b5 m0 m1 m2 m3 m4 m5 m6 m7 m8 m9 m10 m11 v4_0 v4_1 v4_2) = rd_it_track_model_steps_1_4 J l0 b0 b1 b2 b3 b4 b5 m0 m1 m2 m3 m4 m5 m6 m7 m8 m9 m10 m11 v4_0 v4_1 v4_2 cc nn4 nn2 nn0 := by kernel_rfl
theorem lp_it_track_model_steps_1 (J : Inv) (l0 : Nat) (b0 b1 b2 b3 b4 b5 : Int) (m0 m1 m2 m3 m4 m5 m6 m7 m8 m9 m10 m11 : Int) : AllY J (loopsIt Try.prog tab S48 ann_it_track_model_steps_1 J l0 (n_it_track_model_steps_1 b0 b1 b2 b3 b4 b5 m0 m1 m2 m3 m4 m5 m6 m7 m8 m9 m10 m11) (y_it_track_model_steps_1 b0 b1 b2 b3 b4 b5 m0 m1 m2 m3 m4 m5 m6 m7 m8 m9 m10 m11) (keepOf 1 [.px 6 0 (boxC [.v (.int .i64 b0), .v (.int .i64 b1), .v (.int .i64 b2), .v (.int .i64 b3), .v (.int .i64 b4), .v (.int .i64 b5)]), .px 12 0 (boxC [.v (.int .i64 m0), .v (.int .i64 m1), .v (.int .i64 m2), .v (.int .i64 m3), .v (.int .i64 m4), .v (.int .i64 m5), .v (.int .i64 m6), .v (.int .i64 m7), .v (.int .i64 m8), .v (.int .i64 m9), .v (.int .i64 m10), .v (.int .i64 m11)])]) Try.f134) = (((∀ c F s, ¬ J 0 (c :: 0 :: F) s) ∧ ∀ c m F s, J 0 (c :: (m + 1) :: F) s → roundIt Try.prog tab S48 ann_it_track_model_steps_1 J l0 (n_it_track_model_steps_1 b0 b1 b2 b3 b4 b5 m0 m1 m2 m3 m4 m5 m6 m7 m8 m9 m10 m11) (y_it_track_model_steps_1 b0 b1 b2 b3 b4 b5 m0 m1 m2 m3 m4 m5 m6 m7 m8 m9 m10 m11) (keepOf 1 [.px 6 0 (boxC [.v (.int .i64 b0), .v (.int .i64 b1), .v (.int .i64 b2), .v (.int .i64 b3), .v (.int .i64 b4), .v (.int .i64 b5)]), .px 12 0 (boxC [.v (.int .i64 m0), .v (.int .i64 m1), .v (.int .i64 m2), .v (.int .i64 m3), .v (.int .i64 m4), .v (.int .i64 m5), .v (.int .i64 m6), .v (.int .i64 m7), .v (.int .i64 m8), .v (.int .i64 m9), .v (.int .i64 m10), .v (.int .i64 m11)])]) Try.f134 0 c (m :: F) s) ∧ ((∀ c F s, ¬ J 2 (c :: 0 :: F) s) ∧ ∀ c m F s, J 2 (c :: (m + 1) :: F) s → roundIt Try.prog tab S48 ann_it_track_model_steps_1 J l0 (n_it_track_model_steps_1 b0 b1 b2 b3 b4 b5 m0 m1 m2 m3 m4 m5 m6 m7 m8 m9 m10 m11) (y_it_track_model_steps_1 b0 b1 b2 b3 b4 b5 m0 m1 m2 m3 m4 m5 m6 m7 m8 m9 m10 m11) (keepOf 1 [.px 6 0 (boxC [.v (.int .i64 b0), .v (.int .i64 b1), .v (.int .i64 b2), .v (.int .i64 b3), .v (.int .i64 b4), .v (.int .i64 b5)]), .px 12 0 (boxC [.v (.int .i64 m0), .v (.int .i64 m1), .v (.int .i64 m2), .v (.int .i64 m3), .v (.int .i64 m4), .v (.int .i64 m5), .v (.int .i64 m6), .v (.int .i64 m7), .v (.int .i64 m8), .v (.int .i64 m9), .v (.int .i64 m10), .v (.int .i64 m11)])]) Try.f134 1 c (m :: F) s) ∧ ((∀ c F s, ¬ J 4 (c :: 0 :: F) s) ∧ ∀ c m F s, J 4 (c :: (m + 1) :: F) s → roundIt Try.prog tab S48 ann_it_track_model_steps_1 J l0 (n_it_track_model_steps_1 b0 b1 b2 b3 b4 b5 m0 m1 m2 m3 m4 m5 m6 m7 m8 m9 m10 m11) (y_it_track_model_steps_1 b0 b1 b2 b3 b4 b5 m0 m1 m2 m3 m4 m5 m6 m7 m8 m9 m10 m11) (keepOf 1 [.px 6 0 (boxC [.v (.int .i64 b0), .v (.int .i64 b1), .v (.int .i64 b2), .v (.int .i64 b3), .v (.int .i64 b4), .v (.int .i64 b5)]), .px 12 0 (boxC [.v (.int .i64 m0), .v (.int .i64 m1), .v (.int .i64 m2), .v (.int .i64 m3), .v (.int .i64 m4), .v (.int .i64 m5), .v (.int .i64 m6), .v (.int .i64 m7), .v (.int .i64 m8), .v (.int .i64 m9), .v (.int .i64 m10), .v (.int .i64 m11)])]) Try.f134 2 c (m :: F) s) ∧ True) := by kernel_rfl
def J_it_track_model_steps_1 (l0 : Nat) (b0 b1 b2 b3 b4 b5 : Int) (m0 m1 m2 m3 m4 m5 m6 m7 m8 m9 m10 m11 : Int) : Inv := fun b F s => match b, F with
 | 0, [cc, nn0] => ∃ (v0_0 : Int), s = mk_it_track_model_steps_1_0 l0 b0 b1 b2 b3 b4 b5 m0 m1 m2 m3 m4 m5 m6 m7 m8 m9 m10 m11 v0_0 ∧ (cc ≤ ((⟨m0, m1, m2, m3, m4, m5, m6, m7, m8, m9, m10, m11⟩ : TMod).steps (⟨⟨b0, b1, b2⟩, ⟨b3, b4, b5⟩⟩ : TBox)).length ∧ ((⟨m0, m1, m2, m3, m4, m5, m6, m7, m8, m9, m10, m11⟩ : TMod).steps (⟨⟨b0, b1, b2⟩, ⟨b3, b4, b5⟩⟩ : TBox)).drop cc = (restX (⟨⟨b0, b1, b2⟩, ⟨b3, b4, b5⟩⟩ : TBox) v0_0).filter (⟨m0, m1, m2, m3, m4, m5, m6, m7, m8, m9, m10, m11⟩ : TMod).permB ∧ b0 ≤ v0_0 ∧ v0_0 ≤ b3 + 1 ∧ (nn0 : Int) + v0_0 = b3 + 2)
 | 2, [cc, nn2, nn0] => ∃ (v2_0 : Int) (v2_1 : Int), s = mk_it_track_model_steps_1_2 l0 b0 b1 b2 b3 b4 b5 m0 m1 m2 m3 m4 m5 m6 m7 m8 m9 m10 m11 v2_0 v2_1 ∧ (cc ≤ ((⟨m0, m1, m2, m3, m4, m5, m6, m7, m8, m9, m10, m11⟩ : TMod).steps (⟨⟨b0, b1, b2⟩, ⟨b3, b4, b5⟩⟩ : TBox)).length ∧ ((⟨m0, m1, m2, m3, m4, m5, m6, m7, m8, m9, m10, m11⟩ : TMod).steps (⟨⟨b0, b1, b2⟩, ⟨b3, b4, b5⟩⟩ : TBox)).drop cc = (restY (⟨⟨b0, b1, b2⟩, ⟨b3, b4, b5⟩⟩ : TBox) v2_0 v2_1 ++ restX (⟨⟨b0, b1, b2⟩, ⟨b3, b4, b5⟩⟩ : TBox) (v2_0 + 1)).filter (⟨m0, m1, m2, m3, m4, m5, m6, m7, m8, m9, m10, m11⟩ : TMod).permB ∧ (b0 ≤ v2_0 ∧ v2_0 ≤ b3 ∧ (nn0 : Int) + v2_0 = b3 + 1) ∧ b1 ≤ v2_1 ∧ v2_1 ≤ b4 + 1 ∧ (nn2 : Int) + v2_1 = b4 + 2)
 | 4, [cc, nn4, nn2, nn0] => ∃ (v4_0 : Int) (v4_1 : Int) (v4_2 : Int), s = mk_it_track_model_steps_1_4 l0 b0 b1 b2 b3 b4 b5 m0 m1 m2 m3 m4 m5 m6 m7 m8 m9 m10 m11 v4_0 v4_1 v4_2 ∧ (cc ≤ ((⟨m0, m1, m2, m3, m4, m5, m6, m7, m8, m9, m10, m11⟩ : TMod).steps (⟨⟨b0, b1, b2⟩, ⟨b3, b4, b5⟩⟩ : TBox)).length ∧ ((⟨m0, m1, m2, m3, m4, m5, m6, m7, m8, m9, m10, m11⟩ : TMod).steps (⟨⟨b0, b1, b2⟩, ⟨b3, b4, b5⟩⟩ : TBox)).drop cc = (restZ (⟨⟨b0, b1, b2⟩, ⟨b3, b4, b5⟩⟩ : TBox) v4_0 v4_1 v4_2 ++ (restY (⟨⟨b0, b1, b2⟩, ⟨b3, b4, b5⟩⟩ : TBox) v4_0 (v4_1 + 1) ++ restX (⟨⟨b0, b1, b2⟩, ⟨b3, b4, b5⟩⟩ : TBox) (v4_0 + 1))).filter (⟨m0, m1, m2, m3, m4, m5, m6, m7, m8, m9, m10, m11⟩ : TMod).permB ∧ (b0 ≤ v4_0 ∧ v4_0 ≤ b3 ∧ (nn0 : Int) + v4_0 = b3 + 1) ∧ (b1 ≤ v4_1 ∧ v4_1 ≤ b4 ∧ (nn2 : Int) + v4_1 = b4 + 1) ∧ b2 ≤ v4_2 ∧ v4_2 ≤ b5 + 1 ∧ (nn4 : Int) + v4_2 = b5 + 2)
 | _, _ => False
set_option maxHeartbeats 8000000 in
set_option maxRecDepth 100000 in
theorem rnd_it_track_model_steps_1_0 (l0 : Nat) (b0 b1 b2 b3 b4 b5 : Int) (m0 m1 m2 m3 m4 m5 m6 m7 m8 m9 m10 m11 : Int) (v0_0 : Int) (cc nn0 : Nat) (hp : ((⟨⟨b0, b1, b2⟩, ⟨b3, b4, b5⟩⟩ : TBox)).lo.inS 20 = true ∧ ((⟨⟨b0, b1, b2⟩, ⟨b3, b4, b5⟩⟩ : TBox)).hi.inS 20 = true ∧ ((⟨⟨b0, b1, b2⟩, ⟨b3, b4, b5⟩⟩ : TBox)).ok) (hi : cc ≤ ((⟨m0, m1, m2, m3, m4, m5, m6, m7, m8, m9, m10, m11⟩ : TMod).steps (⟨⟨b0, b1, b2⟩, ⟨b3, b4, b5⟩⟩ : TBox)).length ∧ ((⟨m0, m1, m2, m3, m4, m5, m6, m7, m8, m9, m10, m11⟩ : TMod).steps (⟨⟨b0, b1, b2⟩, ⟨b3, b4, b5⟩⟩ : TBox)).drop cc = (restX (⟨⟨b0, b1, b2⟩, ⟨b3, b4, b5⟩⟩ : TBox) v0_0).filter (⟨m0, m1, m2, m3, m4, m5, m6, m7, m8, m9, m10, m11⟩ : TMod).permB ∧ b0 ≤ v0_0 ∧ v0_0 ≤ b3 + 1 ∧ ((nn0 + 1) : Int) + v0_0 = b3 + 2) : rd_it_track_model_steps_1_0 (J_it_track_model_steps_1 l0 b0 b1 b2 b3 b4 b5 m0 m1 m2 m3 m4 m5 m6 m7 m8 m9 m10 m11) l0 b0 b1 b2 b3 b4 b5 m0 m1 m2 m3 m4 m5 m6 m7 m8 m9 m10 m11 v0_0 cc nn0 := by
 obtain ⟨q1, q2, q3⟩ := hp
 obtain ⟨a1, a2, a3⟩ := inS_iff.1 q1
 obtain ⟨c1, c2, c3⟩ := inS_iff.1 q2
 obtain ⟨o1, o2, o3⟩ := q3
 simp only [TBox.rx, TBox.ry, TBox.rz, Rg.ok] at a1 a2 a3 c1 c2 c3 o1 o2 o3
 obtain ⟨i1, i2, i3, i4⟩ := hi
 unfold rd_it_track_model_steps_1_0
 refine ⟨by omega, cond_i (fun h => ⟨by omega, (b4 + 2 - b1).toNat, v0_0, b1, rfl, i1, ?_, ?_, by omega, by omega, by omega⟩) (fun h => ?_)⟩
 ·have h := of_decide_eq_true h
  rw [i2, restX_cons (b := (⟨⟨b0, b1, b2⟩, ⟨b3, b4, b5⟩⟩ : TBox)) (by simpa using h)]
 ·have h := of_decide_eq_true h
  omega
 ·have h := of_decide_eq_false h
  rw [restX_nil (b := (⟨⟨b0, b1, b2⟩, ⟨b3, b4, b5⟩⟩ : TBox)) (by simp only; omega)] at i2
  unfold n_it_track_model_steps_1
  have := congrArg List.length i2
  simp at this
  omega
theorem zero_it_track_model_steps_1_0 (b0 b1 b2 b3 b4 b5 : Int) (m0 m1 m2 m3 m4 m5 m6 m7 m8 m9 m10 m11 : Int) (v0_0 : Int) (cc : Nat) (hi : cc ≤ ((⟨m0, m1, m2, m3, m4, m5, m6, m7, m8, m9, m10, m11⟩ : TMod).steps (⟨⟨b0, b1, b2⟩, ⟨b3, b4, b5⟩⟩ : TBox)).length ∧ ((⟨m0, m1, m2, m3, m4, m5, m6, m7, m8, m9, m10, m11⟩ : TMod).steps (⟨⟨b0, b1, b2⟩, ⟨b3, b4, b5⟩⟩ : TBox)).drop cc = (restX (⟨⟨b0, b1, b2⟩, ⟨b3, b4, b5⟩⟩ : TBox) v0_0).filter (⟨m0, m1, m2, m3, m4, m5, m6, m7, m8, m9, m10, m11⟩ : TMod).permB ∧ b0 ≤ v0_0 ∧ v0_0 ≤ b3 + 1 ∧ (0 : Int) + v0_0 = b3 + 2) : False := by
 omega
set_option maxHeartbeats 8000000 in
set_option maxRecDepth 100000 in
theorem rnd_it_track_model_steps_1_2 (l0 : Nat) (b0 b1 b2 b3 b4 b5 : Int) (m0 m1 m2 m3 m4 m5 m6 m7 m8 m9 m10 m11 : Int) (v2_0 : Int) (v2_1 : Int) (cc nn2 nn0 : Nat) (hp : ((⟨⟨b0, b1, b2⟩, ⟨b3, b4, b5⟩⟩ : TBox)).lo.inS 20 = true ∧ ((⟨⟨b0, b1, b2⟩, ⟨b3, b4, b5⟩⟩ : TBox)).hi.inS 20 = true ∧ ((⟨⟨b0, b1, b2⟩, ⟨b3, b4, b5⟩⟩ : TBox)).ok) (hi : cc ≤ ((⟨m0, m1, m2, m3, m4, m5, m6, m7, m8, m9, m10, m11⟩ : TMod).steps (⟨⟨b0, b1, b2⟩, ⟨b3, b4, b5⟩⟩ : TBox)).length ∧ ((⟨m0, m1, m2, m3, m4, m5, m6, m7, m8, m9, m10, m11⟩ : TMod).steps (⟨⟨b0, b1, b2⟩, ⟨b3, b4, b5⟩⟩ : TBox)).drop cc = (restY (⟨⟨b0, b1, b2⟩, ⟨b3, b4, b5⟩⟩ : TBox) v2_0 v2_1 ++ restX (⟨⟨b0, b1, b2⟩, ⟨b3, b4, b5⟩⟩ : TBox) (v2_0 + 1)).filter (⟨m0, m1, m2, m3, m4, m5, m6, m7, m8, m9, m10, m11⟩ : TMod).permB ∧ (b0 ≤ v2_0 ∧ v2_0 ≤ b3 ∧ (nn0 : Int) + v2_0 = b3 + 1) ∧ b1 ≤ v2_1 ∧ v2_1 ≤ b4 + 1 ∧ ((nn2 + 1) : Int) + v2_1 = b4 + 2) : rd_it_track_model_steps_1_2 (J_it_track_model_steps_1 l0 b0 b1 b2 b3 b4 b5 m0 m1 m2 m3 m4 m5 m6 m7 m8 m9 m10 m11) l0 b0 b1 b2 b3 b4 b5 m0 m1 m2 m3 m4 m5 m6 m7 m8 m9 m10 m11 v2_0 v2_1 cc nn2 nn0 := by
 obtain ⟨q1, q2, q3⟩ := hp
 obtain ⟨a1, a2, a3⟩ := inS_iff.1 q1
 obtain ⟨c1, c2, c3⟩ := inS_iff.1 q2
 obtain ⟨o1, o2, o3⟩ := q3
 simp only [TBox.rx, TBox.ry, TBox.rz, Rg.ok] at a1 a2 a3 c1 c2 c3 o1 o2 o3
 obtain ⟨i1, i2, i3, i4, i5⟩ := hi
 unfold rd_it_track_model_steps_1_2
 refine ⟨by omega, cond_i (fun h => ⟨by omega, (b5 + 2 - b2).toNat, v2_0, v2_1, b2, rfl, i1, ?_, by omega, ?_, by omega, by omega, by omega⟩) (fun h => lt_i fun x hx => ?_)⟩
 ·have h := of_decide_eq_true h
  rw [i2, restY_cons (b := (⟨⟨b0, b1, b2⟩, ⟨b3, b4, b5⟩⟩ : TBox)) (by simpa using h), List.append_assoc]
 ·have h := of_decide_eq_true h
  omega
 ·have h := of_decide_eq_false h
  rw [IntWalk.i64_in _ (by omega)] at hx
  subst hx
  refine ⟨v2_0 + 1, rfl, i1, ?_, by omega, by omega, by omega⟩
  rw [i2, restY_nil (b := (⟨⟨b0, b1, b2⟩, ⟨b3, b4, b5⟩⟩ : TBox)) (by simp only; omega), List.nil_append]
theorem zero_it_track_model_steps_1_2 (b0 b1 b2 b3 b4 b5 : Int) (m0 m1 m2 m3 m4 m5 m6 m7 m8 m9 m10 m11 : Int) (v2_0 : Int) (v2_1 : Int) (cc nn0 : Nat) (hi : cc ≤ ((⟨m0, m1, m2, m3, m4, m5, m6, m7, m8, m9, m10, m11⟩ : TMod).steps (⟨⟨b0, b1, b2⟩, ⟨b3, b4, b5⟩⟩ : TBox)).length ∧ ((⟨m0, m1, m2, m3, m4, m5, m6, m7, m8, m9, m10, m11⟩ : TMod).steps (⟨⟨b0, b1, b2⟩, ⟨b3, b4, b5⟩⟩ : TBox)).drop cc = (restY (⟨⟨b0, b1, b2⟩, ⟨b3, b4, b5⟩⟩ : TBox) v2_0 v2_1 ++ restX (⟨⟨b0, b1, b2⟩, ⟨b3, b4, b5⟩⟩ : TBox) (v2_0 + 1)).filter (⟨m0, m1, m2, m3, m4, m5, m6, m7, m8, m9, m10, m11⟩ : TMod).permB ∧ (b0 ≤ v2_0 ∧ v2_0 ≤ b3 ∧ (nn0 : Int) + v2_0 = b3 + 1) ∧ b1 ≤ v2_1 ∧ v2_1 ≤ b4 + 1 ∧ (0 : Int) + v2_1 = b4 + 2) : False := by
 omega
set_option maxHeartbeats 8000000 in
set_option maxRecDepth 100000 in
theorem rnd_it_track_model_steps_1_4 (l0 : Nat) (b0 b1 b2 b3 b4 b5 : Int) (m0 m1 m2 m3 m4 m5 m6 m7 m8 m9 m10 m11 : Int) (v4_0 : Int) (v4_1 : Int) (v4_2 : Int) (cc nn4 nn2 nn0 : Nat) (hp : ((⟨⟨b0, b1, b2⟩, ⟨b3, b4, b5⟩⟩ : TBox)).lo.inS 20 = true ∧ ((⟨⟨b0, b1, b2⟩, ⟨b3, b4, b5⟩⟩ : TBox)).hi.inS 20 = true ∧ ((⟨⟨b0, b1, b2⟩, ⟨b3, b4, b5⟩⟩ : TBox)).ok) (hi : cc ≤ ((⟨m0, m1, m2, m3, m4, m5, m6, m7, m8, m9, m10, m11⟩ : TMod).steps (⟨⟨b0, b1, b2⟩, ⟨b3, b4, b5⟩⟩ : TBox)).length ∧ ((⟨m0, m1, m2, m3, m4, m5, m6, m7, m8, m9, m10, m11⟩ : TMod).steps (⟨⟨b0, b1, b2⟩, ⟨b3, b4, b5⟩⟩ : TBox)).drop cc = (restZ (⟨⟨b0, b1, b2⟩, ⟨b3, b4, b5⟩⟩ : TBox) v4_0 v4_1 v4_2 ++ (restY (⟨⟨b0, b1, b2⟩, ⟨b3, b4, b5⟩⟩ : TBox) v4_0 (v4_1 + 1) ++ restX (⟨⟨b0, b1, b2⟩, ⟨b3, b4, b5⟩⟩ : TBox) (v4_0 + 1))).filter (⟨m0, m1, m2, m3, m4, m5, m6, m7, m8, m9, m10, m11⟩ : TMod).permB ∧ (b0 ≤ v4_0 ∧ v4_0 ≤ b3 ∧ (nn0 : Int) + v4_0 = b3 + 1) ∧ (b1 ≤ v4_1 ∧ v4_1 ≤ b4 ∧ (nn2 : Int) + v4_1 = b4 + 1) ∧ b2 ≤ v4_2 ∧ v4_2 ≤ b5 + 1 ∧ ((nn4 + 1) : Int) + v4_2 = b5 + 2) : rd_it_track_model_steps_1_4 (J_it_track_model_steps_1 l0 b0 b1 b2 b3 b4 b5 m0 m1 m2 m3 m4 m5 m6 m7 m8 m9 m10 m11) l0 b0 b1 b2 b3 b4 b5 m0 m1 m2 m3 m4 m5 m6 m7 m8 m9 m10 m11 v4_0 v4_1 v4_2 cc nn4 nn2 nn0 := by
 obtain ⟨q1, q2, q3⟩ := hp
 obtain ⟨a1, a2, a3⟩ := inS_iff.1 q1
 obtain ⟨c1, c2, c3⟩ := inS_iff.1 q2
 obtain ⟨o1, o2, o3⟩ := q3
 simp only [TBox.rx, TBox.ry, TBox.rz, Rg.ok] at a1 a2 a3 c1 c2 c3 o1 o2 o3
 obtain ⟨i1, i2, i3, i4, i5⟩ := hi
 unfold rd_it_track_model_steps_1_4
 refine ⟨by omega, cond_i (fun h => ?_) (fun h => lt_i fun x hx => ?_)⟩
 ·have h := of_decide_eq_true h
  refine ⟨sm_in (by simp only; omega) (by simp only; omega) (by simp only; omega), ?_⟩
  rw [restZ_cons (b := (⟨⟨b0, b1, b2⟩, ⟨b3, b4, b5⟩⟩ : TBox)) (by simpa using h), List.cons_append, List.filter_cons] at i2
  refine cond_i (fun e => ⟨⟨rfl, ?_, ?_⟩, lt_i fun x hx => ?_, trivial⟩) (fun e => ⟨rfl, lt_i fun x hx => ?_⟩)
  ·rw [if_pos e] at i2
   exact (drop_cons i2).1
  ·rw [if_pos e] at i2
   have e2 := (drop_cons i2).2.1
   unfold y_it_track_model_steps_1
   rw [show plAt ((⟨m0, m1, m2, m3, m4, m5, m6, m7, m8, m9, m10, m11⟩ : TMod).steps (⟨⟨b0, b1, b2⟩, ⟨b3, b4, b5⟩⟩ : TBox)) cc = _ from e2]; rfl
  ·rw [if_pos e] at i2
   rw [IntWalk.i64_in _ (by omega)] at hx
   subst hx
   exact ⟨_, _, _, rfl, (drop_cons i2).1, (drop_cons i2).2.2, i3, i4, by omega, by omega, by omega⟩
  ·rw [if_neg (by rw [e]; simp)] at i2
   rw [IntWalk.i64_in _ (by omega)] at hx
   subst hx
   exact ⟨_, _, _, rfl, i1, i2, i3, i4, by omega, by omega, by omega⟩
 ·have h := of_decide_eq_false h
  rw [IntWalk.i64_in _ (by omega)] at hx
  subst hx
  refine ⟨v4_0, v4_1 + 1, rfl, i1, ?_, i3, by omega, by omega, by omega⟩
  rw [i2, restZ_nil (b := (⟨⟨b0, b1, b2⟩, ⟨b3, b4, b5⟩⟩ : TBox)) (by simp only; omega), List.nil_append]
theorem zero_it_track_model_steps_1_4 (b0 b1 b2 b3 b4 b5 : Int) (m0 m1 m2 m3 m4 m5 m6 m7 m8 m9 m10 m11 : Int) (v4_0 : Int) (v4_1 : Int) (v4_2 : Int) (cc nn2 nn0 : Nat) (hi : cc ≤ ((⟨m0, m1, m2, m3, m4, m5, m6, m7, m8, m9, m10, m11⟩ : TMod).steps (⟨⟨b0, b1, b2⟩, ⟨b3, b4, b5⟩⟩ : TBox)).length ∧ ((⟨m0, m1, m2, m3, m4, m5, m6, m7, m8, m9, m10, m11⟩ : TMod).steps (⟨⟨b0, b1, b2⟩, ⟨b3, b4, b5⟩⟩ : TBox)).drop cc = (restZ (⟨⟨b0, b1, b2⟩, ⟨b3, b4, b5⟩⟩ : TBox) v4_0 v4_1 v4_2 ++ (restY (⟨⟨b0, b1, b2⟩, ⟨b3, b4, b5⟩⟩ : TBox) v4_0 (v4_1 + 1) ++ restX (⟨⟨b0, b1, b2⟩, ⟨b3, b4, b5⟩⟩ : TBox) (v4_0 + 1))).filter (⟨m0, m1, m2, m3, m4, m5, m6, m7, m8, m9, m10, m11⟩ : TMod).permB ∧ (b0 ≤ v4_0 ∧ v4_0 ≤ b3 ∧ (nn0 : Int) + v4_0 = b3 + 1) ∧ (b1 ≤ v4_1 ∧ v4_1 ≤ b4 ∧ (nn2 : Int) + v4_1 = b4 + 1) ∧ b2 ≤ v4_2 ∧ v4_2 ≤ b5 + 1 ∧ (0 : Int) + v4_2 = b5 + 2) : False := by
 omega
set_option maxHeartbeats 8000000 in
set_option maxRecDepth 100000 in
theorem spec_it_track_model_steps_1 (l0 : Nat) (b0 b1 b2 b3 b4 b5 : Int) (m0 m1 m2 m3 m4 m5 m6 m7 m8 m9 m10 m11 : Int) (hp : ((⟨⟨b0, b1, b2⟩, ⟨b3, b4, b5⟩⟩ : TBox)).lo.inS 20 = true ∧ ((⟨⟨b0, b1, b2⟩, ⟨b3, b4, b5⟩⟩ : TBox)).hi.inS 20 = true ∧ ((⟨⟨b0, b1, b2⟩, ⟨b3, b4, b5⟩⟩ : TBox)).ok) : vc_it_track_model_steps_1 (J_it_track_model_steps_1 l0 b0 b1 b2 b3 b4 b5 m0 m1 m2 m3 m4 m5 m6 m7 m8 m9 m10 m11) l0 b0 b1 b2 b3 b4 b5 m0 m1 m2 m3 m4 m5 m6 m7 m8 m9 m10 m11 := by
 obtain ⟨q1, q2, q3⟩ := hp
 obtain ⟨a1, a2, a3⟩ := inS_iff.1 q1
 obtain ⟨c1, c2, c3⟩ := inS_iff.1 q2
 obtain ⟨o1, o2, o3⟩ := q3
 simp only [TBox.rx, TBox.ry, TBox.rz, Rg.ok] at a1 a2 a3 c1 c2 c3 o1 o2 o3
 unfold vc_it_track_model_steps_1
 refine ⟨by omega, (b3 + 2 - b0).toNat, b0, rfl, by omega, ?_, by omega, by omega, by omega⟩
 rw [List.drop_zero]; rfl
theorem all_it_track_model_steps_1 (l0 : Nat) (b0 b1 b2 b3 b4 b5 : Int) (m0 m1 m2 m3 m4 m5 m6 m7 m8 m9 m10 m11 : Int) (hp : ((⟨⟨b0, b1, b2⟩, ⟨b3, b4, b5⟩⟩ : TBox)).lo.inS 20 = true ∧ ((⟨⟨b0, b1, b2⟩, ⟨b3, b4, b5⟩⟩ : TBox)).hi.inS 20 = true ∧ ((⟨⟨b0, b1, b2⟩, ⟨b3, b4, b5⟩⟩ : TBox)).ok) : AllY (J_it_track_model_steps_1 l0 b0 b1 b2 b3 b4 b5 m0 m1 m2 m3 m4 m5 m6 m7 m8 m9 m10 m11) (loopsIt Try.prog tab S48 ann_it_track_model_steps_1 (J_it_track_model_steps_1 l0 b0 b1 b2 b3 b4 b5 m0 m1 m2 m3 m4 m5 m6 m7 m8 m9 m10 m11) l0 (n_it_track_model_steps_1 b0 b1 b2 b3 b4 b5 m0 m1 m2 m3 m4 m5 m6 m7 m8 m9 m10 m11) (y_it_track_model_steps_1 b0 b1 b2 b3 b4 b5 m0 m1 m2 m3 m4 m5 m6 m7 m8 m9 m10 m11) (keepOf 1 [.px 6 0 (boxC [.v (.int .i64 b0), .v (.int .i64 b1), .v (.int .i64 b2), .v (.int .i64 b3), .v (.int .i64 b4), .v (.int .i64 b5)]), .px 12 0 (boxC [.v (.int .i64 m0), .v (.int .i64 m1), .v (.int .i64 m2), .v (.int .i64 m3), .v (.int .i64 m4), .v (.int .i64 m5), .v (.int .i64 m6), .v (.int .i64 m7), .v (.int .i64 m8), .v (.int .i64 m9), .v (.int .i64 m10), .v (.int .i64 m11)])]) Try.f134) := by
 rw [lp_it_track_model_steps_1]
 refine ⟨⟨?_, ?_⟩, ⟨?_, ?_⟩, ⟨?_, ?_⟩, trivial⟩
 ·intro c F s h
  obtain _ | ⟨g, F⟩ := F
  case cons => exact h.elim
  obtain ⟨w0, rfl, hi⟩ := h
  exact zero_it_track_model_steps_1_0 _ _ _ _ _ _ _ _ _ _ _ _ _ _ _ _ _ _ _ _ hi
 ·intro c n F s h
  obtain _ | ⟨g, F⟩ := F
  case cons => exact h.elim
  obtain ⟨w0, rfl, hi⟩ := h
  rw [er_it_track_model_steps_1_0]
  exact rnd_it_track_model_steps_1_0 l0 _ _ _ _ _ _ _ _ _ _ _ _ _ _ _ _ _ _ _ _ _ hp hi
 ·intro c F s h
  obtain _ | ⟨f0, F⟩ := F
  ·exact h.elim
  obtain _ | ⟨g, F⟩ := F
  case cons => exact h.elim
  obtain ⟨w0, w1, rfl, hi⟩ := h
  exact zero_it_track_model_steps_1_2 _ _ _ _ _ _ _ _ _ _ _ _ _ _ _ _ _ _ _ _ _ _ hi
 ·intro c n F s h
  obtain _ | ⟨f0, F⟩ := F
  ·exact h.elim
  obtain _ | ⟨g, F⟩ := F
  case cons => exact h.elim
  obtain ⟨w0, w1, rfl, hi⟩ := h
  rw [er_it_track_model_steps_1_2]
  exact rnd_it_track_model_steps_1_2 l0 _ _ _ _ _ _ _ _ _ _ _ _ _ _ _ _ _ _ _ _ _ _ _ hp hi
 ·intro c F s h
  obtain _ | ⟨f0, F⟩ := F
  ·exact h.elim
  obtain _ | ⟨f1, F⟩ := F
  ·exact h.elim
  obtain _ | ⟨g, F⟩ := F
  case cons => exact h.elim
  obtain ⟨w0, w1, w2, rfl, hi⟩ := h
  exact zero_it_track_model_steps_1_4 _ _ _ _ _ _ _ _ _ _ _ _ _ _ _ _ _ _ _ _ _ _ _ _ hi
 ·intro c n F s h
  obtain _ | ⟨f0, F⟩ := F
  ·exact h.elim
  obtain _ | ⟨f1, F⟩ := F
  ·exact h.elim
  obtain _ | ⟨g, F⟩ := F
  case cons => exact h.elim
  obtain ⟨w0, w1, w2, rfl, hi⟩ := h
  rw [er_it_track_model_steps_1_4]
  exact rnd_it_track_model_steps_1_4 l0 _ _ _ _ _ _ _ _ _ _ _ _ _ _ _ _ _ _ _ _ _ _ _ _ _ hp hi
def con_it_track_model_steps_1 : ItC := fun l => match l with
 | [.px 6 0 c_b, .px 12 0 c_m] => some ⟨n_it_track_model_steps_1 (cvInt (c_b 0)) (cvInt (c_b 1)) (cvInt (c_b 2)) (cvInt (c_b 3)) (cvInt (c_b 4)) (cvInt (c_b 5)) (cvInt (c_m 0)) (cvInt (c_m 1)) (cvInt (c_m 2)) (cvInt (c_m 3)) (cvInt (c_m 4)) (cvInt (c_m 5)) (cvInt (c_m 6)) (cvInt (c_m 7)) (cvInt (c_m 8)) (cvInt (c_m 9)) (cvInt (c_m 10)) (cvInt (c_m 11)), 1, y_it_track_model_steps_1 (cvInt (c_b 0)) (cvInt (c_b 1)) (cvInt (c_b 2)) (cvInt (c_b 3)) (cvInt (c_b 4)) (cvInt (c_b 5)) (cvInt (c_m 0)) (cvInt (c_m 1)) (cvInt (c_m 2)) (cvInt (c_m 3)) (cvInt (c_m 4)) (cvInt (c_m 5)) (cvInt (c_m 6)) (cvInt (c_m 7)) (cvInt (c_m 8)) (cvInt (c_m 9)) (cvInt (c_m 10)) (cvInt (c_m 11)), some (numsB 6 c_b = true ∧ numsB 12 c_m = true ∧ ((⟨⟨(cvInt (c_b 0)), (cvInt (c_b 1)), (cvInt (c_b 2))⟩, ⟨(cvInt (c_b 3)), (cvInt (c_b 4)), (cvInt (c_b 5))⟩⟩ : TBox)).lo.inS 20 = true ∧ ((⟨⟨(cvInt (c_b 0)), (cvInt (c_b 1)), (cvInt (c_b 2))⟩, ⟨(cvInt (c_b 3)), (cvInt (c_b 4)), (cvInt (c_b 5))⟩⟩ : TBox)).hi.inS 20 = true ∧ ((⟨⟨(cvInt (c_b 0)), (cvInt (c_b 1)), (cvInt (c_b 2))⟩, ⟨(cvInt (c_b 3)), (cvInt (c_b 4)), (cvInt (c_b 5))⟩⟩ : TBox)).ok)⟩
 | _ => none
theorem ok_it_track_model_steps_1 : OkIt Try.prog 134 con_it_track_model_steps_1 := by
 refine OkIt.it (ann := ann_it_track_model_steps_1) tabOK VS48 (fn := Try.f134) (by kernel_rfl) (by kernel_rfl) fun l R h hp => ?_
 unfold con_it_track_model_steps_1 at h
 split at h
 ·rename_i c_b c_m
  cases h
  obtain ⟨hq0, hq1, hp⟩ := hp
  refine ⟨[.px 6 0 (boxC (pxL 6 c_b)), .px 12 0 (boxC (pxL 12 c_m))], (leC_cons (leC_px hq0) (leC_cons (leC_px hq1) (LeC.refl []))), ?_, Nat.le_of_ble_eq_true (by kernel_rfl), fun i => ⟨rfl, rfl⟩, fun l0 => ⟨J_it_track_model_steps_1 l0 (cvInt (c_b 0)) (cvInt (c_b 1)) (cvInt (c_b 2)) (cvInt (c_b 3)) (cvInt (c_b 4)) (cvInt (c_b 5)) (cvInt (c_m 0)) (cvInt (c_m 1)) (cvInt (c_m 2)) (cvInt (c_m 3)) (cvInt (c_m 4)) (cvInt (c_m 5)) (cvInt (c_m 6)) (cvInt (c_m 7)) (cvInt (c_m 8)) (cvInt (c_m 9)) (cvInt (c_m 10)) (cvInt (c_m 11)), ?_, ?_⟩⟩
  ·exact fit_it_track_model_steps_1 (cvInt (c_b 0)) (cvInt (c_b 1)) (cvInt (c_b 2)) (cvInt (c_b 3)) (cvInt (c_b 4)) (cvInt (c_b 5)) (cvInt (c_m 0)) (cvInt (c_m 1)) (cvInt (c_m 2)) (cvInt (c_m 3)) (cvInt (c_m 4)) (cvInt (c_m 5)) (cvInt (c_m 6)) (cvInt (c_m 7)) (cvInt (c_m 8)) (cvInt (c_m 9)) (cvInt (c_m 10)) (cvInt (c_m 11))
  ·exact (ev_it_track_model_steps_1 _ l0 (cvInt (c_b 0)) (cvInt (c_b 1)) (cvInt (c_b 2)) (cvInt (c_b 3)) (cvInt (c_b 4)) (cvInt (c_b 5)) (cvInt (c_m 0)) (cvInt (c_m 1)) (cvInt (c_m 2)) (cvInt (c_m 3)) (cvInt (c_m 4)) (cvInt (c_m 5)) (cvInt (c_m 6)) (cvInt (c_m 7)) (cvInt (c_m 8)) (cvInt (c_m 9)) (cvInt (c_m 10)) (cvInt (c_m 11))).mpr (spec_it_track_model_steps_1 l0 (cvInt (c_b 0)) (cvInt (c_b 1)) (cvInt (c_b 2)) (cvInt (c_b 3)) (cvInt (c_b 4)) (cvInt (c_b 5)) (cvInt (c_m 0)) (cvInt (c_m 1)) (cvInt (c_m 2)) (cvInt (c_m 3)) (cvInt (c_m 4)) (cvInt (c_m 5)) (cvInt (c_m 6)) (cvInt (c_m 7)) (cvInt (c_m 8)) (cvInt (c_m 9)) (cvInt (c_m 10)) (cvInt (c_m 11)) hp)
  ·exact all_it_track_model_steps_1 l0 (cvInt (c_b 0)) (cvInt (c_b 1)) (cvInt (c_b 2)) (cvInt (c_b 3)) (cvInt (c_b 4)) (cvInt (c_b 5)) (cvInt (c_m 0)) (cvInt (c_m 1)) (cvInt (c_m 2)) (cvInt (c_m 3)) (cvInt (c_m 4)) (cvInt (c_m 5)) (cvInt (c_m 6)) (cvInt (c_m 7)) (cvInt (c_m 8)) (cvInt (c_m 9)) (cvInt (c_m 10)) (cvInt (c_m 11)) hp
 ·cases h
def I49 : It := addI noIt 134 con_it_track_model_steps_1
theorem VI49 : ValidIt Try.prog I49 := ValidIt.add ValidIt.no ok_it_track_model_steps_1
def S50 : Sum := S48
theorem VS50 : Valid Try.prog S50 := VS48
def S51 : Sum := S50
theorem VS51 : Valid Try.prog S51 := VS50
def S52 : Sum := S51
theorem VS52 : Valid Try.prog S52 := VS51
def vc_track_model_steps (m0 m1 m2 m3 m4 m5 m6 m7 m8 m9 m10 m11 : Int) (b0 b1 b2 b3 b4 b5 : Int) (post : DV → Prop) : Prop := post (.t (.fn 134 [.px 6 0 (boxC [.v (.int .i64 b0), .v (.int .i64 b1), .v (.int .i64 b2), .v (.int .i64 b3), .v (.int .i64 b4), .v (.int .i64 b5)]), .px 12 0 (boxC [.v (.int .i64 m0), .v (.int .i64 m1), .v (.int .i64 m2), .v (.int .i64 m3), .v (.int .i64 m4), .v (.int .i64 m5), .v (.int .i64 m6), .v (.int .i64 m7), .v (.int .i64 m8), .v (.int .i64 m9), .v (.int .i64 m10), .v (.int .i64 m11)])]))
def ann_track_model_steps : Ann := ⟨fun _ => none, fun _ => none, fun _ => [], I49, false, fun _ => none, fun _ => none⟩
theorem ev_track_model_steps (J : Inv) (m0 m1 m2 m3 m4 m5 m6 m7 m8 m9 m10 m11 : Int) (b0 b1 b2 b3 b4 b5 : Int) (post : DV → Prop) : evFn Try.prog tab S52 ann_track_model_steps J Try.f104 [.t (.a [.v (.int .i64 m0), .v (.int .i64 m1), .v (.int .i64 m2), .v (.int .i64 m3), .v (.int .i64 m4), .v (.int .i64 m5), .v (.int .i64 m6), .v (.int .i64 m7), .v (.int .i64 m8), .v (.int .i64 m9), .v (.int .i64 m10), .v (.int .i64 m11)]), .t (.a [.v (.int .i64 b0), .v (.int .i64 b1), .v (.int .i64 b2), .v (.int .i64 b3), .v (.int .i64 b4), .v (.int .i64 b5)])] post = vc_track_model_steps m0 m1 m2 m3 m4 m5 m6 m7 m8 m9 m10 m11 b0 b1 b2 b3 b4 b5 post := by kernel_rfl
theorem fit_track_model_steps : okFn ann_track_model_steps Try.f104 = true := by kernel_rfl
theorem lp_track_model_steps (J : Inv) (post : DV → Prop) : AllG J (loopsFn Try.prog tab S52 ann_track_model_steps J Try.f104 post) = (True) := by kernel_rfl
theorem spec_track_model_steps (m0 m1 m2 m3 m4 m5 m6 m7 m8 m9 m10 m11 : Int) (b0 b1 b2 b3 b4 b5 : Int) : vc_track_model_steps m0 m1 m2 m3 m4 m5 m6 m7 m8 m9 m10 m11 b0 b1 b2 b3 b4 b5 (fun r => LeD r (.t (.fn 134 [.px 6 0 (boxC [.v (.int .i64 b0), .v (.int .i64 b1), .v (.int .i64 b2), .v (.int .i64 b3), .v (.int .i64 b4), .v (.int .i64 b5)]), .px 12 0 (boxC [.v (.int .i64 m0), .v (.int .i64 m1), .v (.int .i64 m2), .v (.int .i64 m3), .v (.int .i64 m4), .v (.int .i64 m5), .v (.int .i64 m6), .v (.int .i64 m7), .v (.int .i64 m8), .v (.int .i64 m9), .v (.int .i64 m10), .v (.int .i64 m11)])]))) := by
 exact LeD.refl _
def con_track_model_steps : Con := fun args => match args with
 | [.t (.a [.v (.int .i64 m0), .v (.int .i64 m1), .v (.int .i64 m2), .v (.int .i64 m3), .v (.int .i64 m4), .v (.int .i64 m5), .v (.int .i64 m6), .v (.int .i64 m7), .v (.int .i64 m8), .v (.int .i64 m9), .v (.int .i64 m10), .v (.int .i64 m11)]), .t (.a [.v (.int .i64 b0), .v (.int .i64 b1), .v (.int .i64 b2), .v (.int .i64 b3), .v (.int .i64 b4), .v (.int .i64 b5)])] => some (.t (.fn 134 [.px 6 0 (boxC [.v (.int .i64 b0), .v (.int .i64 b1), .v (.int .i64 b2), .v (.int .i64 b3), .v (.int .i64 b4), .v (.int .i64 b5)]), .px 12 0 (boxC [.v (.int .i64 m0), .v (.int .i64 m1), .v (.int .i64 m2), .v (.int .i64 m3), .v (.int .i64 m4), .v (.int .i64 m5), .v (.int .i64 m6), .v (.int .i64 m7), .v (.int .i64 m8), .v (.int .i64 m9), .v (.int .i64 m10), .v (.int .i64 m11)])]), none, false)
 | _ => none
theorem ok_track_model_steps : Ok Try.prog 104 con_track_model_steps := by
 refine Ok.fn (ann := ann_track_model_steps) mixed tabOK VS52 VI49 (fn := Try.f104) (by kernel_rfl) (by kernel_rfl) fit_track_model_steps fun args r pre fresh h hp => ?_
 unfold con_track_model_steps at h
 split at h
 ·rename_i m0 m1 m2 m3 m4 m5 m6 m7 m8 m9 m10 m11 b0 b1 b2 b3 b4 b5
  cases h
  refine ⟨rfl, fun _ _ _ => False, _, LeA.refl _, Nat.le_of_ble_eq_true (by kernel_rfl), ?_, ?_⟩
  ·rw [ev_track_model_steps]; exact spec_track_model_steps m0 m1 m2 m3 m4 m5 m6 m7 m8 m9 m10 m11 b0 b1 b2 b3 b4 b5
  ·rw [lp_track_model_steps]; trivial
 ·cases h
def S53 : Sum := addS S52 104 con_track_model_steps
theorem VS53 : Valid Try.prog S53 := Valid.add VS52 ok_track_model_steps
def mk_track_StepsIn_0 (m0 m1 m2 m3 m4 m5 m6 m7 m8 m9 m10 m11 : Int) (b0 b1 b2 b3 b4 b5 : Int) (v0_0 : List (List CV)) : DS := ⟨[none, none, none, none, none, none, none, none, some (.t (.c (.p 8 0))), none, none, none, none, none, none, none, none, none, none, none, none, some (.t (.fn 134 [.px 6 0 (boxC [.v (.int .i64 b0), .v (.int .i64 b1), .v (.int .i64 b2), .v (.int .i64 b3), .v (.int .i64 b4), .v (.int .i64 b5)]), .px 12 0 (boxC [.v (.int .i64 m0), .v (.int .i64 m1), .v (.int .i64 m2), .v (.int .i64 m3), .v (.int .i64 m4), .v (.int .i64 m5), .v (.int .i64 m6), .v (.int .i64 m7), .v (.int .i64 m8), .v (.int .i64 m9), .v (.int .i64 m10), .v (.int .i64 m11)])])), none, none, none, none, none, none], [some (.gen 22 3 v0_0), none, none, none, none, none, none, none, some (.box 87 [.os 0]), none, none, none, none, none, none, none, none, none, none, none, none, none, none, none, none, none, none, none]⟩
def vc_track_StepsIn (J : Inv) (m0 m1 m2 m3 m4 m5 m6 m7 m8 m9 m10 m11 : Int) (b0 b1 b2 b3 b4 b5 : Int) (post : DV → Prop) : Prop := (fun (Z1 : TBox) => cond ((firstNZ [((⟨m0, m1, m2, m3, m4, m5, m6, m7, m8, m9, m10, m11⟩ : TMod)).err, (Z1).err]) != (0 : Int)) (post (.tu [.c (.v (.slice none 0 0)), .c (.v (.int .i64 (firstNZ [((⟨m0, m1, m2, m3, m4, m5, m6, m7, m8, m9, m10, m11⟩ : TMod)).err, (Z1).err])))])) ((numsB 6 (boxC [.v (.int .i64 b0), .v (.int .i64 b1), .v (.int .i64 b2), .v (.int .i64 b3), .v (.int .i64 b4), .v (.int .i64 b5)]) = true ∧ numsB 12 (boxC [.v (.int .i64 m0), .v (.int .i64 m1), .v (.int .i64 m2), .v (.int .i64 m3), .v (.int .i64 m4), .v (.int .i64 m5), .v (.int .i64 m6), .v (.int .i64 m7), .v (.int .i64 m8), .v (.int .i64 m9), .v (.int .i64 m10), .v (.int .i64 m11)]) = true ∧ (Z1).lo.inS 20 = true ∧ (Z1).hi.inS 20 = true ∧ (Z1).ok) ∧ (J 0 [0] (mk_track_StepsIn_0 m0 m1 m2 m3 m4 m5 m6 m7 m8 m9 m10 m11 b0 b1 b2 b3 b4 b5 ([]))))) (⟨⟨b0, b1, b2⟩, ⟨b3, b4, b5⟩⟩ : TBox)
def ann_track_StepsIn : Ann := ⟨fun _ => none, fun b => lookA b [(0, (none, some ⟨[8, 21], [8], []⟩))], fun b => (lookA b [(0, [(8, 0, 0, .gen 22 3 [])])]).getD [], I49, false, fun _ => none, fun _ => none⟩
theorem ev_track_StepsIn (J : Inv) (m0 m1 m2 m3 m4 m5 m6 m7 m8 m9 m10 m11 : Int) (b0 b1 b2 b3 b4 b5 : Int) (post : DV → Prop) : evFn Try.prog tab S53 ann_track_StepsIn J Try.f48 [.t (.a [.v (.int .i64 m0), .v (.int .i64 m1), .v (.int .i64 m2), .v (.int .i64 m3), .v (.int .i64 m4), .v (.int .i64 m5), .v (.int .i64 m6), .v (.int .i64 m7), .v (.int .i64 m8), .v (.int .i64 m9), .v (.int .i64 m10), .v (.int .i64 m11)]), .t (.a [.v (.int .i64 b0), .v (.int .i64 b1), .v (.int .i64 b2), .v (.int .i64 b3), .v (.int .i64 b4), .v (.int .i64 b5)])] post = vc_track_StepsIn J m0 m1 m2 m3 m4 m5 m6 m7 m8 m9 m10 m11 b0 b1 b2 b3 b4 b5 post := by kernel_rfl
theorem fit_track_StepsIn : okFn ann_track_StepsIn Try.f48 = true := by kernel_rfl
def rd_track_StepsIn_0 (J : Inv) (m0 m1 m2 m3 m4 m5 m6 m7 m8 m9 m10 m11 : Int) (b0 b1 b2 b3 b4 b5 : Int) (v0_0 : List (List CV)) (nn0 : Nat) (post : DV → Prop) : Prop := (fun (Z1 : TMod) (Z2 : TBox) => (nn0 = (n_it_track_model_steps_1 b0 b1 b2 b3 b4 b5 m0 m1 m2 m3 m4 m5 m6 m7 m8 m9 m10 m11) → post (.tu [.c (.sl 3 v0_0.length (genC v0_0)), .c (.v (.int .i64 0))])) ∧ (nn0 < (n_it_track_model_steps_1 b0 b1 b2 b3 b4 b5 m0 m1 m2 m3 m4 m5 m6 m7 m8 m9 m10 m11) → (roomP 24 (v0_0.length + ([[.v (.int .i64 ((plAt ((Z1).steps Z2) nn0).x)), .v (.int .i64 ((plAt ((Z1).steps Z2) nn0).y)), .v (.int .i64 ((plAt ((Z1).steps Z2) nn0).z))]] : List (List CV)).length)) ∧ (((some (.t (.fn 134 [.px 6 0 (boxC [.v (.int .i64 b0), .v (.int .i64 b1), .v (.int .i64 b2), .v (.int .i64 b3), .v (.int .i64 b4), .v (.int .i64 b5)]), .px 12 0 (boxC [.v (.int .i64 m0), .v (.int .i64 m1), .v (.int .i64 m2), .v (.int .i64 m3), .v (.int .i64 m4), .v (.int .i64 m5), .v (.int .i64 m6), .v (.int .i64 m7), .v (.int .i64 m8), .v (.int .i64 m9), .v (.int .i64 m10), .v (.int .i64 m11)])])) : Option DV) = some (.t (.fn 134 [.px 6 0 (boxC [.v (.int .i64 b0), .v (.int .i64 b1), .v (.int .i64 b2), .v (.int .i64 b3), .v (.int .i64 b4), .v (.int .i64 b5)]), .px 12 0 (boxC [.v (.int .i64 m0), .v (.int .i64 m1), .v (.int .i64 m2), .v (.int .i64 m3), .v (.int .i64 m4), .v (.int .i64 m5), .v (.int .i64 m6), .v (.int .i64 m7), .v (.int .i64 m8), .v (.int .i64 m9), .v (.int .i64 m10), .v (.int .i64 m11)])]))) ∧ J 0 [nn0 + 1] (mk_track_StepsIn_0 m0 m1 m2 m3 m4 m5 m6 m7 m8 m9 m10 m11 b0 b1 b2 b3 b4 b5 (v0_0 ++ ([[.v (.int .i64 ((plAt ((Z1).steps Z2) nn0).x)), .v (.int .i64 ((plAt ((Z1).steps Z2) nn0).y)), .v (.int .i64 ((plAt ((Z1).steps Z2) nn0).z))]] : List (List CV))))))) (⟨m0, m1, m2, m3, m4, m5, m6, m7, m8, m9, m10, m11⟩ : TMod) (⟨⟨b0, b1, b2⟩, ⟨b3, b4, b5⟩⟩ : TBox)
theorem er_track_StepsIn_0 (J : Inv) (m0 m1 m2 m3 m4 m5 m6 m7 m8 m9 m10 m11 : Int) (b0 b1 b2 b3 b4 b5 : Int) (v0_0 : List (List CV)) (nn0 : Nat) (post : DV → Prop) : round Try.prog tab S53 ann_track_StepsIn J Try.f48 post 0 (nn0 :: []) (mk_track_StepsIn_0 m0 m1 m2 m3 m4 m5 m6 m7 m8 m9 m10 m11 b0 b1 b2 b3 b4 b5 v0_0) = rd_track_StepsIn_0 J m0 m1 m2 m3 m4 m5 m6 m7 m8 m9 m10 m11 b0 b1 b2 b3 b4 b5 v0_0 nn0 post := by kernel_rfl
theorem lp_track_StepsIn (J : Inv) (post : DV → Prop) : AllG J (loopsFn Try.prog tab S53 ann_track_StepsIn J Try.f48 post) = ((∀ i s, J 0 [i] s → round Try.prog tab S53 ann_track_StepsIn J Try.f48 post 0 [i] s) ∧ True) := by kernel_rfl
def J_track_StepsIn (m0 m1 m2 m3 m4 m5 m6 m7 m8 m9 m10 m11 : Int) (b0 b1 b2 b3 b4 b5 : Int) : Inv := fun b F s => match b, F with
 | 0, [nn0] => ∃ (v0_0 : List (List CV)), s = mk_track_StepsIn_0 m0 m1 m2 m3 m4 m5 m6 m7 m8 m9 m10 m11 b0 b1 b2 b3 b4 b5 v0_0 ∧ (firstNZ [(⟨m0, m1, m2, m3, m4, m5, m6, m7, m8, m9, m10, m11⟩ : TMod).err, (⟨⟨b0, b1, b2⟩, ⟨b3, b4, b5⟩⟩ : TBox).err] = 0 ∧ nn0 ≤ ((⟨m0, m1, m2, m3, m4, m5, m6, m7, m8, m9, m10, m11⟩ : TMod).steps (⟨⟨b0, b1, b2⟩, ⟨b3, b4, b5⟩⟩ : TBox)).length ∧ v0_0 = (((⟨m0, m1, m2, m3, m4, m5, m6, m7, m8, m9, m10, m11⟩ : TMod).steps (⟨⟨b0, b1, b2⟩, ⟨b3, b4, b5⟩⟩ : TBox)).take nn0).map v3Cv)
 | _, _ => False
set_option maxHeartbeats 8000000 in
set_option maxRecDepth 100000 in
theorem rnd_track_StepsIn_0 (m0 m1 m2 m3 m4 m5 m6 m7 m8 m9 m10 m11 : Int) (b0 b1 b2 b3 b4 b5 : Int) (v0_0 : List (List CV)) (nn0 : Nat) (hi : firstNZ [(⟨m0, m1, m2, m3, m4, m5, m6, m7, m8, m9, m10, m11⟩ : TMod).err, (⟨⟨b0, b1, b2⟩, ⟨b3, b4, b5⟩⟩ : TBox).err] = 0 ∧ nn0 ≤ ((⟨m0, m1, m2, m3, m4, m5, m6, m7, m8, m9, m10, m11⟩ : TMod).steps (⟨⟨b0, b1, b2⟩, ⟨b3, b4, b5⟩⟩ : TBox)).length ∧ v0_0 = (((⟨m0, m1, m2, m3, m4, m5, m6, m7, m8, m9, m10, m11⟩ : TMod).steps (⟨⟨b0, b1, b2⟩, ⟨b3, b4, b5⟩⟩ : TBox)).take nn0).map v3Cv) : rd_track_StepsIn_0 (J_track_StepsIn m0 m1 m2 m3 m4 m5 m6 m7 m8 m9 m10 m11 b0 b1 b2 b3 b4 b5) m0 m1 m2 m3 m4 m5 m6 m7 m8 m9 m10 m11 b0 b1 b2 b3 b4 b5 v0_0 nn0 (fun r => LeD r (.tu [.c (.sl 3 ((stepsL (⟨m0, m1, m2, m3, m4, m5, m6, m7, m8, m9, m10, m11⟩ : TMod) (⟨⟨b0, b1, b2⟩, ⟨b3, b4, b5⟩⟩ : TBox)).length) (plsC (stepsL (⟨m0, m1, m2, m3, m4, m5, m6, m7, m8, m9, m10, m11⟩ : TMod) (⟨⟨b0, b1, b2⟩, ⟨b3, b4, b5⟩⟩ : TBox)))), .c (.v (.int .i64 (firstNZ [((⟨m0, m1, m2, m3, m4, m5, m6, m7, m8, m9, m10, m11⟩ : TMod)).err, ((⟨⟨b0, b1, b2⟩, ⟨b3, b4, b5⟩⟩ : TBox)).err])))])) := by
 obtain ⟨i1, i2, i3⟩ := hi
 have hb := box_in (fn2 i1).2
 have hm := len_68921 (b := (⟨⟨b0, b1, b2⟩, ⟨b3, b4, b5⟩⟩ : TBox)) hb.1 hb.2 (box_ok (fn2 i1).2)
 have hle := List.length_filter_le (⟨m0, m1, m2, m3, m4, m5, m6, m7, m8, m9, m10, m11⟩ : TMod).permB (⟨⟨b0, b1, b2⟩, ⟨b3, b4, b5⟩⟩ : TBox).all
 have hl2 : ((⟨m0, m1, m2, m3, m4, m5, m6, m7, m8, m9, m10, m11⟩ : TMod).steps (⟨⟨b0, b1, b2⟩, ⟨b3, b4, b5⟩⟩ : TBox)).length ≤ 68921 := Nat.le_trans hle hm
 unfold rd_track_StepsIn_0
 refine ⟨fun h => ?_, fun h => ?_⟩
 ·have h : nn0 = ((⟨m0, m1, m2, m3, m4, m5, m6, m7, m8, m9, m10, m11⟩ : TMod).steps (⟨⟨b0, b1, b2⟩, ⟨b3, b4, b5⟩⟩ : TBox)).length := h
  rw [show stepsL (⟨m0, m1, m2, m3, m4, m5, m6, m7, m8, m9, m10, m11⟩ : TMod) (⟨⟨b0, b1, b2⟩, ⟨b3, b4, b5⟩⟩ : TBox) = (⟨m0, m1, m2, m3, m4, m5, m6, m7, m8, m9, m10, m11⟩ : TMod).steps (⟨⟨b0, b1, b2⟩, ⟨b3, b4, b5⟩⟩ : TBox) from if_neg (by rw [i1]; simp), i1, i3, h, List.take_length]
  exact le_tu (le_v3 _) (LeD.refl _)
 ·have h : nn0 < ((⟨m0, m1, m2, m3, m4, m5, m6, m7, m8, m9, m10, m11⟩ : TMod).steps (⟨⟨b0, b1, b2⟩, ⟨b3, b4, b5⟩⟩ : TBox)).length := h
  refine ⟨?_, rfl, _, rfl, i1, h, ?_⟩
  ·rw [i3]; unfold roomP maxLen; simp; omega
  ·rw [i3, plAt_take h, List.map_append]; rfl
set_option maxHeartbeats 8000000 in
set_option maxRecDepth 100000 in
theorem spec_track_StepsIn (m0 m1 m2 m3 m4 m5 m6 m7 m8 m9 m10 m11 : Int) (b0 b1 b2 b3 b4 b5 : Int) : vc_track_StepsIn (J_track_StepsIn m0 m1 m2 m3 m4 m5 m6 m7 m8 m9 m10 m11 b0 b1 b2 b3 b4 b5) m0 m1 m2 m3 m4 m5 m6 m7 m8 m9 m10 m11 b0 b1 b2 b3 b4 b5 (fun r => LeD r (.tu [.c (.sl 3 ((stepsL (⟨m0, m1, m2, m3, m4, m5, m6, m7, m8, m9, m10, m11⟩ : TMod) (⟨⟨b0, b1, b2⟩, ⟨b3, b4, b5⟩⟩ : TBox)).length) (plsC (stepsL (⟨m0, m1, m2, m3, m4, m5, m6, m7, m8, m9, m10, m11⟩ : TMod) (⟨⟨b0, b1, b2⟩, ⟨b3, b4, b5⟩⟩ : TBox)))), .c (.v (.int .i64 (firstNZ [((⟨m0, m1, m2, m3, m4, m5, m6, m7, m8, m9, m10, m11⟩ : TMod)).err, ((⟨⟨b0, b1, b2⟩, ⟨b3, b4, b5⟩⟩ : TBox)).err])))])) := by
 unfold vc_track_StepsIn
 refine cond_i (fun h => ?_) (fun h => ?_)
 ·have h : firstNZ [(⟨m0, m1, m2, m3, m4, m5, m6, m7, m8, m9, m10, m11⟩ : TMod).err, (⟨⟨b0, b1, b2⟩, ⟨b3, b4, b5⟩⟩ : TBox).err] ≠ 0 := by simpa using h
  rw [show stepsL (⟨m0, m1, m2, m3, m4, m5, m6, m7, m8, m9, m10, m11⟩ : TMod) (⟨⟨b0, b1, b2⟩, ⟨b3, b4, b5⟩⟩ : TBox) = [] from if_pos h]
  exact le_tu le_nil (LeD.refl _)
 ·have h : firstNZ [(⟨m0, m1, m2, m3, m4, m5, m6, m7, m8, m9, m10, m11⟩ : TMod).err, (⟨⟨b0, b1, b2⟩, ⟨b3, b4, b5⟩⟩ : TBox).err] = 0 := by simpa using h
  have hb := box_in (fn2 h).2
  exact ⟨⟨rfl, rfl, hb.1, hb.2, box_ok (fn2 h).2⟩, _, rfl, h, Nat.zero_le _, rfl⟩
theorem all_track_StepsIn (m0 m1 m2 m3 m4 m5 m6 m7 m8 m9 m10 m11 : Int) (b0 b1 b2 b3 b4 b5 : Int) : AllG (J_track_StepsIn m0 m1 m2 m3 m4 m5 m6 m7 m8 m9 m10 m11 b0 b1 b2 b3 b4 b5) (loopsFn Try.prog tab S53 ann_track_StepsIn (J_track_StepsIn m0 m1 m2 m3 m4 m5 m6 m7 m8 m9 m10 m11 b0 b1 b2 b3 b4 b5) Try.f48 (fun r => LeD r (.tu [.c (.sl 3 ((stepsL (⟨m0, m1, m2, m3, m4, m5, m6, m7, m8, m9, m10, m11⟩ : TMod) (⟨⟨b0, b1, b2⟩, ⟨b3, b4, b5⟩⟩ : TBox)).length) (plsC (stepsL (⟨m0, m1, m2, m3, m4, m5, m6, m7, m8, m9, m10, m11⟩ : TMod) (⟨⟨b0, b1, b2⟩, ⟨b3, b4, b5⟩⟩ : TBox)))), .c (.v (.int .i64 (firstNZ [((⟨m0, m1, m2, m3, m4, m5, m6, m7, m8, m9, m10, m11⟩ : TMod)).err, ((⟨⟨b0, b1, b2⟩, ⟨b3, b4, b5⟩⟩ : TBox)).err])))]))) := by
 rw [lp_track_StepsIn]
 refine ⟨?_, trivial⟩
 ·intro i s h
  obtain ⟨w0, rfl, hi⟩ := h
  rw [er_track_StepsIn_0]
  exact rnd_track_StepsIn_0 m0 m1 m2 m3 m4 m5 m6 m7 m8 m9 m10 m11 b0 b1 b2 b3 b4 b5 _ _ hi
def con_track_StepsIn : Con := fun args => match args with
 | [.t (.a [.v (.int .i64 m0), .v (.int .i64 m1), .v (.int .i64 m2), .v (.int .i64 m3), .v (.int .i64 m4), .v (.int .i64 m5), .v (.int .i64 m6), .v (.int .i64 m7), .v (.int .i64 m8), .v (.int .i64 m9), .v (.int .i64 m10), .v (.int .i64 m11)]), .t (.a [.v (.int .i64 b0), .v (.int .i64 b1), .v (.int .i64 b2), .v (.int .i64 b3), .v (.int .i64 b4), .v (.int .i64 b5)])] => some (.tu [.c (.sl 3 ((stepsL (⟨m0, m1, m2, m3, m4, m5, m6, m7, m8, m9, m10, m11⟩ : TMod) (⟨⟨b0, b1, b2⟩, ⟨b3, b4, b5⟩⟩ : TBox)).length) (plsC (stepsL (⟨m0, m1, m2, m3, m4, m5, m6, m7, m8, m9, m10, m11⟩ : TMod) (⟨⟨b0, b1, b2⟩, ⟨b3, b4, b5⟩⟩ : TBox)))), .c (.v (.int .i64 (firstNZ [((⟨m0, m1, m2, m3, m4, m5, m6, m7, m8, m9, m10, m11⟩ : TMod)).err, ((⟨⟨b0, b1, b2⟩, ⟨b3, b4, b5⟩⟩ : TBox)).err])))], none, false)
 | _ => none
theorem ok_track_StepsIn : Ok Try.prog 48 con_track_StepsIn := by
 refine Ok.fn (ann := ann_track_StepsIn) mixed tabOK VS53 VI49 (fn := Try.f48) (by kernel_rfl) (by kernel_rfl) fit_track_StepsIn fun args r pre fresh h hp => ?_
 unfold con_track_StepsIn at h
 split at h
 ·rename_i m0 m1 m2 m3 m4 m5 m6 m7 m8 m9 m10 m11 b0 b1 b2 b3 b4 b5
  cases h
  refine ⟨rfl, J_track_StepsIn m0 m1 m2 m3 m4 m5 m6 m7 m8 m9 m10 m11 b0 b1 b2 b3 b4 b5, _, LeA.refl _, Nat.le_of_ble_eq_true (by kernel_rfl), ?_, ?_⟩
  ·rw [ev_track_StepsIn]; exact spec_track_StepsIn m0 m1 m2 m3 m4 m5 m6 m7 m8 m9 m10 m11 b0 b1 b2 b3 b4 b5
  ·exact all_track_StepsIn m0 m1 m2 m3 m4 m5 m6 m7 m8 m9 m10 m11 b0 b1 b2 b3 b4 b5
 ·cases h
def S54 : Sum := addS S53 48 con_track_StepsIn
theorem VS54 : Valid Try.prog S54 := Valid.add VS53 ok_track_StepsIn
end Go.Proofs.Ytlmdmpjfehpjeaa
set_option linter.unusedVariables false
set_option linter.unusedSimpArgs false
namespace Go.Proofs.Ytlmdmpjfehpjeaa
open Go.RowKit Ev
def divE (b : TBox) : Int := if b.err ≠ 0 then b.err else if b.count = 1 then 12 else 0
def dv1 (b : TBox) : TBox := if divE b = 0 then b.half1 else ⟨⟨0, 0, 0⟩, ⟨0, 0, 0⟩⟩
def dv2 (b : TBox) : TBox := if divE b = 0 then b.half2 else ⟨⟨0, 0, 0⟩, ⟨0, 0, 0⟩⟩
def vc_track_halves (b0 b1 b2 b3 b4 b5 : Int) (post : DV → Prop) : Prop := (0 ≤ (0 : Int) ∧ (0 : Int) < ((3 : Nat) : Int)) ∧ ((0 ≤ (0 : Int) ∧ (0 : Int) < ((3 : Nat) : Int)) ∧ (lt (IntKind.i64.wrap (b3 - b0)) fun x1 => (0 ≤ (0 : Int) ∧ (0 : Int) < ((3 : Nat) : Int)) ∧ ((0 ≤ (0 : Int) ∧ (0 : Int) < ((3 : Nat) : Int)) ∧ (lt (IntKind.i64.wrap (b3 - b0)) fun x2 => cond (decide (x1 > x2)) ((0 ≤ (1 : Int) ∧ (1 : Int) < ((3 : Nat) : Int)) ∧ ((0 ≤ (1 : Int) ∧ (1 : Int) < ((3 : Nat) : Int)) ∧ (lt (IntKind.i64.wrap (b4 - b1)) fun x3 => (0 ≤ (0 : Int) ∧ (0 : Int) < ((3 : Nat) : Int)) ∧ ((0 ≤ (0 : Int) ∧ (0 : Int) < ((3 : Nat) : Int)) ∧ (lt (IntKind.i64.wrap (b3 - b0)) fun x4 => cond (decide (x3 > x4)) ((0 ≤ (2 : Int) ∧ (2 : Int) < ((3 : Nat) : Int)) ∧ ((0 ≤ (2 : Int) ∧ (2 : Int) < ((3 : Nat) : Int)) ∧ (lt (IntKind.i64.wrap (b5 - b2)) fun x5 => (0 ≤ (1 : Int) ∧ (1 : Int) < ((3 : Nat) : Int)) ∧ ((0 ≤ (1 : Int) ∧ (1 : Int) < ((3 : Nat) : Int)) ∧ (lt (IntKind.i64.wrap (b4 - b1)) fun x6 => cond (decide (x5 > x6)) ((0 ≤ (2 : Int) ∧ (2 : Int) < ((3 : Nat) : Int)) ∧ ((0 ≤ (2 : Int) ∧ (2 : Int) < ((3 : Nat) : Int)) ∧ ((0 ≤ (2 : Int) ∧ (2 : Int) < ((3 : Nat) : Int)) ∧ (lt (IntKind.i64.wrap (b5 - b2)) fun x7 => lt (IntKind.i64.wrap (Int.tdiv x7 (2 : Int))) fun x8 => (IntKind.i64 = IntKind.i64 ∧ (2 : Int) ≠ 0) ∧ (lt (IntKind.i64.wrap (b2 + x8)) fun x9 => lt (IntKind.i64.wrap (x9 + (1 : Int))) fun x10 => (0 ≤ (2 : Int) ∧ (2 : Int) < ((3 : Nat) : Int)) ∧ ((0 ≤ (2 : Int) ∧ (2 : Int) < ((3 : Nat) : Int)) ∧ (post (.t (.a [.v (.int .i64 b0), .v (.int .i64 b1), .v (.int .i64 b2), .v (.int .i64 b3), .v (.int .i64 b4), .v (.int .i64 x9), .v (.int .i64 b0), .v (.int .i64 b1), .v (.int .i64 x10), .v (.int .i64 b3), .v (.int .i64 b4), .v (.int .i64 b5)]))))))))) ((0 ≤ (1 : Int) ∧ (1 : Int) < ((3 : Nat) : Int)) ∧ ((0 ≤ (1 : Int) ∧ (1 : Int) < ((3 : Nat) : Int)) ∧ ((0 ≤ (1 : Int) ∧ (1 : Int) < ((3 : Nat) : Int)) ∧ (lt (IntKind.i64.wrap (b4 - b1)) fun x11 => lt (IntKind.i64.wrap (Int.tdiv x11 (2 : Int))) fun x12 => (IntKind.i64 = IntKind.i64 ∧ (2 : Int) ≠ 0) ∧ (lt (IntKind.i64.wrap (b1 + x12)) fun x13 => lt (IntKind.i64.wrap (x13 + (1 : Int))) fun x14 => (0 ≤ (1 : Int) ∧ (1 : Int) < ((3 : Nat) : Int)) ∧ ((0 ≤ (1 : Int) ∧ (1 : Int) < ((3 : Nat) : Int)) ∧ (post (.t (.a [.v (.int .i64 b0), .v (.int .i64 b1), .v (.int .i64 b2), .v (.int .i64 b3), .v (.int .i64 x13), .v (.int .i64 b5), .v (.int .i64 b0), .v (.int .i64 x14), .v (.int .i64 b2), .v (.int .i64 b3), .v (.int .i64 b4), .v (.int .i64 b5)])))))))))))))) ((0 ≤ (2 : Int) ∧ (2 : Int) < ((3 : Nat) : Int)) ∧ ((0 ≤ (2 : Int) ∧ (2 : Int) < ((3 : Nat) : Int)) ∧ (lt (IntKind.i64.wrap (b5 - b2)) fun x15 => (0 ≤ (0 : Int) ∧ (0 : Int) < ((3 : Nat) : Int)) ∧ ((0 ≤ (0 : Int) ∧ (0 : Int) < ((3 : Nat) : Int)) ∧ (lt (IntKind.i64.wrap (b3 - b0)) fun x16 => cond (decide (x15 > x16)) ((0 ≤ (2 : Int) ∧ (2 : Int) < ((3 : Nat) : Int)) ∧ ((0 ≤ (2 : Int) ∧ (2 : Int) < ((3 : Nat) : Int)) ∧ ((0 ≤ (2 : Int) ∧ (2 : Int) < ((3 : Nat) : Int)) ∧ (lt (IntKind.i64.wrap (b5 - b2)) fun x17 => lt (IntKind.i64.wrap (Int.tdiv x17 (2 : Int))) fun x18 => (IntKind.i64 = IntKind.i64 ∧ (2 : Int) ≠ 0) ∧ (lt (IntKind.i64.wrap (b2 + x18)) fun x19 => lt (IntKind.i64.wrap (x19 + (1 : Int))) fun x20 => (0 ≤ (2 : Int) ∧ (2 : Int) < ((3 : Nat) : Int)) ∧ ((0 ≤ (2 : Int) ∧ (2 : Int) < ((3 : Nat) : Int)) ∧ (post (.t (.a [.v (.int .i64 b0), .v (.int .i64 b1), .v (.int .i64 b2), .v (.int .i64 b3), .v (.int .i64 b4), .v (.int .i64 x19), .v (.int .i64 b0), .v (.int .i64 b1), .v (.int .i64 x20), .v (.int .i64 b3), .v (.int .i64 b4), .v (.int .i64 b5)]))))))))) ((0 ≤ (0 : Int) ∧ (0 : Int) < ((3 : Nat) : Int)) ∧ ((0 ≤ (0 : Int) ∧ (0 : Int) < ((3 : Nat) : Int)) ∧ ((0 ≤ (0 : Int) ∧ (0 : Int) < ((3 : Nat) : Int)) ∧ (lt (IntKind.i64.wrap (b3 - b0)) fun x21 => lt (IntKind.i64.wrap (Int.tdiv x21 (2 : Int))) fun x22 => (IntKind.i64 = IntKind.i64 ∧ (2 : Int) ≠ 0) ∧ (lt (IntKind.i64.wrap (b0 + x22)) fun x23 => lt (IntKind.i64.wrap (x23 + (1 : Int))) fun x24 => (0 ≤ (0 : Int) ∧ (0 : Int) < ((3 : Nat) : Int)) ∧ ((0 ≤ (0 : Int) ∧ (0 : Int) < ((3 : Nat) : Int)) ∧ (post (.t (.a [.v (.int .i64 b0), .v (.int .i64 b1), .v (.int .i64 b2), .v (.int .i64 x23), .v (.int .i64 b4), .v (.int .i64 b5), .v (.int .i64 x24), .v (.int .i64 b1), .v (.int .i64 b2), .v (.int .i64 b3), .v (.int .i64 b4), .v (.int .i64 b5)]))))))))))))))))))) ((0 ≤ (1 : Int) ∧ (1 : Int) < ((3 : Nat) : Int)) ∧ ((0 ≤ (1 : Int) ∧ (1 : Int) < ((3 : Nat) : Int)) ∧ (lt (IntKind.i64.wrap (b4 - b1)) fun x25 => (0 ≤ (0 : Int) ∧ (0 : Int) < ((3 : Nat) : Int)) ∧ ((0 ≤ (0 : Int) ∧ (0 : Int) < ((3 : Nat) : Int)) ∧ (lt (IntKind.i64.wrap (b3 - b0)) fun x26 => cond (decide (x25 > x26)) ((0 ≤ (2 : Int) ∧ (2 : Int) < ((3 : Nat) : Int)) ∧ ((0 ≤ (2 : Int) ∧ (2 : Int) < ((3 : Nat) : Int)) ∧ (lt (IntKind.i64.wrap (b5 - b2)) fun x27 => (0 ≤ (1 : Int) ∧ (1 : Int) < ((3 : Nat) : Int)) ∧ ((0 ≤ (1 : Int) ∧ (1 : Int) < ((3 : Nat) : Int)) ∧ (lt (IntKind.i64.wrap (b4 - b1)) fun x28 => cond (decide (x27 > x28)) ((0 ≤ (2 : Int) ∧ (2 : Int) < ((3 : Nat) : Int)) ∧ ((0 ≤ (2 : Int) ∧ (2 : Int) < ((3 : Nat) : Int)) ∧ ((0 ≤ (2 : Int) ∧ (2 : Int) < ((3 : Nat) : Int)) ∧ (lt (IntKind.i64.wrap (b5 - b2)) fun x29 => lt (IntKind.i64.wrap (Int.tdiv x29 (2 : Int))) fun x30 => (IntKind.i64 = IntKind.i64 ∧ (2 : Int) ≠ 0) ∧ (lt (IntKind.i64.wrap (b2 + x30)) fun x31 => lt (IntKind.i64.wrap (x31 + (1 : Int))) fun x32 => (0 ≤ (2 : Int) ∧ (2 : Int) < ((3 : Nat) : Int)) ∧ ((0 ≤ (2 : Int) ∧ (2 : Int) < ((3 : Nat) : Int)) ∧ (post (.t (.a [.v (.int .i64 b0), .v (.int .i64 b1), .v (.int .i64 b2), .v (.int .i64 b3), .v (.int .i64 b4), .v (.int .i64 x31), .v (.int .i64 b0), .v (.int .i64 b1), .v (.int .i64 x32), .v (.int .i64 b3), .v (.int .i64 b4), .v (.int .i64 b5)]))))))))) ((0 ≤ (1 : Int) ∧ (1 : Int) < ((3 : Nat) : Int)) ∧ ((0 ≤ (1 : Int) ∧ (1 : Int) < ((3 : Nat) : Int)) ∧ ((0 ≤ (1 : Int) ∧ (1 : Int) < ((3 : Nat) : Int)) ∧ (lt (IntKind.i64.wrap (b4 - b1)) fun x33 => lt (IntKind.i64.wrap (Int.tdiv x33 (2 : Int))) fun x34 => (IntKind.i64 = IntKind.i64 ∧ (2 : Int) ≠ 0) ∧ (lt (IntKind.i64.wrap (b1 + x34)) fun x35 => lt (IntKind.i64.wrap (x35 + (1 : Int))) fun x36 => (0 ≤ (1 : Int) ∧ (1 : Int) < ((3 : Nat) : Int)) ∧ ((0 ≤ (1 : Int) ∧ (1 : Int) < ((3 : Nat) : Int)) ∧ (post (.t (.a [.v (.int .i64 b0), .v (.int .i64 b1), .v (.int .i64 b2), .v (.int .i64 b3), .v (.int .i64 x35), .v (.int .i64 b5), .v (.int .i64 b0), .v (.int .i64 x36), .v (.int .i64 b2), .v (.int .i64 b3), .v (.int .i64 b4), .v (.int .i64 b5)])))))))))))))) ((0 ≤ (2 : Int) ∧ (2 : Int) < ((3 : Nat) : Int)) ∧ ((0 ≤ (2 : Int) ∧ (2 : Int) < ((3 : Nat) : Int)) ∧ (lt (IntKind.i64.wrap (b5 - b2)) fun x37 => (0 ≤ (0 : Int) ∧ (0 : Int) < ((3 : Nat) : Int)) ∧ ((0 ≤ (0 : Int) ∧ (0 : Int) < ((3 : Nat) : Int)) ∧ (lt (IntKind.i64.wrap (b3 - b0)) fun x38 => cond (decide (x37 > x38)) ((0 ≤ (2 : Int) ∧ (2 : Int) < ((3 : Nat) : Int)) ∧ ((0 ≤ (2 : Int) ∧ (2 : Int) < ((3 : Nat) : Int)) ∧ ((0 ≤ (2 : Int) ∧ (2 : Int) < ((3 : Nat) : Int)) ∧ (lt (IntKind.i64.wrap (b5 - b2)) fun x39 => lt (IntKind.i64.wrap (Int.tdiv x39 (2 : Int))) fun x40 => (IntKind.i64 = IntKind.i64 ∧ (2 : Int) ≠ 0) ∧ (lt (IntKind.i64.wrap (b2 + x40)) fun x41 => lt (IntKind.i64.wrap (x41 + (1 : Int))) fun x42 => (0 ≤ (2 : Int) ∧ (2 : Int) < ((3 : Nat) : Int)) ∧ ((0 ≤ (2 : Int) ∧ (2 : Int) < ((3 : Nat) : Int)) ∧ (post (.t (.a [.v (.int .i64 b0), .v (.int .i64 b1), .v (.int .i64 b2), .v (.int .i64 b3), .v (.int .i64 b4), .v (.int .i64 x41), .v (.int .i64 b0), .v (.int .i64 b1), .v (.int .i64 x42), .v (.int .i64 b3), .v (.int .i64 b4), .v (.int .i64 b5)]))))))))) ((0 ≤ (0 : Int) ∧ (0 : Int) < ((3 : Nat) : Int)) ∧ ((0 ≤ (0 : Int) ∧ (0 : Int) < ((3 : Nat) : Int)) ∧ ((0 ≤ (0 : Int) ∧ (0 : Int) < ((3 : Nat) : Int)) ∧ (lt (IntKind.i64.wrap (b3 - b0)) fun x43 => lt (IntKind.i64.wrap (Int.tdiv x43 (2 : Int))) fun x44 => (IntKind.i64 = IntKind.i64 ∧ (2 : Int) ≠ 0) ∧ (lt (IntKind.i64.wrap (b0 + x44)) fun x45 => lt (IntKind.i64.wrap (x45 + (1 : Int))) fun x46 => (0 ≤ (0 : Int) ∧ (0 : Int) < ((3 : Nat) : Int)) ∧ ((0 ≤ (0 : Int) ∧ (0 : Int) < ((3 : Nat) : Int)) ∧ (post (.t (.a [.v (.int .i64 b0), .v (.int .i64 b1), .v (.int .i64 b2), .v (.int .i64 x45), .v (.int .i64 b4), .v (.int .i64 b5), .v (.int .i64 x46), .v (.int .i64 b1), .v (.int .i64 b2), .v (.int .i64 b3), .v (.int .i64 b4), .v (.int .i64 b5)])))))))))))))))))))))))
def ann_track_halves : Ann := ⟨fun r => lookA r [(5, ([[], [], [0, 1], [0, 1, 2], [], [], [4, 5], [4, 5, 6], [0, 1, 2, 3, 4, 5, 6, 7], [], [], [9, 10], [9, 10, 11], [], [], [13, 14], [13, 14, 15], [9, 10, 11, 12, 13, 14, 15, 16], [0, 1, 2, 3, 4, 5, 6, 7, 8, 9, 10, 11, 12, 13, 14, 15, 16, 17]], [[], [], [], [], [], [], [], [], [], [], [], [], [], [], [], [], [], [], []])), (8, ([[], [], [0, 1], [0, 1, 2], [], [], [4, 5], [4, 5, 6], [], [], [8, 9], [8, 9, 10], [4, 5, 6, 7, 8, 9, 10, 11], [4, 5, 6, 7, 8, 9, 10, 11, 12], [0, 1, 2, 3, 4, 5, 6, 7, 8, 9, 10, 11, 12, 13], [0, 1, 2, 3, 4, 5, 6, 7, 8, 9, 10, 11, 12, 13, 14]], [[], [], [], [], [], [], [], [], [], [], [], [], [], [], [], []])), (9, ([[], [], [], [], [0, 2, 3], [0, 1, 2, 3, 4]], [[6, 7], [6, 7], [7], [6], [9999, 6], []]))], fun b => lookA b [(0, (some 4, some ⟨[1, 2, 3, 8], [1, 2], []⟩))], fun _ => [], I49, false, fun _ => none, fun _ => none⟩
theorem ev_track_halves (J : Inv) (b0 b1 b2 b3 b4 b5 : Int) (post : DV → Prop) : evFn Try.prog tab S54 ann_track_halves J Try.f105 [.t (.a [.v (.int .i64 b0), .v (.int .i64 b1), .v (.int .i64 b2), .v (.int .i64 b3), .v (.int .i64 b4), .v (.int .i64 b5)])] post = vc_track_halves b0 b1 b2 b3 b4 b5 post := by kernel_rfl
theorem fit_track_halves : okFn ann_track_halves Try.f105 = true := by kernel_rfl
theorem lp_track_halves (J : Inv) (post : DV → Prop) : AllG J (loopsFn Try.prog tab S54 ann_track_halves J Try.f105 post) = (True) := by kernel_rfl
set_option maxHeartbeats 8000000 in
set_option maxRecDepth 100000 in
theorem spec_track_halves (b0 b1 b2 b3 b4 b5 : Int) (hp : ((⟨⟨b0, b1, b2⟩, ⟨b3, b4, b5⟩⟩ : TBox)).lo.inS 20 = true ∧ ((⟨⟨b0, b1, b2⟩, ⟨b3, b4, b5⟩⟩ : TBox)).hi.inS 20 = true ∧ ((⟨⟨b0, b1, b2⟩, ⟨b3, b4, b5⟩⟩ : TBox)).ok) : vc_track_halves b0 b1 b2 b3 b4 b5 (fun r => LeD r (.t (.a [.v (.int .i64 (((⟨⟨b0, b1, b2⟩, ⟨b3, b4, b5⟩⟩ : TBox)).half1.lo.x)), .v (.int .i64 (((⟨⟨b0, b1, b2⟩, ⟨b3, b4, b5⟩⟩ : TBox)).half1.lo.y)), .v (.int .i64 (((⟨⟨b0, b1, b2⟩, ⟨b3, b4, b5⟩⟩ : TBox)).half1.lo.z)), .v (.int .i64 (((⟨⟨b0, b1, b2⟩, ⟨b3, b4, b5⟩⟩ : TBox)).half1.hi.x)), .v (.int .i64 (((⟨⟨b0, b1, b2⟩, ⟨b3, b4, b5⟩⟩ : TBox)).half1.hi.y)), .v (.int .i64 (((⟨⟨b0, b1, b2⟩, ⟨b3, b4, b5⟩⟩ : TBox)).half1.hi.z)), .v (.int .i64 (((⟨⟨b0, b1, b2⟩, ⟨b3, b4, b5⟩⟩ : TBox)).half2.lo.x)), .v (.int .i64 (((⟨⟨b0, b1, b2⟩, ⟨b3, b4, b5⟩⟩ : TBox)).half2.lo.y)), .v (.int .i64 (((⟨⟨b0, b1, b2⟩, ⟨b3, b4, b5⟩⟩ : TBox)).half2.lo.z)), .v (.int .i64 (((⟨⟨b0, b1, b2⟩, ⟨b3, b4, b5⟩⟩ : TBox)).half2.hi.x)), .v (.int .i64 (((⟨⟨b0, b1, b2⟩, ⟨b3, b4, b5⟩⟩ : TBox)).half2.hi.y)), .v (.int .i64 (((⟨⟨b0, b1, b2⟩, ⟨b3, b4, b5⟩⟩ : TBox)).half2.hi.z))]))) := by
 obtain ⟨q1, q2, q3⟩ := hp
 obtain ⟨a1, a2, a3⟩ := inS_iff.1 q1
 obtain ⟨c1, c2, c3⟩ := inS_iff.1 q2
 obtain ⟨o1, o2, o3⟩ := q3
 simp only [TBox.rx, TBox.ry, TBox.rz, Rg.ok] at a1 a2 a3 c1 c2 c3 o1 o2 o3
 have w0 : IntKind.i64.wrap (b3 - b0) = b3 - b0 := IntWalk.i64_in _ (by omega)
 have w1 : IntKind.i64.wrap (b4 - b1) = b4 - b1 := IntWalk.i64_in _ (by omega)
 have w2 : IntKind.i64.wrap (b5 - b2) = b5 - b2 := IntWalk.i64_in _ (by omega)
 have t0 : IntKind.i64.wrap (Int.tdiv (b3 - b0) (2 : Int)) = (b3 - b0) / 2 := by rw [Int.tdiv_eq_ediv_of_nonneg (by omega)]; exact IntWalk.i64_in _ (by omega)
 have t1 : IntKind.i64.wrap (Int.tdiv (b4 - b1) (2 : Int)) = (b4 - b1) / 2 := by rw [Int.tdiv_eq_ediv_of_nonneg (by omega)]; exact IntWalk.i64_in _ (by omega)
 have t2 : IntKind.i64.wrap (Int.tdiv (b5 - b2) (2 : Int)) = (b5 - b2) / 2 := by rw [Int.tdiv_eq_ediv_of_nonneg (by omega)]; exact IntWalk.i64_in _ (by omega)
 have v0 : IntKind.i64.wrap (b0 + (b3 - b0) / 2) = b0 + (b3 - b0) / 2 := IntWalk.i64_in _ (by omega)
 have v1 : IntKind.i64.wrap (b1 + (b4 - b1) / 2) = b1 + (b4 - b1) / 2 := IntWalk.i64_in _ (by omega)
 have v2 : IntKind.i64.wrap (b2 + (b5 - b2) / 2) = b2 + (b5 - b2) / 2 := IntWalk.i64_in _ (by omega)
 have u0 : IntKind.i64.wrap (b0 + (b3 - b0) / 2 + 1) = b0 + (b3 - b0) / 2 + 1 := IntWalk.i64_in _ (by omega)
 have u1 : IntKind.i64.wrap (b1 + (b4 - b1) / 2 + 1) = b1 + (b4 - b1) / 2 + 1 := IntWalk.i64_in _ (by omega)
 have u2 : IntKind.i64.wrap (b2 + (b5 - b2) / 2 + 1) = b2 + (b5 - b2) / 2 + 1 := IntWalk.i64_in _ (by omega)
 have hs := side_cases (⟨⟨b0, b1, b2⟩, ⟨b3, b4, b5⟩⟩ : TBox)
 unfold vc_track_halves
 simp only at hs
 (repeat' with_reducible first | (refine lt_i ?_; intro _ hx; subst hx) | (refine cond_i ?_ ?_ <;> intro _) | (refine And.intro ?_ ?_))
 all_goals first | decide | skip
 all_goals
  simp only [w0, w1, w2, t0, t1, t2, v0, v1, v2, u0, u1, u2, decide_eq_true_eq, decide_eq_false_iff_not] at *
  unfold TBox.half1 TBox.half2
  rcases hs with ⟨h, h1, h2⟩ | ⟨h, h1, h2⟩ | ⟨h, h1, h2⟩ <;> first | omega | (rw [h]; exact LeD.refl _)
def con_track_halves : Con := fun args => match args with
 | [.t (.a [.v (.int .i64 b0), .v (.int .i64 b1), .v (.int .i64 b2), .v (.int .i64 b3), .v (.int .i64 b4), .v (.int .i64 b5)])] => some (.t (.a [.v (.int .i64 (((⟨⟨b0, b1, b2⟩, ⟨b3, b4, b5⟩⟩ : TBox)).half1.lo.x)), .v (.int .i64 (((⟨⟨b0, b1, b2⟩, ⟨b3, b4, b5⟩⟩ : TBox)).half1.lo.y)), .v (.int .i64 (((⟨⟨b0, b1, b2⟩, ⟨b3, b4, b5⟩⟩ : TBox)).half1.lo.z)), .v (.int .i64 (((⟨⟨b0, b1, b2⟩, ⟨b3, b4, b5⟩⟩ : TBox)).half1.hi.x)), .v (.int .i64 (((⟨⟨b0, b1, b2⟩, ⟨b3, b4, b5⟩⟩ : TBox)).half1.hi.y)), .v (.int .i64 (((⟨⟨b0, b1, b2⟩, ⟨b3, b4, b5⟩⟩ : TBox)).half1.hi.z)), .v (.int .i64 (((⟨⟨b0, b1, b2⟩, ⟨b3, b4, b5⟩⟩ : TBox)).half2.lo.x)), .v (.int .i64 (((⟨⟨b0, b1, b2⟩, ⟨b3, b4, b5⟩⟩ : TBox)).half2.lo.y)), .v (.int .i64 (((⟨⟨b0, b1, b2⟩, ⟨b3, b4, b5⟩⟩ : TBox)).half2.lo.z)), .v (.int .i64 (((⟨⟨b0, b1, b2⟩, ⟨b3, b4, b5⟩⟩ : TBox)).half2.hi.x)), .v (.int .i64 (((⟨⟨b0, b1, b2⟩, ⟨b3, b4, b5⟩⟩ : TBox)).half2.hi.y)), .v (.int .i64 (((⟨⟨b0, b1, b2⟩, ⟨b3, b4, b5⟩⟩ : TBox)).half2.hi.z))]), some (((⟨⟨b0, b1, b2⟩, ⟨b3, b4, b5⟩⟩ : TBox)).lo.inS 20 = true ∧ ((⟨⟨b0, b1, b2⟩, ⟨b3, b4, b5⟩⟩ : TBox)).hi.inS 20 = true ∧ ((⟨⟨b0, b1, b2⟩, ⟨b3, b4, b5⟩⟩ : TBox)).ok), false)
 | _ => none
theorem ok_track_halves : Ok Try.prog 105 con_track_halves := by
 refine Ok.fn (ann := ann_track_halves) mixed tabOK VS54 VI49 (fn := Try.f105) (by kernel_rfl) (by kernel_rfl) fit_track_halves fun args r pre fresh h hp => ?_
 unfold con_track_halves at h
 split at h
 ·rename_i b0 b1 b2 b3 b4 b5
  cases h
  refine ⟨rfl, fun _ _ _ => False, _, LeA.refl _, Nat.le_of_ble_eq_true (by kernel_rfl), ?_, ?_⟩
  ·rw [ev_track_halves]; exact spec_track_halves b0 b1 b2 b3 b4 b5 hp
  ·rw [lp_track_halves]; trivial
 ·cases h
def S55 : Sum := addS S54 105 con_track_halves
theorem VS55 : Valid Try.prog S55 := Valid.add VS54 ok_track_halves
def vc_track_Divided (b0 b1 b2 b3 b4 b5 : Int) (post : DV → Prop) : Prop := (fun (Z1 : TBox) => cond (((Z1).err) != (0 : Int)) (post (.tu [.a [.v (.int .i64 0), .v (.int .i64 0), .v (.int .i64 0), .v (.int .i64 0), .v (.int .i64 0), .v (.int .i64 0), .v (.int .i64 0), .v (.int .i64 0), .v (.int .i64 0), .v (.int .i64 0), .v (.int .i64 0), .v (.int .i64 0)], .c (.v (.int .i64 ((Z1).err)))])) (((Z1).lo.inS 20 = true ∧ (Z1).hi.inS 20 = true ∧ (Z1).ok) ∧ (cond (((Z1).count) == (1 : Int)) (post (.tu [.a [.v (.int .i64 0), .v (.int .i64 0), .v (.int .i64 0), .v (.int .i64 0), .v (.int .i64 0), .v (.int .i64 0), .v (.int .i64 0), .v (.int .i64 0), .v (.int .i64 0), .v (.int .i64 0), .v (.int .i64 0), .v (.int .i64 0)], .c (.v (.int .i64 12))])) (((Z1).lo.inS 20 = true ∧ (Z1).hi.inS 20 = true ∧ (Z1).ok) ∧ (post (.tu [.a [.v (.int .i64 ((Z1).half1.lo.x)), .v (.int .i64 ((Z1).half1.lo.y)), .v (.int .i64 ((Z1).half1.lo.z)), .v (.int .i64 ((Z1).half1.hi.x)), .v (.int .i64 ((Z1).half1.hi.y)), .v (.int .i64 ((Z1).half1.hi.z)), .v (.int .i64 ((Z1).half2.lo.x)), .v (.int .i64 ((Z1).half2.lo.y)), .v (.int .i64 ((Z1).half2.lo.z)), .v (.int .i64 ((Z1).half2.hi.x)), .v (.int .i64 ((Z1).half2.hi.y)), .v (.int .i64 ((Z1).half2.hi.z))], .c (.v (.int .i64 0))])))))) (⟨⟨b0, b1, b2⟩, ⟨b3, b4, b5⟩⟩ : TBox)
def ann_track_Divided : Ann := ⟨fun _ => none, fun _ => none, fun _ => [], I49, false, fun _ => none, fun _ => none⟩
theorem ev_track_Divided (J : Inv) (b0 b1 b2 b3 b4 b5 : Int) (post : DV → Prop) : evFn Try.prog tab S55 ann_track_Divided J Try.f49 [.t (.a [.v (.int .i64 b0), .v (.int .i64 b1), .v (.int .i64 b2), .v (.int .i64 b3), .v (.int .i64 b4), .v (.int .i64 b5)])] post = vc_track_Divided b0 b1 b2 b3 b4 b5 post := by kernel_rfl
theorem fit_track_Divided : okFn ann_track_Divided Try.f49 = true := by kernel_rfl
theorem lp_track_Divided (J : Inv) (post : DV → Prop) : AllG J (loopsFn Try.prog tab S55 ann_track_Divided J Try.f49 post) = (True) := by kernel_rfl
theorem spec_track_Divided (b0 b1 b2 b3 b4 b5 : Int) : vc_track_Divided b0 b1 b2 b3 b4 b5 (fun r => LeD r (.tu [.a [.v (.int .i64 ((dv1 (⟨⟨b0, b1, b2⟩, ⟨b3, b4, b5⟩⟩ : TBox)).lo.x)), .v (.int .i64 ((dv1 (⟨⟨b0, b1, b2⟩, ⟨b3, b4, b5⟩⟩ : TBox)).lo.y)), .v (.int .i64 ((dv1 (⟨⟨b0, b1, b2⟩, ⟨b3, b4, b5⟩⟩ : TBox)).lo.z)), .v (.int .i64 ((dv1 (⟨⟨b0, b1, b2⟩, ⟨b3, b4, b5⟩⟩ : TBox)).hi.x)), .v (.int .i64 ((dv1 (⟨⟨b0, b1, b2⟩, ⟨b3, b4, b5⟩⟩ : TBox)).hi.y)), .v (.int .i64 ((dv1 (⟨⟨b0, b1, b2⟩, ⟨b3, b4, b5⟩⟩ : TBox)).hi.z)), .v (.int .i64 ((dv2 (⟨⟨b0, b1, b2⟩, ⟨b3, b4, b5⟩⟩ : TBox)).lo.x)), .v (.int .i64 ((dv2 (⟨⟨b0, b1, b2⟩, ⟨b3, b4, b5⟩⟩ : TBox)).lo.y)), .v (.int .i64 ((dv2 (⟨⟨b0, b1, b2⟩, ⟨b3, b4, b5⟩⟩ : TBox)).lo.z)), .v (.int .i64 ((dv2 (⟨⟨b0, b1, b2⟩, ⟨b3, b4, b5⟩⟩ : TBox)).hi.x)), .v (.int .i64 ((dv2 (⟨⟨b0, b1, b2⟩, ⟨b3, b4, b5⟩⟩ : TBox)).hi.y)), .v (.int .i64 ((dv2 (⟨⟨b0, b1, b2⟩, ⟨b3, b4, b5⟩⟩ : TBox)).hi.z))], .c (.v (.int .i64 (divE (⟨⟨b0, b1, b2⟩, ⟨b3, b4, b5⟩⟩ : TBox))))])) := by
 unfold vc_track_Divided
 refine cond_i (fun h => ?_) (fun h => ?_)
 ·have h : (⟨⟨b0, b1, b2⟩, ⟨b3, b4, b5⟩⟩ : TBox).err ≠ 0 := by simpa using h
  have e : divE (⟨⟨b0, b1, b2⟩, ⟨b3, b4, b5⟩⟩ : TBox) = (⟨⟨b0, b1, b2⟩, ⟨b3, b4, b5⟩⟩ : TBox).err := if_pos h
  unfold dv1 dv2
  rw [if_neg (by rw [e]; exact h), if_neg (by rw [e]; exact h), e]
  exact LeD.refl _
 ·have h : (⟨⟨b0, b1, b2⟩, ⟨b3, b4, b5⟩⟩ : TBox).err = 0 := by simpa using h
  have hb := box_in h
  refine ⟨⟨hb.1, hb.2, box_ok h⟩, cond_i (fun g => ?_) (fun g => ⟨⟨hb.1, hb.2, box_ok h⟩, ?_⟩)⟩
  ·have e : divE (⟨⟨b0, b1, b2⟩, ⟨b3, b4, b5⟩⟩ : TBox) = 12 := (if_neg (by rw [h]; simp)).trans (if_pos (by simpa using g))
   unfold dv1 dv2
   rw [e]
   exact LeD.refl _
  ·have e : divE (⟨⟨b0, b1, b2⟩, ⟨b3, b4, b5⟩⟩ : TBox) = 0 := (if_neg (by rw [h]; simp)).trans (if_neg (by simpa using g))
   unfold dv1 dv2
   rw [e]
   exact LeD.refl _
def con_track_Divided : Con := fun args => match args with
 | [.t (.a [.v (.int .i64 b0), .v (.int .i64 b1), .v (.int .i64 b2), .v (.int .i64 b3), .v (.int .i64 b4), .v (.int .i64 b5)])] => some (.tu [.a [.v (.int .i64 ((dv1 (⟨⟨b0, b1, b2⟩, ⟨b3, b4, b5⟩⟩ : TBox)).lo.x)), .v (.int .i64 ((dv1 (⟨⟨b0, b1, b2⟩, ⟨b3, b4, b5⟩⟩ : TBox)).lo.y)), .v (.int .i64 ((dv1 (⟨⟨b0, b1, b2⟩, ⟨b3, b4, b5⟩⟩ : TBox)).lo.z)), .v (.int .i64 ((dv1 (⟨⟨b0, b1, b2⟩, ⟨b3, b4, b5⟩⟩ : TBox)).hi.x)), .v (.int .i64 ((dv1 (⟨⟨b0, b1, b2⟩, ⟨b3, b4, b5⟩⟩ : TBox)).hi.y)), .v (.int .i64 ((dv1 (⟨⟨b0, b1, b2⟩, ⟨b3, b4, b5⟩⟩ : TBox)).hi.z)), .v (.int .i64 ((dv2 (⟨⟨b0, b1, b2⟩, ⟨b3, b4, b5⟩⟩ : TBox)).lo.x)), .v (.int .i64 ((dv2 (⟨⟨b0, b1, b2⟩, ⟨b3, b4, b5⟩⟩ : TBox)).lo.y)), .v (.int .i64 ((dv2 (⟨⟨b0, b1, b2⟩, ⟨b3, b4, b5⟩⟩ : TBox)).lo.z)), .v (.int .i64 ((dv2 (⟨⟨b0, b1, b2⟩, ⟨b3, b4, b5⟩⟩ : TBox)).hi.x)), .v (.int .i64 ((dv2 (⟨⟨b0, b1, b2⟩, ⟨b3, b4, b5⟩⟩ : TBox)).hi.y)), .v (.int .i64 ((dv2 (⟨⟨b0, b1, b2⟩, ⟨b3, b4, b5⟩⟩ : TBox)).hi.z))], .c (.v (.int .i64 (divE (⟨⟨b0, b1, b2⟩, ⟨b3, b4, b5⟩⟩ : TBox))))], none, false)
 | _ => none
theorem ok_track_Divided : Ok Try.prog 49 con_track_Divided := by
 refine Ok.fn (ann := ann_track_Divided) mixed tabOK VS55 VI49 (fn := Try.f49) (by kernel_rfl) (by kernel_rfl) fit_track_Divided fun args r pre fresh h hp => ?_
 unfold con_track_Divided at h
 split at h
 ·rename_i b0 b1 b2 b3 b4 b5
  cases h
  refine ⟨rfl, fun _ _ _ => False, _, LeA.refl _, Nat.le_of_ble_eq_true (by kernel_rfl), ?_, ?_⟩
  ·rw [ev_track_Divided]; exact spec_track_Divided b0 b1 b2 b3 b4 b5
  ·rw [lp_track_Divided]; trivial
 ·cases h
def S56 : Sum := addS S55 49 con_track_Divided
theorem VS56 : Valid Try.prog S56 := Valid.add VS55 ok_track_Divided
def S57 : Sum := S56
theorem VS57 : Valid Try.prog S57 := VS56
end Go.Proofs.Ytlmdmpjfehpjeaa