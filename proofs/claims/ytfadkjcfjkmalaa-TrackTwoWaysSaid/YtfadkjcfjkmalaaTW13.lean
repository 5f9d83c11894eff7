/- Texts of this claim, together. -/
import Derived.Test.YtfadkjcfjkmalaaTW12

set_option linter.unusedVariables false
set_option linter.unusedSimpArgs false
namespace Go.Proofs.Ytfadkjcfjkmalaa
open Go.RowKit Ev
theorem or8 (a b c d e f g h : Bool) : (bif (!a) then true else (bif (!b) then true else (bif (!c) then true else (bif (!d) then true else (bif (!e) then true else (bif (!f) then true else (bif (!g) then true else (!h)))))))) = !(a && b && c && d && e && f && g && h) := by cases a <;> cases b <;> cases c <;> cases d <;> cases e <;> cases f <;> cases g <;> cases h <;> rfl
def vc_base_Within (a : Int) (b : Int) (c : Int) (post : DV → Prop) : Prop := cond (decide (b ≤ a)) (post (.t (.c (.v (.bool (decide (a ≤ c))))))) ((false = false) ∧ (post (.t (.c (.v (.bool false))))))
def ann_base_Within : Ann := ⟨fun _ => none, fun _ => none, fun _ => [], Ikv51, false, fun _ => none, fun _ => none⟩
theorem ev_base_Within (J : Inv) (a : Int) (b : Int) (c : Int) (post : DV → Prop) : evFn Try.prog tab Skz60 ann_base_Within J Try.f15 [.t (.c (.v (.int .i64 a))), .t (.c (.v (.int .i64 b))), .t (.c (.v (.int .i64 c)))] post = vc_base_Within a b c post := by kernel_rfl
theorem fit_base_Within : okFn ann_base_Within Try.f15 = true := by kernel_rfl
theorem lp_base_Within (J : Inv) (post : DV → Prop) : AllG J (loopsFn Try.prog tab Skz60 ann_base_Within J Try.f15 post) = (True) := by kernel_rfl
theorem spec_base_Within (a : Int) (b : Int) (c : Int) : vc_base_Within a b c (fun r => LeD r (.t (.c (.v (.bool (inB a b c)))))) := by
 unfold vc_base_Within
 refine cond_i (fun h => leB ?_) (fun h => ⟨rfl, leB ?_⟩)
 ·unfold inB; rw [h]; rfl
 ·unfold inB; rw [h]; rfl
def con_base_Within : Con := fun args => match args with
 | [.t (.c (.v (.int .i64 a))), .t (.c (.v (.int .i64 b))), .t (.c (.v (.int .i64 c)))] => some (.t (.c (.v (.bool (inB a b c)))), none, false)
 | _ => none
theorem ok_base_Within : Ok Try.prog 15 con_base_Within := by
 refine Ok.fn (ann := ann_base_Within) mixed tabOK VSkz60 VIkv51 (fn := Try.f15) (by kernel_rfl) (by kernel_rfl) fit_base_Within fun args r pre fresh h hp => ?_
 unfold con_base_Within at h
 split at h
 ·rename_i a b c
  cases h
  refine ⟨rfl, fun _ _ _ => False, _, LeA.refl _, Nat.le_of_ble_eq_true (by kernel_rfl), ?_, ?_⟩
  ·rw [ev_base_Within]; exact spec_base_Within a b c
  ·rw [lp_base_Within]; trivial
 ·cases h
def Skf61 : Sum := addS Skz60 15 con_base_Within
theorem VSkf61 : Valid Try.prog Skf61 := Valid.add VSkz60 ok_base_Within
def vc_law05_few (l : List THit) (post : DV → Prop) : Prop := post (.t (.c (.v (.bool (decide (((l.length : Nat) : Int) ≤ (14 : Int)))))))
def ann_law05_few : Ann := ⟨fun _ => none, fun _ => none, fun _ => [], Ikv51, false, fun _ => none, fun _ => none⟩
theorem ev_law05_few (J : Inv) (l : List THit) (post : DV → Prop) : evFn Try.prog tab Skf61 ann_law05_few J Try.f6 [.t (.c (.sl 5 l.length (hitsC l)))] post = vc_law05_few l post := by kernel_rfl
theorem fit_law05_few : okFn ann_law05_few Try.f6 = true := by kernel_rfl
theorem lp_law05_few (J : Inv) (post : DV → Prop) : AllG J (loopsFn Try.prog tab Skf61 ann_law05_few J Try.f6 post) = (True) := by kernel_rfl
theorem spec_law05_few (l : List THit) : vc_law05_few l (fun r => LeD r (.t (.c (.v (.bool (decide ((l).length ≤ 14))))))) := by
 unfold vc_law05_few
 exact leB (decide_eq_decide.2 (by omega))
def con_law05_few : Con := fun args => match args with
 | [.t (.c (.sl 5 n_l c_l))] => some (.t (.c (.v (.bool (decide (((listC n_l mkHit c_l)).length ≤ 14))))), some (numsP 5 n_l c_l), false)
 | _ => none
theorem ok_law05_few : Ok Try.prog 6 con_law05_few := by
 refine Ok.fn (ann := ann_law05_few) mixed tabOK VSkf61 VIkv51 (fn := Try.f6) (by kernel_rfl) (by kernel_rfl) fit_law05_few fun args r pre fresh h hp => ?_
 unfold con_law05_few at h
 split at h
 ·rename_i n_l c_l
  cases h
  have hp0 := hp
  refine ⟨rfl, fun _ _ _ => False, [.t (.c (.sl 5 ((listC n_l mkHit c_l).length) (hitsC (listC n_l mkHit c_l))))], ?_, Nat.le_of_ble_eq_true (by kernel_rfl), ?_, ?_⟩
  ·exact (LeA_cons (leT_c ((leL_THit hp0))) LeA_nil)
  ·rw [ev_law05_few]; exact spec_law05_few (listC n_l mkHit c_l)
  ·rw [lp_law05_few]; trivial
 ·cases h
def Skf62 : Sum := addS Skf61 6 con_law05_few
theorem VSkf62 : Valid Try.prog Skf62 := Valid.add VSkf61 ok_law05_few
def vc_ref05_isSide (n : Int) (post : DV → Prop) : Prop := post (.t (.c (.v (.bool (inB n (-20 : Int) (20 : Int))))))
def ann_ref05_isSide : Ann := ⟨fun _ => none, fun _ => none, fun _ => [], Ikv51, false, fun _ => none, fun _ => none⟩
theorem ev_ref05_isSide (J : Inv) (n : Int) (post : DV → Prop) : evFn Try.prog tab Skf62 ann_ref05_isSide J Try.f44 [.t (.c (.v (.int .i64 n)))] post = vc_ref05_isSide n post := by kernel_rfl
theorem fit_ref05_isSide : okFn ann_ref05_isSide Try.f44 = true := by kernel_rfl
theorem lp_ref05_isSide (J : Inv) (post : DV → Prop) : AllG J (loopsFn Try.prog tab Skf62 ann_ref05_isSide J Try.f44 post) = (True) := by kernel_rfl
theorem spec_ref05_isSide (n : Int) : vc_ref05_isSide n (fun r => LeD r (.t (.c (.v (.bool (inB n (-20) 20)))))) := by
 exact LeD.refl _
def con_ref05_isSide : Con := fun args => match args with
 | [.t (.c (.v (.int .i64 n)))] => some (.t (.c (.v (.bool (inB n (-20) 20)))), none, false)
 | _ => none
theorem ok_ref05_isSide : Ok Try.prog 44 con_ref05_isSide := by
 refine Ok.fn (ann := ann_ref05_isSide) mixed tabOK VSkf62 VIkv51 (fn := Try.f44) (by kernel_rfl) (by kernel_rfl) fit_ref05_isSide fun args r pre fresh h hp => ?_
 unfold con_ref05_isSide at h
 split at h
 ·rename_i n
  cases h
  refine ⟨rfl, fun _ _ _ => False, _, LeA.refl _, Nat.le_of_ble_eq_true (by kernel_rfl), ?_, ?_⟩
  ·rw [ev_ref05_isSide]; exact spec_ref05_isSide n
  ·rw [lp_ref05_isSide]; trivial
 ·cases h
def Skf63 : Sum := addS Skf62 44 con_ref05_isSide
theorem VSkf63 : Valid Try.prog Skf63 := Valid.add VSkf62 ok_ref05_isSide
def vc_ref05_Count (b0 b1 b2 b3 b4 b5 : Int) (post : DV → Prop) : Prop := (0 ≤ (0 : Int) ∧ (0 : Int) < ((3 : Nat) : Int)) ∧ ((0 ≤ (0 : Int) ∧ (0 : Int) < ((3 : Nat) : Int)) ∧ (lt (IntKind.i64.wrap (b3 - b0)) fun x1 => lt (IntKind.i64.wrap (x1 + (1 : Int))) fun x2 => (0 ≤ (1 : Int) ∧ (1 : Int) < ((3 : Nat) : Int)) ∧ ((0 ≤ (1 : Int) ∧ (1 : Int) < ((3 : Nat) : Int)) ∧ (lt (IntKind.i64.wrap (b4 - b1)) fun x3 => lt (IntKind.i64.wrap (x3 + (1 : Int))) fun x4 => lt (IntKind.i64.wrap (x2 * x4)) fun x5 => (0 ≤ (2 : Int) ∧ (2 : Int) < ((3 : Nat) : Int)) ∧ ((0 ≤ (2 : Int) ∧ (2 : Int) < ((3 : Nat) : Int)) ∧ (lt (IntKind.i64.wrap (b5 - b2)) fun x6 => lt (IntKind.i64.wrap (x6 + (1 : Int))) fun x7 => lt (IntKind.i64.wrap (x5 * x7)) fun x8 => post (.t (.c (.v (.int .i64 x8))))))))))
def ann_ref05_Count : Ann := ⟨fun _ => none, fun _ => none, fun _ => [], Ikv51, false, fun _ => none, fun _ => none⟩
theorem ev_ref05_Count (J : Inv) (b0 b1 b2 b3 b4 b5 : Int) (post : DV → Prop) : evFn Try.prog tab Skf63 ann_ref05_Count J Try.f19 [.t (.a [.v (.int .i64 b0), .v (.int .i64 b1), .v (.int .i64 b2), .v (.int .i64 b3), .v (.int .i64 b4), .v (.int .i64 b5)])] post = vc_ref05_Count b0 b1 b2 b3 b4 b5 post := by kernel_rfl
theorem fit_ref05_Count : okFn ann_ref05_Count Try.f19 = true := by kernel_rfl
theorem lp_ref05_Count (J : Inv) (post : DV → Prop) : AllG J (loopsFn Try.prog tab Skf63 ann_ref05_Count J Try.f19 post) = (True) := by kernel_rfl
theorem spec_ref05_Count (b0 b1 b2 b3 b4 b5 : Int) (hp : ((⟨⟨b0, b1, b2⟩, ⟨b3, b4, b5⟩⟩ : TBox)).lo.inS 20 = true ∧ ((⟨⟨b0, b1, b2⟩, ⟨b3, b4, b5⟩⟩ : TBox)).hi.inS 20 = true) : vc_ref05_Count b0 b1 b2 b3 b4 b5 (fun r => LeD r (.t (.c (.v (.int .i64 (((⟨⟨b0, b1, b2⟩, ⟨b3, b4, b5⟩⟩ : TBox)).count)))))) := by
 obtain ⟨a1, a2, a3⟩ := inS_iff.1 hp.1
 obtain ⟨c1, c2, c3⟩ := inS_iff.1 hp.2
 simp only at a1 a2 a3 c1 c2 c3
 unfold vc_ref05_Count
 (repeat' with_reducible first | (refine lt_i ?_; intro _ _) | (refine cond_i ?_ ?_ <;> intro _) | (refine And.intro ?_ ?_))
 all_goals first | decide | skip
 rename_i x1 h1 x2 h2 x3 h3 x4 h4 x5 h5 x6 h6 x7 h7 x8 h8
 rw [IntWalk.i64_in _ (by omega)] at h1
 rw [IntWalk.i64_in _ (by omega)] at h2
 rw [IntWalk.i64_in _ (by omega)] at h3
 rw [IntWalk.i64_in _ (by omega)] at h4
 have m1 := mul_rg (x := x2) (y := x4) (A := 41) (B := 41) (C := 1681) (by omega) (by omega) (by decide)
 rw [IntWalk.i64_in _ (by omega)] at h5
 rw [IntWalk.i64_in _ (by omega)] at h6
 rw [IntWalk.i64_in _ (by omega)] at h7
 have m2 := mul_rg (x := x5) (y := x7) (A := 1681) (B := 41) (C := 68921) (by omega) (by omega) (by decide)
 rw [IntWalk.i64_in _ (by omega)] at h8
 refine LeD.of ?_
 unfold TBox.count
 simp only
 rw [← h8, ← h5, ← h2, ← h4, ← h7, ← h1, ← h3, ← h6]
def con_ref05_Count : Con := fun args => match args with
 | [.t (.a [.v (.int .i64 b0), .v (.int .i64 b1), .v (.int .i64 b2), .v (.int .i64 b3), .v (.int .i64 b4), .v (.int .i64 b5)])] => some (.t (.c (.v (.int .i64 (((⟨⟨b0, b1, b2⟩, ⟨b3, b4, b5⟩⟩ : TBox)).count)))), some (((⟨⟨b0, b1, b2⟩, ⟨b3, b4, b5⟩⟩ : TBox)).lo.inS 20 = true ∧ ((⟨⟨b0, b1, b2⟩, ⟨b3, b4, b5⟩⟩ : TBox)).hi.inS 20 = true), false)
 | _ => none
theorem ok_ref05_Count : Ok Try.prog 19 con_ref05_Count := by
 refine Ok.fn (ann := ann_ref05_Count) mixed tabOK VSkf63 VIkv51 (fn := Try.f19) (by kernel_rfl) (by kernel_rfl) fit_ref05_Count fun args r pre fresh h hp => ?_
 unfold con_ref05_Count at h
 split at h
 ·rename_i b0 b1 b2 b3 b4 b5
  cases h
  refine ⟨rfl, fun _ _ _ => False, _, LeA.refl _, Nat.le_of_ble_eq_true (by kernel_rfl), ?_, ?_⟩
  ·rw [ev_ref05_Count]; exact spec_ref05_Count b0 b1 b2 b3 b4 b5 hp
  ·rw [lp_ref05_Count]; trivial
 ·cases h
def Skf64 : Sum := addS Skf63 19 con_ref05_Count
theorem VSkf64 : Valid Try.prog Skf64 := Valid.add VSkf63 ok_ref05_Count
def vc_ref05_BoxErr (b0 b1 b2 b3 b4 b5 : Int) (post : DV → Prop) : Prop := (0 ≤ (0 : Int) ∧ (0 : Int) < ((3 : Nat) : Int)) ∧ (cond (!(inB b0 (-20) 20)) ((true = true) ∧ (post (.t (.c (.v (.int .i64 2)))))) ((0 ≤ (0 : Int) ∧ (0 : Int) < ((3 : Nat) : Int)) ∧ (cond (!(inB b3 (-20) 20)) (post (.t (.c (.v (.int .i64 2))))) ((0 ≤ (1 : Int) ∧ (1 : Int) < ((3 : Nat) : Int)) ∧ (cond (!(inB b1 (-20) 20)) ((true = true) ∧ (post (.t (.c (.v (.int .i64 2)))))) ((0 ≤ (1 : Int) ∧ (1 : Int) < ((3 : Nat) : Int)) ∧ (cond (!(inB b4 (-20) 20)) (post (.t (.c (.v (.int .i64 2))))) ((0 ≤ (2 : Int) ∧ (2 : Int) < ((3 : Nat) : Int)) ∧ (cond (!(inB b2 (-20) 20)) ((true = true) ∧ (post (.t (.c (.v (.int .i64 2)))))) ((0 ≤ (2 : Int) ∧ (2 : Int) < ((3 : Nat) : Int)) ∧ (cond (!(inB b5 (-20) 20)) (post (.t (.c (.v (.int .i64 2))))) ((0 ≤ (0 : Int) ∧ (0 : Int) < ((3 : Nat) : Int)) ∧ ((0 ≤ (0 : Int) ∧ (0 : Int) < ((3 : Nat) : Int)) ∧ (cond (decide (b0 > b3)) (post (.t (.c (.v (.int .i64 9))))) ((0 ≤ (1 : Int) ∧ (1 : Int) < ((3 : Nat) : Int)) ∧ ((0 ≤ (1 : Int) ∧ (1 : Int) < ((3 : Nat) : Int)) ∧ (cond (decide (b1 > b4)) (post (.t (.c (.v (.int .i64 9))))) ((0 ≤ (2 : Int) ∧ (2 : Int) < ((3 : Nat) : Int)) ∧ ((0 ≤ (2 : Int) ∧ (2 : Int) < ((3 : Nat) : Int)) ∧ (cond (decide (b2 > b5)) (post (.t (.c (.v (.int .i64 9))))) ((((⟨⟨b0, b1, b2⟩, ⟨b3, b4, b5⟩⟩ : TBox)).lo.inS 20 = true ∧ ((⟨⟨b0, b1, b2⟩, ⟨b3, b4, b5⟩⟩ : TBox)).hi.inS 20 = true) ∧ (cond (decide ((((⟨⟨b0, b1, b2⟩, ⟨b3, b4, b5⟩⟩ : TBox)).count) > (700 : Int))) (post (.t (.c (.v (.int .i64 8))))) (post (.t (.c (.v (.int .i64 0)))))))))))))))))))))))))))
def ann_ref05_BoxErr : Ann := ⟨fun r => lookA r [(9, ([[], [], [0, 1], [0, 1, 2], [], [], [4, 5], [4, 5, 6], [0, 1, 2, 3, 4, 5, 6, 7]], [[], [], [], [], [], [], [], [], []]))], fun b => lookA b [(0, (some 4, some ⟨[1, 3], [1], []⟩)), (2, (some 4, some ⟨[1, 4], [1], []⟩))], fun _ => [], Ikv51, false, fun _ => none, fun _ => none⟩
theorem ev_ref05_BoxErr (J : Inv) (b0 b1 b2 b3 b4 b5 : Int) (post : DV → Prop) : evFn Try.prog tab Skf64 ann_ref05_BoxErr J Try.f29 [.t (.a [.v (.int .i64 b0), .v (.int .i64 b1), .v (.int .i64 b2), .v (.int .i64 b3), .v (.int .i64 b4), .v (.int .i64 b5)])] post = vc_ref05_BoxErr b0 b1 b2 b3 b4 b5 post := by kernel_rfl
theorem fit_ref05_BoxErr : okFn ann_ref05_BoxErr Try.f29 = true := by kernel_rfl
theorem lp_ref05_BoxErr (J : Inv) (post : DV → Prop) : AllG J (loopsFn Try.prog tab Skf64 ann_ref05_BoxErr J Try.f29 post) = (True) := by kernel_rfl
theorem spec_ref05_BoxErr (b0 b1 b2 b3 b4 b5 : Int) : vc_ref05_BoxErr b0 b1 b2 b3 b4 b5 (fun r => LeD r (.t (.c (.v (.int .i64 (((⟨⟨b0, b1, b2⟩, ⟨b3, b4, b5⟩⟩ : TBox)).err)))))) := by
 unfold vc_ref05_BoxErr
 (repeat' with_reducible first | (refine lt_i ?_; intro _ _) | (refine cond_i ?_ ?_ <;> intro _) | (refine And.intro ?_ ?_))
 all_goals first
  | decide
  | (refine leI ?_; simp_all [TBox.err, firstNZ, unl, V3.inS]; done)
  | (simp_all [V3.inS]; done)
  | (refine leI ?_; simp_all [TBox.err, firstNZ, unl, V3.inS]; omega)
def con_ref05_BoxErr : Con := fun args => match args with
 | [.t (.a [.v (.int .i64 b0), .v (.int .i64 b1), .v (.int .i64 b2), .v (.int .i64 b3), .v (.int .i64 b4), .v (.int .i64 b5)])] => some (.t (.c (.v (.int .i64 (((⟨⟨b0, b1, b2⟩, ⟨b3, b4, b5⟩⟩ : TBox)).err)))), none, false)
 | _ => none
theorem ok_ref05_BoxErr : Ok Try.prog 29 con_ref05_BoxErr := by
 refine Ok.fn (ann := ann_ref05_BoxErr) mixed tabOK VSkf64 VIkv51 (fn := Try.f29) (by kernel_rfl) (by kernel_rfl) fit_ref05_BoxErr fun args r pre fresh h hp => ?_
 unfold con_ref05_BoxErr at h
 split at h
 ·rename_i b0 b1 b2 b3 b4 b5
  cases h
  refine ⟨rfl, fun _ _ _ => False, _, LeA.refl _, Nat.le_of_ble_eq_true (by kernel_rfl), ?_, ?_⟩
  ·rw [ev_ref05_BoxErr]; exact spec_ref05_BoxErr b0 b1 b2 b3 b4 b5
  ·rw [lp_ref05_BoxErr]; trivial
 ·cases h
def Skf65 : Sum := addS Skf64 29 con_ref05_BoxErr
theorem VSkf65 : Valid Try.prog Skf65 := Valid.add VSkf64 ok_ref05_BoxErr
def vc_ref05_TimeErr (n : Int) (post : DV → Prop) : Prop := cond (!(inB n (-10000 : Int) (10000 : Int))) (post (.t (.c (.v (.int .i64 2))))) (post (.t (.c (.v (.int .i64 0)))))
def ann_ref05_TimeErr : Ann := ⟨fun _ => none, fun _ => none, fun _ => [], Ikv51, false, fun _ => none, fun _ => none⟩
theorem ev_ref05_TimeErr (J : Inv) (n : Int) (post : DV → Prop) : evFn Try.prog tab Skf65 ann_ref05_TimeErr J Try.f38 [.t (.c (.v (.int .i64 n)))] post = vc_ref05_TimeErr n post := by kernel_rfl
theorem fit_ref05_TimeErr : okFn ann_ref05_TimeErr Try.f38 = true := by kernel_rfl
theorem lp_ref05_TimeErr (J : Inv) (post : DV → Prop) : AllG J (loopsFn Try.prog tab Skf65 ann_ref05_TimeErr J Try.f38 post) = (True) := by kernel_rfl
theorem spec_ref05_TimeErr (n : Int) : vc_ref05_TimeErr n (fun r => LeD r (.t (.c (.v (.int .i64 (tmE n)))))) := by
 unfold vc_ref05_TimeErr tmE
 refine cond_i (fun h => leI ?_) (fun h => leI ?_)
 ·rw [show inB n (-10000) 10000 = false by simpa using h]; rfl
 ·rw [show inB n (-10000) 10000 = true by simpa using h]; rfl
def con_ref05_TimeErr : Con := fun args => match args with
 | [.t (.c (.v (.int .i64 n)))] => some (.t (.c (.v (.int .i64 (tmE n)))), none, false)
 | _ => none
theorem ok_ref05_TimeErr : Ok Try.prog 38 con_ref05_TimeErr := by
 refine Ok.fn (ann := ann_ref05_TimeErr) mixed tabOK VSkf65 VIkv51 (fn := Try.f38) (by kernel_rfl) (by kernel_rfl) fit_ref05_TimeErr fun args r pre fresh h hp => ?_
 unfold con_ref05_TimeErr at h
 split at h
 ·rename_i n
  cases h
  refine ⟨rfl, fun _ _ _ => False, _, LeA.refl _, Nat.le_of_ble_eq_true (by kernel_rfl), ?_, ?_⟩
  ·rw [ev_ref05_TimeErr]; exact spec_ref05_TimeErr n
  ·rw [lp_ref05_TimeErr]; trivial
 ·cases h
def Skf66 : Sum := addS Skf65 38 con_ref05_TimeErr
theorem VSkf66 : Valid Try.prog Skf66 := Valid.add VSkf65 ok_ref05_TimeErr
def vc_ref05_isWeight (n : Int) (post : DV → Prop) : Prop := post (.t (.c (.v (.bool (inB n (0 : Int) (100 : Int))))))
def ann_ref05_isWeight : Ann := ⟨fun _ => none, fun _ => none, fun _ => [], Ikv51, false, fun _ => none, fun _ => none⟩
theorem ev_ref05_isWeight (J : Inv) (n : Int) (post : DV → Prop) : evFn Try.prog tab Skf66 ann_ref05_isWeight J Try.f39 [.t (.c (.v (.int .i64 n)))] post = vc_ref05_isWeight n post := by kernel_rfl
theorem fit_ref05_isWeight : okFn ann_ref05_isWeight Try.f39 = true := by kernel_rfl
theorem lp_ref05_isWeight (J : Inv) (post : DV → Prop) : AllG J (loopsFn Try.prog tab Skf66 ann_ref05_isWeight J Try.f39 post) = (True) := by kernel_rfl
theorem spec_ref05_isWeight (n : Int) : vc_ref05_isWeight n (fun r => LeD r (.t (.c (.v (.bool (inB n 0 100)))))) := by
 exact LeD.refl _
def con_ref05_isWeight : Con := fun args => match args with
 | [.t (.c (.v (.int .i64 n)))] => some (.t (.c (.v (.bool (inB n 0 100)))), none, false)
 | _ => none
theorem ok_ref05_isWeight : Ok Try.prog 39 con_ref05_isWeight := by
 refine Ok.fn (ann := ann_ref05_isWeight) mixed tabOK VSkf66 VIkv51 (fn := Try.f39) (by kernel_rfl) (by kernel_rfl) fit_ref05_isWeight fun args r pre fresh h hp => ?_
 unfold con_ref05_isWeight at h
 split at h
 ·rename_i n
  cases h
  refine ⟨rfl, fun _ _ _ => False, _, LeA.refl _, Nat.le_of_ble_eq_true (by kernel_rfl), ?_, ?_⟩
  ·rw [ev_ref05_isWeight]; exact spec_ref05_isWeight n
  ·rw [lp_ref05_isWeight]; trivial
 ·cases h
def Skf67 : Sum := addS Skf66 39 con_ref05_isWeight
theorem VSkf67 : Valid Try.prog Skf67 := Valid.add VSkf66 ok_ref05_isWeight
def vc_ref05_PlaceErr (p0 p1 p2 : Int) (post : DV → Prop) : Prop := (0 ≤ (0 : Int) ∧ (0 : Int) < ((3 : Nat) : Int)) ∧ (cond (!(inB p0 (-1000 : Int) (1000 : Int))) (post (.t (.c (.v (.int .i64 2))))) ((0 ≤ (1 : Int) ∧ (1 : Int) < ((3 : Nat) : Int)) ∧ (cond (!(inB p1 (-1000 : Int) (1000 : Int))) (post (.t (.c (.v (.int .i64 2))))) ((0 ≤ (2 : Int) ∧ (2 : Int) < ((3 : Nat) : Int)) ∧ (cond (!(inB p2 (-1000 : Int) (1000 : Int))) (post (.t (.c (.v (.int .i64 2))))) (post (.t (.c (.v (.int .i64 0))))))))))
def ann_ref05_PlaceErr : Ann := ⟨fun _ => none, fun b => lookA b [(0, (some 4, some ⟨[1, 3], [1], []⟩))], fun _ => [], Ikv51, false, fun _ => none, fun _ => none⟩
theorem ev_ref05_PlaceErr (J : Inv) (p0 p1 p2 : Int) (post : DV → Prop) : evFn Try.prog tab Skf67 ann_ref05_PlaceErr J Try.f37 [.t (.a [.v (.int .i64 p0), .v (.int .i64 p1), .v (.int .i64 p2)])] post = vc_ref05_PlaceErr p0 p1 p2 post := by kernel_rfl
theorem fit_ref05_PlaceErr : okFn ann_ref05_PlaceErr Try.f37 = true := by kernel_rfl
theorem lp_ref05_PlaceErr (J : Inv) (post : DV → Prop) : AllG J (loopsFn Try.prog tab Skf67 ann_ref05_PlaceErr J Try.f37 post) = (True) := by kernel_rfl
theorem spec_ref05_PlaceErr (p0 p1 p2 : Int) : vc_ref05_PlaceErr p0 p1 p2 (fun r => LeD r (.t (.c (.v (.int .i64 (plE (⟨p0, p1, p2⟩ : V3))))))) := by
 unfold vc_ref05_PlaceErr
 unfold plE V3.inS
 simp only
 refine ⟨by decide, cond_i (fun h => leI ?_) (fun h => ⟨by decide, cond_i (fun g => leI ?_) (fun g => ⟨by decide, cond_i (fun f => leI ?_) (fun f => leI ?_)⟩)⟩)⟩
 ·rw [show inB p0 (-1000) 1000 = false by simpa using h]; rfl
 ·rw [show inB p1 (-1000) 1000 = false by simpa using g, Bool.and_false]; rfl
 ·rw [show inB p2 (-1000) 1000 = false by simpa using f, Bool.and_false]; rfl
 ·rw [show inB p0 (-1000) 1000 = true by simpa using h, show inB p1 (-1000) 1000 = true by simpa using g, show inB p2 (-1000) 1000 = true by simpa using f]; rfl
def con_ref05_PlaceErr : Con := fun args => match args with
 | [.t (.a [.v (.int .i64 p0), .v (.int .i64 p1), .v (.int .i64 p2)])] => some (.t (.c (.v (.int .i64 (plE (⟨p0, p1, p2⟩ : V3))))), none, false)
 | _ => none
theorem ok_ref05_PlaceErr : Ok Try.prog 37 con_ref05_PlaceErr := by
 refine Ok.fn (ann := ann_ref05_PlaceErr) mixed tabOK VSkf67 VIkv51 (fn := Try.f37) (by kernel_rfl) (by kernel_rfl) fit_ref05_PlaceErr fun args r pre fresh h hp => ?_
 unfold con_ref05_PlaceErr at h
 split at h
 ·rename_i p0 p1 p2
  cases h
  refine ⟨rfl, fun _ _ _ => False, _, LeA.refl _, Nat.le_of_ble_eq_true (by kernel_rfl), ?_, ?_⟩
  ·rw [ev_ref05_PlaceErr]; exact spec_ref05_PlaceErr p0 p1 p2
  ·rw [lp_ref05_PlaceErr]; trivial
 ·cases h
def Skf68 : Sum := addS Skf67 37 con_ref05_PlaceErr
theorem VSkf68 : Valid Try.prog Skf68 := Valid.add VSkf67 ok_ref05_PlaceErr
def mk_ref05_CheckHits_0 (l : List THit) (v0_0 : Int) : DS := ⟨[some (.t (.c (.sl 5 l.length (hitsC l)))), none, none, none, some (.t (.c (.v (.int .i64 v0_0)))), none, none, none, none, none, none, none, none, none, none, none, none, none, none, none, none, none, none, none, none, none, none, none, none, none, none, none, none, none, none, none, none, none, none, none, none, none, none, none], [none, none, none, none, none, none, none, none, none, none, none, none, none, none, none, none, none, none, none, none, none, none, none, none, none, none, none, none, none, none, none, none, none, none, none, none, none, none, none, none, none, none, none, none]⟩
def vc_ref05_CheckHits (J : Inv) (l : List THit) (post : DV → Prop) : Prop := cond (decide (((l.length : Nat) : Int) > (12 : Int))) (post (.tu [.c (.v (.int .i64 0)), .c (.v (.int .i64 8))])) (∃ n, J 0 (n :: []) (mk_ref05_CheckHits_0 l 0))
def ann_ref05_CheckHits : Ann := ⟨fun _ => none, fun b => lookA b [(0, (none, some ⟨[0, 4], [], []⟩))], fun _ => [], Ikv51, false, fun _ => none, fun _ => none⟩
theorem ev_ref05_CheckHits (J : Inv) (l : List THit) (post : DV → Prop) : evFn Try.prog tab Skf68 ann_ref05_CheckHits J Try.f70 [.t (.c (.sl 5 l.length (hitsC l)))] post = vc_ref05_CheckHits J l post := by kernel_rfl
theorem fit_ref05_CheckHits : okFn ann_ref05_CheckHits Try.f70 = true := by kernel_rfl
def rd_ref05_CheckHits_0 (J : Inv) (l : List THit) (v0_0 : Int) (nn0 : Nat) (post : DV → Prop) : Prop := cond (decide (v0_0 < ((l.length : Nat) : Int))) ((0 ≤ v0_0 ∧ v0_0 < ((l.length : Nat) : Int)) ∧ (cond ((plE (hitAt l v0_0.toNat).p) != (0 : Int)) (post (.tu [.c (.v (.int .i64 v0_0)), .c (.v (.int .i64 (plE (hitAt l v0_0.toNat).p)))])) ((0 ≤ v0_0 ∧ v0_0 < ((l.length : Nat) : Int)) ∧ (cond ((tmE ((hitAt l v0_0.toNat).t)) != (0 : Int)) (post (.tu [.c (.v (.int .i64 v0_0)), .c (.v (.int .i64 (tmE ((hitAt l v0_0.toNat).t))))])) ((0 ≤ v0_0 ∧ v0_0 < ((l.length : Nat) : Int)) ∧ (cond (!(inB ((hitAt l v0_0.toNat).w) 0 100)) (post (.tu [.c (.v (.int .i64 v0_0)), .c (.v (.int .i64 2))])) (lt (IntKind.i64.wrap (v0_0 + (1 : Int))) fun x1 => J 0 (nn0 :: []) (mk_ref05_CheckHits_0 l x1)))))))) (post (.tu [.c (.v (.int .i64 0)), .c (.v (.int .i64 0))]))
theorem er_ref05_CheckHits_0 (J : Inv) (l : List THit) (v0_0 : Int) (nn0 : Nat) (post : DV → Prop) : round Try.prog tab Skf68 ann_ref05_CheckHits J Try.f70 post 0 (nn0 :: []) (mk_ref05_CheckHits_0 l v0_0) = rd_ref05_CheckHits_0 J l v0_0 nn0 post := by kernel_rfl
theorem lp_ref05_CheckHits (J : Inv) (post : DV → Prop) : AllG J (loopsFn Try.prog tab Skf68 ann_ref05_CheckHits J Try.f70 post) = (((∀ F s, ¬ J 0 (0 :: F) s) ∧ ∀ n F s, J 0 ((n + 1) :: F) s → round Try.prog tab Skf68 ann_ref05_CheckHits J Try.f70 post 0 (n :: F) s) ∧ True) := by kernel_rfl
def J_ref05_CheckHits (l : List THit) : Inv := fun b F s => match b, F with
 | 0, [nn0] => ∃ (v0_0 : Int), s = mk_ref05_CheckHits_0 l v0_0 ∧ (0 ≤ v0_0 ∧ v0_0 ≤ l.length ∧ (nn0 : Int) + v0_0 = l.length + 1 ∧ l.length ≤ 12 ∧ ∀ j : Nat, (j : Int) < v0_0 → (hitAt l j).err = 0)
 | _, _ => False
theorem rnd_ref05_CheckHits_0 (l : List THit) (v0_0 : Int) (nn0 : Nat) (hi : 0 ≤ v0_0 ∧ v0_0 ≤ l.length ∧ ((nn0 + 1) : Int) + v0_0 = l.length + 1 ∧ l.length ≤ 12 ∧ ∀ j : Nat, (j : Int) < v0_0 → (hitAt l j).err = 0) : rd_ref05_CheckHits_0 (J_ref05_CheckHits l) l v0_0 nn0 (fun r => LeD r (.tu [.c (.v (.int .i64 (hitsIdx l))), .c (.v (.int .i64 (hitsE l)))])) := by
 obtain ⟨h1, h2, h3, h4, h5⟩ := hi
 obtain ⟨k, rfl⟩ : ∃ k : Nat, v0_0 = k := ⟨v0_0.toNat, by omega⟩
 have hk : (k : Int).toNat = k := rfl
 have hz : ∀ j, j < k → (hitAt l j).err = 0 := fun j hj => h5 j (by omega)
 unfold rd_ref05_CheckHits_0
 rw [hk]
 have hne : k < l.length → (hitAt l k).err ≠ 0 → hitsIdx l = k ∧ hitsE l = (hitAt l k).err := fun hlt hn => ⟨(if_neg (by omega)).trans (scanI_at hz hlt hn), (if_neg (by omega)).trans (scan_at hz hlt hn)⟩
 have he : (hitAt l k).err = firstNZ [plE (hitAt l k).p, tmE (hitAt l k).t, unl (inB (hitAt l k).w 0 100) 2] := rfl
 refine cond_i (fun h => ?_) (fun h => ?_)
 ·have hlt : k < l.length := by have := of_decide_eq_true h; omega
  refine ⟨by omega, cond_i (fun e => ?_) (fun e => ⟨by omega, cond_i (fun e2 => ?_) (fun e2 => ⟨by omega, cond_i (fun e3 => ?_) (fun e3 => lt_i fun x hx => ?_)⟩)⟩)⟩
  ·have e : plE (hitAt l k).p ≠ 0 := by simpa using e
   have e4 : (hitAt l k).err = plE (hitAt l k).p := by rw [he]; simp [firstNZ, e]
   obtain ⟨q1, q2⟩ := hne hlt (by rw [e4]; exact e)
   rw [q1, q2, e4]; exact LeD.refl _
  ·have e : plE (hitAt l k).p = 0 := by simpa using e
   have e2 : tmE (hitAt l k).t ≠ 0 := by simpa using e2
   have e4 : (hitAt l k).err = tmE (hitAt l k).t := by rw [he]; simp [firstNZ, e, e2]
   obtain ⟨q1, q2⟩ := hne hlt (by rw [e4]; exact e2)
   rw [q1, q2, e4]; exact LeD.refl _
  ·have e : plE (hitAt l k).p = 0 := by simpa using e
   have e2 : tmE (hitAt l k).t = 0 := by simpa using e2
   have e3 : inB (hitAt l k).w 0 100 = false := by simpa using e3
   have e4 : (hitAt l k).err = 2 := by rw [he]; simp [firstNZ, e, e2, e3, unl]
   obtain ⟨q1, q2⟩ := hne hlt (by rw [e4]; decide)
   rw [q1, q2, e4]; exact LeD.refl _
  ·have e : plE (hitAt l k).p = 0 := by simpa using e
   have e2 : tmE (hitAt l k).t = 0 := by simpa using e2
   have e3 : inB (hitAt l k).w 0 100 = true := by simpa using e3
   have e4 : (hitAt l k).err = 0 := by rw [he]; simp [firstNZ, e, e2, e3, unl]
   rw [IntWalk.i64_in _ (by omega)] at hx
   refine ⟨_, rfl, by omega, by omega, by omega, h4, fun j hj => ?_⟩
   by_cases q : j = k
   ·rw [q]; exact e4
   ·exact hz j (by omega)
 ·have hge : ¬ (k < l.length) := by have := of_decide_eq_false h; omega
  have hkl : k = l.length := by omega
  subst hkl
  rw [show hitsIdx l = 0 from (if_neg (by omega)).trans (scanI_end hz), show hitsE l = 0 from (if_neg (by omega)).trans (scan_end hz)]
  exact LeD.refl _
theorem zero_ref05_CheckHits_0 (l : List THit) (v0_0 : Int)  (hi : 0 ≤ v0_0 ∧ v0_0 ≤ l.length ∧ (0 : Int) + v0_0 = l.length + 1 ∧ l.length ≤ 12 ∧ ∀ j : Nat, (j : Int) < v0_0 → (hitAt l j).err = 0) : False := by
 omega
theorem spec_ref05_CheckHits (l : List THit) : vc_ref05_CheckHits (J_ref05_CheckHits l) l (fun r => LeD r (.tu [.c (.v (.int .i64 (hitsIdx l))), .c (.v (.int .i64 (hitsE l)))])) := by
 unfold vc_ref05_CheckHits
 refine cond_i (fun h => LeD.of ?_) (fun h => ⟨l.length + 1, _, rfl, ?_⟩)
 ·have h := of_decide_eq_true h
  rw [show hitsIdx l = 0 from if_pos (by omega), show hitsE l = 8 from if_pos (by omega)]
 ·have h := of_decide_eq_false h
  exact ⟨by omega, by omega, by omega, by omega, fun j hj => by omega⟩
theorem all_ref05_CheckHits (l : List THit) : AllG (J_ref05_CheckHits l) (loopsFn Try.prog tab Skf68 ann_ref05_CheckHits (J_ref05_CheckHits l) Try.f70 (fun r => LeD r (.tu [.c (.v (.int .i64 (hitsIdx l))), .c (.v (.int .i64 (hitsE l)))]))) := by
 rw [lp_ref05_CheckHits]
 refine ⟨⟨?_, ?_⟩, trivial⟩
 ·intro F s h
  obtain _ | ⟨g, F⟩ := F
  case cons => exact h.elim
  obtain ⟨w0, rfl, hi⟩ := h
  exact zero_ref05_CheckHits_0 l w0 hi
 ·intro n F s h
  obtain _ | ⟨g, F⟩ := F
  case cons => exact h.elim
  obtain ⟨w0, rfl, hi⟩ := h
  rw [er_ref05_CheckHits_0]
  exact rnd_ref05_CheckHits_0 l _ _ hi
def con_ref05_CheckHits : Con := fun args => match args with
 | [.t (.c (.sl 5 n_l c_l))] => some (.tu [.c (.v (.int .i64 (hitsIdx (listC n_l mkHit c_l)))), .c (.v (.int .i64 (hitsE (listC n_l mkHit c_l))))], some (numsP 5 n_l c_l), false)
 | _ => none
theorem ok_ref05_CheckHits : Ok Try.prog 70 con_ref05_CheckHits := by
 refine Ok.fn (ann := ann_ref05_CheckHits) mixed tabOK VSkf68 VIkv51 (fn := Try.f70) (by kernel_rfl) (by kernel_rfl) fit_ref05_CheckHits fun args r pre fresh h hp => ?_
 unfold con_ref05_CheckHits at h
 split at h
 ·rename_i n_l c_l
  cases h
  have hp0 := hp
  refine ⟨rfl, J_ref05_CheckHits (listC n_l mkHit c_l), [.t (.c (.sl 5 ((listC n_l mkHit c_l).length) (hitsC (listC n_l mkHit c_l))))], ?_, Nat.le_of_ble_eq_true (by kernel_rfl), ?_, ?_⟩
  ·exact (LeA_cons (leT_c ((leL_THit hp0))) LeA_nil)
  ·rw [ev_ref05_CheckHits]; exact spec_ref05_CheckHits (listC n_l mkHit c_l)
  ·exact all_ref05_CheckHits (listC n_l mkHit c_l)
 ·cases h
def Skf69 : Sum := addS Skf68 70 con_ref05_CheckHits
theorem VSkf69 : Valid Try.prog Skf69 := Valid.add VSkf68 ok_ref05_CheckHits
def vc_ref05_HitsErr (l : List THit) (post : DV → Prop) : Prop := (numsP 5 l.length (hitsC l)) ∧ (post (.t (.c (.v (.int .i64 (hitsE (listC l.length mkHit (hitsC l))))))))
def ann_ref05_HitsErr : Ann := ⟨fun _ => none, fun _ => none, fun _ => [], Ikv51, false, fun _ => none, fun _ => none⟩
theorem ev_ref05_HitsErr (J : Inv) (l : List THit) (post : DV → Prop) : evFn Try.prog tab Skf69 ann_ref05_HitsErr J Try.f40 [.t (.c (.sl 5 l.length (hitsC l)))] post = vc_ref05_HitsErr l post := by kernel_rfl
theorem fit_ref05_HitsErr : okFn ann_ref05_HitsErr Try.f40 = true := by kernel_rfl
theorem lp_ref05_HitsErr (J : Inv) (post : DV → Prop) : AllG J (loopsFn Try.prog tab Skf69 ann_ref05_HitsErr J Try.f40 post) = (True) := by kernel_rfl
theorem spec_ref05_HitsErr (l : List THit) : vc_ref05_HitsErr l (fun r => LeD r (.t (.c (.v (.int .i64 (hitsE l)))))) := by
 unfold vc_ref05_HitsErr
 rw [hits_listC]
 exact ⟨numsP_hits l, LeD.refl _⟩
def con_ref05_HitsErr : Con := fun args => match args with
 | [.t (.c (.sl 5 n_l c_l))] => some (.t (.c (.v (.int .i64 (hitsE (listC n_l mkHit c_l))))), some (numsP 5 n_l c_l), false)
 | _ => none
theorem ok_ref05_HitsErr : Ok Try.prog 40 con_ref05_HitsErr := by
 refine Ok.fn (ann := ann_ref05_HitsErr) mixed tabOK VSkf69 VIkv51 (fn := Try.f40) (by kernel_rfl) (by kernel_rfl) fit_ref05_HitsErr fun args r pre fresh h hp => ?_
 unfold con_ref05_HitsErr at h
 split at h
 ·rename_i n_l c_l
  cases h
  have hp0 := hp
  refine ⟨rfl, fun _ _ _ => False, [.t (.c (.sl 5 ((listC n_l mkHit c_l).length) (hitsC (listC n_l mkHit c_l))))], ?_, Nat.le_of_ble_eq_true (by kernel_rfl), ?_, ?_⟩
  ·exact (LeA_cons (leT_c ((leL_THit hp0))) LeA_nil)
  ·rw [ev_ref05_HitsErr]; exact spec_ref05_HitsErr (listC n_l mkHit c_l)
  ·rw [lp_ref05_HitsErr]; trivial
 ·cases h
def Skf70 : Sum := addS Skf69 40 con_ref05_HitsErr
theorem VSkf70 : Valid Try.prog Skf70 := Valid.add VSkf69 ok_ref05_HitsErr
def vc_ref05_Copy (l : List THit) (post : DV → Prop) : Prop := (roomP 40 (([] : List (List CV)).length + ((List.range l.length).map fun i => fwd ((hitsC l) i) 0 5).length)) ∧ (post (.t (.c (.sl 5 ((([] : List (List CV)) ++ ((List.range l.length).map fun i => fwd ((hitsC l) i) 0 5)).length) (genC (([] : List (List CV)) ++ ((List.range l.length).map fun i => fwd ((hitsC l) i) 0 5)))))))
def ann_ref05_Copy : Ann := ⟨fun _ => none, fun _ => none, fun _ => [], Ikv51, true, fun _ => none, fun _ => none⟩
theorem ev_ref05_Copy (J : Inv) (l : List THit) (post : DV → Prop) : evFn Try.prog tab Skf70 ann_ref05_Copy J Try.f9 [.t (.c (.sl 5 l.length (hitsC l)))] post = vc_ref05_Copy l post := by kernel_rfl
theorem fit_ref05_Copy : okFn ann_ref05_Copy Try.f9 = true := by kernel_rfl
theorem lp_ref05_Copy (J : Inv) (post : DV → Prop) : AllG J (loopsFn Try.prog tab Skf70 ann_ref05_Copy J Try.f9 post) = (True) := by kernel_rfl
theorem spec_ref05_Copy (l : List THit) (hp : (l).length ≤ 1000000) : vc_ref05_Copy l (fun r => LeD r (.t (.c (.sl 5 l.length (hitsC l))))) := by
 unfold vc_ref05_Copy
 rw [hits_fwd]
 exact ⟨by simp [roomP, maxLen]; omega, le_hits l⟩
def con_ref05_Copy : Con := fun args => match args with
 | [.t (.c (.sl 5 n_l c_l))] => some (.t (.c (.sl 5 ((listC n_l mkHit c_l).length) (hitsC (listC n_l mkHit c_l)))), some (numsP 5 n_l c_l ∧ ((listC n_l mkHit c_l)).length ≤ 1000000), true)
 | _ => none
theorem ok_ref05_Copy : Ok Try.prog 9 con_ref05_Copy := by
 refine Ok.fnFr (ann := ann_ref05_Copy) mixed tabOK VSkf70 VIkv51 rfl (fn := Try.f9) (by kernel_rfl) (by kernel_rfl) fit_ref05_Copy fun args r pre fresh h hp => ?_
 unfold con_ref05_Copy at h
 split at h
 ·rename_i n_l c_l
  cases h
  obtain ⟨hp0, hp⟩ := hp
  refine ⟨rfl, (fun i j _ hj => plain_THit _ i j), fun _ _ _ => False, [.t (.c (.sl 5 ((listC n_l mkHit c_l).length) (hitsC (listC n_l mkHit c_l))))], ?_, Nat.le_of_ble_eq_true (by kernel_rfl), ?_, ?_⟩
  ·exact (LeA_cons (leT_c ((leL_THit hp0))) LeA_nil)
  ·rw [ev_ref05_Copy]; exact spec_ref05_Copy (listC n_l mkHit c_l) hp
  ·rw [lp_ref05_Copy]; trivial
 ·cases h
def Skf71 : Sum := addS Skf70 9 con_ref05_Copy
theorem VSkf71 : Valid Try.prog Skf71 := Valid.add VSkf70 ok_ref05_Copy
def vc_ref05_ModelErr (m0 m1 m2 m3 m4 m5 m6 m7 m8 m9 m10 m11 : Int) (post : DV → Prop) : Prop := cond ((plE (⟨m0, m1, m2⟩ : V3)) != (0 : Int)) (post (.t (.c (.v (.int .i64 (plE (⟨m0, m1, m2⟩ : V3))))))) (cond ((tmE m3) != (0 : Int)) (post (.t (.c (.v (.int .i64 (tmE m3)))))) ((cond (!(inB m4 (1 : Int) (20 : Int))) ((true = true) ∧ ((true = true) ∧ ((true = true) ∧ ((true = true) ∧ ((true = true) ∧ ((true = true) ∧ ((true = true) ∧ (True)))))))) (cond (!(inB m5 (1 : Int) (1200 : Int))) ((true = true) ∧ ((true = true) ∧ ((true = true) ∧ ((true = true) ∧ ((true = true) ∧ ((true = true) ∧ (True))))))) (cond (!(inB m6 (1 : Int) (1200 : Int))) ((true = true) ∧ ((true = true) ∧ ((true = true) ∧ ((true = true) ∧ ((true = true) ∧ (True)))))) (cond (!(inB m7 (1 : Int) (100 : Int))) ((true = true) ∧ ((true = true) ∧ ((true = true) ∧ ((true = true) ∧ (True))))) (cond (!(inB m8 0 100)) ((true = true) ∧ ((true = true) ∧ ((true = true) ∧ (True)))) (cond (!(inB m9 0 100)) ((true = true) ∧ ((true = true) ∧ (True))) (cond (!(inB m10 0 100)) ((true = true) ∧ (True)) (True)))))))) ∧ (lt ((bif (!(inB m4 (1 : Int) (20 : Int))) then true else (bif (!(inB m5 (1 : Int) (1200 : Int))) then true else (bif (!(inB m6 (1 : Int) (1200 : Int))) then true else (bif (!(inB m7 (1 : Int) (100 : Int))) then true else (bif (!(inB m8 0 100)) then true else (bif (!(inB m9 0 100)) then true else (bif (!(inB m10 0 100)) then true else (!(inB m11 0 100)))))))))) fun x1 => cond x1 (post (.t (.c (.v (.int .i64 2))))) (cond (decide (m5 > m6)) (post (.t (.c (.v (.int .i64 9))))) (lt (IntKind.i64.wrap (m7 * m4)) fun x2 => lt (IntKind.i64.wrap (x2 * m4)) fun x3 => cond (decide (m5 ≤ x3)) (post (.t (.c (.v (.int .i64 13))))) (post (.t (.c (.v (.int .i64 0))))))))))
def ann_ref05_ModelErr : Ann := ⟨fun _ => none, fun _ => none, fun _ => [], Ikv51, false, fun r => lookA r [(8, (5, [67]))], fun _ => none⟩
theorem ev_ref05_ModelErr (J : Inv) (m0 m1 m2 m3 m4 m5 m6 m7 m8 m9 m10 m11 : Int) (post : DV → Prop) : evFn Try.prog tab Skf71 ann_ref05_ModelErr J Try.f12 [.t (.a [.v (.int .i64 m0), .v (.int .i64 m1), .v (.int .i64 m2), .v (.int .i64 m3), .v (.int .i64 m4), .v (.int .i64 m5), .v (.int .i64 m6), .v (.int .i64 m7), .v (.int .i64 m8), .v (.int .i64 m9), .v (.int .i64 m10), .v (.int .i64 m11)])] post = vc_ref05_ModelErr m0 m1 m2 m3 m4 m5 m6 m7 m8 m9 m10 m11 post := by kernel_rfl
theorem fit_ref05_ModelErr : okFn ann_ref05_ModelErr Try.f12 = true := by kernel_rfl
theorem lp_ref05_ModelErr (J : Inv) (post : DV → Prop) : AllG J (loopsFn Try.prog tab Skf71 ann_ref05_ModelErr J Try.f12 post) = (True) := by kernel_rfl
theorem spec_ref05_ModelErr (m0 m1 m2 m3 m4 m5 m6 m7 m8 m9 m10 m11 : Int) : vc_ref05_ModelErr m0 m1 m2 m3 m4 m5 m6 m7 m8 m9 m10 m11 (fun r => LeD r (.t (.c (.v (.int .i64 (((⟨m0, m1, m2, m3, m4, m5, m6, m7, m8, m9, m10, m11⟩ : TMod)).err)))))) := by
 unfold vc_ref05_ModelErr TMod.err
 rw [or8]
 have hp : TMod.pl (⟨m0, m1, m2, m3, m4, m5, m6, m7, m8, m9, m10, m11⟩ : TMod) = ⟨m0, m1, m2⟩ := rfl
 rw [hp]
 simp only
 have hr : (inB m4 1 20 && inB m5 1 1200 && inB m6 1 1200 && inB m7 1 100 && inB m8 0 100 && inB m9 0 100 && inB m10 0 100 && inB m11 0 100) = ((⟨m0, m1, m2, m3, m4, m5, m6, m7, m8, m9, m10, m11⟩ : TMod)).right := rfl
 rw [hr]
 refine cond_i (fun h => leI ?_) (fun h => cond_i (fun h2 => leI ?_) (fun h2 => ⟨by (repeat' first | trivial | (refine cond_i ?_ ?_ <;> intro _) | (refine And.intro ?_ ?_) | (refine lt_i ?_; intro _ _)), lt_i fun x1 h1 => cond_i (fun e => leI ?_) (fun e => cond_i (fun e2 => leI ?_) (fun e2 => lt_i fun x2 h3 => lt_i fun x3 h4 => ?_))⟩))
 ·have h : plE (⟨m0, m1, m2⟩ : V3) ≠ 0 := by simpa using h
  simp [firstNZ, h]
 ·have h : plE (⟨m0, m1, m2⟩ : V3) = 0 := by simpa using h
  have h2 : tmE m3 ≠ 0 := by simpa using h2
  simp [firstNZ, h, h2]
 all_goals have h : plE (⟨m0, m1, m2⟩ : V3) = 0 := by simpa using h
 all_goals have h2 : tmE m3 = 0 := by simpa using h2
 ·have e : ((⟨m0, m1, m2, m3, m4, m5, m6, m7, m8, m9, m10, m11⟩ : TMod)).right = false := by rw [e] at h1; simpa using h1
  rw [h, h2, e]; rfl
 all_goals have e : ((⟨m0, m1, m2, m3, m4, m5, m6, m7, m8, m9, m10, m11⟩ : TMod)).right = true := by rw [e] at h1; simpa using h1
 ·have e2 := of_decide_eq_true e2
  rw [h, h2, e, decide_eq_false (show ¬ m5 ≤ m6 by omega)]; rfl
 have e2 := of_decide_eq_false e2
 unfold TMod.right at e
 simp only [Bool.and_eq_true, inB_true] at e
 obtain ⟨⟨⟨⟨⟨⟨⟨b1, b2⟩, b3⟩, b4⟩, b5⟩, b6⟩, b7⟩, b8⟩ := e
 have k3 := mul_rg (x := m7) (y := m4) (A := 100) (B := 20) (C := 2000) (by omega) (by omega) (by decide)
 rw [wi (by omega)] at h3
 subst h3
 have k4 := mul_rg (x := m7 * m4) (y := m4) (A := 2000) (B := 20) (C := 40000) k3 (by omega) (by decide)
 rw [wi (by omega)] at h4
 have h4 : ((⟨m0, m1, m2, m3, m4, m5, m6, m7, m8, m9, m10, m11⟩ : TMod)).slow = x3 := h4
 have er : ((⟨m0, m1, m2, m3, m4, m5, m6, m7, m8, m9, m10, m11⟩ : TMod)).right = true := by
  unfold TMod.right
  simp only [Bool.and_eq_true, inB_true]
  exact ⟨⟨⟨⟨⟨⟨⟨b1, b2⟩, b3⟩, b4⟩, b5⟩, b6⟩, b7⟩, b8⟩
 rw [h, h2, er, decide_eq_true (show m5 ≤ m6 by omega), h4]
 refine cond_i (fun e3 => leI ?_) (fun e3 => leI ?_)
 ·have e3 := of_decide_eq_true e3
  rw [decide_eq_false (show ¬ x3 < m5 by omega)]; rfl
 ·have e3 := of_decide_eq_false e3
  rw [decide_eq_true (show x3 < m5 by omega)]; rfl
def con_ref05_ModelErr : Con := fun args => match args with
 | [.t (.a [.v (.int .i64 m0), .v (.int .i64 m1), .v (.int .i64 m2), .v (.int .i64 m3), .v (.int .i64 m4), .v (.int .i64 m5), .v (.int .i64 m6), .v (.int .i64 m7), .v (.int .i64 m8), .v (.int .i64 m9), .v (.int .i64 m10), .v (.int .i64 m11)])] => some (.t (.c (.v (.int .i64 (((⟨m0, m1, m2, m3, m4, m5, m6, m7, m8, m9, m10, m11⟩ : TMod)).err)))), none, false)
 | _ => none
theorem ok_ref05_ModelErr : Ok Try.prog 12 con_ref05_ModelErr := by
 refine Ok.fn (ann := ann_ref05_ModelErr) mixed tabOK VSkf71 VIkv51 (fn := Try.f12) (by kernel_rfl) (by kernel_rfl) fit_ref05_ModelErr fun args r pre fresh h hp => ?_
 unfold con_ref05_ModelErr at h
 split at h
 ·rename_i m0 m1 m2 m3 m4 m5 m6 m7 m8 m9 m10 m11
  cases h
  refine ⟨rfl, fun _ _ _ => False, _, LeA.refl _, Nat.le_of_ble_eq_true (by kernel_rfl), ?_, ?_⟩
  ·rw [ev_ref05_ModelErr]; exact spec_ref05_ModelErr m0 m1 m2 m3 m4 m5 m6 m7 m8 m9 m10 m11
  ·rw [lp_ref05_ModelErr]; trivial
 ·cases h
def Skf72 : Sum := addS Skf71 12 con_ref05_ModelErr
theorem VSkf72 : Valid Try.prog Skf72 := Valid.add VSkf71 ok_ref05_ModelErr
def vc_ref05_Dot (s0 s1 s2 : Int) (t0 t1 t2 : Int) (post : DV → Prop) : Prop := (0 ≤ (0 : Int) ∧ (0 : Int) < ((3 : Nat) : Int)) ∧ ((0 ≤ (0 : Int) ∧ (0 : Int) < ((3 : Nat) : Int)) ∧ (lt (IntKind.i64.wrap (s0 * t0)) fun x1 => (0 ≤ (1 : Int) ∧ (1 : Int) < ((3 : Nat) : Int)) ∧ ((0 ≤ (1 : Int) ∧ (1 : Int) < ((3 : Nat) : Int)) ∧ (lt (IntKind.i64.wrap (s1 * t1)) fun x2 => lt (IntKind.i64.wrap (x1 + x2)) fun x3 => (0 ≤ (2 : Int) ∧ (2 : Int) < ((3 : Nat) : Int)) ∧ ((0 ≤ (2 : Int) ∧ (2 : Int) < ((3 : Nat) : Int)) ∧ (lt (IntKind.i64.wrap (s2 * t2)) fun x4 => lt (IntKind.i64.wrap (x3 + x4)) fun x5 => post (.t (.c (.v (.int .i64 x5))))))))))
def ann_ref05_Dot : Ann := ⟨fun _ => none, fun _ => none, fun _ => [], Ikv51, false, fun _ => none, fun _ => none⟩
theorem ev_ref05_Dot (J : Inv) (s0 s1 s2 : Int) (t0 t1 t2 : Int) (post : DV → Prop) : evFn Try.prog tab Skf72 ann_ref05_Dot J Try.f74 [.t (.a [.v (.int .i64 s0), .v (.int .i64 s1), .v (.int .i64 s2)]), .t (.a [.v (.int .i64 t0), .v (.int .i64 t1), .v (.int .i64 t2)])] post = vc_ref05_Dot s0 s1 s2 t0 t1 t2 post := by kernel_rfl
theorem fit_ref05_Dot : okFn ann_ref05_Dot Try.f74 = true := by kernel_rfl
theorem lp_ref05_Dot (J : Inv) (post : DV → Prop) : AllG J (loopsFn Try.prog tab Skf72 ann_ref05_Dot J Try.f74 post) = (True) := by kernel_rfl
theorem spec_ref05_Dot (s0 s1 s2 : Int) (t0 t1 t2 : Int) : vc_ref05_Dot s0 s1 s2 t0 t1 t2 (fun r => LeD r (.t (.c (.v (.int .i64 (dotW (⟨s0, s1, s2⟩ : V3) (⟨t0, t1, t2⟩ : V3))))))) := by
 unfold vc_ref05_Dot
 refine ⟨by decide, by decide, lt_i fun x1 h1 => ⟨by decide, by decide, lt_i fun x2 h2 => lt_i fun x3 h3 => ⟨by decide, by decide, lt_i fun x4 h4 => lt_i fun x5 h5 => leI ?_⟩⟩⟩
 unfold dotW
 rw [← h5, ← h4, ← h3, ← h2, ← h1]
def con_ref05_Dot : Con := fun args => match args with
 | [.t (.a [.v (.int .i64 s0), .v (.int .i64 s1), .v (.int .i64 s2)]), .t (.a [.v (.int .i64 t0), .v (.int .i64 t1), .v (.int .i64 t2)])] => some (.t (.c (.v (.int .i64 (dotW (⟨s0, s1, s2⟩ : V3) (⟨t0, t1, t2⟩ : V3))))), none, false)
 | _ => none
theorem ok_ref05_Dot : Ok Try.prog 74 con_ref05_Dot := by
 refine Ok.fn (ann := ann_ref05_Dot) mixed tabOK VSkf72 VIkv51 (fn := Try.f74) (by kernel_rfl) (by kernel_rfl) fit_ref05_Dot fun args r pre fresh h hp => ?_
 unfold con_ref05_Dot at h
 split at h
 ·rename_i s0 s1 s2 t0 t1 t2
  cases h
  refine ⟨rfl, fun _ _ _ => False, _, LeA.refl _, Nat.le_of_ble_eq_true (by kernel_rfl), ?_, ?_⟩
  ·rw [ev_ref05_Dot]; exact spec_ref05_Dot s0 s1 s2 t0 t1 t2
  ·rw [lp_ref05_Dot]; trivial
 ·cases h
def Skf73 : Sum := addS Skf72 74 con_ref05_Dot
theorem VSkf73 : Valid Try.prog Skf73 := Valid.add VSkf72 ok_ref05_Dot
def vc_ref05_IsPermitted (m0 m1 m2 m3 m4 m5 m6 m7 m8 m9 m10 m11 : Int) (s0 s1 s2 : Int) (post : DV → Prop) : Prop := lt (dotW (⟨s0, s1, s2⟩ : V3) (⟨s0, s1, s2⟩ : V3)) fun x1 => post (.t (.c (.v (.bool (inB x1 m5 m6)))))
def ann_ref05_IsPermitted : Ann := ⟨fun r => lookA r [(1, ([[], [], [0, 1], [], [3], [3, 4], [], [6], [6, 7], [0, 1, 2, 3, 4, 5, 6, 7, 8], [0, 1, 2, 3, 4, 5, 6, 7, 8, 9]], [[7, 14], [7, 14], [14], [7, 14], [7, 14], [7, 14], [7, 14], [7, 14], [7, 14], [], []]))], fun _ => none, fun _ => [], Ikv51, false, fun _ => none, fun _ => none⟩
theorem ev_ref05_IsPermitted (J : Inv) (m0 m1 m2 m3 m4 m5 m6 m7 m8 m9 m10 m11 : Int) (s0 s1 s2 : Int) (post : DV → Prop) : evFn Try.prog tab Skf73 ann_ref05_IsPermitted J Try.f45 [.t (.a [.v (.int .i64 m0), .v (.int .i64 m1), .v (.int .i64 m2), .v (.int .i64 m3), .v (.int .i64 m4), .v (.int .i64 m5), .v (.int .i64 m6), .v (.int .i64 m7), .v (.int .i64 m8), .v (.int .i64 m9), .v (.int .i64 m10), .v (.int .i64 m11)]), .t (.a [.v (.int .i64 s0), .v (.int .i64 s1), .v (.int .i64 s2)])] post = vc_ref05_IsPermitted m0 m1 m2 m3 m4 m5 m6 m7 m8 m9 m10 m11 s0 s1 s2 post := by kernel_rfl
theorem fit_ref05_IsPermitted : okFn ann_ref05_IsPermitted Try.f45 = true := by kernel_rfl
theorem lp_ref05_IsPermitted (J : Inv) (post : DV → Prop) : AllG J (loopsFn Try.prog tab Skf73 ann_ref05_IsPermitted J Try.f45 post) = (True) := by kernel_rfl
theorem spec_ref05_IsPermitted (m0 m1 m2 m3 m4 m5 m6 m7 m8 m9 m10 m11 : Int) (s0 s1 s2 : Int) (hp : ((⟨s0, s1, s2⟩ : V3)).sm (⟨s0, s1, s2⟩ : V3)) : vc_ref05_IsPermitted m0 m1 m2 m3 m4 m5 m6 m7 m8 m9 m10 m11 s0 s1 s2 (fun r => LeD r (.t (.c (.v (.bool (((⟨m0, m1, m2, m3, m4, m5, m6, m7, m8, m9, m10, m11⟩ : TMod)).permB (⟨s0, s1, s2⟩ : V3))))))) := by
 have e : dotW (⟨s0, s1, s2⟩ : V3) ⟨s0, s1, s2⟩ = (⟨s0, s1, s2⟩ : V3).dot ⟨s0, s1, s2⟩ := dotW_sm hp
 unfold vc_ref05_IsPermitted
 rw [e]
 refine lt_i fun x hx => leB ?_
 rw [← hx]
 rfl
def con_ref05_IsPermitted : Con := fun args => match args with
 | [.t (.a [.v (.int .i64 m0), .v (.int .i64 m1), .v (.int .i64 m2), .v (.int .i64 m3), .v (.int .i64 m4), .v (.int .i64 m5), .v (.int .i64 m6), .v (.int .i64 m7), .v (.int .i64 m8), .v (.int .i64 m9), .v (.int .i64 m10), .v (.int .i64 m11)]), .t (.a [.v (.int .i64 s0), .v (.int .i64 s1), .v (.int .i64 s2)])] => some (.t (.c (.v (.bool (((⟨m0, m1, m2, m3, m4, m5, m6, m7, m8, m9, m10, m11⟩ : TMod)).permB (⟨s0, s1, s2⟩ : V3))))), some (((⟨s0, s1, s2⟩ : V3)).sm (⟨s0, s1, s2⟩ : V3)), false)
 | _ => none
theorem ok_ref05_IsPermitted : Ok Try.prog 45 con_ref05_IsPermitted := by
 refine Ok.fn (ann := ann_ref05_IsPermitted) mixed tabOK VSkf73 VIkv51 (fn := Try.f45) (by kernel_rfl) (by kernel_rfl) fit_ref05_IsPermitted fun args r pre fresh h hp => ?_
 unfold con_ref05_IsPermitted at h
 split at h
 ·rename_i m0 m1 m2 m3 m4 m5 m6 m7 m8 m9 m10 m11 s0 s1 s2
  cases h
  refine ⟨rfl, fun _ _ _ => False, _, LeA.refl _, Nat.le_of_ble_eq_true (by kernel_rfl), ?_, ?_⟩
  ·rw [ev_ref05_IsPermitted]; exact spec_ref05_IsPermitted m0 m1 m2 m3 m4 m5 m6 m7 m8 m9 m10 m11 s0 s1 s2 hp
  ·rw [lp_ref05_IsPermitted]; trivial
 ·cases h
def Skf74 : Sum := addS Skf73 45 con_ref05_IsPermitted
theorem VSkf74 : Valid Try.prog Skf74 := Valid.add VSkf73 ok_ref05_IsPermitted
def Skf75 : Sum := Skf74
theorem VSkf75 : Valid Try.prog Skf75 := VSkf74
def Skf76 : Sum := Skf75
theorem VSkf76 : Valid Try.prog Skf76 := VSkf75
def Skf77 : Sum := Skf76
theorem VSkf77 : Valid Try.prog Skf77 := VSkf76
def Skf78 : Sum := Skf77
theorem VSkf78 : Valid Try.prog Skf78 := VSkf77
end Go.Proofs.Ytfadkjcfjkmalaa
set_option linter.unusedVariables false
set_option linter.unusedSimpArgs false
namespace Go.Proofs.Ytfadkjcfjkmalaa
open Go.RowKit Ev
def Skg79 : Sum := Skf78
theorem VSkg79 : Valid Try.prog Skg79 := VSkf78
def Skg80 : Sum := Skg79
theorem VSkg80 : Valid Try.prog Skg80 := VSkg79
def Skg81 : Sum := Skg80
theorem VSkg81 : Valid Try.prog Skg81 := VSkg80
def vc_law05_small (b0 b1 b2 b3 b4 b5 : Int) (post : DV → Prop) : Prop := (cond ((((⟨⟨b0, b1, b2⟩, ⟨b3, b4, b5⟩⟩ : TBox)).err) != (0 : Int)) ((true = true) ∧ (True)) ((((⟨⟨b0, b1, b2⟩, ⟨b3, b4, b5⟩⟩ : TBox)).lo.inS 20 = true ∧ ((⟨⟨b0, b1, b2⟩, ⟨b3, b4, b5⟩⟩ : TBox)).hi.inS 20 = true) ∧ (True))) ∧ (lt ((bif ((((⟨⟨b0, b1, b2⟩, ⟨b3, b4, b5⟩⟩ : TBox)).err) != (0 : Int)) then true else decide ((((⟨⟨b0, b1, b2⟩, ⟨b3, b4, b5⟩⟩ : TBox)).count) ≤ (120 : Int)))) fun x1 => post (.t (.c (.v (.bool x1)))))
def ann_law05_small : Ann := ⟨fun _ => none, fun _ => none, fun _ => [], Ikv51, false, fun r => lookA r [(1, (4, [2]))], fun _ => none⟩
theorem ev_law05_small (J : Inv) (b0 b1 b2 b3 b4 b5 : Int) (post : DV → Prop) : evFn Try.prog tab Skg81 ann_law05_small J Try.f7 [.t (.a [.v (.int .i64 b0), .v (.int .i64 b1), .v (.int .i64 b2), .v (.int .i64 b3), .v (.int .i64 b4), .v (.int .i64 b5)])] post = vc_law05_small b0 b1 b2 b3 b4 b5 post := by kernel_rfl
theorem fit_law05_small : okFn ann_law05_small Try.f7 = true := by kernel_rfl
theorem lp_law05_small (J : Inv) (post : DV → Prop) : AllG J (loopsFn Try.prog tab Skg81 ann_law05_small J Try.f7 post) = (True) := by kernel_rfl
theorem spec_law05_small (b0 b1 b2 b3 b4 b5 : Int) : vc_law05_small b0 b1 b2 b3 b4 b5 (fun r => LeD r (.t (.c (.v (.bool (smallB (⟨⟨b0, b1, b2⟩, ⟨b3, b4, b5⟩⟩ : TBox))))))) := by
 unfold vc_law05_small
 refine ⟨cond_i (fun h => ⟨rfl, trivial⟩) (fun h => ⟨?_, trivial⟩), lt_i fun x hx => leB ?_⟩
 ·exact box_in (by simpa using h)
 ·rw [← hx]
  unfold smallB
  by_cases h : (⟨⟨b0, b1, b2⟩, ⟨b3, b4, b5⟩⟩ : TBox).err = 0
  ·simp [h]
  ·have h2 : ((⟨⟨b0, b1, b2⟩, ⟨b3, b4, b5⟩⟩ : TBox).err != (0 : Int)) = true := by simpa using h
   rw [h2]; simp [h]
def con_law05_small : Con := fun args => match args with
 | [.t (.a [.v (.int .i64 b0), .v (.int .i64 b1), .v (.int .i64 b2), .v (.int .i64 b3), .v (.int .i64 b4), .v (.int .i64 b5)])] => some (.t (.c (.v (.bool (smallB (⟨⟨b0, b1, b2⟩, ⟨b3, b4, b5⟩⟩ : TBox))))), none, false)
 | _ => none
theorem ok_law05_small : Ok Try.prog 7 con_law05_small := by
 refine Ok.fn (ann := ann_law05_small) mixed tabOK VSkg81 VIkv51 (fn := Try.f7) (by kernel_rfl) (by kernel_rfl) fit_law05_small fun args r pre fresh h hp => ?_
 unfold con_law05_small at h
 split at h
 ·rename_i b0 b1 b2 b3 b4 b5
  cases h
  refine ⟨rfl, fun _ _ _ => False, _, LeA.refl _, Nat.le_of_ble_eq_true (by kernel_rfl), ?_, ?_⟩
  ·rw [ev_law05_small]; exact spec_law05_small b0 b1 b2 b3 b4 b5
  ·rw [lp_law05_small]; trivial
 ·cases h
def Skg82 : Sum := addS Skg81 7 con_law05_small
theorem VSkg82 : Valid Try.prog Skg82 := Valid.add VSkg81 ok_law05_small
def vc_ref05_SearchErr (b0 b1 b2 b3 b4 b5 : Int) (l : List THit) (post : DV → Prop) : Prop := cond ((((⟨⟨b0, b1, b2⟩, ⟨b3, b4, b5⟩⟩ : TBox)).err) != (0 : Int)) (post (.t (.c (.v (.int .i64 (((⟨⟨b0, b1, b2⟩, ⟨b3, b4, b5⟩⟩ : TBox)).err)))))) ((numsP 5 l.length (hitsC l)) ∧ (post (.t (.c (.v (.int .i64 (hitsE (listC l.length mkHit (hitsC l)))))))))
def ann_ref05_SearchErr : Ann := ⟨fun _ => none, fun _ => none, fun _ => [], Ikv51, false, fun _ => none, fun _ => none⟩
theorem ev_ref05_SearchErr (J : Inv) (b0 b1 b2 b3 b4 b5 : Int) (l : List THit) (post : DV → Prop) : evFn Try.prog tab Skg82 ann_ref05_SearchErr J Try.f13 [.t (.a [.v (.int .i64 b0), .v (.int .i64 b1), .v (.int .i64 b2), .v (.int .i64 b3), .v (.int .i64 b4), .v (.int .i64 b5), .sl 5 l.length (hitsC l)])] post = vc_ref05_SearchErr b0 b1 b2 b3 b4 b5 l post := by kernel_rfl
theorem fit_ref05_SearchErr : okFn ann_ref05_SearchErr Try.f13 = true := by kernel_rfl
theorem lp_ref05_SearchErr (J : Inv) (post : DV → Prop) : AllG J (loopsFn Try.prog tab Skg82 ann_ref05_SearchErr J Try.f13 post) = (True) := by kernel_rfl
theorem spec_ref05_SearchErr (b0 b1 b2 b3 b4 b5 : Int) (l : List THit) : vc_ref05_SearchErr b0 b1 b2 b3 b4 b5 l (fun r => LeD r (.t (.c (.v (.int .i64 (firstNZ [((⟨⟨b0, b1, b2⟩, ⟨b3, b4, b5⟩⟩ : TBox)).err, hitsE l])))))) := by
 unfold vc_ref05_SearchErr
 rw [hits_listC]
 refine cond_i (fun h => leI ?_) (fun h => ⟨numsP_hits l, leI ?_⟩) <;> simp_all [firstNZ]
def con_ref05_SearchErr : Con := fun args => match args with
 | [.t (.a [.v (.int .i64 b0), .v (.int .i64 b1), .v (.int .i64 b2), .v (.int .i64 b3), .v (.int .i64 b4), .v (.int .i64 b5), .sl 5 n_l c_l])] => some (.t (.c (.v (.int .i64 (firstNZ [((⟨⟨b0, b1, b2⟩, ⟨b3, b4, b5⟩⟩ : TBox)).err, hitsE (listC n_l mkHit c_l)])))), some (numsP 5 n_l c_l), false)
 | _ => none
theorem ok_ref05_SearchErr : Ok Try.prog 13 con_ref05_SearchErr := by
 refine Ok.fn (ann := ann_ref05_SearchErr) mixed tabOK VSkg82 VIkv51 (fn := Try.f13) (by kernel_rfl) (by kernel_rfl) fit_ref05_SearchErr fun args r pre fresh h hp => ?_
 unfold con_ref05_SearchErr at h
 split at h
 ·rename_i b0 b1 b2 b3 b4 b5 n_l c_l
  cases h
  have hp0 := hp
  refine ⟨rfl, fun _ _ _ => False, [.t (.a [.v (.int .i64 b0), .v (.int .i64 b1), .v (.int .i64 b2), .v (.int .i64 b3), .v (.int .i64 b4), .v (.int .i64 b5), .sl 5 ((listC n_l mkHit c_l).length) (hitsC (listC n_l mkHit c_l))])], ?_, Nat.le_of_ble_eq_true (by kernel_rfl), ?_, ?_⟩
  ·exact (LeA_cons (leT_a (LeCs.cons (LeC1.refl _) (LeCs.cons (LeC1.refl _) (LeCs.cons (LeC1.refl _) (LeCs.cons (LeC1.refl _) (LeCs.cons (LeC1.refl _) (LeCs.cons (LeC1.refl _) (LeCs.cons ((leL_THit hp0)) LeCs.nil)))))))) LeA_nil)
  ·rw [ev_ref05_SearchErr]; exact spec_ref05_SearchErr b0 b1 b2 b3 b4 b5 (listC n_l mkHit c_l)
  ·rw [lp_ref05_SearchErr]; trivial
 ·cases h
def Skg83 : Sum := addS Skg82 13 con_ref05_SearchErr
theorem VSkg83 : Valid Try.prog Skg83 := Valid.add VSkg82 ok_ref05_SearchErr
def vc_ref05_CopySearch (b0 b1 b2 b3 b4 b5 : Int) (l : List THit) (post : DV → Prop) : Prop := (numsP 5 l.length (hitsC l) ∧ ((listC l.length mkHit (hitsC l))).length ≤ 1000000) ∧ (post (.t (.a [.v (.int .i64 b0), .v (.int .i64 b1), .v (.int .i64 b2), .v (.int .i64 b3), .v (.int .i64 b4), .v (.int .i64 b5), .sl 5 ((listC l.length mkHit (hitsC l)).length) (hitsC (listC l.length mkHit (hitsC l)))])))
def ann_ref05_CopySearch : Ann := ⟨fun r => lookA r [(1, ([[], [0], [], [2], [2, 3], [0, 1, 2, 3, 4], [0, 1, 2, 3, 4, 5]], [[7], [7], [7], [7], [], [], []]))], fun _ => none, fun _ => [], Ikv51, false, fun _ => none, fun _ => none⟩
theorem ev_ref05_CopySearch (J : Inv) (b0 b1 b2 b3 b4 b5 : Int) (l : List THit) (post : DV → Prop) : evFn Try.prog tab Skg83 ann_ref05_CopySearch J Try.f11 [.t (.a [.v (.int .i64 b0), .v (.int .i64 b1), .v (.int .i64 b2), .v (.int .i64 b3), .v (.int .i64 b4), .v (.int .i64 b5), .sl 5 l.length (hitsC l)])] post = vc_ref05_CopySearch b0 b1 b2 b3 b4 b5 l post := by kernel_rfl
theorem fit_ref05_CopySearch : okFn ann_ref05_CopySearch Try.f11 = true := by kernel_rfl
theorem lp_ref05_CopySearch (J : Inv) (post : DV → Prop) : AllG J (loopsFn Try.prog tab Skg83 ann_ref05_CopySearch J Try.f11 post) = (True) := by kernel_rfl
theorem spec_ref05_CopySearch (b0 b1 b2 b3 b4 b5 : Int) (l : List THit) (hp : (l).length ≤ 1000000) : vc_ref05_CopySearch b0 b1 b2 b3 b4 b5 l (fun r => LeD r (.t (.a [.v (.int .i64 b0), .v (.int .i64 b1), .v (.int .i64 b2), .v (.int .i64 b3), .v (.int .i64 b4), .v (.int .i64 b5), .sl 5 l.length (hitsC l)]))) := by
 unfold vc_ref05_CopySearch
 rw [hits_listC]
 exact ⟨⟨numsP_hits l, hp⟩, LeD.refl _⟩
def con_ref05_CopySearch : Con := fun args => match args with
 | [.t (.a [.v (.int .i64 b0), .v (.int .i64 b1), .v (.int .i64 b2), .v (.int .i64 b3), .v (.int .i64 b4), .v (.int .i64 b5), .sl 5 n_l c_l])] => some (.t (.a [.v (.int .i64 b0), .v (.int .i64 b1), .v (.int .i64 b2), .v (.int .i64 b3), .v (.int .i64 b4), .v (.int .i64 b5), .sl 5 ((listC n_l mkHit c_l).length) (hitsC (listC n_l mkHit c_l))]), some (numsP 5 n_l c_l ∧ ((listC n_l mkHit c_l)).length ≤ 1000000), false)
 | _ => none
theorem ok_ref05_CopySearch : Ok Try.prog 11 con_ref05_CopySearch := by
 refine Ok.fn (ann := ann_ref05_CopySearch) mixed tabOK VSkg83 VIkv51 (fn := Try.f11) (by kernel_rfl) (by kernel_rfl) fit_ref05_CopySearch fun args r pre fresh h hp => ?_
 unfold con_ref05_CopySearch at h
 split at h
 ·rename_i b0 b1 b2 b3 b4 b5 n_l c_l
  cases h
  obtain ⟨hp0, hp⟩ := hp
  refine ⟨rfl, fun _ _ _ => False, [.t (.a [.v (.int .i64 b0), .v (.int .i64 b1), .v (.int .i64 b2), .v (.int .i64 b3), .v (.int .i64 b4), .v (.int .i64 b5), .sl 5 ((listC n_l mkHit c_l).length) (hitsC (listC n_l mkHit c_l))])], ?_, Nat.le_of_ble_eq_true (by kernel_rfl), ?_, ?_⟩
  ·exact (LeA_cons (leT_a (LeCs.cons (LeC1.refl _) (LeCs.cons (LeC1.refl _) (LeCs.cons (LeC1.refl _) (LeCs.cons (LeC1.refl _) (LeCs.cons (LeC1.refl _) (LeCs.cons (LeC1.refl _) (LeCs.cons ((leL_THit hp0)) LeCs.nil)))))))) LeA_nil)
  ·rw [ev_ref05_CopySearch]; exact spec_ref05_CopySearch b0 b1 b2 b3 b4 b5 (listC n_l mkHit c_l) hp
  ·rw [lp_ref05_CopySearch]; trivial
 ·cases h
def Skg84 : Sum := addS Skg83 11 con_ref05_CopySearch
theorem VSkg84 : Valid Try.prog Skg84 := Valid.add VSkg83 ok_ref05_CopySearch
def Skg85 : Sum := Skg84
theorem VSkg85 : Valid Try.prog Skg85 := VSkg84
def Skg86 : Sum := Skg85
theorem VSkg86 : Valid Try.prog Skg86 := VSkg85
end Go.Proofs.Ytfadkjcfjkmalaa
set_option linter.unusedVariables false
set_option linter.unusedSimpArgs false
namespace Go.Proofs.Ytfadkjcfjkmalaa
open Go.RowKit Ev
theorem cnE_3 {m : TMod} {b : TBox} {l : List THit} {K : Int} (h : firstNZ [firstNZ [m.err, b.err], hitsE l] = 0) (hk : inB K 0 120000 = true) : cnE m b l K = biE m b l := by
 have e : coE m b l K = 0 := by unfold coE; rw [h, hk]; rfl
 unfold cnE
 rw [if_neg (by rw [e]; simp)]
theorem bi_2 {m : TMod} {b : TBox} {l : List THit} (h : firstNZ [firstNZ [m.err, b.err], hitsE l] = 0) (hs : m.steps b = []) : biE m b l = 12 ∧ biV m b l = ⟨0, 0, 0⟩ ∧ biS m b l = 0 := by
 have e : biE m b l = 12 := (if_neg (by rw [h]; simp)).trans (if_pos hs)
 exact ⟨e, if_neg (by rw [e]; decide), if_neg (by rw [e]; decide)⟩
theorem bi_3 {m : TMod} {b : TBox} {l : List THit} (h : firstNZ [firstNZ [m.err, b.err], hitsE l] = 0) (hs : m.steps b ≠ []) : biE m b l = 0 ∧ biV m b l = bestV m b l ∧ biS m b l = bestS m b l := by
 have e : biE m b l = 0 := (if_neg (by rw [h]; simp)).trans (if_neg hs)
 exact ⟨e, if_pos e, if_pos e⟩
theorem best_rg {m : TMod} {b : TBox} {l : List THit} (ho : m.Ok) (hh : hitsE l = 0) : -120000 ≤ bestS m b l ∧ bestS m b l ≤ 120000 := by
 unfold bestS
 split
 ·exact score_120 ho hh
 ·omega
end Go.Proofs.Ytfadkjcfjkmalaa