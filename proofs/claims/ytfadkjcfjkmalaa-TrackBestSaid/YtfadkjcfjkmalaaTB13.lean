/- Texts of this claim, together. -/
import Derived.Test.YtfadkjcfjkmalaaTB12

set_option linter.unusedVariables false
set_option linter.unusedSimpArgs false
namespace Go.Proofs.Ytfadkjcfjkmalaa
open Go.RowKit Ev
theorem plain_int (l : List Int) (i j : Nat) : ∃ y, intsC l i j = .v y := ⟨_, rfl⟩
theorem or8 (a b c d e f g h : Bool) : (bif (!a) then true else (bif (!b) then true else (bif (!c) then true else (bif (!d) then true else (bif (!e) then true else (bif (!f) then true else (bif (!g) then true else (!h)))))))) = !(a && b && c && d && e && f && g && h) := by cases a <;> cases b <;> cases c <;> cases d <;> cases e <;> cases f <;> cases g <;> cases h <;> rfl
theorem pens_take {m : TMod} {s : V3} {l : List THit} {k : Nat} (h : k < l.length) : m.pens s (l.take (k + 1)) = m.pens s (l.take k) ++ [m.pen s (hitAt l k)] := by
 unfold TMod.pens
 rw [hitAt_take h, List.map_append]; rfl
theorem pens_at {m : TMod} {s : V3} {l : List THit} {k : Nat} (h : k < l.length) : (m.pens s l).getD k 0 = m.pen s (hitAt l k) := by
 unfold TMod.pens hitAt
 simp [List.getD, h]
theorem pens_len {m : TMod} {s : V3} {l : List THit} : (m.pens s l).length = l.length := by simp [TMod.pens]
theorem le_num (l : List Int) : LeD (.t (.c (.sl 1 l.length (numsC .i64 l)))) (.t (.c (.sl 1 l.length (intsC l)))) := leT_c (leSlC fun i j hi hj => LeC1.refl _)
def vc_base_Within (a : Int) (b : Int) (c : Int) (post : DV → Prop) : Prop := cond (decide (b ≤ a)) (post (.t (.c (.v (.bool (decide (a ≤ c))))))) ((false = false) ∧ (post (.t (.c (.v (.bool false))))))
def ann_base_Within : Ann := ⟨fun _ => none, fun _ => none, fun _ => [], Ikv51, false, fun _ => none, fun _ => none⟩
theorem ev_base_Within (J : Inv) (a : Int) (b : Int) (c : Int) (post : DV → Prop) : evFn Try.prog tab Skz60 ann_base_Within J Try.f15 [.t (.c (.v (.int .i64 a))), .t (.c (.v (.int .i64 b))), .t (.c (.v (.int .i64 c)))] post = vc_base_Within a b c post := by kernel_rfl
theorem fit_base_Within : okFn ann_base_Within Try.f15 = true := by kernel_rfl
theorem lp_base_Within (J : Inv) (post : DV → Prop) : AllG J (loopsFn Try.prog tab Skz60 ann_base_Within J Try.f15 post) = (True) := by kernel_rfl
theorem spec_base_Within (a : Int) (b : Int) (c : Int) : vc_base_Within a b c (fun r => LeD r (.t (.c (.v (.bool (inB a b c)))))) := by
 unfold vc_base_Within
 refine cond_i (fun h => leB ?_) (fun h => ⟨rfl, leB ?_⟩)
 ·unfold inB; rw [h]; rfl
 ·unfold inB; rw [h]; rfl
def con_base_Within : Con := fun args => match args with
 | [.t (.c (.v (.int .i64 a))), .t (.c (.v (.int .i64 b))), .t (.c (.v (.int .i64 c)))] => some (.t (.c (.v (.bool (inB a b c)))), none, false)
 | _ => none
theorem ok_base_Within : Ok Try.prog 15 con_base_Within := by
 refine Ok.fn (ann := ann_base_Within) mixed tabOK VSkz60 VIkv51 (fn := Try.f15) (by kernel_rfl) (by kernel_rfl) fit_base_Within fun args r pre fresh h hp => ?_
 unfold con_base_Within at h
 split at h
 ·rename_i a b c
  cases h
  refine ⟨rfl, fun _ _ _ => False, _, LeA.refl _, Nat.le_of_ble_eq_true (by kernel_rfl), ?_, ?_⟩
  ·rw [ev_base_Within]; exact spec_base_Within a b c
  ·rw [lp_base_Within]; trivial
 ·cases h
def Skf61 : Sum := addS Skz60 15 con_base_Within
theorem VSkf61 : Valid Try.prog Skf61 := Valid.add VSkz60 ok_base_Within
def vc_law05_few (l : List THit) (post : DV → Prop) : Prop := post (.t (.c (.v (.bool (decide (((l.length : Nat) : Int) ≤ (14 : Int)))))))
def ann_law05_few : Ann := ⟨fun _ => none, fun _ => none, fun _ => [], Ikv51, false, fun _ => none, fun _ => none⟩
theorem ev_law05_few (J : Inv) (l : List THit) (post : DV → Prop) : evFn Try.prog tab Skf61 ann_law05_few J Try.f6 [.t (.c (.sl 5 l.length (hitsC l)))] post = vc_law05_few l post := by kernel_rfl
theorem fit_law05_few : okFn ann_law05_few Try.f6 = true := by kernel_rfl
theorem lp_law05_few (J : Inv) (post : DV → Prop) : AllG J (loopsFn Try.prog tab Skf61 ann_law05_few J Try.f6 post) = (True) := by kernel_rfl
theorem spec_law05_few (l : List THit) : vc_law05_few l (fun r => LeD r (.t (.c (.v (.bool (decide ((l).length ≤ 14))))))) := by
 unfold vc_law05_few
 exact leB (decide_eq_decide.2 (by omega))
def con_law05_few : Con := fun args => match args with
 | [.t (.c (.sl 5 n_l c_l))] => some (.t (.c (.v (.bool (decide (((listC n_l mkHit c_l)).length ≤ 14))))), some (numsP 5 n_l c_l), false)
 | _ => none
theorem ok_law05_few : Ok Try.prog 6 con_law05_few := by
 refine Ok.fn (ann := ann_law05_few) mixed tabOK VSkf61 VIkv51 (fn := Try.f6) (by kernel_rfl) (by kernel_rfl) fit_law05_few fun args r pre fresh h hp => ?_
 unfold con_law05_few at h
 split at h
 ·rename_i n_l c_l
  cases h
  have hp0 := hp
  refine ⟨rfl, fun _ _ _ => False, [.t (.c (.sl 5 ((listC n_l mkHit c_l).length) (hitsC (listC n_l mkHit c_l))))], ?_, Nat.le_of_ble_eq_true (by kernel_rfl), ?_, ?_⟩
  ·exact (LeA_cons (leT_c ((leL_THit hp0))) LeA_nil)
  ·rw [ev_law05_few]; exact spec_law05_few (listC n_l mkHit c_l)
  ·rw [lp_law05_few]; trivial
 ·cases h
def Skf62 : Sum := addS Skf61 6 con_law05_few
theorem VSkf62 : Valid Try.prog Skf62 := Valid.add VSkf61 ok_law05_few
def vc_ref05_isSide (n : Int) (post : DV → Prop) : Prop := post (.t (.c (.v (.bool (inB n (-20 : Int) (20 : Int))))))
def ann_ref05_isSide : Ann := ⟨fun _ => none, fun _ => none, fun _ => [], Ikv51, false, fun _ => none, fun _ => none⟩
theorem ev_ref05_isSide (J : Inv) (n : Int) (post : DV → Prop) : evFn Try.prog tab Skf62 ann_ref05_isSide J Try.f44 [.t (.c (.v (.int .i64 n)))] post = vc_ref05_isSide n post := by kernel_rfl
theorem fit_ref05_isSide : okFn ann_ref05_isSide Try.f44 = true := by kernel_rfl
theorem lp_ref05_isSide (J : Inv) (post : DV → Prop) : AllG J (loopsFn Try.prog tab Skf62 ann_ref05_isSide J Try.f44 post) = (True) := by kernel_rfl
theorem spec_ref05_isSide (n : Int) : vc_ref05_isSide n (fun r => LeD r (.t (.c (.v (.bool (inB n (-20) 20)))))) := by
 exact LeD.refl _
def con_ref05_isSide : Con := fun args => match args with
 | [.t (.c (.v (.int .i64 n)))] => some (.t (.c (.v (.bool (inB n (-20) 20)))), none, false)
 | _ => none
theorem ok_ref05_isSide : Ok Try.prog 44 con_ref05_isSide := by
 refine Ok.fn (ann := ann_ref05_isSide) mixed tabOK VSkf62 VIkv51 (fn := Try.f44) (by kernel_rfl) (by kernel_rfl) fit_ref05_isSide fun args r pre fresh h hp => ?_
 unfold con_ref05_isSide at h
 split at h
 ·rename_i n
  cases h
  refine ⟨rfl, fun _ _ _ => False, _, LeA.refl _, Nat.le_of_ble_eq_true (by kernel_rfl), ?_, ?_⟩
  ·rw [ev_ref05_isSide]; exact spec_ref05_isSide n
  ·rw [lp_ref05_isSide]; trivial
 ·cases h
def Skf63 : Sum := addS Skf62 44 con_ref05_isSide
theorem VSkf63 : Valid Try.prog Skf63 := Valid.add VSkf62 ok_ref05_isSide
def vc_ref05_Count (b0 b1 b2 b3 b4 b5 : Int) (post : DV → Prop) : Prop := (0 ≤ (0 : Int) ∧ (0 : Int) < ((3 : Nat) : Int)) ∧ ((0 ≤ (0 : Int) ∧ (0 : Int) < ((3 : Nat) : Int)) ∧ (lt (IntKind.i64.wrap (b3 - b0)) fun x1 => lt (IntKind.i64.wrap (x1 + (1 : Int))) fun x2 => (0 ≤ (1 : Int) ∧ (1 : Int) < ((3 : Nat) : Int)) ∧ ((0 ≤ (1 : Int) ∧ (1 : Int) < ((3 : Nat) : Int)) ∧ (lt (IntKind.i64.wrap (b4 - b1)) fun x3 => lt (IntKind.i64.wrap (x3 + (1 : Int))) fun x4 => lt (IntKind.i64.wrap (x2 * x4)) fun x5 => (0 ≤ (2 : Int) ∧ (2 : Int) < ((3 : Nat) : Int)) ∧ ((0 ≤ (2 : Int) ∧ (2 : Int) < ((3 : Nat) : Int)) ∧ (lt (IntKind.i64.wrap (b5 - b2)) fun x6 => lt (IntKind.i64.wrap (x6 + (1 : Int))) fun x7 => lt (IntKind.i64.wrap (x5 * x7)) fun x8 => post (.t (.c (.v (.int .i64 x8))))))))))
def ann_ref05_Count : Ann := ⟨fun _ => none, fun _ => none, fun _ => [], Ikv51, false, fun _ => none, fun _ => none⟩
theorem ev_ref05_Count (J : Inv) (b0 b1 b2 b3 b4 b5 : Int) (post : DV → Prop) : evFn Try.prog tab Skf63 ann_ref05_Count J Try.f19 [.t (.a [.v (.int .i64 b0), .v (.int .i64 b1), .v (.int .i64 b2), .v (.int .i64 b3), .v (.int .i64 b4), .v (.int .i64 b5)])] post = vc_ref05_Count b0 b1 b2 b3 b4 b5 post := by kernel_rfl
theorem fit_ref05_Count : okFn ann_ref05_Count Try.f19 = true := by kernel_rfl
theorem lp_ref05_Count (J : Inv) (post : DV → Prop) : AllG J (loopsFn Try.prog tab Skf63 ann_ref05_Count J Try.f19 post) = (True) := by kernel_rfl
theorem spec_ref05_Count (b0 b1 b2 b3 b4 b5 : Int) (hp : ((⟨⟨b0, b1, b2⟩, ⟨b3, b4, b5⟩⟩ : TBox)).lo.inS 20 = true ∧ ((⟨⟨b0, b1, b2⟩, ⟨b3, b4, b5⟩⟩ : TBox)).hi.inS 20 = true) : vc_ref05_Count b0 b1 b2 b3 b4 b5 (fun r => LeD r (.t (.c (.v (.int .i64 (((⟨⟨b0, b1, b2⟩, ⟨b3, b4, b5⟩⟩ : TBox)).count)))))) := by
 obtain ⟨a1, a2, a3⟩ := inS_iff.1 hp.1
 obtain ⟨c1, c2, c3⟩ := inS_iff.1 hp.2
 simp only at a1 a2 a3 c1 c2 c3
 unfold vc_ref05_Count
 (repeat' with_reducible first | (refine lt_i ?_; intro _ _) | (refine cond_i ?_ ?_ <;> intro _) | (refine And.intro ?_ ?_))
 all_goals first | decide | skip
 rename_i x1 h1 x2 h2 x3 h3 x4 h4 x5 h5 x6 h6 x7 h7 x8 h8
 rw [IntWalk.i64_in _ (by omega)] at h1
 rw [IntWalk.i64_in _ (by omega)] at h2
 rw [IntWalk.i64_in _ (by omega)] at h3
 rw [IntWalk.i64_in _ (by omega)] at h4
 have m1 := mul_rg (x := x2) (y := x4) (A := 41) (B := 41) (C := 1681) (by omega) (by omega) (by decide)
 rw [IntWalk.i64_in _ (by omega)] at h5
 rw [IntWalk.i64_in _ (by omega)] at h6
 rw [IntWalk.i64_in _ (by omega)] at h7
 have m2 := mul_rg (x := x5) (y := x7) (A := 1681) (B := 41) (C := 68921) (by omega) (by omega) (by decide)
 rw [IntWalk.i64_in _ (by omega)] at h8
 refine LeD.of ?_
 unfold TBox.count
 simp only
 rw [← h8, ← h5, ← h2, ← h4, ← h7, ← h1, ← h3, ← h6]
def con_ref05_Count : Con := fun args => match args with
 | [.t (.a [.v (.int .i64 b0), .v (.int .i64 b1), .v (.int .i64 b2), .v (.int .i64 b3), .v (.int .i64 b4), .v (.int .i64 b5)])] => some (.t (.c (.v (.int .i64 (((⟨⟨b0, b1, b2⟩, ⟨b3, b4, b5⟩⟩ : TBox)).count)))), some (((⟨⟨b0, b1, b2⟩, ⟨b3, b4, b5⟩⟩ : TBox)).lo.inS 20 = true ∧ ((⟨⟨b0, b1, b2⟩, ⟨b3, b4, b5⟩⟩ : TBox)).hi.inS 20 = true), false)
 | _ => none
theorem ok_ref05_Count : Ok Try.prog 19 con_ref05_Count := by
 refine Ok.fn (ann := ann_ref05_Count) mixed tabOK VSkf63 VIkv51 (fn := Try.f19) (by kernel_rfl) (by kernel_rfl) fit_ref05_Count fun args r pre fresh h hp => ?_
 unfold con_ref05_Count at h
 split at h
 ·rename_i b0 b1 b2 b3 b4 b5
  cases h
  refine ⟨rfl, fun _ _ _ => False, _, LeA.refl _, Nat.le_of_ble_eq_true (by kernel_rfl), ?_, ?_⟩
  ·rw [ev_ref05_Count]; exact spec_ref05_Count b0 b1 b2 b3 b4 b5 hp
  ·rw [lp_ref05_Count]; trivial
 ·cases h
def Skf64 : Sum := addS Skf63 19 con_ref05_Count
theorem VSkf64 : Valid Try.prog Skf64 := Valid.add VSkf63 ok_ref05_Count
def vc_ref05_BoxErr (b0 b1 b2 b3 b4 b5 : Int) (post : DV → Prop) : Prop := (0 ≤ (0 : Int) ∧ (0 : Int) < ((3 : Nat) : Int)) ∧ (cond (!(inB b0 (-20) 20)) ((true = true) ∧ (post (.t (.c (.v (.int .i64 2)))))) ((0 ≤ (0 : Int) ∧ (0 : Int) < ((3 : Nat) : Int)) ∧ (cond (!(inB b3 (-20) 20)) (post (.t (.c (.v (.int .i64 2))))) ((0 ≤ (1 : Int) ∧ (1 : Int) < ((3 : Nat) : Int)) ∧ (cond (!(inB b1 (-20) 20)) ((true = true) ∧ (post (.t (.c (.v (.int .i64 2)))))) ((0 ≤ (1 : Int) ∧ (1 : Int) < ((3 : Nat) : Int)) ∧ (cond (!(inB b4 (-20) 20)) (post (.t (.c (.v (.int .i64 2))))) ((0 ≤ (2 : Int) ∧ (2 : Int) < ((3 : Nat) : Int)) ∧ (cond (!(inB b2 (-20) 20)) ((true = true) ∧ (post (.t (.c (.v (.int .i64 2)))))) ((0 ≤ (2 : Int) ∧ (2 : Int) < ((3 : Nat) : Int)) ∧ (cond (!(inB b5 (-20) 20)) (post (.t (.c (.v (.int .i64 2))))) ((0 ≤ (0 : Int) ∧ (0 : Int) < ((3 : Nat) : Int)) ∧ ((0 ≤ (0 : Int) ∧ (0 : Int) < ((3 : Nat) : Int)) ∧ (cond (decide (b0 > b3)) (post (.t (.c (.v (.int .i64 9))))) ((0 ≤ (1 : Int) ∧ (1 : Int) < ((3 : Nat) : Int)) ∧ ((0 ≤ (1 : Int) ∧ (1 : Int) < ((3 : Nat) : Int)) ∧ (cond (decide (b1 > b4)) (post (.t (.c (.v (.int .i64 9))))) ((0 ≤ (2 : Int) ∧ (2 : Int) < ((3 : Nat) : Int)) ∧ ((0 ≤ (2 : Int) ∧ (2 : Int) < ((3 : Nat) : Int)) ∧ (cond (decide (b2 > b5)) (post (.t (.c (.v (.int .i64 9))))) ((((⟨⟨b0, b1, b2⟩, ⟨b3, b4, b5⟩⟩ : TBox)).lo.inS 20 = true ∧ ((⟨⟨b0, b1, b2⟩, ⟨b3, b4, b5⟩⟩ : TBox)).hi.inS 20 = true) ∧ (cond (decide ((((⟨⟨b0, b1, b2⟩, ⟨b3, b4, b5⟩⟩ : TBox)).count) > (700 : Int))) (post (.t (.c (.v (.int .i64 8))))) (post (.t (.c (.v (.int .i64 0)))))))))))))))))))))))))))
def ann_ref05_BoxErr : Ann := ⟨fun r => lookA r [(9, ([[], [], [0, 1], [0, 1, 2], [], [], [4, 5], [4, 5, 6], [0, 1, 2, 3, 4, 5, 6, 7]], [[], [], [], [], [], [], [], [], []]))], fun b => lookA b [(0, (some 4, some ⟨[1, 3], [1], []⟩)), (2, (some 4, some ⟨[1, 4], [1], []⟩))], fun _ => [], Ikv51, false, fun _ => none, fun _ => none⟩
theorem ev_ref05_BoxErr (J : Inv) (b0 b1 b2 b3 b4 b5 : Int) (post : DV → Prop) : evFn Try.prog tab Skf64 ann_ref05_BoxErr J Try.f29 [.t (.a [.v (.int .i64 b0), .v (.int .i64 b1), .v (.int .i64 b2), .v (.int .i64 b3), .v (.int .i64 b4), .v (.int .i64 b5)])] post = vc_ref05_BoxErr b0 b1 b2 b3 b4 b5 post := by kernel_rfl
theorem fit_ref05_BoxErr : okFn ann_ref05_BoxErr Try.f29 = true := by kernel_rfl
theorem lp_ref05_BoxErr (J : Inv) (post : DV → Prop) : AllG J (loopsFn Try.prog tab Skf64 ann_ref05_BoxErr J Try.f29 post) = (True) := by kernel_rfl
theorem spec_ref05_BoxErr (b0 b1 b2 b3 b4 b5 : Int) : vc_ref05_BoxErr b0 b1 b2 b3 b4 b5 (fun r => LeD r (.t (.c (.v (.int .i64 (((⟨⟨b0, b1, b2⟩, ⟨b3, b4, b5⟩⟩ : TBox)).err)))))) := by
 unfold vc_ref05_BoxErr
 (repeat' with_reducible first | (refine lt_i ?_; intro _ _) | (refine cond_i ?_ ?_ <;> intro _) | (refine And.intro ?_ ?_))
 all_goals first
  | decide
  | (refine leI ?_; simp_all [TBox.err, firstNZ, unl, V3.inS]; done)
  | (simp_all [V3.inS]; done)
  | (refine leI ?_; simp_all [TBox.err, firstNZ, unl, V3.inS]; omega)
def con_ref05_BoxErr : Con := fun args => match args with
 | [.t (.a [.v (.int .i64 b0), .v (.int .i64 b1), .v (.int .i64 b2), .v (.int .i64 b3), .v (.int .i64 b4), .v (.int .i64 b5)])] => some (.t (.c (.v (.int .i64 (((⟨⟨b0, b1, b2⟩, ⟨b3, b4, b5⟩⟩ : TBox)).err)))), none, false)
 | _ => none
theorem ok_ref05_BoxErr : Ok Try.prog 29 con_ref05_BoxErr := by
 refine Ok.fn (ann := ann_ref05_BoxErr) mixed tabOK VSkf64 VIkv51 (fn := Try.f29) (by kernel_rfl) (by kernel_rfl) fit_ref05_BoxErr fun args r pre fresh h hp => ?_
 unfold con_ref05_BoxErr at h
 split at h
 ·rename_i b0 b1 b2 b3 b4 b5
  cases h
  refine ⟨rfl, fun _ _ _ => False, _, LeA.refl _, Nat.le_of_ble_eq_true (by kernel_rfl), ?_, ?_⟩
  ·rw [ev_ref05_BoxErr]; exact spec_ref05_BoxErr b0 b1 b2 b3 b4 b5
  ·rw [lp_ref05_BoxErr]; trivial
 ·cases h
def Skf65 : Sum := addS Skf64 29 con_ref05_BoxErr
theorem VSkf65 : Valid Try.prog Skf65 := Valid.add VSkf64 ok_ref05_BoxErr
def vc_ref05_TimeErr (n : Int) (post : DV → Prop) : Prop := cond (!(inB n (-10000 : Int) (10000 : Int))) (post (.t (.c (.v (.int .i64 2))))) (post (.t (.c (.v (.int .i64 0)))))
def ann_ref05_TimeErr : Ann := ⟨fun _ => none, fun _ => none, fun _ => [], Ikv51, false, fun _ => none, fun _ => none⟩
theorem ev_ref05_TimeErr (J : Inv) (n : Int) (post : DV → Prop) : evFn Try.prog tab Skf65 ann_ref05_TimeErr J Try.f38 [.t (.c (.v (.int .i64 n)))] post = vc_ref05_TimeErr n post := by kernel_rfl
theorem fit_ref05_TimeErr : okFn ann_ref05_TimeErr Try.f38 = true := by kernel_rfl
theorem lp_ref05_TimeErr (J : Inv) (post : DV → Prop) : AllG J (loopsFn Try.prog tab Skf65 ann_ref05_TimeErr J Try.f38 post) = (True) := by kernel_rfl
theorem spec_ref05_TimeErr (n : Int) : vc_ref05_TimeErr n (fun r => LeD r (.t (.c (.v (.int .i64 (tmE n)))))) := by
 unfold vc_ref05_TimeErr tmE
 refine cond_i (fun h => leI ?_) (fun h => leI ?_)
 ·rw [show inB n (-10000) 10000 = false by simpa using h]; rfl
 ·rw [show inB n (-10000) 10000 = true by simpa using h]; rfl
def con_ref05_TimeErr : Con := fun args => match args with
 | [.t (.c (.v (.int .i64 n)))] => some (.t (.c (.v (.int .i64 (tmE n)))), none, false)
 | _ => none
theorem ok_ref05_TimeErr : Ok Try.prog 38 con_ref05_TimeErr := by
 refine Ok.fn (ann := ann_ref05_TimeErr) mixed tabOK VSkf65 VIkv51 (fn := Try.f38) (by kernel_rfl) (by kernel_rfl) fit_ref05_TimeErr fun args r pre fresh h hp => ?_
 unfold con_ref05_TimeErr at h
 split at h
 ·rename_i n
  cases h
  refine ⟨rfl, fun _ _ _ => False, _, LeA.refl _, Nat.le_of_ble_eq_true (by kernel_rfl), ?_, ?_⟩
  ·rw [ev_ref05_TimeErr]; exact spec_ref05_TimeErr n
  ·rw [lp_ref05_TimeErr]; trivial
 ·cases h
def Skf66 : Sum := addS Skf65 38 con_ref05_TimeErr
theorem VSkf66 : Valid Try.prog Skf66 := Valid.add VSkf65 ok_ref05_TimeErr
def vc_ref05_isWeight (n : Int) (post : DV → Prop) : Prop := post (.t (.c (.v (.bool (inB n (0 : Int) (100 : Int))))))
def ann_ref05_isWeight : Ann := ⟨fun _ => none, fun _ => none, fun _ => [], Ikv51, false, fun _ => none, fun _ => none⟩
theorem ev_ref05_isWeight (J : Inv) (n : Int) (post : DV → Prop) : evFn Try.prog tab Skf66 ann_ref05_isWeight J Try.f39 [.t (.c (.v (.int .i64 n)))] post = vc_ref05_isWeight n post := by kernel_rfl
theorem fit_ref05_isWeight : okFn ann_ref05_isWeight Try.f39 = true := by kernel_rfl
theorem lp_ref05_isWeight (J : Inv) (post : DV → Prop) : AllG J (loopsFn Try.prog tab Skf66 ann_ref05_isWeight J Try.f39 post) = (True) := by kernel_rfl
theorem spec_ref05_isWeight (n : Int) : vc_ref05_isWeight n (fun r => LeD r (.t (.c (.v (.bool (inB n 0 100)))))) := by
 exact LeD.refl _
def con_ref05_isWeight : Con := fun args => match args with
 | [.t (.c (.v (.int .i64 n)))] => some (.t (.c (.v (.bool (inB n 0 100)))), none, false)
 | _ => none
theorem ok_ref05_isWeight : Ok Try.prog 39 con_ref05_isWeight := by
 refine Ok.fn (ann := ann_ref05_isWeight) mixed tabOK VSkf66 VIkv51 (fn := Try.f39) (by kernel_rfl) (by kernel_rfl) fit_ref05_isWeight fun args r pre fresh h hp => ?_
 unfold con_ref05_isWeight at h
 split at h
 ·rename_i n
  cases h
  refine ⟨rfl, fun _ _ _ => False, _, LeA.refl _, Nat.le_of_ble_eq_true (by kernel_rfl), ?_, ?_⟩
  ·rw [ev_ref05_isWeight]; exact spec_ref05_isWeight n
  ·rw [lp_ref05_isWeight]; trivial
 ·cases h
def Skf67 : Sum := addS Skf66 39 con_ref05_isWeight
theorem VSkf67 : Valid Try.prog Skf67 := Valid.add VSkf66 ok_ref05_isWeight
def vc_ref05_PlaceErr (p0 p1 p2 : Int) (post : DV → Prop) : Prop := (0 ≤ (0 : Int) ∧ (0 : Int) < ((3 : Nat) : Int)) ∧ (cond (!(inB p0 (-1000 : Int) (1000 : Int))) (post (.t (.c (.v (.int .i64 2))))) ((0 ≤ (1 : Int) ∧ (1 : Int) < ((3 : Nat) : Int)) ∧ (cond (!(inB p1 (-1000 : Int) (1000 : Int))) (post (.t (.c (.v (.int .i64 2))))) ((0 ≤ (2 : Int) ∧ (2 : Int) < ((3 : Nat) : Int)) ∧ (cond (!(inB p2 (-1000 : Int) (1000 : Int))) (post (.t (.c (.v (.int .i64 2))))) (post (.t (.c (.v (.int .i64 0))))))))))
def ann_ref05_PlaceErr : Ann := ⟨fun _ => none, fun b => lookA b [(0, (some 4, some ⟨[1, 3], [1], []⟩))], fun _ => [], Ikv51, false, fun _ => none, fun _ => none⟩
theorem ev_ref05_PlaceErr (J : Inv) (p0 p1 p2 : Int) (post : DV → Prop) : evFn Try.prog tab Skf67 ann_ref05_PlaceErr J Try.f37 [.t (.a [.v (.int .i64 p0), .v (.int .i64 p1), .v (.int .i64 p2)])] post = vc_ref05_PlaceErr p0 p1 p2 post := by kernel_rfl
theorem fit_ref05_PlaceErr : okFn ann_ref05_PlaceErr Try.f37 = true := by kernel_rfl
theorem lp_ref05_PlaceErr (J : Inv) (post : DV → Prop) : AllG J (loopsFn Try.prog tab Skf67 ann_ref05_PlaceErr J Try.f37 post) = (True) := by kernel_rfl
theorem spec_ref05_PlaceErr (p0 p1 p2 : Int) : vc_ref05_PlaceErr p0 p1 p2 (fun r => LeD r (.t (.c (.v (.int .i64 (plE (⟨p0, p1, p2⟩ : V3))))))) := by
 unfold vc_ref05_PlaceErr
 unfold plE V3.inS
 simp only
 refine ⟨by decide, cond_i (fun h => leI ?_) (fun h => ⟨by decide, cond_i (fun g => leI ?_) (fun g => ⟨by decide, cond_i (fun f => leI ?_) (fun f => leI ?_)⟩)⟩)⟩
 ·rw [show inB p0 (-1000) 1000 = false by simpa using h]; rfl
 ·rw [show inB p1 (-1000) 1000 = false by simpa using g, Bool.and_false]; rfl
 ·rw [show inB p2 (-1000) 1000 = false by simpa using f, Bool.and_false]; rfl
 ·rw [show inB p0 (-1000) 1000 = true by simpa using h, show inB p1 (-1000) 1000 = true by simpa using g, show inB p2 (-1000) 1000 = true by simpa using f]; rfl
def con_ref05_PlaceErr : Con := fun args => match args with
 | [.t (.a [.v (.int .i64 p0), .v (.int .i64 p1), .v (.int .i64 p2)])] => some (.t (.c (.v (.int .i64 (plE (⟨p0, p1, p2⟩ : V3))))), none, false)
 | _ => none
theorem ok_ref05_PlaceErr : Ok Try.prog 37 con_ref05_PlaceErr := by
 refine Ok.fn (ann := ann_ref05_PlaceErr) mixed tabOK VSkf67 VIkv51 (fn := Try.f37) (by kernel_rfl) (by kernel_rfl) fit_ref05_PlaceErr fun args r pre fresh h hp => ?_
 unfold con_ref05_PlaceErr at h
 split at h
 ·rename_i p0 p1 p2
  cases h
  refine ⟨rfl, fun _ _ _ => False, _, LeA.refl _, Nat.le_of_ble_eq_true (by kernel_rfl), ?_, ?_⟩
  ·rw [ev_ref05_PlaceErr]; exact spec_ref05_PlaceErr p0 p1 p2
  ·rw [lp_ref05_PlaceErr]; trivial
 ·cases h
def Skf68 : Sum := addS Skf67 37 con_ref05_PlaceErr
theorem VSkf68 : Valid Try.prog Skf68 := Valid.add VSkf67 ok_ref05_PlaceErr
def mk_ref05_CheckHits_0 (l : List THit) (v0_0 : Int) : DS := ⟨[some (.t (.c (.sl 5 l.length (hitsC l)))), none, none, none, some (.t (.c (.v (.int .i64 v0_0)))), none, none, none, none, none, none, none, none, none, none, none, none, none, none, none, none, none, none, none, none, none, none, none, none, none, none, none, none, none, none, none, none, none, none, none, none, none, none, none], [none, none, none, none, none, none, none, none, none, none, none, none, none, none, none, none, none, none, none, none, none, none, none, none, none, none, none, none, none, none, none, none, none, none, none, none, none, none, none, none, none, none, none, none]⟩
def vc_ref05_CheckHits (J : Inv) (l : List THit) (post : DV → Prop) : Prop := cond (decide (((l.length : Nat) : Int) > (12 : Int))) (post (.tu [.c (.v (.int .i64 0)), .c (.v (.int .i64 8))])) (∃ n, J 0 (n :: []) (mk_ref05_CheckHits_0 l 0))
def ann_ref05_CheckHits : Ann := ⟨fun _ => none, fun b => lookA b [(0, (none, some ⟨[0, 4], [], []⟩))], fun _ => [], Ikv51, false, fun _ => none, fun _ => none⟩
theorem ev_ref05_CheckHits (J : Inv) (l : List THit) (post : DV → Prop) : evFn Try.prog tab Skf68 ann_ref05_CheckHits J Try.f70 [.t (.c (.sl 5 l.length (hitsC l)))] post = vc_ref05_CheckHits J l post := by kernel_rfl
theorem fit_ref05_CheckHits : okFn ann_ref05_CheckHits Try.f70 = true := by kernel_rfl
def rd_ref05_CheckHits_0 (J : Inv) (l : List THit) (v0_0 : Int) (nn0 : Nat) (post : DV → Prop) : Prop := cond (decide (v0_0 < ((l.length : Nat) : Int))) ((0 ≤ v0_0 ∧ v0_0 < ((l.length : Nat) : Int)) ∧ (cond ((plE (hitAt l v0_0.toNat).p) != (0 : Int)) (post (.tu [.c (.v (.int .i64 v0_0)), .c (.v (.int .i64 (plE (hitAt l v0_0.toNat).p)))])) ((0 ≤ v0_0 ∧ v0_0 < ((l.length : Nat) : Int)) ∧ (cond ((tmE ((hitAt l v0_0.toNat).t)) != (0 : Int)) (post (.tu [.c (.v (.int .i64 v0_0)), .c (.v (.int .i64 (tmE ((hitAt l v0_0.toNat).t))))])) ((0 ≤ v0_0 ∧ v0_0 < ((l.length : Nat) : Int)) ∧ (cond (!(inB ((hitAt l v0_0.toNat).w) 0 100)) (post (.tu [.c (.v (.int .i64 v0_0)), .c (.v (.int .i64 2))])) (lt (IntKind.i64.wrap (v0_0 + (1 : Int))) fun x1 => J 0 (nn0 :: []) (mk_ref05_CheckHits_0 l x1)))))))) (post (.tu [.c (.v (.int .i64 0)), .c (.v (.int .i64 0))]))
theorem er_ref05_CheckHits_0 (J : Inv) (l : List THit) (v0_0 : Int) (nn0 : Nat) (post : DV → Prop) : round Try.prog tab Skf68 ann_ref05_CheckHits J Try.f70 post 0 (nn0 :: []) (mk_ref05_CheckHits_0 l v0_0) = rd_ref05_CheckHits_0 J l v0_0 nn0 post := by kernel_rfl
theorem lp_ref05_CheckHits (J : Inv) (post : DV → Prop) : AllG J (loopsFn Try.prog tab Skf68 ann_ref05_CheckHits J Try.f70 post) = (((∀ F s, ¬ J 0 (0 :: F) s) ∧ ∀ n F s, J 0 ((n + 1) :: F) s → round Try.prog tab Skf68 ann_ref05_CheckHits J Try.f70 post 0 (n :: F) s) ∧ True) := by kernel_rfl
def J_ref05_CheckHits (l : List THit) : Inv := fun b F s => match b, F with
 | 0, [nn0] => ∃ (v0_0 : Int), s = mk_ref05_CheckHits_0 l v0_0 ∧ (0 ≤ v0_0 ∧ v0_0 ≤ l.length ∧ (nn0 : Int) + v0_0 = l.length + 1 ∧ l.length ≤ 12 ∧ ∀ j : Nat, (j : Int) < v0_0 → (hitAt l j).err = 0)
 | _, _ => False
theorem rnd_ref05_CheckHits_0 (l : List THit) (v0_0 : Int) (nn0 : Nat) (hi : 0 ≤ v0_0 ∧ v0_0 ≤ l.length ∧ ((nn0 + 1) : Int) + v0_0 = l.length + 1 ∧ l.length ≤ 12 ∧ ∀ j : Nat, (j : Int) < v0_0 → (hitAt l j).err = 0) : rd_ref05_CheckHits_0 (J_ref05_CheckHits l) l v0_0 nn0 (fun r => LeD r (.tu [.c (.v (.int .i64 (hitsIdx l))), .c (.v (.int .i64 (hitsE l)))])) := by
 obtain ⟨h1, h2, h3, h4, h5⟩ := hi
 obtain ⟨k, rfl⟩ : ∃ k : Nat, v0_0 = k := ⟨v0_0.toNat, by omega⟩
 have hk : (k : Int).toNat = k := rfl
 have hz : ∀ j, j < k → (hitAt l j).err = 0 := fun j hj => h5 j (by omega)
 unfold rd_ref05_CheckHits_0
 rw [hk]
 have hne : k < l.length → (hitAt l k).err ≠ 0 → hitsIdx l = k ∧ hitsE l = (hitAt l k).err := fun hlt hn => ⟨(if_neg (by omega)).trans (scanI_at hz hlt hn), (if_neg (by omega)).trans (scan_at hz hlt hn)⟩
 have he : (hitAt l k).err = firstNZ [plE (hitAt l k).p, tmE (hitAt l k).t, unl (inB (hitAt l k).w 0 100) 2] := rfl
 refine cond_i (fun h => ?_) (fun h => ?_)
 ·have hlt : k < l.length := by have := of_decide_eq_true h; omega
  refine ⟨by omega, cond_i (fun e => ?_) (fun e => ⟨by omega, cond_i (fun e2 => ?_) (fun e2 => ⟨by omega, cond_i (fun e3 => ?_) (fun e3 => lt_i fun x hx => ?_)⟩)⟩)⟩
  ·have e : plE (hitAt l k).p ≠ 0 := by simpa using e
   have e4 : (hitAt l k).err = plE (hitAt l k).p := by rw [he]; simp [firstNZ, e]
   obtain ⟨q1, q2⟩ := hne hlt (by rw [e4]; exact e)
   rw [q1, q2, e4]; exact LeD.refl _
  ·have e : plE (hitAt l k).p = 0 := by simpa using e
   have e2 : tmE (hitAt l k).t ≠ 0 := by simpa using e2
   have e4 : (hitAt l k).err = tmE (hitAt l k).t := by rw [he]; simp [firstNZ, e, e2]
   obtain ⟨q1, q2⟩ := hne hlt (by rw [e4]; exact e2)
   rw [q1, q2, e4]; exact LeD.refl _
  ·have e : plE (hitAt l k).p = 0 := by simpa using e
   have e2 : tmE (hitAt l k).t = 0 := by simpa using e2
   have e3 : inB (hitAt l k).w 0 100 = false := by simpa using e3
   have e4 : (hitAt l k).err = 2 := by rw [he]; simp [firstNZ, e, e2, e3, unl]
   obtain ⟨q1, q2⟩ := hne hlt (by rw [e4]; decide)
   rw [q1, q2, e4]; exact LeD.refl _
  ·have e : plE (hitAt l k).p = 0 := by simpa using e
   have e2 : tmE (hitAt l k).t = 0 := by simpa using e2
   have e3 : inB (hitAt l k).w 0 100 = true := by simpa using e3
   have e4 : (hitAt l k).err = 0 := by rw [he]; simp [firstNZ, e, e2, e3, unl]
   rw [IntWalk.i64_in _ (by omega)] at hx
   refine ⟨_, rfl, by omega, by omega, by omega, h4, fun j hj => ?_⟩
   by_cases q : j = k
   ·rw [q]; exact e4
   ·exact hz j (by omega)
 ·have hge : ¬ (k < l.length) := by have := of_decide_eq_false h; omega
  have hkl : k = l.length := by omega
  subst hkl
  rw [show hitsIdx l = 0 from (if_neg (by omega)).trans (scanI_end hz), show hitsE l = 0 from (if_neg (by omega)).trans (scan_end hz)]
  exact LeD.refl _
theorem zero_ref05_CheckHits_0 (l : List THit) (v0_0 : Int)  (hi : 0 ≤ v0_0 ∧ v0_0 ≤ l.length ∧ (0 : Int) + v0_0 = l.length + 1 ∧ l.length ≤ 12 ∧ ∀ j : Nat, (j : Int) < v0_0 → (hitAt l j).err = 0) : False := by
 omega
theorem spec_ref05_CheckHits (l : List THit) : vc_ref05_CheckHits (J_ref05_CheckHits l) l (fun r => LeD r (.tu [.c (.v (.int .i64 (hitsIdx l))), .c (.v (.int .i64 (hitsE l)))])) := by
 unfold vc_ref05_CheckHits
 refine cond_i (fun h => LeD.of ?_) (fun h => ⟨l.length + 1, _, rfl, ?_⟩)
 ·have h := of_decide_eq_true h
  rw [show hitsIdx l = 0 from if_pos (by omega), show hitsE l = 8 from if_pos (by omega)]
 ·have h := of_decide_eq_false h
  exact ⟨by omega, by omega, by omega, by omega, fun j hj => by omega⟩
theorem all_ref05_CheckHits (l : List THit) : AllG (J_ref05_CheckHits l) (loopsFn Try.prog tab Skf68 ann_ref05_CheckHits (J_ref05_CheckHits l) Try.f70 (fun r => LeD r (.tu [.c (.v (.int .i64 (hitsIdx l))), .c (.v (.int .i64 (hitsE l)))]))) := by
 rw [lp_ref05_CheckHits]
 refine ⟨⟨?_, ?_⟩, trivial⟩
 ·intro F s h
  obtain _ | ⟨g, F⟩ := F
  case cons => exact h.elim
  obtain ⟨w0, rfl, hi⟩ := h
  exact zero_ref05_CheckHits_0 l w0 hi
 ·intro n F s h
  obtain _ | ⟨g, F⟩ := F
  case cons => exact h.elim
  obtain ⟨w0, rfl, hi⟩ := h
  rw [er_ref05_CheckHits_0]
  exact rnd_ref05_CheckHits_0 l _ _ hi
def con_ref05_CheckHits : Con := fun args => match args with
 | [.t (.c (.sl 5 n_l c_l))] => some (.tu [.c (.v (.int .i64 (hitsIdx (listC n_l mkHit c_l)))), .c (.v (.int .i64 (hitsE (listC n_l mkHit c_l))))], some (numsP 5 n_l c_l), false)
 | _ => none
theorem ok_ref05_CheckHits : Ok Try.prog 70 con_ref05_CheckHits := by
 refine Ok.fn (ann := ann_ref05_CheckHits) mixed tabOK VSkf68 VIkv51 (fn := Try.f70) (by kernel_rfl) (by kernel_rfl) fit_ref05_CheckHits fun args r pre fresh h hp => ?_
 unfold con_ref05_CheckHits at h
 split at h
 ·rename_i n_l c_l
  cases h
  have hp0 := hp
  refine ⟨rfl, J_ref05_CheckHits (listC n_l mkHit c_l), [.t (.c (.sl 5 ((listC n_l mkHit c_l).length) (hitsC (listC n_l mkHit c_l))))], ?_, Nat.le_of_ble_eq_true (by kernel_rfl), ?_, ?_⟩
  ·exact (LeA_cons (leT_c ((leL_THit hp0))) LeA_nil)
  ·rw [ev_ref05_CheckHits]; exact spec_ref05_CheckHits (listC n_l mkHit c_l)
  ·exact all_ref05_CheckHits (listC n_l mkHit c_l)
 ·cases h
def Skf69 : Sum := addS Skf68 70 con_ref05_CheckHits
theorem VSkf69 : Valid Try.prog Skf69 := Valid.add VSkf68 ok_ref05_CheckHits
def vc_ref05_HitsErr (l : List THit) (post : DV → Prop) : Prop := (numsP 5 l.length (hitsC l)) ∧ (post (.t (.c (.v (.int .i64 (hitsE (listC l.length mkHit (hitsC l))))))))
def ann_ref05_HitsErr : Ann := ⟨fun _ => none, fun _ => none, fun _ => [], Ikv51, false, fun _ => none, fun _ => none⟩
theorem ev_ref05_HitsErr (J : Inv) (l : List THit) (post : DV → Prop) : evFn Try.prog tab Skf69 ann_ref05_HitsErr J Try.f40 [.t (.c (.sl 5 l.length (hitsC l)))] post = vc_ref05_HitsErr l post := by kernel_rfl
theorem fit_ref05_HitsErr : okFn ann_ref05_HitsErr Try.f40 = true := by kernel_rfl
theorem lp_ref05_HitsErr (J : Inv) (post : DV → Prop) : AllG J (loopsFn Try.prog tab Skf69 ann_ref05_HitsErr J Try.f40 post) = (True) := by kernel_rfl
theorem spec_ref05_HitsErr (l : List THit) : vc_ref05_HitsErr l (fun r => LeD r (.t (.c (.v (.int .i64 (hitsE l)))))) := by
 unfold vc_ref05_HitsErr
 rw [hits_listC]
 exact ⟨numsP_hits l, LeD.refl _⟩
def con_ref05_HitsErr : Con := fun args => match args with
 | [.t (.c (.sl 5 n_l c_l))] => some (.t (.c (.v (.int .i64 (hitsE (listC n_l mkHit c_l))))), some (numsP 5 n_l c_l), false)
 | _ => none
theorem ok_ref05_HitsErr : Ok Try.prog 40 con_ref05_HitsErr := by
 refine Ok.fn (ann := ann_ref05_HitsErr) mixed tabOK VSkf69 VIkv51 (fn := Try.f40) (by kernel_rfl) (by kernel_rfl) fit_ref05_HitsErr fun args r pre fresh h hp => ?_
 unfold con_ref05_HitsErr at h
 split at h
 ·rename_i n_l c_l
  cases h
  have hp0 := hp
  refine ⟨rfl, fun _ _ _ => False, [.t (.c (.sl 5 ((listC n_l mkHit c_l).length) (hitsC (listC n_l mkHit c_l))))], ?_, Nat.le_of_ble_eq_true (by kernel_rfl), ?_, ?_⟩
  ·exact (LeA_cons (leT_c ((leL_THit hp0))) LeA_nil)
  ·rw [ev_ref05_HitsErr]; exact spec_ref05_HitsErr (listC n_l mkHit c_l)
  ·rw [lp_ref05_HitsErr]; trivial
 ·cases h
def Skf70 : Sum := addS Skf69 40 con_ref05_HitsErr
theorem VSkf70 : Valid Try.prog Skf70 := Valid.add VSkf69 ok_ref05_HitsErr
def vc_ref05_Copy (l : List THit) (post : DV → Prop) : Prop := (roomP 40 (([] : List (List CV)).length + ((List.range l.length).map fun i => fwd ((hitsC l) i) 0 5).length)) ∧ (post (.t (.c (.sl 5 ((([] : List (List CV)) ++ ((List.range l.length).map fun i => fwd ((hitsC l) i) 0 5)).length) (genC (([] : List (List CV)) ++ ((List.range l.length).map fun i => fwd ((hitsC l) i) 0 5)))))))
def ann_ref05_Copy : Ann := ⟨fun _ => none, fun _ => none, fun _ => [], Ikv51, true, fun _ => none, fun _ => none⟩
theorem ev_ref05_Copy (J : Inv) (l : List THit) (post : DV → Prop) : evFn Try.prog tab Skf70 ann_ref05_Copy J Try.f9 [.t (.c (.sl 5 l.length (hitsC l)))] post = vc_ref05_Copy l post := by kernel_rfl
theorem fit_ref05_Copy : okFn ann_ref05_Copy Try.f9 = true := by kernel_rfl
theorem lp_ref05_Copy (J : Inv) (post : DV → Prop) : AllG J (loopsFn Try.prog tab Skf70 ann_ref05_Copy J Try.f9 post) = (True) := by kernel_rfl
theorem spec_ref05_Copy (l : List THit) (hp : (l).length ≤ 1000000) : vc_ref05_Copy l (fun r => LeD r (.t (.c (.sl 5 l.length (hitsC l))))) := by
 unfold vc_ref05_Copy
 rw [hits_fwd]
 exact ⟨by simp [roomP, maxLen]; omega, le_hits l⟩
def con_ref05_Copy : Con := fun args => match args with
 | [.t (.c (.sl 5 n_l c_l))] => some (.t (.c (.sl 5 ((listC n_l mkHit c_l).length) (hitsC (listC n_l mkHit c_l)))), some (numsP 5 n_l c_l ∧ ((listC n_l mkHit c_l)).length ≤ 1000000), true)
 | _ => none
theorem ok_ref05_Copy : Ok Try.prog 9 con_ref05_Copy := by
 refine Ok.fnFr (ann := ann_ref05_Copy) mixed tabOK VSkf70 VIkv51 rfl (fn := Try.f9) (by kernel_rfl) (by kernel_rfl) fit_ref05_Copy fun args r pre fresh h hp => ?_
 unfold con_ref05_Copy at h
 split at h
 ·rename_i n_l c_l
  cases h
  obtain ⟨hp0, hp⟩ := hp
  refine ⟨rfl, (fun i j _ hj => plain_THit _ i j), fun _ _ _ => False, [.t (.c (.sl 5 ((listC n_l mkHit c_l).length) (hitsC (listC n_l mkHit c_l))))], ?_, Nat.le_of_ble_eq_true (by kernel_rfl), ?_, ?_⟩
  ·exact (LeA_cons (leT_c ((leL_THit hp0))) LeA_nil)
  ·rw [ev_ref05_Copy]; exact spec_ref05_Copy (listC n_l mkHit c_l) hp
  ·rw [lp_ref05_Copy]; trivial
 ·cases h
def Skf71 : Sum := addS Skf70 9 con_ref05_Copy
theorem VSkf71 : Valid Try.prog Skf71 := Valid.add VSkf70 ok_ref05_Copy
def vc_ref05_ModelErr (m0 m1 m2 m3 m4 m5 m6 m7 m8 m9 m10 m11 : Int) (post : DV → Prop) : Prop := cond ((plE (⟨m0, m1, m2⟩ : V3)) != (0 : Int)) (post (.t (.c (.v (.int .i64 (plE (⟨m0, m1, m2⟩ : V3))))))) (cond ((tmE m3) != (0 : Int)) (post (.t (.c (.v (.int .i64 (tmE m3)))))) ((cond (!(inB m4 (1 : Int) (20 : Int))) ((true = true) ∧ ((true = true) ∧ ((true = true) ∧ ((true = true) ∧ ((true = true) ∧ ((true = true) ∧ ((true = true) ∧ (True)))))))) (cond (!(inB m5 (1 : Int) (1200 : Int))) ((true = true) ∧ ((true = true) ∧ ((true = true) ∧ ((true = true) ∧ ((true = true) ∧ ((true = true) ∧ (True))))))) (cond (!(inB m6 (1 : Int) (1200 : Int))) ((true = true) ∧ ((true = true) ∧ ((true = true) ∧ ((true = true) ∧ ((true = true) ∧ (True)))))) (cond (!(inB m7 (1 : Int) (100 : Int))) ((true = true) ∧ ((true = true) ∧ ((true = true) ∧ ((true = true) ∧ (True))))) (cond (!(inB m8 0 100)) ((true = true) ∧ ((true = true) ∧ ((true = true) ∧ (True)))) (cond (!(inB m9 0 100)) ((true = true) ∧ ((true = true) ∧ (True))) (cond (!(inB m10 0 100)) ((true = true) ∧ (True)) (True)))))))) ∧ (lt ((bif (!(inB m4 (1 : Int) (20 : Int))) then true else (bif (!(inB m5 (1 : Int) (1200 : Int))) then true else (bif (!(inB m6 (1 : Int) (1200 : Int))) then true else (bif (!(inB m7 (1 : Int) (100 : Int))) then true else (bif (!(inB m8 0 100)) then true else (bif (!(inB m9 0 100)) then true else (bif (!(inB m10 0 100)) then true else (!(inB m11 0 100)))))))))) fun x1 => cond x1 (post (.t (.c (.v (.int .i64 2))))) (cond (decide (m5 > m6)) (post (.t (.c (.v (.int .i64 9))))) (lt (IntKind.i64.wrap (m7 * m4)) fun x2 => lt (IntKind.i64.wrap (x2 * m4)) fun x3 => cond (decide (m5 ≤ x3)) (post (.t (.c (.v (.int .i64 13))))) (post (.t (.c (.v (.int .i64 0))))))))))
def ann_ref05_ModelErr : Ann := ⟨fun _ => none, fun _ => none, fun _ => [], Ikv51, false, fun r => lookA r [(8, (5, [67]))], fun _ => none⟩
theorem ev_ref05_ModelErr (J : Inv) (m0 m1 m2 m3 m4 m5 m6 m7 m8 m9 m10 m11 : Int) (post : DV → Prop) : evFn Try.prog tab Skf71 ann_ref05_ModelErr J Try.f12 [.t (.a [.v (.int .i64 m0), .v (.int .i64 m1), .v (.int .i64 m2), .v (.int .i64 m3), .v (.int .i64 m4), .v (.int .i64 m5), .v (.int .i64 m6), .v (.int .i64 m7), .v (.int .i64 m8), .v (.int .i64 m9), .v (.int .i64 m10), .v (.int .i64 m11)])] post = vc_ref05_ModelErr m0 m1 m2 m3 m4 m5 m6 m7 m8 m9 m10 m11 post := by kernel_rfl
theorem fit_ref05_ModelErr : okFn ann_ref05_ModelErr Try.f12 = true := by kernel_rfl
theorem lp_ref05_ModelErr (J : Inv) (post : DV → Prop) : AllG J (loopsFn Try.prog tab Skf71 ann_ref05_ModelErr J Try.f12 post) = (True) := by kernel_rfl
theorem spec_ref05_ModelErr (m0 m1 m2 m3 m4 m5 m6 m7 m8 m9 m10 m11 : Int) : vc_ref05_ModelErr m0 m1 m2 m3 m4 m5 m6 m7 m8 m9 m10 m11 (fun r => LeD r (.t (.c (.v (.int .i64 (((⟨m0, m1, m2, m3, m4, m5, m6, m7, m8, m9, m10, m11⟩ : TMod)).err)))))) := by
 unfold vc_ref05_ModelErr TMod.err
 rw [or8]
 have hp : TMod.pl (⟨m0, m1, m2, m3, m4, m5, m6, m7, m8, m9, m10, m11⟩ : TMod) = ⟨m0, m1, m2⟩ := rfl
 rw [hp]
 simp only
 have hr : (inB m4 1 20 && inB m5 1 1200 && inB m6 1 1200 && inB m7 1 100 && inB m8 0 100 && inB m9 0 100 && inB m10 0 100 && inB m11 0 100) = ((⟨m0, m1, m2, m3, m4, m5, m6, m7, m8, m9, m10, m11⟩ : TMod)).right := rfl
 rw [hr]
 refine cond_i (fun h => leI ?_) (fun h => cond_i (fun h2 => leI ?_) (fun h2 => ⟨by (repeat' first | trivial | (refine cond_i ?_ ?_ <;> intro _) | (refine And.intro ?_ ?_) | (refine lt_i ?_; intro _ _)), lt_i fun x1 h1 => cond_i (fun e => leI ?_) (fun e => cond_i (fun e2 => leI ?_) (fun e2 => lt_i fun x2 h3 => lt_i fun x3 h4 => ?_))⟩))
 ·have h : plE (⟨m0, m1, m2⟩ : V3) ≠ 0 := by simpa using h
  simp [firstNZ, h]
 ·have h : plE (⟨m0, m1, m2⟩ : V3) = 0 := by simpa using h
  have h2 : tmE m3 ≠ 0 := by simpa using h2
  simp [firstNZ, h, h2]
 all_goals have h : plE (⟨m0, m1, m2⟩ : V3) = 0 := by simpa using h
 all_goals have h2 : tmE m3 = 0 := by simpa using h2
 ·have e : ((⟨m0, m1, m2, m3, m4, m5, m6, m7, m8, m9, m10, m11⟩ : TMod)).right = false := by rw [e] at h1; simpa using h1
  rw [h, h2, e]; rfl
 all_goals have e : ((⟨m0, m1, m2, m3, m4, m5, m6, m7, m8, m9, m10, m11⟩ : TMod)).right = true := by rw [e] at h1; simpa using h1
 ·have e2 := of_decide_eq_true e2
  rw [h, h2, e, decide_eq_false (show ¬ m5 ≤ m6 by omega)]; rfl
 have e2 := of_decide_eq_false e2
 unfold TMod.right at e
 simp only [Bool.and_eq_true, inB_true] at e
 obtain ⟨⟨⟨⟨⟨⟨⟨b1, b2⟩, b3⟩, b4⟩, b5⟩, b6⟩, b7⟩, b8⟩ := e
 have k3 := mul_rg (x := m7) (y := m4) (A := 100) (B := 20) (C := 2000) (by omega) (by omega) (by decide)
 rw [wi (by omega)] at h3
 subst h3
 have k4 := mul_rg (x := m7 * m4) (y := m4) (A := 2000) (B := 20) (C := 40000) k3 (by omega) (by decide)
 rw [wi (by omega)] at h4
 have h4 : ((⟨m0, m1, m2, m3, m4, m5, m6, m7, m8, m9, m10, m11⟩ : TMod)).slow = x3 := h4
 have er : ((⟨m0, m1, m2, m3, m4, m5, m6, m7, m8, m9, m10, m11⟩ : TMod)).right = true := by
  unfold TMod.right
  simp only [Bool.and_eq_true, inB_true]
  exact ⟨⟨⟨⟨⟨⟨⟨b1, b2⟩, b3⟩, b4⟩, b5⟩, b6⟩, b7⟩, b8⟩
 rw [h, h2, er, decide_eq_true (show m5 ≤ m6 by omega), h4]
 refine cond_i (fun e3 => leI ?_) (fun e3 => leI ?_)
 ·have e3 := of_decide_eq_true e3
  rw [decide_eq_false (show ¬ x3 < m5 by omega)]; rfl
 ·have e3 := of_decide_eq_false e3
  rw [decide_eq_true (show x3 < m5 by omega)]; rfl
def con_ref05_ModelErr : Con := fun args => match args with
 | [.t (.a [.v (.int .i64 m0), .v (.int .i64 m1), .v (.int .i64 m2), .v (.int .i64 m3), .v (.int .i64 m4), .v (.int .i64 m5), .v (.int .i64 m6), .v (.int .i64 m7), .v (.int .i64 m8), .v (.int .i64 m9), .v (.int .i64 m10), .v (.int .i64 m11)])] => some (.t (.c (.v (.int .i64 (((⟨m0, m1, m2, m3, m4, m5, m6, m7, m8, m9, m10, m11⟩ : TMod)).err)))), none, false)
 | _ => none
theorem ok_ref05_ModelErr : Ok Try.prog 12 con_ref05_ModelErr := by
 refine Ok.fn (ann := ann_ref05_ModelErr) mixed tabOK VSkf71 VIkv51 (fn := Try.f12) (by kernel_rfl) (by kernel_rfl) fit_ref05_ModelErr fun args r pre fresh h hp => ?_
 unfold con_ref05_ModelErr at h
 split at h
 ·rename_i m0 m1 m2 m3 m4 m5 m6 m7 m8 m9 m10 m11
  cases h
  refine ⟨rfl, fun _ _ _ => False, _, LeA.refl _, Nat.le_of_ble_eq_true (by kernel_rfl), ?_, ?_⟩
  ·rw [ev_ref05_ModelErr]; exact spec_ref05_ModelErr m0 m1 m2 m3 m4 m5 m6 m7 m8 m9 m10 m11
  ·rw [lp_ref05_ModelErr]; trivial
 ·cases h
def Skf72 : Sum := addS Skf71 12 con_ref05_ModelErr
theorem VSkf72 : Valid Try.prog Skf72 := Valid.add VSkf71 ok_ref05_ModelErr
def vc_ref05_Dot (s0 s1 s2 : Int) (t0 t1 t2 : Int) (post : DV → Prop) : Prop := (0 ≤ (0 : Int) ∧ (0 : Int) < ((3 : Nat) : Int)) ∧ ((0 ≤ (0 : Int) ∧ (0 : Int) < ((3 : Nat) : Int)) ∧ (lt (IntKind.i64.wrap (s0 * t0)) fun x1 => (0 ≤ (1 : Int) ∧ (1 : Int) < ((3 : Nat) : Int)) ∧ ((0 ≤ (1 : Int) ∧ (1 : Int) < ((3 : Nat) : Int)) ∧ (lt (IntKind.i64.wrap (s1 * t1)) fun x2 => lt (IntKind.i64.wrap (x1 + x2)) fun x3 => (0 ≤ (2 : Int) ∧ (2 : Int) < ((3 : Nat) : Int)) ∧ ((0 ≤ (2 : Int) ∧ (2 : Int) < ((3 : Nat) : Int)) ∧ (lt (IntKind.i64.wrap (s2 * t2)) fun x4 => lt (IntKind.i64.wrap (x3 + x4)) fun x5 => post (.t (.c (.v (.int .i64 x5))))))))))
def ann_ref05_Dot : Ann := ⟨fun _ => none, fun _ => none, fun _ => [], Ikv51, false, fun _ => none, fun _ => none⟩
theorem ev_ref05_Dot (J : Inv) (s0 s1 s2 : Int) (t0 t1 t2 : Int) (post : DV → Prop) : evFn Try.prog tab Skf72 ann_ref05_Dot J Try.f74 [.t (.a [.v (.int .i64 s0), .v (.int .i64 s1), .v (.int .i64 s2)]), .t (.a [.v (.int .i64 t0), .v (.int .i64 t1), .v (.int .i64 t2)])] post = vc_ref05_Dot s0 s1 s2 t0 t1 t2 post := by kernel_rfl
theorem fit_ref05_Dot : okFn ann_ref05_Dot Try.f74 = true := by kernel_rfl
theorem lp_ref05_Dot (J : Inv) (post : DV → Prop) : AllG J (loopsFn Try.prog tab Skf72 ann_ref05_Dot J Try.f74 post) = (True) := by kernel_rfl
theorem spec_ref05_Dot (s0 s1 s2 : Int) (t0 t1 t2 : Int) : vc_ref05_Dot s0 s1 s2 t0 t1 t2 (fun r => LeD r (.t (.c (.v (.int .i64 (dotW (⟨s0, s1, s2⟩ : V3) (⟨t0, t1, t2⟩ : V3))))))) := by
 unfold vc_ref05_Dot
 refine ⟨by decide, by decide, lt_i fun x1 h1 => ⟨by decide, by decide, lt_i fun x2 h2 => lt_i fun x3 h3 => ⟨by decide, by decide, lt_i fun x4 h4 => lt_i fun x5 h5 => leI ?_⟩⟩⟩
 unfold dotW
 rw [← h5, ← h4, ← h3, ← h2, ← h1]
def con_ref05_Dot : Con := fun args => match args with
 | [.t (.a [.v (.int .i64 s0), .v (.int .i64 s1), .v (.int .i64 s2)]), .t (.a [.v (.int .i64 t0), .v (.int .i64 t1), .v (.int .i64 t2)])] => some (.t (.c (.v (.int .i64 (dotW (⟨s0, s1, s2⟩ : V3) (⟨t0, t1, t2⟩ : V3))))), none, false)
 | _ => none
theorem ok_ref05_Dot : Ok Try.prog 74 con_ref05_Dot := by
 refine Ok.fn (ann := ann_ref05_Dot) mixed tabOK VSkf72 VIkv51 (fn := Try.f74) (by kernel_rfl) (by kernel_rfl) fit_ref05_Dot fun args r pre fresh h hp => ?_
 unfold con_ref05_Dot at h
 split at h
 ·rename_i s0 s1 s2 t0 t1 t2
  cases h
  refine ⟨rfl, fun _ _ _ => False, _, LeA.refl _, Nat.le_of_ble_eq_true (by kernel_rfl), ?_, ?_⟩
  ·rw [ev_ref05_Dot]; exact spec_ref05_Dot s0 s1 s2 t0 t1 t2
  ·rw [lp_ref05_Dot]; trivial
 ·cases h
def Skf73 : Sum := addS Skf72 74 con_ref05_Dot
theorem VSkf73 : Valid Try.prog Skf73 := Valid.add VSkf72 ok_ref05_Dot
def vc_ref05_IsPermitted (m0 m1 m2 m3 m4 m5 m6 m7 m8 m9 m10 m11 : Int) (s0 s1 s2 : Int) (post : DV → Prop) : Prop := lt (dotW (⟨s0, s1, s2⟩ : V3) (⟨s0, s1, s2⟩ : V3)) fun x1 => post (.t (.c (.v (.bool (inB x1 m5 m6)))))
def ann_ref05_IsPermitted : Ann := ⟨fun r => lookA r [(1, ([[], [], [0, 1], [], [3], [3, 4], [], [6], [6, 7], [0, 1, 2, 3, 4, 5, 6, 7, 8], [0, 1, 2, 3, 4, 5, 6, 7, 8, 9]], [[7, 14], [7, 14], [14], [7, 14], [7, 14], [7, 14], [7, 14], [7, 14], [7, 14], [], []]))], fun _ => none, fun _ => [], Ikv51, false, fun _ => none, fun _ => none⟩
theorem ev_ref05_IsPermitted (J : Inv) (m0 m1 m2 m3 m4 m5 m6 m7 m8 m9 m10 m11 : Int) (s0 s1 s2 : Int) (post : DV → Prop) : evFn Try.prog tab Skf73 ann_ref05_IsPermitted J Try.f45 [.t (.a [.v (.int .i64 m0), .v (.int .i64 m1), .v (.int .i64 m2), .v (.int .i64 m3), .v (.int .i64 m4), .v (.int .i64 m5), .v (.int .i64 m6), .v (.int .i64 m7), .v (.int .i64 m8), .v (.int .i64 m9), .v (.int .i64 m10), .v (.int .i64 m11)]), .t (.a [.v (.int .i64 s0), .v (.int .i64 s1), .v (.int .i64 s2)])] post = vc_ref05_IsPermitted m0 m1 m2 m3 m4 m5 m6 m7 m8 m9 m10 m11 s0 s1 s2 post := by kernel_rfl
theorem fit_ref05_IsPermitted : okFn ann_ref05_IsPermitted Try.f45 = true := by kernel_rfl
theorem lp_ref05_IsPermitted (J : Inv) (post : DV → Prop) : AllG J (loopsFn Try.prog tab Skf73 ann_ref05_IsPermitted J Try.f45 post) = (True) := by kernel_rfl
theorem spec_ref05_IsPermitted (m0 m1 m2 m3 m4 m5 m6 m7 m8 m9 m10 m11 : Int) (s0 s1 s2 : Int) (hp : ((⟨s0, s1, s2⟩ : V3)).sm (⟨s0, s1, s2⟩ : V3)) : vc_ref05_IsPermitted m0 m1 m2 m3 m4 m5 m6 m7 m8 m9 m10 m11 s0 s1 s2 (fun r => LeD r (.t (.c (.v (.bool (((⟨m0, m1, m2, m3, m4, m5, m6, m7, m8, m9, m10, m11⟩ : TMod)).permB (⟨s0, s1, s2⟩ : V3))))))) := by
 have e : dotW (⟨s0, s1, s2⟩ : V3) ⟨s0, s1, s2⟩ = (⟨s0, s1, s2⟩ : V3).dot ⟨s0, s1, s2⟩ := dotW_sm hp
 unfold vc_ref05_IsPermitted
 rw [e]
 refine lt_i fun x hx => leB ?_
 rw [← hx]
 rfl
def con_ref05_IsPermitted : Con := fun args => match args with
 | [.t (.a [.v (.int .i64 m0), .v (.int .i64 m1), .v (.int .i64 m2), .v (.int .i64 m3), .v (.int .i64 m4), .v (.int .i64 m5), .v (.int .i64 m6), .v (.int .i64 m7), .v (.int .i64 m8), .v (.int .i64 m9), .v (.int .i64 m10), .v (.int .i64 m11)]), .t (.a [.v (.int .i64 s0), .v (.int .i64 s1), .v (.int .i64 s2)])] => some (.t (.c (.v (.bool (((⟨m0, m1, m2, m3, m4, m5, m6, m7, m8, m9, m10, m11⟩ : TMod)).permB (⟨s0, s1, s2⟩ : V3))))), some (((⟨s0, s1, s2⟩ : V3)).sm (⟨s0, s1, s2⟩ : V3)), false)
 | _ => none
theorem ok_ref05_IsPermitted : Ok Try.prog 45 con_ref05_IsPermitted := by
 refine Ok.fn (ann := ann_ref05_IsPermitted) mixed tabOK VSkf73 VIkv51 (fn := Try.f45) (by kernel_rfl) (by kernel_rfl) fit_ref05_IsPermitted fun args r pre fresh h hp => ?_
 unfold con_ref05_IsPermitted at h
 split at h
 ·rename_i m0 m1 m2 m3 m4 m5 m6 m7 m8 m9 m10 m11 s0 s1 s2
  cases h
  refine ⟨rfl, fun _ _ _ => False, _, LeA.refl _, Nat.le_of_ble_eq_true (by kernel_rfl), ?_, ?_⟩
  ·rw [ev_ref05_IsPermitted]; exact spec_ref05_IsPermitted m0 m1 m2 m3 m4 m5 m6 m7 m8 m9 m10 m11 s0 s1 s2 hp
  ·rw [lp_ref05_IsPermitted]; trivial
 ·cases h
def Skf74 : Sum := addS Skf73 45 con_ref05_IsPermitted
theorem VSkf74 : Valid Try.prog Skf74 := Valid.add VSkf73 ok_ref05_IsPermitted
def vc_ref05_way (m0 m1 m2 m3 m4 m5 m6 m7 m8 m9 m10 m11 : Int) (s0 s1 s2 : Int) (p0 p1 p2 : Int) (n : Int) (post : DV → Prop) : Prop := (0 ≤ (0 : Int) ∧ (0 : Int) < ((3 : Nat) : Int)) ∧ ((0 ≤ (0 : Int) ∧ (0 : Int) < ((3 : Nat) : Int)) ∧ (lt (IntKind.i64.wrap (p0 - m0)) fun x1 => lt (IntKind.i64.wrap (m4 * x1)) fun x2 => lt (IntKind.i64.wrap (n - m3)) fun x3 => (0 ≤ (0 : Int) ∧ (0 : Int) < ((3 : Nat) : Int)) ∧ (lt (IntKind.i64.wrap (x3 * s0)) fun x4 => lt (IntKind.i64.wrap (x2 - x4)) fun x5 => (0 ≤ (0 : Int) ∧ (0 : Int) < ((3 : Nat) : Int)) ∧ ((0 ≤ (1 : Int) ∧ (1 : Int) < ((3 : Nat) : Int)) ∧ ((0 ≤ (1 : Int) ∧ (1 : Int) < ((3 : Nat) : Int)) ∧ (lt (IntKind.i64.wrap (p1 - m1)) fun x6 => lt (IntKind.i64.wrap (m4 * x6)) fun x7 => lt (IntKind.i64.wrap (n - m3)) fun x8 => (0 ≤ (1 : Int) ∧ (1 : Int) < ((3 : Nat) : Int)) ∧ (lt (IntKind.i64.wrap (x8 * s1)) fun x9 => lt (IntKind.i64.wrap (x7 - x9)) fun x10 => (0 ≤ (1 : Int) ∧ (1 : Int) < ((3 : Nat) : Int)) ∧ ((0 ≤ (2 : Int) ∧ (2 : Int) < ((3 : Nat) : Int)) ∧ ((0 ≤ (2 : Int) ∧ (2 : Int) < ((3 : Nat) : Int)) ∧ (lt (IntKind.i64.wrap (p2 - m2)) fun x11 => lt (IntKind.i64.wrap (m4 * x11)) fun x12 => lt (IntKind.i64.wrap (n - m3)) fun x13 => (0 ≤ (2 : Int) ∧ (2 : Int) < ((3 : Nat) : Int)) ∧ (lt (IntKind.i64.wrap (x13 * s2)) fun x14 => lt (IntKind.i64.wrap (x12 - x14)) fun x15 => (0 ≤ (2 : Int) ∧ (2 : Int) < ((3 : Nat) : Int)) ∧ (post (.t (.a [.v (.int .i64 x5), .v (.int .i64 x10), .v (.int .i64 x15)]))))))))))))))
def ann_ref05_way : Ann := ⟨fun r => lookA r [(5, ([[], [], [1], [], [3], [3, 4], [], [], [6, 7], [6, 7, 8], [3, 4, 5, 6, 7, 8, 9], [1, 2, 3, 4, 5, 6, 7, 8, 9, 10], [], [], [13], [12, 13, 14], [], [16], [16, 17], [12, 13, 14, 15, 16, 17, 18], [1, 2, 3, 4, 5, 6, 7, 8, 9, 10, 11, 12, 13, 14, 15, 16, 17, 18, 19], [0, 1, 2, 3, 4, 5, 6, 7, 8, 9, 10, 11, 12, 13, 14, 15, 16, 17, 18, 19, 20], [0, 1, 2, 3, 4, 5, 6, 7, 8, 9, 10, 11, 12, 13, 14, 15, 16, 17, 18, 19, 20, 21]], [[], [], [], [], [], [], [], [], [], [], [], [], [], [], [], [], [], [], [], [], [], [], []]))], fun b => lookA b [(0, (some 4, some ⟨[3, 4, 5, 6, 8, 9, 10], [4, 5, 6, 8, 9], []⟩))], fun _ => [], Ikv51, false, fun _ => none, fun _ => none⟩
theorem ev_ref05_way (J : Inv) (m0 m1 m2 m3 m4 m5 m6 m7 m8 m9 m10 m11 : Int) (s0 s1 s2 : Int) (p0 p1 p2 : Int) (n : Int) (post : DV → Prop) : evFn Try.prog tab Skf74 ann_ref05_way J Try.f93 [.t (.a [.v (.int .i64 m0), .v (.int .i64 m1), .v (.int .i64 m2), .v (.int .i64 m3), .v (.int .i64 m4), .v (.int .i64 m5), .v (.int .i64 m6), .v (.int .i64 m7), .v (.int .i64 m8), .v (.int .i64 m9), .v (.int .i64 m10), .v (.int .i64 m11)]), .t (.a [.v (.int .i64 s0), .v (.int .i64 s1), .v (.int .i64 s2)]), .t (.a [.v (.int .i64 p0), .v (.int .i64 p1), .v (.int .i64 p2)]), .t (.c (.v (.int .i64 n)))] post = vc_ref05_way m0 m1 m2 m3 m4 m5 m6 m7 m8 m9 m10 m11 s0 s1 s2 p0 p1 p2 n post := by kernel_rfl
theorem fit_ref05_way : okFn ann_ref05_way Try.f93 = true := by kernel_rfl
theorem lp_ref05_way (J : Inv) (post : DV → Prop) : AllG J (loopsFn Try.prog tab Skf74 ann_ref05_way J Try.f93 post) = (True) := by kernel_rfl
theorem spec_ref05_way (m0 m1 m2 m3 m4 m5 m6 m7 m8 m9 m10 m11 : Int) (s0 s1 s2 : Int) (p0 p1 p2 : Int) (n : Int) (hp : ((⟨m0, m1, m2, m3, m4, m5, m6, m7, m8, m9, m10, m11⟩ : TMod)).Ok ∧ ((⟨s0, s1, s2⟩ : V3) : V3).inS 20 = true ∧ ((⟨p0, p1, p2⟩ : V3) : V3).inS 1000 = true ∧ -1000101 ≤ n ∧ n ≤ 1000100) : vc_ref05_way m0 m1 m2 m3 m4 m5 m6 m7 m8 m9 m10 m11 s0 s1 s2 p0 p1 p2 n (fun r => LeD r (.t (.a [.v (.int .i64 ((((⟨m0, m1, m2, m3, m4, m5, m6, m7, m8, m9, m10, m11⟩ : TMod)).way (⟨s0, s1, s2⟩ : V3) (⟨p0, p1, p2⟩ : V3) n).x)), .v (.int .i64 ((((⟨m0, m1, m2, m3, m4, m5, m6, m7, m8, m9, m10, m11⟩ : TMod)).way (⟨s0, s1, s2⟩ : V3) (⟨p0, p1, p2⟩ : V3) n).y)), .v (.int .i64 ((((⟨m0, m1, m2, m3, m4, m5, m6, m7, m8, m9, m10, m11⟩ : TMod)).way (⟨s0, s1, s2⟩ : V3) (⟨p0, p1, p2⟩ : V3) n).z))]))) := by
 obtain ⟨ho, hs, hp, ht⟩ := hp
 unfold vc_ref05_way
 refine ⟨by decide, by decide, lt_i fun x1 h1 => lt_i fun x2 h2 => lt_i fun x3 h3 => ⟨by decide, lt_i fun x4 h4 => lt_i fun x5 h5 => ⟨by decide, by decide, by decide, lt_i fun x6 h6 => lt_i fun x7 h7 => lt_i fun x8 h8 => ⟨by decide, lt_i fun x9 h9 => lt_i fun x10 h10 => ⟨by decide, by decide, by decide, lt_i fun x11 h11 => lt_i fun x12 h12 => lt_i fun x13 h13 => ⟨by decide, lt_i fun x14 h14 => lt_i fun x15 h15 => ⟨by decide, ?_⟩⟩⟩⟩⟩⟩⟩
 obtain ⟨a1, a2, a3, a4⟩ : (-2000 ≤ p0 - m0 ∧ p0 - m0 ≤ 2000) ∧ (-40000 ≤ m4 * (p0 - m0) ∧ m4 * (p0 - m0) ≤ 40000) ∧ (-1010101 ≤ n - m3 ∧ n - m3 ≤ 1010101) ∧ (-20202020 ≤ (n - m3) * s0 ∧ (n - m3) * s0 ≤ 20202020) := way_nums ho hs hp ht 0
 rw [wi (by omega)] at h1 h3
 subst h1 h3
 rw [wi (by omega)] at h2 h4
 subst h2 h4
 rw [wi (by omega)] at h5
 subst h5
 obtain ⟨a1, a2, a3, a4⟩ : (-2000 ≤ p1 - m1 ∧ p1 - m1 ≤ 2000) ∧ (-40000 ≤ m4 * (p1 - m1) ∧ m4 * (p1 - m1) ≤ 40000) ∧ (-1010101 ≤ n - m3 ∧ n - m3 ≤ 1010101) ∧ (-20202020 ≤ (n - m3) * s1 ∧ (n - m3) * s1 ≤ 20202020) := way_nums ho hs hp ht 1
 rw [wi (by omega)] at h6 h8
 subst h6 h8
 rw [wi (by omega)] at h7 h9
 subst h7 h9
 rw [wi (by omega)] at h10
 subst h10
 obtain ⟨a1, a2, a3, a4⟩ : (-2000 ≤ p2 - m2 ∧ p2 - m2 ≤ 2000) ∧ (-40000 ≤ m4 * (p2 - m2) ∧ m4 * (p2 - m2) ≤ 40000) ∧ (-1010101 ≤ n - m3 ∧ n - m3 ≤ 1010101) ∧ (-20202020 ≤ (n - m3) * s2 ∧ (n - m3) * s2 ≤ 20202020) := way_nums ho hs hp ht 2
 rw [wi (by omega)] at h11 h13
 subst h11 h13
 rw [wi (by omega)] at h12 h14
 subst h12 h14
 rw [wi (by omega)] at h15
 subst h15
 exact LeD.refl _
def con_ref05_way : Con := fun args => match args with
 | [.t (.a [.v (.int .i64 m0), .v (.int .i64 m1), .v (.int .i64 m2), .v (.int .i64 m3), .v (.int .i64 m4), .v (.int .i64 m5), .v (.int .i64 m6), .v (.int .i64 m7), .v (.int .i64 m8), .v (.int .i64 m9), .v (.int .i64 m10), .v (.int .i64 m11)]), .t (.a [.v (.int .i64 s0), .v (.int .i64 s1), .v (.int .i64 s2)]), .t (.a [.v (.int .i64 p0), .v (.int .i64 p1), .v (.int .i64 p2)]), .t (.c (.v (.int .i64 n)))] => some (.t (.a [.v (.int .i64 ((((⟨m0, m1, m2, m3, m4, m5, m6, m7, m8, m9, m10, m11⟩ : TMod)).way (⟨s0, s1, s2⟩ : V3) (⟨p0, p1, p2⟩ : V3) n).x)), .v (.int .i64 ((((⟨m0, m1, m2, m3, m4, m5, m6, m7, m8, m9, m10, m11⟩ : TMod)).way (⟨s0, s1, s2⟩ : V3) (⟨p0, p1, p2⟩ : V3) n).y)), .v (.int .i64 ((((⟨m0, m1, m2, m3, m4, m5, m6, m7, m8, m9, m10, m11⟩ : TMod)).way (⟨s0, s1, s2⟩ : V3) (⟨p0, p1, p2⟩ : V3) n).z))]), some (((⟨m0, m1, m2, m3, m4, m5, m6, m7, m8, m9, m10, m11⟩ : TMod)).Ok ∧ ((⟨s0, s1, s2⟩ : V3) : V3).inS 20 = true ∧ ((⟨p0, p1, p2⟩ : V3) : V3).inS 1000 = true ∧ -1000101 ≤ n ∧ n ≤ 1000100), false)
 | _ => none
theorem ok_ref05_way : Ok Try.prog 93 con_ref05_way := by
 refine Ok.fn (ann := ann_ref05_way) mixed tabOK VSkf74 VIkv51 (fn := Try.f93) (by kernel_rfl) (by kernel_rfl) fit_ref05_way fun args r pre fresh h hp => ?_
 unfold con_ref05_way at h
 split at h
 ·rename_i m0 m1 m2 m3 m4 m5 m6 m7 m8 m9 m10 m11 s0 s1 s2 p0 p1 p2 n
  cases h
  refine ⟨rfl, fun _ _ _ => False, _, LeA.refl _, Nat.le_of_ble_eq_true (by kernel_rfl), ?_, ?_⟩
  ·rw [ev_ref05_way]; exact spec_ref05_way m0 m1 m2 m3 m4 m5 m6 m7 m8 m9 m10 m11 s0 s1 s2 p0 p1 p2 n hp
  ·rw [lp_ref05_way]; trivial
 ·cases h
def Skf75 : Sum := addS Skf74 93 con_ref05_way
theorem VSkf75 : Valid Try.prog Skf75 := Valid.add VSkf74 ok_ref05_way
def vc_ref05_Reached (m0 m1 m2 m3 m4 m5 m6 m7 m8 m9 m10 m11 : Int) (s0 s1 s2 : Int) (p0 p1 p2 : Int) (n : Int) (post : DV → Prop) : Prop := (((⟨m0, m1, m2, m3, m4, m5, m6, m7, m8, m9, m10, m11⟩ : TMod)).Ok ∧ ((⟨s0, s1, s2⟩ : V3) : V3).inS 20 = true ∧ ((⟨p0, p1, p2⟩ : V3) : V3).inS 1000 = true ∧ -1000101 ≤ n ∧ n ≤ 1000100) ∧ (lt (dotW (⟨s0, s1, s2⟩ : V3) (⟨s0, s1, s2⟩ : V3)) fun x1 => lt (IntKind.i64.wrap (m7 * m4)) fun x2 => lt (IntKind.i64.wrap (x2 * m4)) fun x3 => lt (IntKind.i64.wrap (x1 - x3)) fun x4 => lt (dotW (((⟨m0, m1, m2, m3, m4, m5, m6, m7, m8, m9, m10, m11⟩ : TMod)).way (⟨s0, s1, s2⟩ : V3) (⟨p0, p1, p2⟩ : V3) n) (⟨s0, s1, s2⟩ : V3)) fun x5 => lt (dotW (((⟨m0, m1, m2, m3, m4, m5, m6, m7, m8, m9, m10, m11⟩ : TMod)).way (⟨s0, s1, s2⟩ : V3) (⟨p0, p1, p2⟩ : V3) n) (((⟨m0, m1, m2, m3, m4, m5, m6, m7, m8, m9, m10, m11⟩ : TMod)).way (⟨s0, s1, s2⟩ : V3) (⟨p0, p1, p2⟩ : V3) n)) fun x6 => (cond (x6 == (0 : Int)) ((true = true) ∧ (True)) (cond (decide (x5 ≤ (0 : Int))) (lt (IntKind.i64.wrap (x5 * x5)) fun x9 => lt (IntKind.i64.wrap (x4 * x6)) fun x10 => True) ((false = false) ∧ (True)))) ∧ (lt ((bif (x6 == (0 : Int)) then true else (bif decide (x5 ≤ (0 : Int)) then decide ((IntKind.i64.wrap (x5 * x5)) ≥ (IntKind.i64.wrap (x4 * x6))) else false))) fun x11 => post (.t (.c (.v (.bool x11))))))
def ann_ref05_Reached : Ann := ⟨fun r => lookA r [(2, ([[], [], [0, 1], [], [3], [], [5], [3, 4, 5, 6], [], [8], [3, 4, 5, 6, 7, 8, 9], [0, 1, 2, 3, 4, 5, 6, 7, 8, 9, 10], [], [], [0, 1, 2, 12, 13], [], [], [0, 1, 2, 12, 13, 14, 15, 16], [0, 1, 2, 3, 4, 5, 6, 7, 8, 9, 10, 11, 12, 13, 14, 15, 16, 17], [0, 1, 2, 3, 4, 5, 6, 7, 8, 9, 10, 11, 12, 13, 14, 15, 16, 17, 18], [0, 1, 2, 3, 4, 5, 6, 7, 8, 9, 10, 11, 12, 13, 14, 15, 16, 17, 18, 19]], [[20, 32, 35], [20, 32, 35], [32, 35], [20, 32, 35], [20, 32, 35], [20, 32, 35], [20, 32, 35], [20, 32, 35], [20, 32, 35], [20, 32, 35], [20, 32, 35], [32, 35], [20, 32, 35], [20, 32, 35], [35], [20, 32, 35], [20, 32, 35], [], [], [], []]))], fun _ => none, fun _ => [], Ikv51, false, fun r => lookA r [(3, (3, [8]))], fun _ => none⟩
theorem ev_ref05_Reached (J : Inv) (m0 m1 m2 m3 m4 m5 m6 m7 m8 m9 m10 m11 : Int) (s0 s1 s2 : Int) (p0 p1 p2 : Int) (n : Int) (post : DV → Prop) : evFn Try.prog tab Skf75 ann_ref05_Reached J Try.f85 [.t (.a [.v (.int .i64 m0), .v (.int .i64 m1), .v (.int .i64 m2), .v (.int .i64 m3), .v (.int .i64 m4), .v (.int .i64 m5), .v (.int .i64 m6), .v (.int .i64 m7), .v (.int .i64 m8), .v (.int .i64 m9), .v (.int .i64 m10), .v (.int .i64 m11)]), .t (.a [.v (.int .i64 s0), .v (.int .i64 s1), .v (.int .i64 s2)]), .t (.a [.v (.int .i64 p0), .v (.int .i64 p1), .v (.int .i64 p2)]), .t (.c (.v (.int .i64 n)))] post = vc_ref05_Reached m0 m1 m2 m3 m4 m5 m6 m7 m8 m9 m10 m11 s0 s1 s2 p0 p1 p2 n post := by kernel_rfl
theorem fit_ref05_Reached : okFn ann_ref05_Reached Try.f85 = true := by kernel_rfl
theorem lp_ref05_Reached (J : Inv) (post : DV → Prop) : AllG J (loopsFn Try.prog tab Skf75 ann_ref05_Reached J Try.f85 post) = (True) := by kernel_rfl
theorem spec_ref05_Reached (m0 m1 m2 m3 m4 m5 m6 m7 m8 m9 m10 m11 : Int) (s0 s1 s2 : Int) (p0 p1 p2 : Int) (n : Int) (hp : ((⟨m0, m1, m2, m3, m4, m5, m6, m7, m8, m9, m10, m11⟩ : TMod)).Ok ∧ ((⟨s0, s1, s2⟩ : V3) : V3).inS 20 = true ∧ ((⟨m0, m1, m2, m3, m4, m5, m6, m7, m8, m9, m10, m11⟩ : TMod)).permit (⟨s0, s1, s2⟩ : V3) ∧ ((⟨p0, p1, p2⟩ : V3) : V3).inS 1000 = true ∧ -1000101 ≤ n ∧ n ≤ 1000100) : vc_ref05_Reached m0 m1 m2 m3 m4 m5 m6 m7 m8 m9 m10 m11 s0 s1 s2 p0 p1 p2 n (fun r => LeD r (.t (.c (.v (.bool (((⟨m0, m1, m2, m3, m4, m5, m6, m7, m8, m9, m10, m11⟩ : TMod)).reached (⟨s0, s1, s2⟩ : V3) (⟨p0, p1, p2⟩ : V3) n)))))) := by
 obtain ⟨ho, hs, hpm, hp, ht⟩ := hp
 obtain ⟨n1, n2, n3, nS, na, nb, nc, nbb, nac⟩ := reach_nums ho hs hpm hp ht
 have hw := way_sz ho hs hp ht
 have ks := slow_wi ho
 unfold vc_ref05_Reached
 refine ⟨⟨ho, hs, hp, ht⟩, lt_i fun x1 h1 => lt_i fun x2 h2 => lt_i fun x3 h3 => lt_i fun x4 h4 => lt_i fun x5 h5 => lt_i fun x6 h6 => ⟨by (repeat' first | trivial | (refine cond_i ?_ ?_ <;> intro _) | (refine And.intro ?_ ?_) | (refine lt_i ?_; intro _ _)), lt_i fun x11 h11 => leB ?_⟩⟩
 rw [dotW_eq hs hs (by decide)] at h1
 have h5 : dotW (((⟨m0, m1, m2, m3, m4, m5, m6, m7, m8, m9, m10, m11⟩ : TMod)).way ⟨s0, s1, s2⟩ ⟨p0, p1, p2⟩ n) ⟨s0, s1, s2⟩ = x5 := h5
 have h6 : dotW (((⟨m0, m1, m2, m3, m4, m5, m6, m7, m8, m9, m10, m11⟩ : TMod)).way ⟨s0, s1, s2⟩ ⟨p0, p1, p2⟩ n) (((⟨m0, m1, m2, m3, m4, m5, m6, m7, m8, m9, m10, m11⟩ : TMod)).way ⟨s0, s1, s2⟩ ⟨p0, p1, p2⟩ n) = x6 := h6
 rw [dotW_eq hw hs (by decide)] at h5
 rw [dotW_eq hw hw (by decide)] at h6
 have e3 : x3 = ((⟨m0, m1, m2, m3, m4, m5, m6, m7, m8, m9, m10, m11⟩ : TMod)).slow := by rw [← h3, ← h2]; exact ks
 subst h1 h5 h6 e3
 rw [wi (by omega)] at h4
 subst h4
 rw [← h11, wi (n := _ * _) (by omega), wi (n := _ * _) (by omega)]
 unfold TMod.reached reachB
 generalize ((⟨m0, m1, m2, m3, m4, m5, m6, m7, m8, m9, m10, m11⟩ : TMod)).way ⟨s0, s1, s2⟩ ⟨p0, p1, p2⟩ n = V
 generalize V.dot V = c
 generalize V.dot (⟨s0, s1, s2⟩ : V3) = b
 generalize (⟨s0, s1, s2⟩ : V3).dot (⟨s0, s1, s2⟩ : V3) - ((⟨m0, m1, m2, m3, m4, m5, m6, m7, m8, m9, m10, m11⟩ : TMod)).slow = a
 have e : ∀ x y z : Bool, (bif x then true else (bif y then z else false)) = (x || (y && z)) := by decide
 rw [e]
 congr 1
def con_ref05_Reached : Con := fun args => match args with
 | [.t (.a [.v (.int .i64 m0), .v (.int .i64 m1), .v (.int .i64 m2), .v (.int .i64 m3), .v (.int .i64 m4), .v (.int .i64 m5), .v (.int .i64 m6), .v (.int .i64 m7), .v (.int .i64 m8), .v (.int .i64 m9), .v (.int .i64 m10), .v (.int .i64 m11)]), .t (.a [.v (.int .i64 s0), .v (.int .i64 s1), .v (.int .i64 s2)]), .t (.a [.v (.int .i64 p0), .v (.int .i64 p1), .v (.int .i64 p2)]), .t (.c (.v (.int .i64 n)))] => some (.t (.c (.v (.bool (((⟨m0, m1, m2, m3, m4, m5, m6, m7, m8, m9, m10, m11⟩ : TMod)).reached (⟨s0, s1, s2⟩ : V3) (⟨p0, p1, p2⟩ : V3) n)))), some (((⟨m0, m1, m2, m3, m4, m5, m6, m7, m8, m9, m10, m11⟩ : TMod)).Ok ∧ ((⟨s0, s1, s2⟩ : V3) : V3).inS 20 = true ∧ ((⟨m0, m1, m2, m3, m4, m5, m6, m7, m8, m9, m10, m11⟩ : TMod)).permit (⟨s0, s1, s2⟩ : V3) ∧ ((⟨p0, p1, p2⟩ : V3) : V3).inS 1000 = true ∧ -1000101 ≤ n ∧ n ≤ 1000100), false)
 | _ => none
theorem ok_ref05_Reached : Ok Try.prog 85 con_ref05_Reached := by
 refine Ok.fn (ann := ann_ref05_Reached) mixed tabOK VSkf75 VIkv51 (fn := Try.f85) (by kernel_rfl) (by kernel_rfl) fit_ref05_Reached fun args r pre fresh h hp => ?_
 unfold con_ref05_Reached at h
 split at h
 ·rename_i m0 m1 m2 m3 m4 m5 m6 m7 m8 m9 m10 m11 s0 s1 s2 p0 p1 p2 n
  cases h
  refine ⟨rfl, fun _ _ _ => False, _, LeA.refl _, Nat.le_of_ble_eq_true (by kernel_rfl), ?_, ?_⟩
  ·rw [ev_ref05_Reached]; exact spec_ref05_Reached m0 m1 m2 m3 m4 m5 m6 m7 m8 m9 m10 m11 s0 s1 s2 p0 p1 p2 n hp
  ·rw [lp_ref05_Reached]; trivial
 ·cases h
def Skf76 : Sum := addS Skf75 85 con_ref05_Reached
theorem VSkf76 : Valid Try.prog Skf76 := Valid.add VSkf75 ok_ref05_Reached
def mk_ref05_Penalties_0 (m0 m1 m2 m3 m4 m5 m6 m7 m8 m9 m10 m11 : Int) (s0 s1 s2 : Int) (l : List THit) (v0_0 : List Int) (v0_1 : Int) : DS := ⟨[none, none, some (.t (.c (.sl 5 l.length (hitsC l)))), some (.t (.c (.p 3 0))), some (.t (.c (.p 4 0))), none, none, some (.t (.c (.os 7))), some (.t (.c (.v (.int .i64 v0_1)))), none, none, none, none, none, none, none, none, none, none, none, none, none, none, none, none, none, none, none, none, none, none, none, none, none, none, none, none, none, none, none, none, none, none, none, none, none, none, none, none, none, none, none, none, none, none, none, none, none, none, none, none, none, none, none, none, none, none, none, none, none, none], [none, none, none, some (.box 26 [.v (.int .i64 m0), .v (.int .i64 m1), .v (.int .i64 m2), .v (.int .i64 m3), .v (.int .i64 m4), .v (.int .i64 m5), .v (.int .i64 m6), .v (.int .i64 m7), .v (.int .i64 m8), .v (.int .i64 m9), .v (.int .i64 m10), .v (.int .i64 m11)]), some (.box 22 [.v (.int .i64 s0), .v (.int .i64 s1), .v (.int .i64 s2)]), none, none, some (.num 3 .i64 v0_0), none, none, none, none, none, none, none, none, none, none, none, none, none, none, none, none, none, none, none, none, none, none, none, none, none, none, none, none, none, none, none, none, none, none, none, none, none, none, none, none, none, none, none, none, none, none, none, none, none, none, none, none, none, none, none, none, none, none, none, none, none, none, none]⟩
def vc_ref05_Penalties (J : Inv) (m0 m1 m2 m3 m4 m5 m6 m7 m8 m9 m10 m11 : Int) (s0 s1 s2 : Int) (l : List THit) (post : DV → Prop) : Prop := ∃ n, J 0 (n :: []) (mk_ref05_Penalties_0 m0 m1 m2 m3 m4 m5 m6 m7 m8 m9 m10 m11 s0 s1 s2 l ([]) 0)
def ann_ref05_Penalties : Ann := ⟨fun r => lookA r [(6, ([[], [], [], [], [2, 3], [2, 3, 4], [2, 3, 4, 5], [], [], [7, 8], [7, 8, 9], [7, 8, 9, 10], [], [12], [7, 8, 9, 10, 11, 12, 13], [0, 1, 2, 3, 4, 5, 6, 7, 8, 9, 10, 11, 12, 13, 14], [0, 1, 2, 3, 4, 5, 6, 7, 8, 9, 10, 11, 12, 13, 14, 15]], [[31], [31], [31], [31], [31], [31], [31], [31], [31], [31], [31], [31], [31], [31], [31], [], []])), (7, ([[], [], [0, 1], [0, 1, 2], [0, 1, 2, 3], [], [5], [0, 1, 2, 3, 4, 5, 6], [0, 1, 2, 3, 4, 5, 6, 7]], [[], [], [], [], [], [], [], [], []])), (8, ([[], [], [], [], [2, 3], [2, 3, 4], [2, 3, 4, 5], [], [], [7, 8], [7, 8, 9], [7, 8, 9, 10], [], [12], [7, 8, 9, 10, 11, 12, 13], [7, 8, 9, 10, 11, 12, 13, 14], [0, 1, 2, 3, 4, 5, 6, 7, 8, 9, 10, 11, 12, 13, 14, 15]], [[57], [57], [57], [57], [57], [57], [57], [57], [57], [57], [57], [57], [57], [57], [57], [57], []])), (9, ([[], [], [0, 1], [0, 1, 2], [0, 1, 2, 3], [], [5], [0, 1, 2, 3, 4, 5, 6], [0, 1, 2, 3, 4, 5, 6, 7]], [[], [], [], [], [], [], [], [], []]))], fun b => lookA b [(0, (none, some ⟨[2, 3, 4, 8], [3, 4], [(7, .num 3 .i64 ([]))]⟩))], fun _ => [], Ikv51, true, fun _ => none, fun _ => none⟩
theorem ev_ref05_Penalties (J : Inv) (m0 m1 m2 m3 m4 m5 m6 m7 m8 m9 m10 m11 : Int) (s0 s1 s2 : Int) (l : List THit) (post : DV → Prop) : evFn Try.prog tab Skf76 ann_ref05_Penalties J Try.f72 [.t (.a [.v (.int .i64 m0), .v (.int .i64 m1), .v (.int .i64 m2), .v (.int .i64 m3), .v (.int .i64 m4), .v (.int .i64 m5), .v (.int .i64 m6), .v (.int .i64 m7), .v (.int .i64 m8), .v (.int .i64 m9), .v (.int .i64 m10), .v (.int .i64 m11)]), .t (.a [.v (.int .i64 s0), .v (.int .i64 s1), .v (.int .i64 s2)]), .t (.c (.sl 5 l.length (hitsC l)))] post = vc_ref05_Penalties J m0 m1 m2 m3 m4 m5 m6 m7 m8 m9 m10 m11 s0 s1 s2 l post := by kernel_rfl
theorem fit_ref05_Penalties : okFn ann_ref05_Penalties Try.f72 = true := by kernel_rfl
def rd_ref05_Penalties_0 (J : Inv) (m0 m1 m2 m3 m4 m5 m6 m7 m8 m9 m10 m11 : Int) (s0 s1 s2 : Int) (l : List THit) (v0_0 : List Int) (v0_1 : Int) (nn0 : Nat) (post : DV → Prop) : Prop := cond (decide (v0_1 < ((l.length : Nat) : Int))) ((0 ≤ v0_1 ∧ v0_1 < ((l.length : Nat) : Int)) ∧ ((0 ≤ v0_1 ∧ v0_1 < ((l.length : Nat) : Int)) ∧ (lt (IntKind.i64.wrap (((hitAt l v0_1.toNat).t) + m8)) fun x1 => (((⟨m0, m1, m2, m3, m4, m5, m6, m7, m8, m9, m10, m11⟩ : TMod)).Ok ∧ ((⟨s0, s1, s2⟩ : V3) : V3).inS 20 = true ∧ ((⟨m0, m1, m2, m3, m4, m5, m6, m7, m8, m9, m10, m11⟩ : TMod)).permit (⟨s0, s1, s2⟩ : V3) ∧ ((hitAt l v0_1.toNat).p : V3).inS 1000 = true ∧ -1000101 ≤ x1 ∧ x1 ≤ 1000100) ∧ (cond (!(((⟨m0, m1, m2, m3, m4, m5, m6, m7, m8, m9, m10, m11⟩ : TMod)).reached (⟨s0, s1, s2⟩ : V3) (hitAt l v0_1.toNat).p x1)) ((0 ≤ v0_1 ∧ v0_1 < ((l.length : Nat) : Int)) ∧ (lt (IntKind.i64.wrap (((hitAt l v0_1.toNat).w) * m11)) fun x2 => ((IntKind.i64 = IntKind.i64 ∧ True) ∧ roomP 8 (v0_0.length + ([x2] : List Int).length)) ∧ (lt (IntKind.i64.wrap (v0_1 + (1 : Int))) fun x3 => J 0 (nn0 :: []) (mk_ref05_Penalties_0 m0 m1 m2 m3 m4 m5 m6 m7 m8 m9 m10 m11 s0 s1 s2 l (v0_0 ++ ([x2])) x3)))) ((0 ≤ v0_1 ∧ v0_1 < ((l.length : Nat) : Int)) ∧ ((0 ≤ v0_1 ∧ v0_1 < ((l.length : Nat) : Int)) ∧ (lt (IntKind.i64.wrap (((hitAt l v0_1.toNat).t) - m9)) fun x4 => lt (IntKind.i64.wrap (x4 - (1 : Int))) fun x5 => (((⟨m0, m1, m2, m3, m4, m5, m6, m7, m8, m9, m10, m11⟩ : TMod)).Ok ∧ ((⟨s0, s1, s2⟩ : V3) : V3).inS 20 = true ∧ ((⟨m0, m1, m2, m3, m4, m5, m6, m7, m8, m9, m10, m11⟩ : TMod)).permit (⟨s0, s1, s2⟩ : V3) ∧ ((hitAt l v0_1.toNat).p : V3).inS 1000 = true ∧ -1000101 ≤ x5 ∧ x5 ≤ 1000100) ∧ (cond (((⟨m0, m1, m2, m3, m4, m5, m6, m7, m8, m9, m10, m11⟩ : TMod)).reached (⟨s0, s1, s2⟩ : V3) (hitAt l v0_1.toNat).p x5) ((0 ≤ v0_1 ∧ v0_1 < ((l.length : Nat) : Int)) ∧ (lt (IntKind.i64.wrap (((hitAt l v0_1.toNat).w) * m10)) fun x6 => ((IntKind.i64 = IntKind.i64 ∧ True) ∧ roomP 8 (v0_0.length + ([x6] : List Int).length)) ∧ (lt (IntKind.i64.wrap (v0_1 + (1 : Int))) fun x7 => J 0 (nn0 :: []) (mk_ref05_Penalties_0 m0 m1 m2 m3 m4 m5 m6 m7 m8 m9 m10 m11 s0 s1 s2 l (v0_0 ++ ([x6])) x7)))) (((IntKind.i64 = IntKind.i64 ∧ True) ∧ roomP 8 (v0_0.length + ([(0 : Int)] : List Int).length)) ∧ (lt (IntKind.i64.wrap (v0_1 + (1 : Int))) fun x8 => J 0 (nn0 :: []) (mk_ref05_Penalties_0 m0 m1 m2 m3 m4 m5 m6 m7 m8 m9 m10 m11 s0 s1 s2 l (v0_0 ++ ([(0 : Int)])) x8))))))))))) (post (.t (.c (.sl 1 v0_0.length (numsC .i64 v0_0)))))
theorem er_ref05_Penalties_0 (J : Inv) (m0 m1 m2 m3 m4 m5 m6 m7 m8 m9 m10 m11 : Int) (s0 s1 s2 : Int) (l : List THit) (v0_0 : List Int) (v0_1 : Int) (nn0 : Nat) (post : DV → Prop) : round Try.prog tab Skf76 ann_ref05_Penalties J Try.f72 post 0 (nn0 :: []) (mk_ref05_Penalties_0 m0 m1 m2 m3 m4 m5 m6 m7 m8 m9 m10 m11 s0 s1 s2 l v0_0 v0_1) = rd_ref05_Penalties_0 J m0 m1 m2 m3 m4 m5 m6 m7 m8 m9 m10 m11 s0 s1 s2 l v0_0 v0_1 nn0 post := by kernel_rfl
theorem lp_ref05_Penalties (J : Inv) (post : DV → Prop) : AllG J (loopsFn Try.prog tab Skf76 ann_ref05_Penalties J Try.f72 post) = (((∀ F s, ¬ J 0 (0 :: F) s) ∧ ∀ n F s, J 0 ((n + 1) :: F) s → round Try.prog tab Skf76 ann_ref05_Penalties J Try.f72 post 0 (n :: F) s) ∧ True) := by kernel_rfl
def J_ref05_Penalties (m0 m1 m2 m3 m4 m5 m6 m7 m8 m9 m10 m11 : Int) (s0 s1 s2 : Int) (l : List THit) : Inv := fun b F s => match b, F with
 | 0, [nn0] => ∃ (v0_0 : List Int) (v0_1 : Int), s = mk_ref05_Penalties_0 m0 m1 m2 m3 m4 m5 m6 m7 m8 m9 m10 m11 s0 s1 s2 l v0_0 v0_1 ∧ (0 ≤ v0_1 ∧ v0_1 ≤ l.length ∧ (nn0 : Int) + v0_1 = l.length + 1 ∧ v0_0 = ((⟨m0, m1, m2, m3, m4, m5, m6, m7, m8, m9, m10, m11⟩ : TMod)).pens ⟨s0, s1, s2⟩ (l.take v0_1.toNat))
 | _, _ => False
theorem rnd_ref05_Penalties_0 (m0 m1 m2 m3 m4 m5 m6 m7 m8 m9 m10 m11 : Int) (s0 s1 s2 : Int) (l : List THit) (v0_0 : List Int) (v0_1 : Int) (nn0 : Nat) (hp : (l).length ≤ 12 ∧ (∀ i, i < (l).length → (hitAt l i).Ok) ∧ ((⟨m0, m1, m2, m3, m4, m5, m6, m7, m8, m9, m10, m11⟩ : TMod)).Ok ∧ ((⟨s0, s1, s2⟩ : V3)).inS 20 = true ∧ ((⟨m0, m1, m2, m3, m4, m5, m6, m7, m8, m9, m10, m11⟩ : TMod)).permit (⟨s0, s1, s2⟩ : V3)) (hi : 0 ≤ v0_1 ∧ v0_1 ≤ l.length ∧ ((nn0 + 1) : Int) + v0_1 = l.length + 1 ∧ v0_0 = ((⟨m0, m1, m2, m3, m4, m5, m6, m7, m8, m9, m10, m11⟩ : TMod)).pens ⟨s0, s1, s2⟩ (l.take v0_1.toNat)) : rd_ref05_Penalties_0 (J_ref05_Penalties m0 m1 m2 m3 m4 m5 m6 m7 m8 m9 m10 m11 s0 s1 s2 l) m0 m1 m2 m3 m4 m5 m6 m7 m8 m9 m10 m11 s0 s1 s2 l v0_0 v0_1 nn0 (fun r => LeD r (.t (.c (.sl 1 ((((⟨m0, m1, m2, m3, m4, m5, m6, m7, m8, m9, m10, m11⟩ : TMod)).pens (⟨s0, s1, s2⟩ : V3) l).length) (intsC (((⟨m0, m1, m2, m3, m4, m5, m6, m7, m8, m9, m10, m11⟩ : TMod)).pens (⟨s0, s1, s2⟩ : V3) l)))))) := by
 obtain ⟨i1, i2, i3, i4⟩ := hi
 obtain ⟨hn, hok, ho, hs, hpm⟩ := hp
 obtain ⟨k, rfl⟩ : ∃ k : Nat, v0_1 = k := ⟨v0_1.toNat, by omega⟩
 have hk : (k : Int).toNat = k := rfl
 rw [hk] at i4
 have hl : v0_0.length ≤ k := by rw [i4, pens_len, List.length_take]; omega
 unfold rd_ref05_Penalties_0
 rw [hk]
 refine cond_i (fun h => ?_) (fun h => ?_)
 ·have hlt : k < l.length := by have := of_decide_eq_true h; omega
  have hh := hok k hlt
  have b1 := hh.t; have b2 := ho.ea; have b3 := ho.la; have b4 := hh.w; have b5 := ho.mi; have b6 := ho.no
  simp only at b2 b3 b5 b6
  have k1 := mul_rg (x := (hitAt l k).w) (y := m11) (A := 100) (B := 100) (C := 10000) (by omega) (by omega) (by decide)
  have k2 := mul_rg (x := (hitAt l k).w) (y := m10) (A := 100) (B := 100) (C := 10000) (by omega) (by omega) (by decide)
  have hP : ((⟨m0, m1, m2, m3, m4, m5, m6, m7, m8, m9, m10, m11⟩ : TMod)).pen ⟨s0, s1, s2⟩ (hitAt l k) = if ((⟨m0, m1, m2, m3, m4, m5, m6, m7, m8, m9, m10, m11⟩ : TMod)).reached ⟨s0, s1, s2⟩ (hitAt l k).p ((hitAt l k).t + m8) = false then (hitAt l k).w * m11 else if ((⟨m0, m1, m2, m3, m4, m5, m6, m7, m8, m9, m10, m11⟩ : TMod)).reached ⟨s0, s1, s2⟩ (hitAt l k).p ((hitAt l k).t - m9 - 1) = true then (hitAt l k).w * m10 else 0 := rfl
  have fin : ∀ v x, ((⟨m0, m1, m2, m3, m4, m5, m6, m7, m8, m9, m10, m11⟩ : TMod)).pen ⟨s0, s1, s2⟩ (hitAt l k) = v → IntKind.i64.wrap ((k : Int) + 1) = x → J_ref05_Penalties m0 m1 m2 m3 m4 m5 m6 m7 m8 m9 m10 m11 s0 s1 s2 l 0 [nn0] (mk_ref05_Penalties_0 m0 m1 m2 m3 m4 m5 m6 m7 m8 m9 m10 m11 s0 s1 s2 l (v0_0 ++ [v]) x) := by
   intro v x hv hx
   rw [wi (by omega)] at hx
   subst hx
   refine ⟨_, _, rfl, by omega, by omega, by omega, ?_⟩
   rw [show ((k : Int) + 1).toNat = k + 1 by omega, pens_take hlt, i4, hv]
  refine ⟨by omega, by omega, lt_i fun x1 h1 => ?_⟩
  rw [wi (by omega)] at h1
  subst h1
  refine ⟨⟨ho, hs, hpm, hh.p, by omega, by omega⟩, cond_i (fun e => ⟨by omega, lt_i fun x2 h2 => ⟨⟨⟨rfl, trivial⟩, by simp [roomP, maxLen]; omega⟩, lt_i fun x3 h3 => fin x2 x3 ?_ h3⟩⟩) (fun e => ⟨by omega, by omega, lt_i fun x4 h4 => lt_i fun x5 h5 => ?_⟩)⟩
  ·rw [wi (by omega)] at h2
   rw [hP, if_pos (by simpa using e), h2]
  ·rw [wi (by omega)] at h4
   subst h4
   rw [wi (by omega)] at h5
   subst h5
   refine ⟨⟨ho, hs, hpm, hh.p, by omega, by omega⟩, cond_i (fun g => ⟨by omega, lt_i fun x6 h6 => ⟨⟨⟨rfl, trivial⟩, by simp [roomP, maxLen]; omega⟩, lt_i fun x7 h7 => fin x6 x7 ?_ h7⟩⟩) (fun g => ⟨⟨⟨rfl, trivial⟩, by simp [roomP, maxLen]; omega⟩, lt_i fun x8 h8 => fin 0 x8 ?_ h8⟩)⟩
   ·rw [wi (by omega)] at h6
    rw [hP, if_neg (by simpa using e), if_pos g, h6]
   ·rw [hP, if_neg (by simpa using e), if_neg (by rw [g]; simp)]
 ·have hkl : k = l.length := by have := of_decide_eq_false h; omega
  rw [hkl, List.take_length] at i4
  rw [i4]
  exact le_num _
theorem zero_ref05_Penalties_0 (m0 m1 m2 m3 m4 m5 m6 m7 m8 m9 m10 m11 : Int) (s0 s1 s2 : Int) (l : List THit) (v0_0 : List Int) (v0_1 : Int)  (hi : 0 ≤ v0_1 ∧ v0_1 ≤ l.length ∧ (0 : Int) + v0_1 = l.length + 1 ∧ v0_0 = ((⟨m0, m1, m2, m3, m4, m5, m6, m7, m8, m9, m10, m11⟩ : TMod)).pens ⟨s0, s1, s2⟩ (l.take v0_1.toNat)) : False := by
 omega
theorem spec_ref05_Penalties (m0 m1 m2 m3 m4 m5 m6 m7 m8 m9 m10 m11 : Int) (s0 s1 s2 : Int) (l : List THit) (hp : (l).length ≤ 12 ∧ (∀ i, i < (l).length → (hitAt l i).Ok) ∧ ((⟨m0, m1, m2, m3, m4, m5, m6, m7, m8, m9, m10, m11⟩ : TMod)).Ok ∧ ((⟨s0, s1, s2⟩ : V3)).inS 20 = true ∧ ((⟨m0, m1, m2, m3, m4, m5, m6, m7, m8, m9, m10, m11⟩ : TMod)).permit (⟨s0, s1, s2⟩ : V3)) : vc_ref05_Penalties (J_ref05_Penalties m0 m1 m2 m3 m4 m5 m6 m7 m8 m9 m10 m11 s0 s1 s2 l) m0 m1 m2 m3 m4 m5 m6 m7 m8 m9 m10 m11 s0 s1 s2 l (fun r => LeD r (.t (.c (.sl 1 ((((⟨m0, m1, m2, m3, m4, m5, m6, m7, m8, m9, m10, m11⟩ : TMod)).pens (⟨s0, s1, s2⟩ : V3) l).length) (intsC (((⟨m0, m1, m2, m3, m4, m5, m6, m7, m8, m9, m10, m11⟩ : TMod)).pens (⟨s0, s1, s2⟩ : V3) l)))))) := by
 unfold vc_ref05_Penalties
 exact ⟨l.length + 1, [], 0, rfl, by omega, by omega, by omega, rfl⟩
theorem all_ref05_Penalties (m0 m1 m2 m3 m4 m5 m6 m7 m8 m9 m10 m11 : Int) (s0 s1 s2 : Int) (l : List THit) (hp : (l).length ≤ 12 ∧ (∀ i, i < (l).length → (hitAt l i).Ok) ∧ ((⟨m0, m1, m2, m3, m4, m5, m6, m7, m8, m9, m10, m11⟩ : TMod)).Ok ∧ ((⟨s0, s1, s2⟩ : V3)).inS 20 = true ∧ ((⟨m0, m1, m2, m3, m4, m5, m6, m7, m8, m9, m10, m11⟩ : TMod)).permit (⟨s0, s1, s2⟩ : V3)) : AllG (J_ref05_Penalties m0 m1 m2 m3 m4 m5 m6 m7 m8 m9 m10 m11 s0 s1 s2 l) (loopsFn Try.prog tab Skf76 ann_ref05_Penalties (J_ref05_Penalties m0 m1 m2 m3 m4 m5 m6 m7 m8 m9 m10 m11 s0 s1 s2 l) Try.f72 (fun r => LeD r (.t (.c (.sl 1 ((((⟨m0, m1, m2, m3, m4, m5, m6, m7, m8, m9, m10, m11⟩ : TMod)).pens (⟨s0, s1, s2⟩ : V3) l).length) (intsC (((⟨m0, m1, m2, m3, m4, m5, m6, m7, m8, m9, m10, m11⟩ : TMod)).pens (⟨s0, s1, s2⟩ : V3) l))))))) := by
 rw [lp_ref05_Penalties]
 refine ⟨⟨?_, ?_⟩, trivial⟩
 ·intro F s h
  obtain _ | ⟨g, F⟩ := F
  case cons => exact h.elim
  obtain ⟨w0, w1, rfl, hi⟩ := h
  exact zero_ref05_Penalties_0 m0 m1 m2 m3 m4 m5 m6 m7 m8 m9 m10 m11 s0 s1 s2 l w0 w1 hi
 ·intro n F s h
  obtain _ | ⟨g, F⟩ := F
  case cons => exact h.elim
  obtain ⟨w0, w1, rfl, hi⟩ := h
  rw [er_ref05_Penalties_0]
  exact rnd_ref05_Penalties_0 m0 m1 m2 m3 m4 m5 m6 m7 m8 m9 m10 m11 s0 s1 s2 l _ _ _ hp hi
def con_ref05_Penalties : Con := fun args => match args with
 | [.t (.a [.v (.int .i64 m0), .v (.int .i64 m1), .v (.int .i64 m2), .v (.int .i64 m3), .v (.int .i64 m4), .v (.int .i64 m5), .v (.int .i64 m6), .v (.int .i64 m7), .v (.int .i64 m8), .v (.int .i64 m9), .v (.int .i64 m10), .v (.int .i64 m11)]), .t (.a [.v (.int .i64 s0), .v (.int .i64 s1), .v (.int .i64 s2)]), .t (.c (.sl 5 n_l c_l))] => some (.t (.c (.sl 1 ((((⟨m0, m1, m2, m3, m4, m5, m6, m7, m8, m9, m10, m11⟩ : TMod)).pens (⟨s0, s1, s2⟩ : V3) (listC n_l mkHit c_l)).length) (intsC (((⟨m0, m1, m2, m3, m4, m5, m6, m7, m8, m9, m10, m11⟩ : TMod)).pens (⟨s0, s1, s2⟩ : V3) (listC n_l mkHit c_l))))), some (numsP 5 n_l c_l ∧ ((listC n_l mkHit c_l)).length ≤ 12 ∧ (∀ i, i < ((listC n_l mkHit c_l)).length → (hitAt (listC n_l mkHit c_l) i).Ok) ∧ ((⟨m0, m1, m2, m3, m4, m5, m6, m7, m8, m9, m10, m11⟩ : TMod)).Ok ∧ ((⟨s0, s1, s2⟩ : V3)).inS 20 = true ∧ ((⟨m0, m1, m2, m3, m4, m5, m6, m7, m8, m9, m10, m11⟩ : TMod)).permit (⟨s0, s1, s2⟩ : V3)), true)
 | _ => none
theorem ok_ref05_Penalties : Ok Try.prog 72 con_ref05_Penalties := by
 refine Ok.fnFr (ann := ann_ref05_Penalties) mixed tabOK VSkf76 VIkv51 rfl (fn := Try.f72) (by kernel_rfl) (by kernel_rfl) fit_ref05_Penalties fun args r pre fresh h hp => ?_
 unfold con_ref05_Penalties at h
 split at h
 ·rename_i m0 m1 m2 m3 m4 m5 m6 m7 m8 m9 m10 m11 s0 s1 s2 n_l c_l
  cases h
  obtain ⟨hp0, hp⟩ := hp
  refine ⟨rfl, (fun i j _ hj => plain_int _ i j), J_ref05_Penalties m0 m1 m2 m3 m4 m5 m6 m7 m8 m9 m10 m11 s0 s1 s2 (listC n_l mkHit c_l), [.t (.a [.v (.int .i64 m0), .v (.int .i64 m1), .v (.int .i64 m2), .v (.int .i64 m3), .v (.int .i64 m4), .v (.int .i64 m5), .v (.int .i64 m6), .v (.int .i64 m7), .v (.int .i64 m8), .v (.int .i64 m9), .v (.int .i64 m10), .v (.int .i64 m11)]), .t (.a [.v (.int .i64 s0), .v (.int .i64 s1), .v (.int .i64 s2)]), .t (.c (.sl 5 ((listC n_l mkHit c_l).length) (hitsC (listC n_l mkHit c_l))))], ?_, Nat.le_of_ble_eq_true (by kernel_rfl), ?_, ?_⟩
  ·exact (LeA_cons (LeD.refl _) (LeA_cons (LeD.refl _) (LeA_cons (leT_c ((leL_THit hp0))) LeA_nil)))
  ·rw [ev_ref05_Penalties]; exact spec_ref05_Penalties m0 m1 m2 m3 m4 m5 m6 m7 m8 m9 m10 m11 s0 s1 s2 (listC n_l mkHit c_l) hp
  ·exact all_ref05_Penalties m0 m1 m2 m3 m4 m5 m6 m7 m8 m9 m10 m11 s0 s1 s2 (listC n_l mkHit c_l) hp
 ·cases h
def Skf77 : Sum := addS Skf76 72 con_ref05_Penalties
theorem VSkf77 : Valid Try.prog Skf77 := Valid.add VSkf76 ok_ref05_Penalties
def mk_ref05_Score_0 (m0 m1 m2 m3 m4 m5 m6 m7 m8 m9 m10 m11 : Int) (s0 s1 s2 : Int) (l : List THit) (v0_0 : Int) (v0_1 : Int) : DS := ⟨[none, none, none, none, none, none, none, some (.t (.c (.v (.int .i64 v0_0)))), some (.t (.c (.sl 1 ((((⟨m0, m1, m2, m3, m4, m5, m6, m7, m8, m9, m10, m11⟩ : TMod)).pens (⟨s0, s1, s2⟩ : V3) (listC l.length mkHit (hitsC l))).length) (intsC (((⟨m0, m1, m2, m3, m4, m5, m6, m7, m8, m9, m10, m11⟩ : TMod)).pens (⟨s0, s1, s2⟩ : V3) (listC l.length mkHit (hitsC l))))))), some (.t (.c (.v (.int .i64 v0_1)))), none, none, none, none, none, none, none, none, none, none, none, none, none, none, none, none, none], [none, none, none, none, none, none, none, none, none, none, none, none, none, none, none, none, none, none, none, none, none, none, none, none, none, none, none]⟩
def vc_ref05_Score (J : Inv) (m0 m1 m2 m3 m4 m5 m6 m7 m8 m9 m10 m11 : Int) (s0 s1 s2 : Int) (l : List THit) (post : DV → Prop) : Prop := (numsP 5 l.length (hitsC l) ∧ ((listC l.length mkHit (hitsC l))).length ≤ 12 ∧ (∀ i, i < ((listC l.length mkHit (hitsC l))).length → (hitAt (listC l.length mkHit (hitsC l)) i).Ok) ∧ ((⟨m0, m1, m2, m3, m4, m5, m6, m7, m8, m9, m10, m11⟩ : TMod)).Ok ∧ ((⟨s0, s1, s2⟩ : V3)).inS 20 = true ∧ ((⟨m0, m1, m2, m3, m4, m5, m6, m7, m8, m9, m10, m11⟩ : TMod)).permit (⟨s0, s1, s2⟩ : V3)) ∧ (∃ n, J 0 (n :: []) (mk_ref05_Score_0 m0 m1 m2 m3 m4 m5 m6 m7 m8 m9 m10 m11 s0 s1 s2 l 0 0))
def ann_ref05_Score : Ann := ⟨fun _ => none, fun b => lookA b [(0, (none, some ⟨[7, 8, 9], [], []⟩))], fun _ => [], Ikv51, false, fun _ => none, fun _ => none⟩
theorem ev_ref05_Score (J : Inv) (m0 m1 m2 m3 m4 m5 m6 m7 m8 m9 m10 m11 : Int) (s0 s1 s2 : Int) (l : List THit) (post : DV → Prop) : evFn Try.prog tab Skf77 ann_ref05_Score J Try.f42 [.t (.a [.v (.int .i64 m0), .v (.int .i64 m1), .v (.int .i64 m2), .v (.int .i64 m3), .v (.int .i64 m4), .v (.int .i64 m5), .v (.int .i64 m6), .v (.int .i64 m7), .v (.int .i64 m8), .v (.int .i64 m9), .v (.int .i64 m10), .v (.int .i64 m11)]), .t (.a [.v (.int .i64 s0), .v (.int .i64 s1), .v (.int .i64 s2)]), .t (.c (.sl 5 l.length (hitsC l)))] post = vc_ref05_Score J m0 m1 m2 m3 m4 m5 m6 m7 m8 m9 m10 m11 s0 s1 s2 l post := by kernel_rfl
theorem fit_ref05_Score : okFn ann_ref05_Score Try.f42 = true := by kernel_rfl
def rd_ref05_Score_0 (J : Inv) (m0 m1 m2 m3 m4 m5 m6 m7 m8 m9 m10 m11 : Int) (s0 s1 s2 : Int) (l : List THit) (v0_0 : Int) (v0_1 : Int) (nn0 : Nat) (post : DV → Prop) : Prop := cond (decide (v0_1 < (((((⟨m0, m1, m2, m3, m4, m5, m6, m7, m8, m9, m10, m11⟩ : TMod)).pens (⟨s0, s1, s2⟩ : V3) (listC l.length mkHit (hitsC l))).length : Nat) : Int))) ((0 ≤ v0_1 ∧ v0_1 < (((((⟨m0, m1, m2, m3, m4, m5, m6, m7, m8, m9, m10, m11⟩ : TMod)).pens (⟨s0, s1, s2⟩ : V3) (listC l.length mkHit (hitsC l))).length : Nat) : Int)) ∧ (lt (IntKind.i64.wrap (v0_0 + ((((⟨m0, m1, m2, m3, m4, m5, m6, m7, m8, m9, m10, m11⟩ : TMod)).pens (⟨s0, s1, s2⟩ : V3) (listC l.length mkHit (hitsC l))).getD v0_1.toNat 0))) fun x1 => lt (IntKind.i64.wrap (v0_1 + (1 : Int))) fun x2 => J 0 (nn0 :: []) (mk_ref05_Score_0 m0 m1 m2 m3 m4 m5 m6 m7 m8 m9 m10 m11 s0 s1 s2 l x1 x2))) (post (.t (.c (.v (.int .i64 v0_0)))))
theorem er_ref05_Score_0 (J : Inv) (m0 m1 m2 m3 m4 m5 m6 m7 m8 m9 m10 m11 : Int) (s0 s1 s2 : Int) (l : List THit) (v0_0 : Int) (v0_1 : Int) (nn0 : Nat) (post : DV → Prop) : round Try.prog tab Skf77 ann_ref05_Score J Try.f42 post 0 (nn0 :: []) (mk_ref05_Score_0 m0 m1 m2 m3 m4 m5 m6 m7 m8 m9 m10 m11 s0 s1 s2 l v0_0 v0_1) = rd_ref05_Score_0 J m0 m1 m2 m3 m4 m5 m6 m7 m8 m9 m10 m11 s0 s1 s2 l v0_0 v0_1 nn0 post := by kernel_rfl
theorem lp_ref05_Score (J : Inv) (post : DV → Prop) : AllG J (loopsFn Try.prog tab Skf77 ann_ref05_Score J Try.f42 post) = (((∀ F s, ¬ J 0 (0 :: F) s) ∧ ∀ n F s, J 0 ((n + 1) :: F) s → round Try.prog tab Skf77 ann_ref05_Score J Try.f42 post 0 (n :: F) s) ∧ True) := by kernel_rfl
def J_ref05_Score (m0 m1 m2 m3 m4 m5 m6 m7 m8 m9 m10 m11 : Int) (s0 s1 s2 : Int) (l : List THit) : Inv := fun b F s => match b, F with
 | 0, [nn0] => ∃ (v0_0 : Int) (v0_1 : Int), s = mk_ref05_Score_0 m0 m1 m2 m3 m4 m5 m6 m7 m8 m9 m10 m11 s0 s1 s2 l v0_0 v0_1 ∧ (0 ≤ v0_1 ∧ v0_1 ≤ l.length ∧ (nn0 : Int) + v0_1 = l.length + 1 ∧ v0_0 = ((⟨m0, m1, m2, m3, m4, m5, m6, m7, m8, m9, m10, m11⟩ : TMod)).score ⟨s0, s1, s2⟩ (l.take v0_1.toNat) ∧ -(10000 * v0_1) ≤ v0_0 ∧ v0_0 ≤ 10000 * v0_1)
 | _, _ => False
theorem rnd_ref05_Score_0 (m0 m1 m2 m3 m4 m5 m6 m7 m8 m9 m10 m11 : Int) (s0 s1 s2 : Int) (l : List THit) (v0_0 : Int) (v0_1 : Int) (nn0 : Nat) (hp : (l).length ≤ 12 ∧ (∀ i, i < (l).length → (hitAt l i).Ok) ∧ ((⟨m0, m1, m2, m3, m4, m5, m6, m7, m8, m9, m10, m11⟩ : TMod)).Ok ∧ ((⟨s0, s1, s2⟩ : V3)).inS 20 = true ∧ ((⟨m0, m1, m2, m3, m4, m5, m6, m7, m8, m9, m10, m11⟩ : TMod)).permit (⟨s0, s1, s2⟩ : V3)) (hi : 0 ≤ v0_1 ∧ v0_1 ≤ l.length ∧ ((nn0 + 1) : Int) + v0_1 = l.length + 1 ∧ v0_0 = ((⟨m0, m1, m2, m3, m4, m5, m6, m7, m8, m9, m10, m11⟩ : TMod)).score ⟨s0, s1, s2⟩ (l.take v0_1.toNat) ∧ -(10000 * v0_1) ≤ v0_0 ∧ v0_0 ≤ 10000 * v0_1) : rd_ref05_Score_0 (J_ref05_Score m0 m1 m2 m3 m4 m5 m6 m7 m8 m9 m10 m11 s0 s1 s2 l) m0 m1 m2 m3 m4 m5 m6 m7 m8 m9 m10 m11 s0 s1 s2 l v0_0 v0_1 nn0 (fun r => LeD r (.t (.c (.v (.int .i64 (((⟨m0, m1, m2, m3, m4, m5, m6, m7, m8, m9, m10, m11⟩ : TMod)).score (⟨s0, s1, s2⟩ : V3) l)))))) := by
 obtain ⟨i1, i2, i3, i4, i5, i6⟩ := hi
 obtain ⟨hn, hok, ho, hs, hpm⟩ := hp
 obtain ⟨k, rfl⟩ : ∃ k : Nat, v0_1 = k := ⟨v0_1.toNat, by omega⟩
 have hk : (k : Int).toNat = k := rfl
 rw [hk] at i4
 unfold rd_ref05_Score_0
 simp only [hits_listC]
 rw [hk, pens_len]
 refine cond_i (fun h => ?_) (fun h => leI ?_)
 ·have hlt : k < l.length := by have := of_decide_eq_true h; omega
  have hr := pen_rg (m := (⟨m0, m1, m2, m3, m4, m5, m6, m7, m8, m9, m10, m11⟩ : TMod)) (s := ⟨s0, s1, s2⟩) ho (hok k hlt)
  rw [pens_at hlt]
  refine ⟨by omega, lt_i fun x1 h1 => lt_i fun x2 h2 => ?_⟩
  rw [wi (by omega)] at h1 h2
  subst h1 h2
  refine ⟨_, _, rfl, by omega, by omega, by omega, ?_, by omega, by omega⟩
  rw [show ((k : Int) + 1).toNat = k + 1 by omega, score_take _ _ hlt, i4]
 ·have hkl : k = l.length := by have := of_decide_eq_false h; omega
  rw [i4, hkl, List.take_length]
theorem zero_ref05_Score_0 (m0 m1 m2 m3 m4 m5 m6 m7 m8 m9 m10 m11 : Int) (s0 s1 s2 : Int) (l : List THit) (v0_0 : Int) (v0_1 : Int)  (hi : 0 ≤ v0_1 ∧ v0_1 ≤ l.length ∧ (0 : Int) + v0_1 = l.length + 1 ∧ v0_0 = ((⟨m0, m1, m2, m3, m4, m5, m6, m7, m8, m9, m10, m11⟩ : TMod)).score ⟨s0, s1, s2⟩ (l.take v0_1.toNat) ∧ -(10000 * v0_1) ≤ v0_0 ∧ v0_0 ≤ 10000 * v0_1) : False := by
 omega
theorem spec_ref05_Score (m0 m1 m2 m3 m4 m5 m6 m7 m8 m9 m10 m11 : Int) (s0 s1 s2 : Int) (l : List THit) (hp : (l).length ≤ 12 ∧ (∀ i, i < (l).length → (hitAt l i).Ok) ∧ ((⟨m0, m1, m2, m3, m4, m5, m6, m7, m8, m9, m10, m11⟩ : TMod)).Ok ∧ ((⟨s0, s1, s2⟩ : V3)).inS 20 = true ∧ ((⟨m0, m1, m2, m3, m4, m5, m6, m7, m8, m9, m10, m11⟩ : TMod)).permit (⟨s0, s1, s2⟩ : V3)) : vc_ref05_Score (J_ref05_Score m0 m1 m2 m3 m4 m5 m6 m7 m8 m9 m10 m11 s0 s1 s2 l) m0 m1 m2 m3 m4 m5 m6 m7 m8 m9 m10 m11 s0 s1 s2 l (fun r => LeD r (.t (.c (.v (.int .i64 (((⟨m0, m1, m2, m3, m4, m5, m6, m7, m8, m9, m10, m11⟩ : TMod)).score (⟨s0, s1, s2⟩ : V3) l)))))) := by
 unfold vc_ref05_Score
 simp only [hits_listC]
 exact ⟨⟨numsP_hits l, hp⟩, l.length + 1, 0, 0, rfl, by omega, by omega, by omega, rfl, by omega, by omega⟩
theorem all_ref05_Score (m0 m1 m2 m3 m4 m5 m6 m7 m8 m9 m10 m11 : Int) (s0 s1 s2 : Int) (l : List THit) (hp : (l).length ≤ 12 ∧ (∀ i, i < (l).length → (hitAt l i).Ok) ∧ ((⟨m0, m1, m2, m3, m4, m5, m6, m7, m8, m9, m10, m11⟩ : TMod)).Ok ∧ ((⟨s0, s1, s2⟩ : V3)).inS 20 = true ∧ ((⟨m0, m1, m2, m3, m4, m5, m6, m7, m8, m9, m10, m11⟩ : TMod)).permit (⟨s0, s1, s2⟩ : V3)) : AllG (J_ref05_Score m0 m1 m2 m3 m4 m5 m6 m7 m8 m9 m10 m11 s0 s1 s2 l) (loopsFn Try.prog tab Skf77 ann_ref05_Score (J_ref05_Score m0 m1 m2 m3 m4 m5 m6 m7 m8 m9 m10 m11 s0 s1 s2 l) Try.f42 (fun r => LeD r (.t (.c (.v (.int .i64 (((⟨m0, m1, m2, m3, m4, m5, m6, m7, m8, m9, m10, m11⟩ : TMod)).score (⟨s0, s1, s2⟩ : V3) l))))))) := by
 rw [lp_ref05_Score]
 refine ⟨⟨?_, ?_⟩, trivial⟩
 ·intro F s h
  obtain _ | ⟨g, F⟩ := F
  case cons => exact h.elim
  obtain ⟨w0, w1, rfl, hi⟩ := h
  exact zero_ref05_Score_0 m0 m1 m2 m3 m4 m5 m6 m7 m8 m9 m10 m11 s0 s1 s2 l w0 w1 hi
 ·intro n F s h
  obtain _ | ⟨g, F⟩ := F
  case cons => exact h.elim
  obtain ⟨w0, w1, rfl, hi⟩ := h
  rw [er_ref05_Score_0]
  exact rnd_ref05_Score_0 m0 m1 m2 m3 m4 m5 m6 m7 m8 m9 m10 m11 s0 s1 s2 l _ _ _ hp hi
def con_ref05_Score : Con := fun args => match args with
 | [.t (.a [.v (.int .i64 m0), .v (.int .i64 m1), .v (.int .i64 m2), .v (.int .i64 m3), .v (.int .i64 m4), .v (.int .i64 m5), .v (.int .i64 m6), .v (.int .i64 m7), .v (.int .i64 m8), .v (.int .i64 m9), .v (.int .i64 m10), .v (.int .i64 m11)]), .t (.a [.v (.int .i64 s0), .v (.int .i64 s1), .v (.int .i64 s2)]), .t (.c (.sl 5 n_l c_l))] => some (.t (.c (.v (.int .i64 (((⟨m0, m1, m2, m3, m4, m5, m6, m7, m8, m9, m10, m11⟩ : TMod)).score (⟨s0, s1, s2⟩ : V3) (listC n_l mkHit c_l))))), some (numsP 5 n_l c_l ∧ ((listC n_l mkHit c_l)).length ≤ 12 ∧ (∀ i, i < ((listC n_l mkHit c_l)).length → (hitAt (listC n_l mkHit c_l) i).Ok) ∧ ((⟨m0, m1, m2, m3, m4, m5, m6, m7, m8, m9, m10, m11⟩ : TMod)).Ok ∧ ((⟨s0, s1, s2⟩ : V3)).inS 20 = true ∧ ((⟨m0, m1, m2, m3, m4, m5, m6, m7, m8, m9, m10, m11⟩ : TMod)).permit (⟨s0, s1, s2⟩ : V3)), false)
 | _ => none
theorem ok_ref05_Score : Ok Try.prog 42 con_ref05_Score := by
 refine Ok.fn (ann := ann_ref05_Score) mixed tabOK VSkf77 VIkv51 (fn := Try.f42) (by kernel_rfl) (by kernel_rfl) fit_ref05_Score fun args r pre fresh h hp => ?_
 unfold con_ref05_Score at h
 split at h
 ·rename_i m0 m1 m2 m3 m4 m5 m6 m7 m8 m9 m10 m11 s0 s1 s2 n_l c_l
  cases h
  obtain ⟨hp0, hp⟩ := hp
  refine ⟨rfl, J_ref05_Score m0 m1 m2 m3 m4 m5 m6 m7 m8 m9 m10 m11 s0 s1 s2 (listC n_l mkHit c_l), [.t (.a [.v (.int .i64 m0), .v (.int .i64 m1), .v (.int .i64 m2), .v (.int .i64 m3), .v (.int .i64 m4), .v (.int .i64 m5), .v (.int .i64 m6), .v (.int .i64 m7), .v (.int .i64 m8), .v (.int .i64 m9), .v (.int .i64 m10), .v (.int .i64 m11)]), .t (.a [.v (.int .i64 s0), .v (.int .i64 s1), .v (.int .i64 s2)]), .t (.c (.sl 5 ((listC n_l mkHit c_l).length) (hitsC (listC n_l mkHit c_l))))], ?_, Nat.le_of_ble_eq_true (by kernel_rfl), ?_, ?_⟩
  ·exact (LeA_cons (LeD.refl _) (LeA_cons (LeD.refl _) (LeA_cons (leT_c ((leL_THit hp0))) LeA_nil)))
  ·rw [ev_ref05_Score]; exact spec_ref05_Score m0 m1 m2 m3 m4 m5 m6 m7 m8 m9 m10 m11 s0 s1 s2 (listC n_l mkHit c_l) hp
  ·exact all_ref05_Score m0 m1 m2 m3 m4 m5 m6 m7 m8 m9 m10 m11 s0 s1 s2 (listC n_l mkHit c_l) hp
 ·cases h
def Skf78 : Sum := addS Skf77 42 con_ref05_Score
theorem VSkf78 : Valid Try.prog Skf78 := Valid.add VSkf77 ok_ref05_Score
end Go.Proofs.Ytfadkjcfjkmalaa