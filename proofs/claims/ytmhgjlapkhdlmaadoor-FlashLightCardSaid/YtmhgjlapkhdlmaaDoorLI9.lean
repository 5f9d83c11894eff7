/- Texts of this claim, together. -/
import Derived.Test.YtmhgjlapkhdlmaaDoorLI8
import Derived.Test.YtmhgjlapkhdlmaaDoorLI5

set_option linter.unusedVariables false
set_option linter.unusedSimpArgs false
namespace Go.Proofs.YtmhgjlapkhdlmaaDoor
open Go.RowKit Ev
theorem pow_rg {j : Nat} (h : j ≤ 30) : 1 ≤ (2 : Int) ^ j ∧ (2 : Int) ^ j ≤ 1073741824 := by
 have h1 : 1 ≤ 2 ^ j := Nat.one_le_two_pow
 have h2 : 2 ^ j ≤ 2 ^ 30 := Nat.pow_le_pow_right (by decide) h
 have e : ((2 ^ j : Nat) : Int) = (2 : Int) ^ j := by push_cast; rfl
 omega
theorem FHit.err_eq (h : FHit) : h.err = if posE h.p ≠ 0 then posE h.p else if inB h.t.lo 0 1000000000 = true ∧ inB h.t.hi 0 1000000000 = true ∧ inB h.c.lo 0 1000000 = true ∧ inB h.c.hi 0 1000000 = true then (if h.t.hi < h.t.lo ∨ h.c.hi < h.c.lo then 9 else 0) else 2 := by
 unfold FHit.err rgIn rgE
 by_cases q : posE h.p = 0
 ·rw [if_neg (by rw [q]; simp), q]
  cases inB h.t.lo 0 1000000000 <;> cases inB h.t.hi 0 1000000000 <;> cases inB h.c.lo 0 1000000 <;> cases inB h.c.hi 0 1000000 <;> simp [firstNZ, unl]
  by_cases a : h.t.lo ≤ h.t.hi <;> by_cases b : h.c.lo ≤ h.c.hi <;> simp [a, b] <;> omega
 ·rw [if_pos q]
  simp [firstNZ, q]
def vc_ref06_PositionErr (p0 p1 p2 : Int) (post : DV → Prop) : Prop := cond (!(inB p0 (-10000 : Int) (10000 : Int))) ((true = true) ∧ ((true = true) ∧ (post (.t (.c (.v (.int .i64 2))))))) (cond (!(inB p1 (-10000 : Int) (10000 : Int))) ((true = true) ∧ (post (.t (.c (.v (.int .i64 2)))))) (cond (!(inB p2 (-10000 : Int) (10000 : Int))) (post (.t (.c (.v (.int .i64 2))))) (post (.t (.c (.v (.int .i64 0)))))))
def ann_ref06_PositionErr : Ann := ⟨fun _ => none, fun _ => none, fun _ => [], noIt, false, fun _ => none, fun _ => none⟩
theorem ev_ref06_PositionErr (J : Inv) (p0 p1 p2 : Int) (post : DV → Prop) : evFn Tryd.prog tab S71 ann_ref06_PositionErr J Tryd.f20 [.t (.a [.v (.int .i64 p0), .v (.int .i64 p1), .v (.int .i64 p2)])] post = vc_ref06_PositionErr p0 p1 p2 post := by kernel_rfl
theorem fit_ref06_PositionErr : okFn ann_ref06_PositionErr Tryd.f20 = true := by kernel_rfl
theorem lp_ref06_PositionErr (J : Inv) (post : DV → Prop) : AllG J (loopsFn Tryd.prog tab S71 ann_ref06_PositionErr J Tryd.f20 post) = (True) := by kernel_rfl
theorem spec_ref06_PositionErr (p0 p1 p2 : Int) : vc_ref06_PositionErr p0 p1 p2 (fun r => LeD r (.t (.c (.v (.int .i64 (posE (⟨p0, p1, p2⟩ : P3))))))) := by
 unfold vc_ref06_PositionErr
 unfold posE
 refine cond_i (fun h => ⟨rfl, rfl, leI ?_⟩) (fun h => cond_i (fun h2 => ⟨rfl, leI ?_⟩) (fun h2 => cond_i (fun h3 => leI ?_) (fun h3 => leI ?_)))
 all_goals simp_all [unl]
def con_ref06_PositionErr : Con := fun args => match args with
 | [.t (.a [.v (.int .i64 p0), .v (.int .i64 p1), .v (.int .i64 p2)])] => some (.t (.c (.v (.int .i64 (posE (⟨p0, p1, p2⟩ : P3))))), none, false)
 | _ => none
theorem ok_ref06_PositionErr : Ok Tryd.prog 20 con_ref06_PositionErr := by
 refine Ok.fn (ann := ann_ref06_PositionErr) mixed tabOK VS71 ValidIt.no (fn := Tryd.f20) (by kernel_rfl) (by kernel_rfl) fit_ref06_PositionErr fun args r pre fresh h hp => ?_
 unfold con_ref06_PositionErr at h
 split at h
 ·rename_i p0 p1 p2
  cases h
  refine ⟨rfl, fun _ _ _ => False, _, LeA.refl _, Nat.le_of_ble_eq_true (by kernel_rfl), ?_, ?_⟩
  ·rw [ev_ref06_PositionErr]; exact spec_ref06_PositionErr p0 p1 p2
  ·rw [lp_ref06_PositionErr]; trivial
 ·cases h
def S72 : Sum := addS S71 20 con_ref06_PositionErr
theorem VS72 : Valid Tryd.prog S72 := Valid.add VS71 ok_ref06_PositionErr
def S73 : Sum := S72
theorem VS73 : Valid Tryd.prog S73 := VS72
def mk_base_Root_0 (y : Int) (v0_0 : Int) (v0_1 : Int) : DS := ⟨[some (.t (.c (.v (.int .i64 y)))), none, none, some (.t (.c (.v (.int .i64 v0_0)))), some (.t (.c (.v (.int .i64 v0_1)))), none, none, none, none, none, none, none, none, none, none, none, none, none, none, none, none, none], [none, none, none, none, none, none, none, none, none, none, none, none, none, none, none, none, none, none, none, none, none, none]⟩
def vc_base_Root (J : Inv) (y : Int) (post : DV → Prop) : Prop := ∃ n, J 0 (n :: []) (mk_base_Root_0 y 0 1073741824)
def ann_base_Root : Ann := ⟨fun _ => none, fun b => lookA b [(0, (none, some ⟨[0, 3, 4], [], []⟩))], fun _ => [], noIt, false, fun _ => none, fun _ => none⟩
theorem ev_base_Root (J : Inv) (y : Int) (post : DV → Prop) : evFn Tryd.prog tab S73 ann_base_Root J Tryd.f62 [.t (.c (.v (.int .i64 y)))] post = vc_base_Root J y post := by kernel_rfl
theorem fit_base_Root : okFn ann_base_Root Tryd.f62 = true := by kernel_rfl
def rd_base_Root_0 (J : Inv) (y : Int) (v0_0 : Int) (v0_1 : Int) (nn0 : Nat) (post : DV → Prop) : Prop := cond (decide (v0_1 > (0 : Int))) (lt (IntKind.i64.wrap (v0_0 + v0_1)) fun x1 => lt (IntKind.i64.wrap (v0_0 + v0_1)) fun x2 => lt (IntKind.i64.wrap (x1 * x2)) fun x3 => cond (decide (x3 ≤ y)) (lt (IntKind.i64.wrap (v0_0 + v0_1)) fun x4 => lt (IntKind.i64.wrap (Int.tdiv v0_1 (2 : Int))) fun x5 => (IntKind.i64 = IntKind.i64 ∧ (2 : Int) ≠ 0) ∧ (J 0 (nn0 :: []) (mk_base_Root_0 y x4 x5))) (lt (IntKind.i64.wrap (Int.tdiv v0_1 (2 : Int))) fun x6 => (IntKind.i64 = IntKind.i64 ∧ (2 : Int) ≠ 0) ∧ (J 0 (nn0 :: []) (mk_base_Root_0 y v0_0 x6)))) (post (.t (.c (.v (.int .i64 v0_0)))))
theorem er_base_Root_0 (J : Inv) (y : Int) (v0_0 : Int) (v0_1 : Int) (nn0 : Nat) (post : DV → Prop) : round Tryd.prog tab S73 ann_base_Root J Tryd.f62 post 0 (nn0 :: []) (mk_base_Root_0 y v0_0 v0_1) = rd_base_Root_0 J y v0_0 v0_1 nn0 post := by kernel_rfl
theorem lp_base_Root (J : Inv) (post : DV → Prop) : AllG J (loopsFn Tryd.prog tab S73 ann_base_Root J Tryd.f62 post) = (((∀ F s, ¬ J 0 (0 :: F) s) ∧ ∀ n F s, J 0 ((n + 1) :: F) s → round Tryd.prog tab S73 ann_base_Root J Tryd.f62 post 0 (n :: F) s) ∧ True) := by kernel_rfl
def J_base_Root (y : Int) : Inv := fun b F s => match b, F with
 | 0, [nn0] => ∃ (v0_0 : Int) (v0_1 : Int), s = mk_base_Root_0 y v0_0 v0_1 ∧ (∃ j : Nat, nn0 = j + 1 ∧ j ≤ 31 ∧ v0_1 = (2 : Int) ^ j / 2 ∧ 0 ≤ v0_0 ∧ v0_0 * v0_0 ≤ y ∧ y < (v0_0 + 2 ^ j) * (v0_0 + 2 ^ j))
 | _, _ => False
theorem rnd_base_Root_0 (y : Int) (v0_0 : Int) (v0_1 : Int) (nn0 : Nat) (hp : 0 ≤ y ∧ y < 1099511627776) (hi : ∃ j : Nat, (nn0 + 1) = j + 1 ∧ j ≤ 31 ∧ v0_1 = (2 : Int) ^ j / 2 ∧ 0 ≤ v0_0 ∧ v0_0 * v0_0 ≤ y ∧ y < (v0_0 + 2 ^ j) * (v0_0 + 2 ^ j)) : rd_base_Root_0 (J_base_Root y) y v0_0 v0_1 nn0 (fun r => LeD r (.t (.c (.v (.int .i64 (rt y)))))) := by
 obtain ⟨j, i1, i2, i3, i4, i5, i6⟩ := hi
 unfold rd_base_Root_0
 have r1 : v0_0 ≤ 1048576 := by
  rcases Int.le_total v0_0 1048576 with h | h
  ·exact h
  ·have := Int.mul_le_mul h h (by decide) i4; omega
 cases j with
 | zero =>
  refine cond_i (fun h => ?_) (fun h => leI (rt_of i4 i5 i6 hp.2))
  have h := of_decide_eq_true h
  rw [i3] at h
  exact absurd h (by decide)
 | succ j =>
  have e : (2 : Int) ^ (j + 1) = 2 ^ j * 2 := rfl
  have hB : 1 ≤ (2 : Int) ^ j ∧ (2 : Int) ^ j ≤ 1073741824 := pow_rg (by omega)
  rw [e] at i3 i6
  have e2 : v0_1 = (2 : Int) ^ j := by omega
  rw [e2]
  obtain ⟨B, hj⟩ : ∃ B, (2 : Int) ^ j = B := ⟨_, rfl⟩
  rw [hj] at i3 i6 e2 hB ⊢
  have m := sq_rg (d := v0_0 + B) (K := 2000000000) (by omega)
  refine cond_i (fun h => lt_i fun x1 h1 => lt_i fun x2 h2 => lt_i fun x3 h3 => ?_) (fun h => absurd (of_decide_eq_false h) (by omega))
  rw [wi (by omega)] at h1 h2
  subst h1 h2
  rw [wi (by omega)] at h3
  subst h3
  have td : Int.tdiv B 2 = B / 2 := Int.tdiv_eq_ediv_of_nonneg (by omega)
  refine cond_i (fun q => lt_i fun x4 h4 => lt_i fun x5 h5 => ⟨⟨rfl, by decide⟩, ?_⟩) (fun q => lt_i fun x5 h5 => ⟨⟨rfl, by decide⟩, ?_⟩)
  ·have q := of_decide_eq_true q
   rw [wi (by omega)] at h4
   rw [td, wi (by omega)] at h5
   subst h4 h5
   exact ⟨_, _, rfl, j, by omega, by omega, by rw [hj], by omega, q, by rw [hj, Int.add_assoc, show B + B = B * 2 by omega]; exact i6⟩
  ·have q := of_decide_eq_false q
   rw [td, wi (by omega)] at h5
   subst h5
   exact ⟨_, _, rfl, j, by omega, by omega, by rw [hj], i4, i5, by rw [hj]; omega⟩
theorem zero_base_Root_0 (y : Int) (v0_0 : Int) (v0_1 : Int)  (hi : ∃ j : Nat, 0 = j + 1 ∧ j ≤ 31 ∧ v0_1 = (2 : Int) ^ j / 2 ∧ 0 ≤ v0_0 ∧ v0_0 * v0_0 ≤ y ∧ y < (v0_0 + 2 ^ j) * (v0_0 + 2 ^ j)) : False := by
 obtain ⟨j, h, _⟩ := hi
 omega
theorem spec_base_Root (y : Int) (hp : 0 ≤ y ∧ y < 1099511627776) : vc_base_Root (J_base_Root y) y (fun r => LeD r (.t (.c (.v (.int .i64 (rt y)))))) := by
 unfold vc_base_Root
 exact ⟨32, 0, 1073741824, rfl, 31, rfl, by decide, by decide, by omega, by omega, by omega⟩
theorem all_base_Root (y : Int) (hp : 0 ≤ y ∧ y < 1099511627776) : AllG (J_base_Root y) (loopsFn Tryd.prog tab S73 ann_base_Root (J_base_Root y) Tryd.f62 (fun r => LeD r (.t (.c (.v (.int .i64 (rt y))))))) := by
 rw [lp_base_Root]
 refine ⟨⟨?_, ?_⟩, trivial⟩
 ·intro F s h
  obtain _ | ⟨g, F⟩ := F
  case cons => exact h.elim
  obtain ⟨w0, w1, rfl, hi⟩ := h
  exact zero_base_Root_0 y w0 w1 hi
 ·intro n F s h
  obtain _ | ⟨g, F⟩ := F
  case cons => exact h.elim
  obtain ⟨w0, w1, rfl, hi⟩ := h
  rw [er_base_Root_0]
  exact rnd_base_Root_0 y _ _ _ hp hi
def con_base_Root : Con := fun args => match args with
 | [.t (.c (.v (.int .i64 y)))] => some (.t (.c (.v (.int .i64 (rt y)))), some (0 ≤ y ∧ y < 1099511627776), false)
 | _ => none
theorem ok_base_Root : Ok Tryd.prog 62 con_base_Root := by
 refine Ok.fn (ann := ann_base_Root) mixed tabOK VS73 ValidIt.no (fn := Tryd.f62) (by kernel_rfl) (by kernel_rfl) fit_base_Root fun args r pre fresh h hp => ?_
 unfold con_base_Root at h
 split at h
 ·rename_i y
  cases h
  refine ⟨rfl, J_base_Root y, _, LeA.refl _, Nat.le_of_ble_eq_true (by kernel_rfl), ?_, ?_⟩
  ·rw [ev_base_Root]; exact spec_base_Root y hp
  ·exact all_base_Root y hp
 ·cases h
def S74 : Sum := addS S73 62 con_base_Root
theorem VS74 : Valid Tryd.prog S74 := Valid.add VS73 ok_base_Root
def S75 : Sum := S74
theorem VS75 : Valid Tryd.prog S75 := VS74
def mk_ref06_CheckHits_0 (l : List FHit) (v0_0 : Int) : DS := ⟨[some (.t (.c (.sl 7 l.length (hitsC l)))), none, none, none, some (.t (.c (.v (.int .i64 v0_0)))), none, none, none, none, none, none, none, none, none, none, none, none, none, none, none, none, none, none, none, none, none, none, none, none, none, none, none, none, none, none, none, none, none, none, none, none, none, none, none, none, none, none, none, none, none, none, none, none, none, none, none, none, none, none, none, none, none, none, none, none, none, none, none, none, none, none, none, none, none, none, none], [none, none, none, none, none, none, none, none, none, none, none, none, none, none, none, none, none, none, none, none, none, none, none, none, none, none, none, none, none, none, none, none, none, none, none, none, none, none, none, none, none, none, none, none, none, none, none, none, none, none, none, none, none, none, none, none, none, none, none, none, none, none, none, none, none, none, none, none, none, none, none, none, none, none, none, none]⟩
def vc_ref06_CheckHits (J : Inv) (l : List FHit) (post : DV → Prop) : Prop := cond (((l.length : Nat) : Int) == (0 : Int)) (post (.tu [.c (.v (.int .i64 0)), .c (.v (.int .i64 10))])) (cond (decide (((l.length : Nat) : Int) > (8 : Int))) (post (.tu [.c (.v (.int .i64 0)), .c (.v (.int .i64 8))])) (∃ n, J 0 (n :: []) (mk_ref06_CheckHits_0 l 0)))
def ann_ref06_CheckHits : Ann := ⟨fun r => lookA r [(11, ([[], [], [0, 1], [0, 1, 2], [0, 1, 2, 3], [], [], [5, 6], [5, 6, 7], [5, 6, 7, 8], [], [], [0, 1, 2, 3, 4, 10, 11], [0, 1, 2, 3, 4, 5, 6, 7, 8, 9, 10, 11, 12]], [[6, 7], [6, 7], [6, 7], [6, 7], [6, 7], [6, 7], [6, 7], [6, 7], [6, 7], [6, 7], [7], [6], [9999, 6], []]))], fun b => lookA b [(0, (none, some ⟨[0, 4], [], []⟩))], fun _ => [], noIt, false, fun _ => none, fun _ => none⟩
theorem ev_ref06_CheckHits (J : Inv) (l : List FHit) (post : DV → Prop) : evFn Tryd.prog tab S75 ann_ref06_CheckHits J Tryd.f22 [.t (.c (.sl 7 l.length (hitsC l)))] post = vc_ref06_CheckHits J l post := by kernel_rfl
theorem fit_ref06_CheckHits : okFn ann_ref06_CheckHits Tryd.f22 = true := by kernel_rfl
def rd_ref06_CheckHits_0 (J : Inv) (l : List FHit) (v0_0 : Int) (nn0 : Nat) (post : DV → Prop) : Prop := cond (decide (v0_0 < ((l.length : Nat) : Int))) ((0 ≤ v0_0 ∧ v0_0 < ((l.length : Nat) : Int)) ∧ (cond ((posE (hitAt l v0_0.toNat).p) != (0 : Int)) (post (.tu [.c (.v (.int .i64 v0_0)), .c (.v (.int .i64 (posE (hitAt l v0_0.toNat).p)))])) ((0 ≤ v0_0 ∧ v0_0 < ((l.length : Nat) : Int)) ∧ ((0 ≤ v0_0 ∧ v0_0 < ((l.length : Nat) : Int)) ∧ (cond (!(inB ((hitAt l v0_0.toNat).t.lo) (0 : Int) (1000000000 : Int))) ((true = true) ∧ ((true = true) ∧ ((true = true) ∧ (post (.tu [.c (.v (.int .i64 v0_0)), .c (.v (.int .i64 2))]))))) (cond (!(inB ((hitAt l v0_0.toNat).t.hi) (0 : Int) (1000000000 : Int))) ((true = true) ∧ ((true = true) ∧ (post (.tu [.c (.v (.int .i64 v0_0)), .c (.v (.int .i64 2))])))) (cond (!(inB ((hitAt l v0_0.toNat).c.lo) (0 : Int) (1000000 : Int))) ((true = true) ∧ (post (.tu [.c (.v (.int .i64 v0_0)), .c (.v (.int .i64 2))]))) (cond (!(inB ((hitAt l v0_0.toNat).c.hi) (0 : Int) (1000000 : Int))) (post (.tu [.c (.v (.int .i64 v0_0)), .c (.v (.int .i64 2))])) (cond (decide (((hitAt l v0_0.toNat).t.lo) > ((hitAt l v0_0.toNat).t.hi))) ((true = true) ∧ (post (.tu [.c (.v (.int .i64 v0_0)), .c (.v (.int .i64 9))]))) (cond (decide (((hitAt l v0_0.toNat).c.lo) > ((hitAt l v0_0.toNat).c.hi))) (post (.tu [.c (.v (.int .i64 v0_0)), .c (.v (.int .i64 9))])) (lt (IntKind.i64.wrap (v0_0 + (1 : Int))) fun x1 => J 0 (nn0 :: []) (mk_ref06_CheckHits_0 l x1)))))))))))) (post (.tu [.c (.v (.int .i64 0)), .c (.v (.int .i64 0))]))
theorem er_ref06_CheckHits_0 (J : Inv) (l : List FHit) (v0_0 : Int) (nn0 : Nat) (post : DV → Prop) : round Tryd.prog tab S75 ann_ref06_CheckHits J Tryd.f22 post 0 (nn0 :: []) (mk_ref06_CheckHits_0 l v0_0) = rd_ref06_CheckHits_0 J l v0_0 nn0 post := by kernel_rfl
theorem lp_ref06_CheckHits (J : Inv) (post : DV → Prop) : AllG J (loopsFn Tryd.prog tab S75 ann_ref06_CheckHits J Tryd.f22 post) = (((∀ F s, ¬ J 0 (0 :: F) s) ∧ ∀ n F s, J 0 ((n + 1) :: F) s → round Tryd.prog tab S75 ann_ref06_CheckHits J Tryd.f22 post 0 (n :: F) s) ∧ True) := by kernel_rfl
def J_ref06_CheckHits (l : List FHit) : Inv := fun b F s => match b, F with
 | 0, [nn0] => ∃ (v0_0 : Int), s = mk_ref06_CheckHits_0 l v0_0 ∧ (0 ≤ v0_0 ∧ v0_0 ≤ l.length ∧ (nn0 : Int) + v0_0 = l.length + 1 ∧ (∀ j : Nat, (j : Int) < v0_0 → (hitAt l j).err = 0) ∧ cntE l.length 8 = 0)
 | _, _ => False
set_option maxHeartbeats 8000000 in
set_option maxRecDepth 100000 in
theorem rnd_ref06_CheckHits_0 (l : List FHit) (v0_0 : Int) (nn0 : Nat) (hi : 0 ≤ v0_0 ∧ v0_0 ≤ l.length ∧ ((nn0 + 1) : Int) + v0_0 = l.length + 1 ∧ (∀ j : Nat, (j : Int) < v0_0 → (hitAt l j).err = 0) ∧ cntE l.length 8 = 0) : rd_ref06_CheckHits_0 (J_ref06_CheckHits l) l v0_0 nn0 (fun r => LeD r (.tu [.c (.v (.int .i64 (hitsI l))), .c (.v (.int .i64 (hitsE l)))])) := by
 obtain ⟨i1, i2, i3, i4, i5⟩ := hi
 obtain ⟨k, rfl⟩ : ∃ k : Nat, v0_0 = k := ⟨v0_0.toNat, by omega⟩
 have hk : (k : Int).toNat = k := rfl
 have hz : ∀ j, j < k → (hitAt l j).err = 0 := fun j hj => i4 j (by omega)
 have hlen : l.length ≤ 8 := by
  have h2 := (fn2 i5).2
  rw [unl_0 (by decide)] at h2
  have := of_decide_eq_true h2
  omega
 have eI : hitsI l = scanI (fun i => (hitAt l i).err) l.length := if_pos i5
 have eE : hitsE l = scan (fun i => (hitAt l i).err) l.length := if_pos i5
 unfold rd_ref06_CheckHits_0
 rw [hk]
 refine cond_i (fun h => ?_) (fun h => ?_)
 ·have hlt : k < l.length := by have := of_decide_eq_true h; omega
  have bad : ∀ e, e ≠ 0 → (hitAt l k).err = e → LeD (.tu [.c (.v (.int .i64 (k : Int))), .c (.v (.int .i64 e))]) (.tu [.c (.v (.int .i64 (hitsI l))), .c (.v (.int .i64 (hitsE l)))]) := fun e he q => by
   subst q
   rw [eI, eE]
   exact le2 (scanI_at (f := fun i => (hitAt l i).err) hz hlt he).symm (scan_at (f := fun i => (hitAt l i).err) hz hlt he).symm
  have hq := FHit.err_eq (hitAt l k)
  refine ⟨by omega, cond_i (fun e => ?_) (fun e => ⟨by omega, by omega, cond_i (fun a1 => ⟨rfl, rfl, rfl, ?_⟩) (fun a1 => cond_i (fun a2 => ⟨rfl, rfl, ?_⟩) (fun a2 => cond_i (fun a3 => ⟨rfl, ?_⟩) (fun a3 => cond_i (fun a4 => ?_) (fun a4 => cond_i (fun a5 => ⟨rfl, ?_⟩) (fun a5 => cond_i (fun a6 => ?_) (fun a6 => lt_i fun x hx => ?_))))))⟩)⟩
  ·have e : posE (hitAt l k).p ≠ 0 := by simpa using e
   exact bad _ e (by rw [hq, if_pos e])
  all_goals
   have e : posE (hitAt l k).p = 0 := by simpa using e
   rw [if_neg (by rw [e]; simp)] at hq
  ·exact bad 2 (by decide) (by rw [hq]; simp_all)
  ·exact bad 2 (by decide) (by rw [hq]; simp_all)
  ·exact bad 2 (by decide) (by rw [hq]; simp_all)
  ·exact bad 2 (by decide) (by rw [hq]; simp_all)
  ·exact bad 9 (by decide) (by rw [hq]; simp_all)
  ·exact bad 9 (by decide) (by rw [hq]; simp_all)
  ·have q : (hitAt l k).err = 0 := by rw [hq]; simp_all
   rw [wi (by omega)] at hx
   subst hx
   refine ⟨_, rfl, by omega, by omega, by omega, fun j hj => ?_, i5⟩
   by_cases q2 : j = k
   ·rw [q2]; exact q
   ·exact i4 j (by omega)
 ·have hge : k = l.length := by have := of_decide_eq_false h; omega
  subst hge
  rw [eI, eE]
  exact le2 (scanI_end (f := fun i => (hitAt l i).err) hz).symm (scan_end (f := fun i => (hitAt l i).err) hz).symm
theorem zero_ref06_CheckHits_0 (l : List FHit) (v0_0 : Int)  (hi : 0 ≤ v0_0 ∧ v0_0 ≤ l.length ∧ (0 : Int) + v0_0 = l.length + 1 ∧ (∀ j : Nat, (j : Int) < v0_0 → (hitAt l j).err = 0) ∧ cntE l.length 8 = 0) : False := by
 omega
set_option maxHeartbeats 8000000 in
set_option maxRecDepth 100000 in
theorem spec_ref06_CheckHits (l : List FHit) : vc_ref06_CheckHits (J_ref06_CheckHits l) l (fun r => LeD r (.tu [.c (.v (.int .i64 (hitsI l))), .c (.v (.int .i64 (hitsE l)))])) := by
 unfold vc_ref06_CheckHits
 have bad : ∀ e, e ≠ 0 → cntE l.length 8 = e → LeD (.tu [.c (.v (.int .i64 0)), .c (.v (.int .i64 e))]) (.tu [.c (.v (.int .i64 (hitsI l))), .c (.v (.int .i64 (hitsE l)))]) := fun e he q => by
  subst q
  exact le2 (if_neg he).symm (if_neg he).symm
 refine cond_i (fun h => bad 10 (by decide) ?_) (fun h => cond_i (fun h2 => bad 8 (by decide) ?_) (fun h2 => ?_))
 ·have h : (l.length : Int) = 0 := by simpa using h
  unfold cntE; rw [h]; rfl
 ·have h : (l.length : Int) ≠ 0 := by simpa using h
  have h2 := of_decide_eq_true h2
  unfold cntE; rw [decide_eq_true (show (l.length : Int) > 0 by omega), decide_eq_false (show ¬ (l.length : Int) ≤ 8 by omega)]; rfl
 ·have h : (l.length : Int) ≠ 0 := by simpa using h
  have h2 := of_decide_eq_false h2
  refine ⟨l.length + 1, 0, rfl, by omega, by omega, by omega, fun j hj => by omega, ?_⟩
  unfold cntE; rw [decide_eq_true (show (l.length : Int) > 0 by omega), decide_eq_true (show (l.length : Int) ≤ 8 by omega)]; rfl
theorem all_ref06_CheckHits (l : List FHit) : AllG (J_ref06_CheckHits l) (loopsFn Tryd.prog tab S75 ann_ref06_CheckHits (J_ref06_CheckHits l) Tryd.f22 (fun r => LeD r (.tu [.c (.v (.int .i64 (hitsI l))), .c (.v (.int .i64 (hitsE l)))]))) := by
 rw [lp_ref06_CheckHits]
 refine ⟨⟨?_, ?_⟩, trivial⟩
 ·intro F s h
  obtain _ | ⟨g, F⟩ := F
  case cons => exact h.elim
  obtain ⟨w0, rfl, hi⟩ := h
  exact zero_ref06_CheckHits_0 l w0 hi
 ·intro n F s h
  obtain _ | ⟨g, F⟩ := F
  case cons => exact h.elim
  obtain ⟨w0, rfl, hi⟩ := h
  rw [er_ref06_CheckHits_0]
  exact rnd_ref06_CheckHits_0 l _ _ hi
def con_ref06_CheckHits : Con := fun args => match args with
 | [.t (.c (.sl 7 n_l c_l))] => some (.tu [.c (.v (.int .i64 (hitsI (listC n_l mkHit c_l)))), .c (.v (.int .i64 (hitsE (listC n_l mkHit c_l))))], some (numsP 7 n_l c_l), false)
 | _ => none
theorem ok_ref06_CheckHits : Ok Tryd.prog 22 con_ref06_CheckHits := by
 refine Ok.fn (ann := ann_ref06_CheckHits) mixed tabOK VS75 ValidIt.no (fn := Tryd.f22) (by kernel_rfl) (by kernel_rfl) fit_ref06_CheckHits fun args r pre fresh h hp => ?_
 unfold con_ref06_CheckHits at h
 split at h
 ·rename_i n_l c_l
  cases h
  have hp0 := hp
  refine ⟨rfl, J_ref06_CheckHits (listC n_l mkHit c_l), [.t (.c (.sl 7 ((listC n_l mkHit c_l).length) (hitsC (listC n_l mkHit c_l))))], ?_, Nat.le_of_ble_eq_true (by kernel_rfl), ?_, ?_⟩
  ·exact (LeA_cons (leT_c ((leL_FHit hp0))) LeA_nil)
  ·rw [ev_ref06_CheckHits]; exact spec_ref06_CheckHits (listC n_l mkHit c_l)
  ·exact all_ref06_CheckHits (listC n_l mkHit c_l)
 ·cases h
def S76 : Sum := addS S75 22 con_ref06_CheckHits
theorem VS76 : Valid Tryd.prog S76 := Valid.add VS75 ok_ref06_CheckHits
def vc_ref06_HitsErr (l : List FHit) (post : DV → Prop) : Prop := (numsP 7 l.length (hitsC l)) ∧ (post (.t (.c (.v (.int .i64 (hitsE (listC l.length mkHit (hitsC l))))))))
def ann_ref06_HitsErr : Ann := ⟨fun _ => none, fun _ => none, fun _ => [], noIt, false, fun _ => none, fun _ => none⟩
theorem ev_ref06_HitsErr (J : Inv) (l : List FHit) (post : DV → Prop) : evFn Tryd.prog tab S76 ann_ref06_HitsErr J Tryd.f59 [.t (.c (.sl 7 l.length (hitsC l)))] post = vc_ref06_HitsErr l post := by kernel_rfl
theorem fit_ref06_HitsErr : okFn ann_ref06_HitsErr Tryd.f59 = true := by kernel_rfl
theorem lp_ref06_HitsErr (J : Inv) (post : DV → Prop) : AllG J (loopsFn Tryd.prog tab S76 ann_ref06_HitsErr J Tryd.f59 post) = (True) := by kernel_rfl
theorem spec_ref06_HitsErr (l : List FHit) : vc_ref06_HitsErr l (fun r => LeD r (.t (.c (.v (.int .i64 (hitsE l)))))) := by
 unfold vc_ref06_HitsErr
 rw [hits_listC]
 exact ⟨numsP_hits l, LeD.refl _⟩
def con_ref06_HitsErr : Con := fun args => match args with
 | [.t (.c (.sl 7 n_l c_l))] => some (.t (.c (.v (.int .i64 (hitsE (listC n_l mkHit c_l))))), some (numsP 7 n_l c_l), false)
 | _ => none
theorem ok_ref06_HitsErr : Ok Tryd.prog 59 con_ref06_HitsErr := by
 refine Ok.fn (ann := ann_ref06_HitsErr) mixed tabOK VS76 ValidIt.no (fn := Tryd.f59) (by kernel_rfl) (by kernel_rfl) fit_ref06_HitsErr fun args r pre fresh h hp => ?_
 unfold con_ref06_HitsErr at h
 split at h
 ·rename_i n_l c_l
  cases h
  have hp0 := hp
  refine ⟨rfl, fun _ _ _ => False, [.t (.c (.sl 7 ((listC n_l mkHit c_l).length) (hitsC (listC n_l mkHit c_l))))], ?_, Nat.le_of_ble_eq_true (by kernel_rfl), ?_, ?_⟩
  ·exact (LeA_cons (leT_c ((leL_FHit hp0))) LeA_nil)
  ·rw [ev_ref06_HitsErr]; exact spec_ref06_HitsErr (listC n_l mkHit c_l)
  ·rw [lp_ref06_HitsErr]; trivial
 ·cases h
def S77 : Sum := addS S76 59 con_ref06_HitsErr
theorem VS77 : Valid Tryd.prog S77 := Valid.add VS76 ok_ref06_HitsErr
def S78 : Sum := S77
theorem VS78 : Valid Tryd.prog S78 := VS77
def S79 : Sum := S78
theorem VS79 : Valid Tryd.prog S79 := VS78
def vc_ref06_CopyHits (l : List FHit) (post : DV → Prop) : Prop := (roomP 56 (([] : List (List CV)).length + ((List.range l.length).map fun i => fwd ((hitsC l) i) 0 7).length)) ∧ (post (.t (.c (.sl 7 ((([] : List (List CV)) ++ ((List.range l.length).map fun i => fwd ((hitsC l) i) 0 7)).length) (genC (([] : List (List CV)) ++ ((List.range l.length).map fun i => fwd ((hitsC l) i) 0 7)))))))
def ann_ref06_CopyHits : Ann := ⟨fun _ => none, fun _ => none, fun _ => [], noIt, true, fun _ => none, fun _ => none⟩
theorem ev_ref06_CopyHits (J : Inv) (l : List FHit) (post : DV → Prop) : evFn Tryd.prog tab S79 ann_ref06_CopyHits J Tryd.f18 [.t (.c (.sl 7 l.length (hitsC l)))] post = vc_ref06_CopyHits l post := by kernel_rfl
theorem fit_ref06_CopyHits : okFn ann_ref06_CopyHits Tryd.f18 = true := by kernel_rfl
theorem lp_ref06_CopyHits (J : Inv) (post : DV → Prop) : AllG J (loopsFn Tryd.prog tab S79 ann_ref06_CopyHits J Tryd.f18 post) = (True) := by kernel_rfl
theorem spec_ref06_CopyHits (l : List FHit) (hp : (l).length ≤ 1000) : vc_ref06_CopyHits l (fun r => LeD r (.t (.c (.sl 7 l.length (hitsC l))))) := by
 unfold vc_ref06_CopyHits
 rw [hits_fwd, List.nil_append]
 refine ⟨?_, le_hits l⟩
 unfold roomP maxLen
 simp
 omega
def con_ref06_CopyHits : Con := fun args => match args with
 | [.t (.c (.sl 7 n_l c_l))] => some (.t (.c (.sl 7 ((listC n_l mkHit c_l).length) (hitsC (listC n_l mkHit c_l)))), some (numsP 7 n_l c_l ∧ ((listC n_l mkHit c_l)).length ≤ 1000), true)
 | _ => none
theorem ok_ref06_CopyHits : Ok Tryd.prog 18 con_ref06_CopyHits := by
 refine Ok.fnFr (ann := ann_ref06_CopyHits) mixed tabOK VS79 ValidIt.no rfl (fn := Tryd.f18) (by kernel_rfl) (by kernel_rfl) fit_ref06_CopyHits fun args r pre fresh h hp => ?_
 unfold con_ref06_CopyHits at h
 split at h
 ·rename_i n_l c_l
  cases h
  obtain ⟨hp0, hp⟩ := hp
  refine ⟨rfl, (fun i j _ hj => plain_FHit _ i j), fun _ _ _ => False, [.t (.c (.sl 7 ((listC n_l mkHit c_l).length) (hitsC (listC n_l mkHit c_l))))], ?_, Nat.le_of_ble_eq_true (by kernel_rfl), ?_, ?_⟩
  ·exact (LeA_cons (leT_c ((leL_FHit hp0))) LeA_nil)
  ·rw [ev_ref06_CopyHits]; exact spec_ref06_CopyHits (listC n_l mkHit c_l) hp
  ·rw [lp_ref06_CopyHits]; trivial
 ·cases h
def S80 : Sum := addS S79 18 con_ref06_CopyHits
theorem VS80 : Valid Tryd.prog S80 := Valid.add VS79 ok_ref06_CopyHits
end Go.Proofs.YtmhgjlapkhdlmaaDoor
set_option linter.unusedVariables false
set_option linter.unusedSimpArgs false
namespace Go.Proofs.YtmhgjlapkhdlmaaDoor
open Go.RowKit Ev
def S81 : Sum := S80
theorem VS81 : Valid Tryd.prog S81 := VS80
def S82 : Sum := S81
theorem VS82 : Valid Tryd.prog S82 := VS81
def S83 : Sum := S82
theorem VS83 : Valid Tryd.prog S83 := VS82
def S84 : Sum := S83
theorem VS84 : Valid Tryd.prog S84 := VS83
def S85 : Sum := S84
theorem VS85 : Valid Tryd.prog S85 := VS84
def S86 : Sum := S85
theorem VS86 : Valid Tryd.prog S86 := VS85
def S87 : Sum := S86
theorem VS87 : Valid Tryd.prog S87 := VS86
def S88 : Sum := S87
theorem VS88 : Valid Tryd.prog S88 := VS87
def S89 : Sum := S88
theorem VS89 : Valid Tryd.prog S89 := VS88
def S90 : Sum := S89
theorem VS90 : Valid Tryd.prog S90 := VS89
end Go.Proofs.YtmhgjlapkhdlmaaDoor
set_option linter.unusedVariables false
set_option linter.unusedSimpArgs false
namespace Go.Proofs.YtmhgjlapkhdlmaaDoor
open Go.RowKit Ev
def S91 : Sum := S90
theorem VS91 : Valid Tryd.prog S91 := VS90
def S92 : Sum := S91
theorem VS92 : Valid Tryd.prog S92 := VS91
def S93 : Sum := S92
theorem VS93 : Valid Tryd.prog S93 := VS92
def S94 : Sum := S93
theorem VS94 : Valid Tryd.prog S94 := VS93
end Go.Proofs.YtmhgjlapkhdlmaaDoor
set_option linter.unusedVariables false
set_option linter.unusedSimpArgs false
namespace Go.Proofs.YtmhgjlapkhdlmaaDoor
open Go.RowKit Ev
end Go.Proofs.YtmhgjlapkhdlmaaDoor
set_option linter.unusedVariables false
set_option linter.unusedSimpArgs false
namespace Go.Proofs.YtmhgjlapkhdlmaaDoor
open Go.RowKit Ev
end Go.Proofs.YtmhgjlapkhdlmaaDoor
set_option linter.unusedVariables false
set_option linter.unusedSimpArgs false
namespace Go.Proofs.YtmhgjlapkhdlmaaDoor
open Go.RowKit Ev
theorem nums_ints : numsC .i64 = intsC := rfl
noncomputable def hd {α : Type} (x : α) : α := Classical.choose (⟨x, rfl⟩ : ∃ y, y = x)
theorem hd_eq {α : Type} (x : α) : hd x = x := Classical.choose_spec (⟨x, rfl⟩ : ∃ y, y = x)
def mdF (a c : Int) : Int := if Int.tmod a c < 0 then IntKind.i64.wrap (Int.tmod a c + c) else Int.tmod a c
def S95 : Sum := S94
theorem VS95 : Valid Tryd.prog S95 := VS94
def S96 : Sum := S95
theorem VS96 : Valid Tryd.prog S96 := VS95
def S97 : Sum := S96
theorem VS97 : Valid Tryd.prog S97 := VS96
def vc_base_Mod (a : Int) (c : Int) (post : DV → Prop) : Prop := lt (Int.tmod a c) fun x1 => (IntKind.i64 = IntKind.i64 ∧ c ≠ 0) ∧ (cond (decide (x1 < (0 : Int))) (lt (IntKind.i64.wrap (x1 + c)) fun x2 => post (.t (.c (.v (.int .i64 x2))))) (post (.t (.c (.v (.int .i64 x1))))))
def ann_base_Mod : Ann := ⟨fun _ => none, fun _ => none, fun _ => [], noIt, false, fun _ => none, fun _ => none⟩
theorem ev_base_Mod (J : Inv) (a : Int) (c : Int) (post : DV → Prop) : evFn Tryd.prog tab S97 ann_base_Mod J Tryd.f41 [.t (.c (.v (.int .i64 a))), .t (.c (.v (.int .i64 c)))] post = vc_base_Mod a c post := by kernel_rfl
theorem fit_base_Mod : okFn ann_base_Mod Tryd.f41 = true := by kernel_rfl
theorem lp_base_Mod (J : Inv) (post : DV → Prop) : AllG J (loopsFn Tryd.prog tab S97 ann_base_Mod J Tryd.f41 post) = (True) := by kernel_rfl
theorem spec_base_Mod (a : Int) (c : Int) (hp : c ≠ 0) : vc_base_Mod a c (fun r => LeD r (.t (.c (.v (.int .i64 (mdF a c)))))) := by
 unfold vc_base_Mod mdF
 refine lt_i fun x1 h1 => ⟨⟨rfl, hp⟩, ?_⟩
 rw [h1]
 refine cond_i (fun h => lt_i fun x2 h2 => leI ?_) (fun h => leI ?_)
 ·rw [if_pos (of_decide_eq_true h)]; exact h2.symm
 ·rw [if_neg (of_decide_eq_false h)]
def con_base_Mod : Con := fun args => match args with
 | [.t (.c (.v (.int .i64 a))), .t (.c (.v (.int .i64 c)))] => some (.t (.c (.v (.int .i64 (mdF a c)))), some (c ≠ 0), false)
 | _ => none
theorem ok_base_Mod : Ok Tryd.prog 41 con_base_Mod := by
 refine Ok.fn (ann := ann_base_Mod) mixed tabOK VS97 ValidIt.no (fn := Tryd.f41) (by kernel_rfl) (by kernel_rfl) fit_base_Mod fun args r pre fresh h hp => ?_
 unfold con_base_Mod at h
 split at h
 ·rename_i a c
  cases h
  refine ⟨rfl, fun _ _ _ => False, _, LeA.refl _, Nat.le_of_ble_eq_true (by kernel_rfl), ?_, ?_⟩
  ·rw [ev_base_Mod]; exact spec_base_Mod a c hp
  ·rw [lp_base_Mod]; trivial
 ·cases h
def S98 : Sum := addS S97 41 con_base_Mod
theorem VS98 : Valid Tryd.prog S98 := Valid.add VS97 ok_base_Mod
def S99 : Sum := S98
theorem VS99 : Valid Tryd.prog S99 := VS98
noncomputable def S100 : Sum := S99
theorem VS100 : Valid Tryd.prog S100 := VS99
noncomputable def conh_flash_PartOf : Con := fun args => match args with
 | [.t (.c (.sl 2 n_m c_m)), .t (.a [.v (.int .i64 f), .sl 1 n_v c_v])] => some (.tu [.a [.v (.int .i64 (hd (prtN (muOf n_m c_m) f (listC n_v mkInt c_v)))), .v (.int .i64 (hd (prtD (muOf n_m c_m) f (listC n_v mkInt c_v))))], .c (.v (.int .i64 (hd (vvE (muOf n_m c_m) f (listC n_v mkInt c_v)))))], some (muP n_m c_m ∧ numsP 1 n_v c_v ∧ muSm (muOf n_m c_m) ∧ ((listC n_v mkInt c_v)).length ≤ 1000000), false)
 | _ => none
theorem okh_flash_PartOf : Ok Tryd.prog 38 conh_flash_PartOf := by
 refine Ok.over ok_flash_PartOf fun args r' pre' fresh h hp => ?_
 unfold conh_flash_PartOf at h
 split at h
 ·cases h
  exact ⟨_, _, rfl, hp, by simp only [hd_eq]⟩
 ·cases h
noncomputable def S101 : Sum := addS S100 38 conh_flash_PartOf
theorem VS101 : Valid Tryd.prog S101 := Valid.add VS100 okh_flash_PartOf
noncomputable def S102 : Sum := S101
theorem VS102 : Valid Tryd.prog S102 := VS101
noncomputable def S103 : Sum := S102
theorem VS103 : Valid Tryd.prog S103 := VS102
noncomputable def S104 : Sum := S103
theorem VS104 : Valid Tryd.prog S104 := VS103
noncomputable def S105 : Sum := S104
theorem VS105 : Valid Tryd.prog S105 := VS104
end Go.Proofs.YtmhgjlapkhdlmaaDoor
set_option linter.unusedVariables false
set_option linter.unusedSimpArgs false
namespace Go.Proofs.YtmhgjlapkhdlmaaDoor
open Go.RowKit Ev
def knE (i : Int) (a c : Knot) : Int := firstNZ [unl (inB c.d 0 100000 && inB c.y 0 10000) 2, unl (decide (i = 0) || (decide (c.d > a.d) && decide (c.y ≤ a.y))) 9]
def ktE (t : List Knot) (k : Nat) : Int := knE (k : Int) (knAt t (k - 1)) (knAt t k)
def tabE (t : List Knot) : Int := if cntE t.length 8 = 0 then scan (ktE t) t.length else cntE t.length 8
def tabI (t : List Knot) : Int := if cntE t.length 8 = 0 then scanI (ktE t) t.length else 0
def yldF (x : Int) : List Knot → Int
 | [] => 0
 | c :: l => if c.d ≥ x then c.y else yldF x l
def fstP (x : Int) (c : Knot) : Bool := decide (c.d ≥ x)
theorem idxP_rg {α : Type} (p : α → Bool) (l : List α) : -1 ≤ idxP p l ∧ idxP p l < l.length := by
 unfold idxP
 split <;> omega
theorem yldF_idx (x : Int) : ∀ t : List Knot, (idxP (fstP x) t < 0 → yldF x t = 0) ∧ (0 ≤ idxP (fstP x) t → yldF x t = (knAt t (idxP (fstP x) t).toNat).y)
 | [] => ⟨fun _ => rfl, fun h => by simp [idxP] at h⟩
 | c :: l => by
  obtain ⟨h1, h2⟩ := yldF_idx x l
  unfold yldF
  by_cases hc : c.d ≥ x
  ·have e : idxP (fstP x) (c :: l) = 0 := by unfold idxP; simp [List.findIdx_cons, fstP, hc]
   rw [e, if_pos hc]
   exact ⟨fun h => by omega, fun _ => rfl⟩
  ·rw [if_neg hc]
   have e : List.findIdx (fstP x) (c :: l) = List.findIdx (fstP x) l + 1 := by simp [List.findIdx_cons, fstP, hc]
   unfold idxP at *
   rw [e]
   by_cases hl : List.findIdx (fstP x) l < l.length
   ·rw [if_pos hl] at h1 h2
    rw [if_pos (by rw [List.length_cons]; omega)]
    refine ⟨fun h => by omega, fun _ => ?_⟩
    rw [h2 (by omega)]
    rw [show ((List.findIdx (fstP x) l + 1 : Nat) : Int).toNat = ((List.findIdx (fstP x) l : Nat) : Int).toNat + 1 by omega]
    simp [knAt]
   ·rw [if_neg hl] at h1 h2
    rw [if_neg (by rw [List.length_cons]; omega)]
    exact ⟨fun _ => h1 (by omega), fun h => by omega⟩
theorem tab_ok {t : List Knot} (h : tabE t = 0) : (0 < t.length ∧ t.length ≤ 8) ∧ ∀ i, i < t.length → ktE t i = 0 := by
 unfold tabE at h
 by_cases hc : cntE t.length 8 = 0
 ·rw [if_pos hc] at h
  obtain ⟨h1, h2⟩ := fn2'.1 hc
  rw [unl_0 (by decide)] at h1 h2
  have h1 := of_decide_eq_true h1
  have h2 := of_decide_eq_true h2
  exact ⟨by omega, scan_zero h⟩
 ·rw [if_neg hc] at h; exact (hc h).elim
theorem kn_rg {t : List Knot} (h : tabE t = 0) {i : Nat} (hi : i < t.length) : (0 ≤ (knAt t i).d ∧ (knAt t i).d ≤ 100000) ∧ 0 ≤ (knAt t i).y ∧ (knAt t i).y ≤ 10000 := by
 have h1 := (tab_ok h).2 i hi
 unfold ktE knE at h1
 obtain ⟨h1, _⟩ := fn2'.1 h1
 rw [unl_0 (by decide), Bool.and_eq_true, inB_true, inB_true] at h1
 exact h1
theorem yld_rg {t : List Knot} (h : tabE t = 0) (x : Int) : 0 ≤ yldF x t ∧ yldF x t ≤ 10000 := by
 obtain ⟨h1, h2⟩ := yldF_idx x t
 obtain ⟨h3, h4⟩ := idxP_rg (fstP x) t
 rcases Int.lt_or_le (idxP (fstP x) t) 0 with q | q
 ·rw [h1 q]; omega
 ·rw [h2 q]
  exact (kn_rg h (by omega)).2
def lgtR (t : List Knot) (x e : Int) : Rg := ⟨e * yldF x t / 1000, (e * yldF x t + 999) / 1000⟩
def lgtE (t : List Knot) (x e : Int) : Int := firstNZ [tabE t, unl (inB x 0 100000 && inB e 0 100000) 2]
def lgtV (t : List Knot) (x e : Int) : Rg := if lgtE t x e = 0 then lgtR t x e else ⟨0, 0⟩
def fitG (c : Rg) (y : Int) : Rg := if y = 0 then ⟨if c.lo > 0 then 100001 else 0, 100000⟩ else ⟨if c.lo > 0 then (c.lo - 1) * 1000 / y + 1 else 0, min 100000 (((c.hi + 1) * 1000 - 1) / y)⟩
def fitH (t : List Knot) (p : P3) (h : FHit) : Rg := fitG h.c (yldF (rt (sqD p h.p)) t)
def engE0 (t : List Knot) (l : List FHit) (p : P3) : Int := firstNZ [tabE t, hitsE l, posE p]
def engR (t : List Knot) (l : List FHit) (p : P3) : Rg := comm (l.map (fitH t p))
def engE (t : List Knot) (l : List FHit) (p : P3) : Int := if engE0 t l p = 0 then unl (decide ((engR t l p).lo ≤ (engR t l p).hi)) 12 else engE0 t l p
def engV (t : List Knot) (l : List FHit) (p : P3) : Rg := if engE t l p = 0 then engR t l p else ⟨0, 0⟩
end Go.Proofs.YtmhgjlapkhdlmaaDoor
set_option linter.unusedVariables false
set_option linter.unusedSimpArgs false
namespace Go.Proofs.YtmhgjlapkhdlmaaDoor
open Go.RowKit Ev
def vc_flash_CheckTable_1 (i : Int) (a0 a1 : Int) (c0 c1 : Int) (post : DV → Prop) : Prop := cond (inB c0 (0 : Int) (100000 : Int)) (cond (i == (0 : Int)) ((true = true) ∧ ((numsP 1 2 (genC [[.v (.int .i64 (unl (inB c1 (0 : Int) (10000 : Int)) (2 : Int)))], [.v (.int .i64 (unl true (9 : Int)))]]) ∧ (([(unl (inB c1 (0 : Int) (10000 : Int)) (2 : Int)), (unl true (9 : Int))] : List Int)).length ≤ 100) ∧ (post (.t (.c (.v (.int .i64 (firstNZ ([(unl (inB c1 (0 : Int) (10000 : Int)) (2 : Int)), (unl true (9 : Int))] : List Int))))))))) (cond (decide (c0 > a0)) ((numsP 1 2 (genC [[.v (.int .i64 (unl (inB c1 (0 : Int) (10000 : Int)) (2 : Int)))], [.v (.int .i64 (unl (decide (c1 ≤ a1)) (9 : Int)))]]) ∧ (([(unl (inB c1 (0 : Int) (10000 : Int)) (2 : Int)), (unl (decide (c1 ≤ a1)) (9 : Int))] : List Int)).length ≤ 100) ∧ (post (.t (.c (.v (.int .i64 (firstNZ ([(unl (inB c1 (0 : Int) (10000 : Int)) (2 : Int)), (unl (decide (c1 ≤ a1)) (9 : Int))] : List Int)))))))) ((false = false) ∧ ((numsP 1 2 (genC [[.v (.int .i64 (unl (inB c1 (0 : Int) (10000 : Int)) (2 : Int)))], [.v (.int .i64 (unl false (9 : Int)))]]) ∧ (([(unl (inB c1 (0 : Int) (10000 : Int)) (2 : Int)), (unl false (9 : Int))] : List Int)).length ≤ 100) ∧ (post (.t (.c (.v (.int .i64 (firstNZ ([(unl (inB c1 (0 : Int) (10000 : Int)) (2 : Int)), (unl false (9 : Int))] : List Int))))))))))) ((false = false) ∧ (cond (i == (0 : Int)) ((true = true) ∧ ((numsP 1 2 (genC [[.v (.int .i64 (unl false (2 : Int)))], [.v (.int .i64 (unl true (9 : Int)))]]) ∧ (([(unl false (2 : Int)), (unl true (9 : Int))] : List Int)).length ≤ 100) ∧ (post (.t (.c (.v (.int .i64 (firstNZ ([(unl false (2 : Int)), (unl true (9 : Int))] : List Int))))))))) (cond (decide (c0 > a0)) ((numsP 1 2 (genC [[.v (.int .i64 (unl false (2 : Int)))], [.v (.int .i64 (unl (decide (c1 ≤ a1)) (9 : Int)))]]) ∧ (([(unl false (2 : Int)), (unl (decide (c1 ≤ a1)) (9 : Int))] : List Int)).length ≤ 100) ∧ (post (.t (.c (.v (.int .i64 (firstNZ ([(unl false (2 : Int)), (unl (decide (c1 ≤ a1)) (9 : Int))] : List Int)))))))) ((false = false) ∧ ((numsP 1 2 (genC [[.v (.int .i64 (unl false (2 : Int)))], [.v (.int .i64 (unl false (9 : Int)))]]) ∧ (([(unl false (2 : Int)), (unl false (9 : Int))] : List Int)).length ≤ 100) ∧ (post (.t (.c (.v (.int .i64 (firstNZ ([(unl false (2 : Int)), (unl false (9 : Int))] : List Int))))))))))))
def ann_flash_CheckTable_1 : Ann := ⟨fun _ => none, fun _ => none, fun _ => [], noIt, false, fun _ => none, fun _ => none⟩
theorem ev_flash_CheckTable_1 (J : Inv) (i : Int) (a0 a1 : Int) (c0 c1 : Int) (post : DV → Prop) : evFn Tryd.prog tab S105 ann_flash_CheckTable_1 J Tryd.f119 [.t (.c (.v (.int .i64 i))), .t (.a [.v (.int .i64 a0), .v (.int .i64 a1)]), .t (.a [.v (.int .i64 c0), .v (.int .i64 c1)])] post = vc_flash_CheckTable_1 i a0 a1 c0 c1 post := by kernel_rfl
theorem fit_flash_CheckTable_1 : okFn ann_flash_CheckTable_1 Tryd.f119 = true := by kernel_rfl
theorem lp_flash_CheckTable_1 (J : Inv) (post : DV → Prop) : AllG J (loopsFn Tryd.prog tab S105 ann_flash_CheckTable_1 J Tryd.f119 post) = (True) := by kernel_rfl
theorem spec_flash_CheckTable_1 (i : Int) (a0 a1 : Int) (c0 c1 : Int) : vc_flash_CheckTable_1 i a0 a1 c0 c1 (fun r => LeD r (.t (.c (.v (.int .i64 (knE i (⟨a0, a1⟩ : Knot) (⟨c0, c1⟩ : Knot))))))) := by
 unfold vc_flash_CheckTable_1 knE
 refine cond_i (fun h => cond_i (fun q => ⟨rfl, ⟨numsP_gen [_, _], Nat.le_of_ble_eq_true rfl⟩, leI ?_⟩) (fun q => cond_i (fun r => ⟨⟨numsP_gen [_, _], Nat.le_of_ble_eq_true rfl⟩, leI ?_⟩) (fun r => ⟨rfl, ⟨numsP_gen [_, _], Nat.le_of_ble_eq_true rfl⟩, leI ?_⟩))) (fun h => ⟨rfl, cond_i (fun q => ⟨rfl, ⟨numsP_gen [_, _], Nat.le_of_ble_eq_true rfl⟩, leI ?_⟩) (fun q => cond_i (fun r => ⟨⟨numsP_gen [_, _], Nat.le_of_ble_eq_true rfl⟩, leI ?_⟩) (fun r => ⟨rfl, ⟨numsP_gen [_, _], Nat.le_of_ble_eq_true rfl⟩, leI ?_⟩))⟩)
 all_goals simp_all
 all_goals (rw [decide_eq_false (show ¬ a0 < c0 by omega)]; rfl)
def con_flash_CheckTable_1 : Con := fun args => match args with
 | [.t (.c (.v (.int .i64 i))), .t (.a [.v (.int .i64 a0), .v (.int .i64 a1)]), .t (.a [.v (.int .i64 c0), .v (.int .i64 c1)])] => some (.t (.c (.v (.int .i64 (knE i (⟨a0, a1⟩ : Knot) (⟨c0, c1⟩ : Knot))))), none, false)
 | _ => none
theorem ok_flash_CheckTable_1 : Ok Tryd.prog 119 con_flash_CheckTable_1 := by
 refine Ok.fn (ann := ann_flash_CheckTable_1) mixed tabOK VS105 ValidIt.no (fn := Tryd.f119) (by kernel_rfl) (by kernel_rfl) fit_flash_CheckTable_1 fun args r pre fresh h hp => ?_
 unfold con_flash_CheckTable_1 at h
 split at h
 ·rename_i i a0 a1 c0 c1
  cases h
  refine ⟨rfl, fun _ _ _ => False, _, LeA.refl _, Nat.le_of_ble_eq_true (by kernel_rfl), ?_, ?_⟩
  ·rw [ev_flash_CheckTable_1]; exact spec_flash_CheckTable_1 i a0 a1 c0 c1
  ·rw [lp_flash_CheckTable_1]; trivial
 ·cases h
noncomputable def St106 : Sum := addS S105 119 con_flash_CheckTable_1
theorem VSt106 : Valid Tryd.prog St106 := Valid.add VS105 ok_flash_CheckTable_1
def mk_cherenkov_flash_each_cherenkov_api_FlashKnot_0 (t : List Knot) (v0_0 : Int) : DS := ⟨[some (.t (.c (.sl 2 t.length (knsC t)))), some (.t (.fn 119 [])), none, none, none, none, none, none, none, some (.t (.c (.sl 2 t.length (knsC t)))), some (.t (.c (.v (.int .i64 ((t.length : Nat) : Int))))), some (.t (.c (.v (.int .i64 v0_0)))), none, none, none, none, none, none, none, none, none, none, none, none, none, none, none, none, none, none, none], [none, none, none, none, none, none, none, none, none, none, none, none, none, none, none, none, none, none, none, none, none, none, none, none, none, none, none, none, none, none, none]⟩
def vc_cherenkov_flash_each_cherenkov_api_FlashKnot (J : Inv) (t : List Knot) (post : DV → Prop) : Prop := ∃ n, J 0 (n :: []) (mk_cherenkov_flash_each_cherenkov_api_FlashKnot_0 t 0)
def ann_cherenkov_flash_each_cherenkov_api_FlashKnot : Ann := ⟨fun r => lookA r [(4, ([[], [], [], [], [3], [3, 4], [2, 3, 4, 5], [2, 3, 4, 5, 6], [], [0, 1, 2, 3, 4, 5, 6, 7, 8], [0, 1, 2, 3, 4, 5, 6, 7, 8, 9]], [[25], [25], [25], [25], [25], [25], [25], [25], [25], [], []]))], fun b => lookA b [(0, (none, some ⟨[0, 1, 9, 10, 11], [], []⟩))], fun _ => [], noIt, false, fun _ => none, fun _ => none⟩
theorem ev_cherenkov_flash_each_cherenkov_api_FlashKnot (J : Inv) (t : List Knot) (post : DV → Prop) : evFn Tryd.prog tab St106 ann_cherenkov_flash_each_cherenkov_api_FlashKnot J Tryd.f118 [.t (.c (.sl 2 t.length (knsC t))), .t (.fn 119 [])] post = vc_cherenkov_flash_each_cherenkov_api_FlashKnot J t post := by kernel_rfl
theorem fit_cherenkov_flash_each_cherenkov_api_FlashKnot : okFn ann_cherenkov_flash_each_cherenkov_api_FlashKnot Tryd.f118 = true := by kernel_rfl
def rd_cherenkov_flash_each_cherenkov_api_FlashKnot_0 (J : Inv) (t : List Knot) (v0_0 : Int) (nn0 : Nat) (post : DV → Prop) : Prop := cond (decide (v0_0 < ((t.length : Nat) : Int))) ((0 ≤ v0_0 ∧ v0_0 < ((t.length : Nat) : Int)) ∧ (lt (IntKind.i64.wrap (v0_0 - (1 : Int))) fun x1 => lt ((if x1 > (0 : Int) then x1 else (0 : Int))) fun x2 => (0 ≤ x2 ∧ x2 < ((t.length : Nat) : Int)) ∧ (cond ((knE v0_0 (⟨((knAt t x2.toNat).d), ((knAt t x2.toNat).y)⟩ : Knot) (⟨((knAt t v0_0.toNat).d), ((knAt t v0_0.toNat).y)⟩ : Knot)) != (0 : Int)) (post (.tu [.c (.v (.int .i64 v0_0)), .c (.v (.int .i64 (knE v0_0 (⟨((knAt t x2.toNat).d), ((knAt t x2.toNat).y)⟩ : Knot) (⟨((knAt t v0_0.toNat).d), ((knAt t v0_0.toNat).y)⟩ : Knot))))])) (lt (IntKind.i64.wrap (v0_0 + (1 : Int))) fun x3 => J 0 (nn0 :: []) (mk_cherenkov_flash_each_cherenkov_api_FlashKnot_0 t x3))))) (post (.tu [.c (.v (.int .i64 0)), .c (.v (.int .i64 0))]))
theorem er_cherenkov_flash_each_cherenkov_api_FlashKnot_0 (J : Inv) (t : List Knot) (v0_0 : Int) (nn0 : Nat) (post : DV → Prop) : round Tryd.prog tab St106 ann_cherenkov_flash_each_cherenkov_api_FlashKnot J Tryd.f118 post 0 (nn0 :: []) (mk_cherenkov_flash_each_cherenkov_api_FlashKnot_0 t v0_0) = rd_cherenkov_flash_each_cherenkov_api_FlashKnot_0 J t v0_0 nn0 post := by kernel_rfl
theorem lp_cherenkov_flash_each_cherenkov_api_FlashKnot (J : Inv) (post : DV → Prop) : AllG J (loopsFn Tryd.prog tab St106 ann_cherenkov_flash_each_cherenkov_api_FlashKnot J Tryd.f118 post) = (((∀ F s, ¬ J 0 (0 :: F) s) ∧ ∀ n F s, J 0 ((n + 1) :: F) s → round Tryd.prog tab St106 ann_cherenkov_flash_each_cherenkov_api_FlashKnot J Tryd.f118 post 0 (n :: F) s) ∧ True) := by kernel_rfl
def J_cherenkov_flash_each_cherenkov_api_FlashKnot (t : List Knot) : Inv := fun b F s => match b, F with
 | 0, [nn0] => ∃ (v0_0 : Int), s = mk_cherenkov_flash_each_cherenkov_api_FlashKnot_0 t v0_0 ∧ (t.length ≤ 1000000 ∧ 0 ≤ v0_0 ∧ v0_0 ≤ t.length ∧ (nn0 : Int) + v0_0 = t.length + 1 ∧ ∀ k : Nat, (k : Int) < v0_0 → knE (k : Int) (knAt t (k - 1)) (knAt t k) = 0)
 | _, _ => False
theorem rnd_cherenkov_flash_each_cherenkov_api_FlashKnot_0 (t : List Knot) (v0_0 : Int) (nn0 : Nat) (hp : (t).length ≤ 1000000) (hi : t.length ≤ 1000000 ∧ 0 ≤ v0_0 ∧ v0_0 ≤ t.length ∧ ((nn0 + 1) : Int) + v0_0 = t.length + 1 ∧ ∀ k : Nat, (k : Int) < v0_0 → knE (k : Int) (knAt t (k - 1)) (knAt t k) = 0) : rd_cherenkov_flash_each_cherenkov_api_FlashKnot_0 (J_cherenkov_flash_each_cherenkov_api_FlashKnot t) t v0_0 nn0 (fun r => LeD r (.tu [.c (.v (.int .i64 (scanI (ktE t) (t).length))), .c (.v (.int .i64 (scan (ktE t) (t).length)))])) := by
 obtain ⟨i0, i1, i2, i3, i4⟩ := hi
 obtain ⟨k, rfl⟩ : ∃ k : Nat, v0_0 = k := ⟨v0_0.toNat, by omega⟩
 have hk : (k : Int).toNat = k := rfl
 unfold rd_cherenkov_flash_each_cherenkov_api_FlashKnot_0
 rw [hk]
 refine cond_i (fun h => ?_) (fun h => ?_)
 ·have h := of_decide_eq_true h
  refine ⟨by omega, lt_i fun x1 h1 => lt_i fun x2 h2 => ?_⟩
  rw [wi (by omega)] at h1
  obtain ⟨m, hm⟩ : ∃ m : Nat, x2 = m := ⟨x2.toNat, by split at h2 <;> omega⟩
  have hm2 : m = k - 1 := by split at h2 <;> omega
  subst hm
  subst hm2
  clear h2
  refine ⟨by omega, cond_i (fun e => ?_) (fun e => lt_i fun x hx => ?_)⟩
  ·have e : knE (k : Int) (knAt t (k - 1)) (knAt t k) ≠ 0 := by simpa using e
   have hlt : k < t.length := by omega
   exact le2 (scanI_at (f := fun k => knE (k : Int) (knAt t (k - 1)) (knAt t k)) (fun j hj => i4 j (by omega)) hlt e).symm (scan_at (f := fun k => knE (k : Int) (knAt t (k - 1)) (knAt t k)) (fun j hj => i4 j (by omega)) hlt e).symm
  ·have e : knE (k : Int) (knAt t (k - 1)) (knAt t k) = 0 := by simpa using e
   rw [wi (by omega)] at hx
   subst hx
   refine ⟨_, rfl, i0, by omega, by omega, by omega, fun j hj => ?_⟩
   by_cases q : j = k
   ·rw [q]; exact e
   ·exact i4 j (by omega)
 ·have h := of_decide_eq_false h
  exact le2 (scanI_end (f := fun k => knE (k : Int) (knAt t (k - 1)) (knAt t k)) fun j hj => i4 j (by omega)).symm (scan_end (f := fun k => knE (k : Int) (knAt t (k - 1)) (knAt t k)) fun j hj => i4 j (by omega)).symm
theorem zero_cherenkov_flash_each_cherenkov_api_FlashKnot_0 (t : List Knot) (v0_0 : Int)  (hi : t.length ≤ 1000000 ∧ 0 ≤ v0_0 ∧ v0_0 ≤ t.length ∧ (0 : Int) + v0_0 = t.length + 1 ∧ ∀ k : Nat, (k : Int) < v0_0 → knE (k : Int) (knAt t (k - 1)) (knAt t k) = 0) : False := by
 omega
theorem spec_cherenkov_flash_each_cherenkov_api_FlashKnot (t : List Knot) (hp : (t).length ≤ 1000000) : vc_cherenkov_flash_each_cherenkov_api_FlashKnot (J_cherenkov_flash_each_cherenkov_api_FlashKnot t) t (fun r => LeD r (.tu [.c (.v (.int .i64 (scanI (ktE t) (t).length))), .c (.v (.int .i64 (scan (ktE t) (t).length)))])) := by
 unfold vc_cherenkov_flash_each_cherenkov_api_FlashKnot
 exact ⟨t.length + 1, 0, rfl, hp, by omega, by omega, by omega, fun j hj => by omega⟩
theorem all_cherenkov_flash_each_cherenkov_api_FlashKnot (t : List Knot) (hp : (t).length ≤ 1000000) : AllG (J_cherenkov_flash_each_cherenkov_api_FlashKnot t) (loopsFn Tryd.prog tab St106 ann_cherenkov_flash_each_cherenkov_api_FlashKnot (J_cherenkov_flash_each_cherenkov_api_FlashKnot t) Tryd.f118 (fun r => LeD r (.tu [.c (.v (.int .i64 (scanI (ktE t) (t).length))), .c (.v (.int .i64 (scan (ktE t) (t).length)))]))) := by
 rw [lp_cherenkov_flash_each_cherenkov_api_FlashKnot]
 refine ⟨⟨?_, ?_⟩, trivial⟩
 ·intro F s h
  obtain _ | ⟨g, F⟩ := F
  case cons => exact h.elim
  obtain ⟨w0, rfl, hi⟩ := h
  exact zero_cherenkov_flash_each_cherenkov_api_FlashKnot_0 t w0 hi
 ·intro n F s h
  obtain _ | ⟨g, F⟩ := F
  case cons => exact h.elim
  obtain ⟨w0, rfl, hi⟩ := h
  rw [er_cherenkov_flash_each_cherenkov_api_FlashKnot_0]
  exact rnd_cherenkov_flash_each_cherenkov_api_FlashKnot_0 t _ _ hp hi
def con_cherenkov_flash_each_cherenkov_api_FlashKnot : Con := fun args => match args with
 | [.t (.c (.sl 2 n_t c_t)), .t (.fn 119 [])] => some (.tu [.c (.v (.int .i64 (scanI (ktE (listC n_t mkKn c_t)) ((listC n_t mkKn c_t)).length))), .c (.v (.int .i64 (scan (ktE (listC n_t mkKn c_t)) ((listC n_t mkKn c_t)).length)))], some (numsP 2 n_t c_t ∧ ((listC n_t mkKn c_t)).length ≤ 1000000), false)
 | _ => none
theorem ok_cherenkov_flash_each_cherenkov_api_FlashKnot : Ok Tryd.prog 118 con_cherenkov_flash_each_cherenkov_api_FlashKnot := by
 refine Ok.fn (ann := ann_cherenkov_flash_each_cherenkov_api_FlashKnot) mixed tabOK VSt106 ValidIt.no (fn := Tryd.f118) (by kernel_rfl) (by kernel_rfl) fit_cherenkov_flash_each_cherenkov_api_FlashKnot fun args r pre fresh h hp => ?_
 unfold con_cherenkov_flash_each_cherenkov_api_FlashKnot at h
 split at h
 ·rename_i n_t c_t
  cases h
  obtain ⟨hp0, hp⟩ := hp
  refine ⟨rfl, J_cherenkov_flash_each_cherenkov_api_FlashKnot (listC n_t mkKn c_t), [.t (.c (.sl 2 ((listC n_t mkKn c_t).length) (knsC (listC n_t mkKn c_t)))), .t (.fn 119 [])], ?_, Nat.le_of_ble_eq_true (by kernel_rfl), ?_, ?_⟩
  ·exact (LeA_cons (leT_c ((leL_Knot hp0))) (LeA_cons (leT_f LeCs.nil) LeA_nil))
  ·rw [ev_cherenkov_flash_each_cherenkov_api_FlashKnot]; exact spec_cherenkov_flash_each_cherenkov_api_FlashKnot (listC n_t mkKn c_t) hp
  ·exact all_cherenkov_flash_each_cherenkov_api_FlashKnot (listC n_t mkKn c_t) hp
 ·cases h
noncomputable def St107 : Sum := addS St106 118 con_cherenkov_flash_each_cherenkov_api_FlashKnot
theorem VSt107 : Valid Tryd.prog St107 := Valid.add VSt106 ok_cherenkov_flash_each_cherenkov_api_FlashKnot
def vc_flash_CheckTable (t : List Knot) (post : DV → Prop) : Prop := cond ((cntW ((t.length : Nat) : Int) (8 : Int)) != (0 : Int)) (post (.tu [.c (.v (.int .i64 0)), .c (.v (.int .i64 (cntW ((t.length : Nat) : Int) (8 : Int))))])) ((numsP 2 t.length (knsC t) ∧ ((listC t.length mkKn (knsC t))).length ≤ 1000000) ∧ (post (.tu [.c (.v (.int .i64 (scanI (ktE (listC t.length mkKn (knsC t))) ((listC t.length mkKn (knsC t))).length))), .c (.v (.int .i64 (scan (ktE (listC t.length mkKn (knsC t))) ((listC t.length mkKn (knsC t))).length)))])))
def ann_flash_CheckTable : Ann := ⟨fun _ => none, fun _ => none, fun _ => [], noIt, false, fun _ => none, fun _ => none⟩
theorem ev_flash_CheckTable (J : Inv) (t : List Knot) (post : DV → Prop) : evFn Tryd.prog tab St107 ann_flash_CheckTable J Tryd.f53 [.t (.a [.sl 2 t.length (knsC t)])] post = vc_flash_CheckTable t post := by kernel_rfl
theorem fit_flash_CheckTable : okFn ann_flash_CheckTable Tryd.f53 = true := by kernel_rfl
theorem lp_flash_CheckTable (J : Inv) (post : DV → Prop) : AllG J (loopsFn Tryd.prog tab St107 ann_flash_CheckTable J Tryd.f53 post) = (True) := by kernel_rfl
theorem spec_flash_CheckTable (t : List Knot) : vc_flash_CheckTable t (fun r => LeD r (.tu [.c (.v (.int .i64 (tabI t))), .c (.v (.int .i64 (tabE t)))])) := by
 unfold vc_flash_CheckTable
 rw [kns_listC]
 refine cond_i (fun h => ?_) (fun h => ?_)
 ·have h : cntE t.length 8 ≠ 0 := by simpa [cntW, cntE] using h
  exact le2 (if_neg h).symm (if_neg h).symm
 ·have h : cntE t.length 8 = 0 := by simpa [cntW, cntE] using h
  refine ⟨⟨numsP_kns t, ?_⟩, le2 (if_pos h).symm (if_pos h).symm⟩
  have h2 := (fn2 h).2
  rw [unl_0 (by decide)] at h2
  have := of_decide_eq_true h2
  omega
def con_flash_CheckTable : Con := fun args => match args with
 | [.t (.a [.sl 2 n_t c_t])] => some (.tu [.c (.v (.int .i64 (tabI (listC n_t mkKn c_t)))), .c (.v (.int .i64 (tabE (listC n_t mkKn c_t))))], some (numsP 2 n_t c_t), false)
 | _ => none
theorem ok_flash_CheckTable : Ok Tryd.prog 53 con_flash_CheckTable := by
 refine Ok.fn (ann := ann_flash_CheckTable) mixed tabOK VSt107 ValidIt.no (fn := Tryd.f53) (by kernel_rfl) (by kernel_rfl) fit_flash_CheckTable fun args r pre fresh h hp => ?_
 unfold con_flash_CheckTable at h
 split at h
 ·rename_i n_t c_t
  cases h
  have hp0 := hp
  refine ⟨rfl, fun _ _ _ => False, [.t (.a [.sl 2 ((listC n_t mkKn c_t).length) (knsC (listC n_t mkKn c_t))])], ?_, Nat.le_of_ble_eq_true (by kernel_rfl), ?_, ?_⟩
  ·exact (LeA_cons (leT_a (LeCs.cons ((leL_Knot hp0)) LeCs.nil)) LeA_nil)
  ·rw [ev_flash_CheckTable]; exact spec_flash_CheckTable (listC n_t mkKn c_t)
  ·rw [lp_flash_CheckTable]; trivial
 ·cases h
noncomputable def St108 : Sum := addS St107 53 con_flash_CheckTable
theorem VSt108 : Valid Tryd.prog St108 := Valid.add VSt107 ok_flash_CheckTable
def vc_flash_yield_1 (c0 c1 : Int) (x : Int) (post : DV → Prop) : Prop := post (.t (.c (.v (.bool (decide (c0 ≥ x))))))
def ann_flash_yield_1 : Ann := ⟨fun _ => none, fun _ => none, fun _ => [], noIt, false, fun _ => none, fun _ => none⟩
theorem ev_flash_yield_1 (J : Inv) (c0 c1 : Int) (x : Int) (post : DV → Prop) : evFn Tryd.prog tab St108 ann_flash_yield_1 J Tryd.f152 [.t (.a [.v (.int .i64 c0), .v (.int .i64 c1)]), .t (.c (.px 1 0 (boxC [.v (.int .i64 x)])))] post = vc_flash_yield_1 c0 c1 x post := by kernel_rfl
theorem fit_flash_yield_1 : okFn ann_flash_yield_1 Tryd.f152 = true := by kernel_rfl
theorem lp_flash_yield_1 (J : Inv) (post : DV → Prop) : AllG J (loopsFn Tryd.prog tab St108 ann_flash_yield_1 J Tryd.f152 post) = (True) := by kernel_rfl
theorem spec_flash_yield_1 (c0 c1 : Int) (x : Int) : vc_flash_yield_1 c0 c1 x (fun r => LeD r (.t (.c (.v (.bool (fstP x (⟨c0, c1⟩ : Knot))))))) := by
 exact LeD.refl _
def con_flash_yield_1 : Con := fun args => match args with
 | [.t (.a [.v (.int .i64 c0), .v (.int .i64 c1)]), .t (.c (.px 1 0 c_pq))] => some (.t (.c (.v (.bool (fstP (cvInt (c_pq 0)) (⟨c0, c1⟩ : Knot))))), some (intsB [0] c_pq = true), false)
 | _ => none
theorem ok_flash_yield_1 : Ok Tryd.prog 152 con_flash_yield_1 := by
 refine Ok.fn (ann := ann_flash_yield_1) mixed tabOK VSt108 ValidIt.no (fn := Tryd.f152) (by kernel_rfl) (by kernel_rfl) fit_flash_yield_1 fun args r pre fresh h hp => ?_
 unfold con_flash_yield_1 at h
 split at h
 ·rename_i c0 c1 c_pq
  cases h
  have hp0 := hp
  refine ⟨rfl, fun _ _ _ => False, [.t (.a [.v (.int .i64 c0), .v (.int .i64 c1)]), .t (.c (.px 1 0 (boxC [.v (.int .i64 (cvInt (c_pq 0)))])))], ?_, Nat.le_of_ble_eq_true (by kernel_rfl), ?_, ?_⟩
  ·exact (LeA_cons (LeD.refl _) (LeA_cons (leT_c (leC_p (LeCs.cons (leC_i (intsB_get hp0 0 (by decide))) LeCs.nil))) LeA_nil))
  ·rw [ev_flash_yield_1]; exact spec_flash_yield_1 c0 c1 (cvInt (c_pq 0))
  ·rw [lp_flash_yield_1]; trivial
 ·cases h
noncomputable def St109 : Sum := addS St108 152 con_flash_yield_1
theorem VSt109 : Valid Tryd.prog St109 := Valid.add VSt108 ok_flash_yield_1
def mk_slices_IndexFunc_cherenkov_api_FlashKnot_cherenkov_api_FlashKnot_0 (t : List Knot) (x : Int) (v0_0 : Int) : DS := ⟨[some (.t (.c (.sl 2 t.length (knsC t)))), some (.t (.fn 152 [.px 1 0 (boxC [.v (.int .i64 x)])])), none, none, none, none, none, some (.t (.c (.v (.int .i64 ((t.length : Nat) : Int))))), some (.t (.c (.v (.int .i64 v0_0)))), none, none, none, none, none, none, none, none, none, none], [none, none, none, none, none, none, none, none, none, none, none, none, none, none, none, none, none, none, none]⟩
def vc_slices_IndexFunc_cherenkov_api_FlashKnot_cherenkov_api_FlashKnot (J : Inv) (t : List Knot) (x : Int) (post : DV → Prop) : Prop := ∃ n, J 0 (n :: []) (mk_slices_IndexFunc_cherenkov_api_FlashKnot_cherenkov_api_FlashKnot_0 t x 0)
def ann_slices_IndexFunc_cherenkov_api_FlashKnot_cherenkov_api_FlashKnot : Ann := ⟨fun _ => none, fun b => lookA b [(0, (none, some ⟨[0, 1, 7, 8], [], []⟩))], fun _ => [], noIt, false, fun _ => none, fun _ => none⟩
theorem ev_slices_IndexFunc_cherenkov_api_FlashKnot_cherenkov_api_FlashKnot (J : Inv) (t : List Knot) (x : Int) (post : DV → Prop) : evFn Tryd.prog tab St109 ann_slices_IndexFunc_cherenkov_api_FlashKnot_cherenkov_api_FlashKnot J Tryd.f151 [.t (.c (.sl 2 t.length (knsC t))), .t (.fn 152 [.px 1 0 (boxC [.v (.int .i64 x)])])] post = vc_slices_IndexFunc_cherenkov_api_FlashKnot_cherenkov_api_FlashKnot J t x post := by kernel_rfl
theorem fit_slices_IndexFunc_cherenkov_api_FlashKnot_cherenkov_api_FlashKnot : okFn ann_slices_IndexFunc_cherenkov_api_FlashKnot_cherenkov_api_FlashKnot Tryd.f151 = true := by kernel_rfl
def rd_slices_IndexFunc_cherenkov_api_FlashKnot_cherenkov_api_FlashKnot_0 (J : Inv) (t : List Knot) (x : Int) (v0_0 : Int) (nn0 : Nat) (post : DV → Prop) : Prop := cond (decide (v0_0 < ((t.length : Nat) : Int))) ((0 ≤ v0_0 ∧ v0_0 < ((t.length : Nat) : Int)) ∧ ((intsB [0] (boxC [.v (.int .i64 x)]) = true) ∧ (cond (fstP x (⟨((knAt t v0_0.toNat).d), ((knAt t v0_0.toNat).y)⟩ : Knot)) (post (.t (.c (.v (.int .i64 v0_0))))) (lt (IntKind.i64.wrap (v0_0 + (1 : Int))) fun x1 => J 0 (nn0 :: []) (mk_slices_IndexFunc_cherenkov_api_FlashKnot_cherenkov_api_FlashKnot_0 t x x1))))) (post (.t (.c (.v (.int .i64 (-1))))))
theorem er_slices_IndexFunc_cherenkov_api_FlashKnot_cherenkov_api_FlashKnot_0 (J : Inv) (t : List Knot) (x : Int) (v0_0 : Int) (nn0 : Nat) (post : DV → Prop) : round Tryd.prog tab St109 ann_slices_IndexFunc_cherenkov_api_FlashKnot_cherenkov_api_FlashKnot J Tryd.f151 post 0 (nn0 :: []) (mk_slices_IndexFunc_cherenkov_api_FlashKnot_cherenkov_api_FlashKnot_0 t x v0_0) = rd_slices_IndexFunc_cherenkov_api_FlashKnot_cherenkov_api_FlashKnot_0 J t x v0_0 nn0 post := by kernel_rfl
theorem lp_slices_IndexFunc_cherenkov_api_FlashKnot_cherenkov_api_FlashKnot (J : Inv) (post : DV → Prop) : AllG J (loopsFn Tryd.prog tab St109 ann_slices_IndexFunc_cherenkov_api_FlashKnot_cherenkov_api_FlashKnot J Tryd.f151 post) = (((∀ F s, ¬ J 0 (0 :: F) s) ∧ ∀ n F s, J 0 ((n + 1) :: F) s → round Tryd.prog tab St109 ann_slices_IndexFunc_cherenkov_api_FlashKnot_cherenkov_api_FlashKnot J Tryd.f151 post 0 (n :: F) s) ∧ True) := by kernel_rfl
def J_slices_IndexFunc_cherenkov_api_FlashKnot_cherenkov_api_FlashKnot (t : List Knot) (x : Int) : Inv := fun b F s => match b, F with
 | 0, [nn0] => ∃ (v0_0 : Int), s = mk_slices_IndexFunc_cherenkov_api_FlashKnot_cherenkov_api_FlashKnot_0 t x v0_0 ∧ (t.length ≤ 1000000 ∧ 0 ≤ v0_0 ∧ v0_0 ≤ t.length ∧ (nn0 : Int) + v0_0 = t.length + 1 ∧ ∀ k : Nat, (k : Int) < v0_0 → fstP x (knAt t k) = false)
 | _, _ => False
theorem rnd_slices_IndexFunc_cherenkov_api_FlashKnot_cherenkov_api_FlashKnot_0 (t : List Knot) (x : Int) (v0_0 : Int) (nn0 : Nat) (hp : (t).length ≤ 1000000) (hi : t.length ≤ 1000000 ∧ 0 ≤ v0_0 ∧ v0_0 ≤ t.length ∧ ((nn0 + 1) : Int) + v0_0 = t.length + 1 ∧ ∀ k : Nat, (k : Int) < v0_0 → fstP x (knAt t k) = false) : rd_slices_IndexFunc_cherenkov_api_FlashKnot_cherenkov_api_FlashKnot_0 (J_slices_IndexFunc_cherenkov_api_FlashKnot_cherenkov_api_FlashKnot t x) t x v0_0 nn0 (fun r => LeD r (.t (.c (.v (.int .i64 (idxP (fstP x) t)))))) := by
 obtain ⟨i0, i1, i2, i3, i4⟩ := hi
 obtain ⟨k, rfl⟩ : ∃ k : Nat, v0_0 = k := ⟨v0_0.toNat, by omega⟩
 have hk : (k : Int).toNat = k := rfl
 unfold rd_slices_IndexFunc_cherenkov_api_FlashKnot_cherenkov_api_FlashKnot_0
 rw [hk]
 refine cond_i (fun h => ?_) (fun h => leI ?_)
 ·have hlt : k < t.length := by have := of_decide_eq_true h; omega
  refine ⟨by omega, rfl, cond_i (fun e => leI ?_) (fun e => lt_i fun x hx => ?_)⟩
  ·exact (idxP_at (d := (⟨0, 0⟩ : Knot)) hlt (fun j hj => i4 j (by omega)) e).symm
  ·rw [wi (by omega)] at hx
   subst hx
   exact ⟨_, rfl, i0, by omega, by omega, by omega, fun j hj => by
    by_cases q : j = k
    ·rw [q]; exact e
    ·exact i4 j (by omega)⟩
 ·have hge : k = t.length := by have := of_decide_eq_false h; omega
  subst hge
  exact (idxP_none (d := (⟨0, 0⟩ : Knot)) fun j hj => i4 j (by omega)).symm
theorem zero_slices_IndexFunc_cherenkov_api_FlashKnot_cherenkov_api_FlashKnot_0 (t : List Knot) (x : Int) (v0_0 : Int)  (hi : t.length ≤ 1000000 ∧ 0 ≤ v0_0 ∧ v0_0 ≤ t.length ∧ (0 : Int) + v0_0 = t.length + 1 ∧ ∀ k : Nat, (k : Int) < v0_0 → fstP x (knAt t k) = false) : False := by
 omega
theorem spec_slices_IndexFunc_cherenkov_api_FlashKnot_cherenkov_api_FlashKnot (t : List Knot) (x : Int) (hp : (t).length ≤ 1000000) : vc_slices_IndexFunc_cherenkov_api_FlashKnot_cherenkov_api_FlashKnot (J_slices_IndexFunc_cherenkov_api_FlashKnot_cherenkov_api_FlashKnot t x) t x (fun r => LeD r (.t (.c (.v (.int .i64 (idxP (fstP x) t)))))) := by
 unfold vc_slices_IndexFunc_cherenkov_api_FlashKnot_cherenkov_api_FlashKnot
 exact ⟨t.length + 1, 0, rfl, hp, by omega, by omega, by omega, fun j hj => by omega⟩
theorem all_slices_IndexFunc_cherenkov_api_FlashKnot_cherenkov_api_FlashKnot (t : List Knot) (x : Int) (hp : (t).length ≤ 1000000) : AllG (J_slices_IndexFunc_cherenkov_api_FlashKnot_cherenkov_api_FlashKnot t x) (loopsFn Tryd.prog tab St109 ann_slices_IndexFunc_cherenkov_api_FlashKnot_cherenkov_api_FlashKnot (J_slices_IndexFunc_cherenkov_api_FlashKnot_cherenkov_api_FlashKnot t x) Tryd.f151 (fun r => LeD r (.t (.c (.v (.int .i64 (idxP (fstP x) t))))))) := by
 rw [lp_slices_IndexFunc_cherenkov_api_FlashKnot_cherenkov_api_FlashKnot]
 refine ⟨⟨?_, ?_⟩, trivial⟩
 ·intro F s h
  obtain _ | ⟨g, F⟩ := F
  case cons => exact h.elim
  obtain ⟨w0, rfl, hi⟩ := h
  exact zero_slices_IndexFunc_cherenkov_api_FlashKnot_cherenkov_api_FlashKnot_0 t x w0 hi
 ·intro n F s h
  obtain _ | ⟨g, F⟩ := F
  case cons => exact h.elim
  obtain ⟨w0, rfl, hi⟩ := h
  rw [er_slices_IndexFunc_cherenkov_api_FlashKnot_cherenkov_api_FlashKnot_0]
  exact rnd_slices_IndexFunc_cherenkov_api_FlashKnot_cherenkov_api_FlashKnot_0 t x _ _ hp hi
def con_slices_IndexFunc_cherenkov_api_FlashKnot_cherenkov_api_FlashKnot : Con := fun args => match args with
 | [.t (.c (.sl 2 n_t c_t)), .t (.fn 152 [.px 1 0 c_pq])] => some (.t (.c (.v (.int .i64 (idxP (fstP (cvInt (c_pq 0))) (listC n_t mkKn c_t))))), some (numsP 2 n_t c_t ∧ intsB [0] c_pq = true ∧ ((listC n_t mkKn c_t)).length ≤ 1000000), false)
 | _ => none
theorem ok_slices_IndexFunc_cherenkov_api_FlashKnot_cherenkov_api_FlashKnot : Ok Tryd.prog 151 con_slices_IndexFunc_cherenkov_api_FlashKnot_cherenkov_api_FlashKnot := by
 refine Ok.fn (ann := ann_slices_IndexFunc_cherenkov_api_FlashKnot_cherenkov_api_FlashKnot) mixed tabOK VSt109 ValidIt.no (fn := Tryd.f151) (by kernel_rfl) (by kernel_rfl) fit_slices_IndexFunc_cherenkov_api_FlashKnot_cherenkov_api_FlashKnot fun args r pre fresh h hp => ?_
 unfold con_slices_IndexFunc_cherenkov_api_FlashKnot_cherenkov_api_FlashKnot at h
 split at h
 ·rename_i n_t c_t c_pq
  cases h
  obtain ⟨hp0, hp1, hp⟩ := hp
  refine ⟨rfl, J_slices_IndexFunc_cherenkov_api_FlashKnot_cherenkov_api_FlashKnot (listC n_t mkKn c_t) (cvInt (c_pq 0)), [.t (.c (.sl 2 ((listC n_t mkKn c_t).length) (knsC (listC n_t mkKn c_t)))), .t (.fn 152 [.px 1 0 (boxC [.v (.int .i64 (cvInt (c_pq 0)))])])], ?_, Nat.le_of_ble_eq_true (by kernel_rfl), ?_, ?_⟩
  ·exact (LeA_cons (leT_c ((leL_Knot hp0))) (LeA_cons (leT_f (LeCs.cons (leC_p (LeCs.cons (leC_i (intsB_get hp1 0 (by decide))) LeCs.nil)) LeCs.nil)) LeA_nil))
  ·rw [ev_slices_IndexFunc_cherenkov_api_FlashKnot_cherenkov_api_FlashKnot]; exact spec_slices_IndexFunc_cherenkov_api_FlashKnot_cherenkov_api_FlashKnot (listC n_t mkKn c_t) (cvInt (c_pq 0)) hp
  ·exact all_slices_IndexFunc_cherenkov_api_FlashKnot_cherenkov_api_FlashKnot (listC n_t mkKn c_t) (cvInt (c_pq 0)) hp
 ·cases h
noncomputable def St110 : Sum := addS St109 151 con_slices_IndexFunc_cherenkov_api_FlashKnot_cherenkov_api_FlashKnot
theorem VSt110 : Valid Tryd.prog St110 := Valid.add VSt109 ok_slices_IndexFunc_cherenkov_api_FlashKnot_cherenkov_api_FlashKnot
def vc_flash_yield (t : List Knot) (x : Int) (post : DV → Prop) : Prop := (numsP 2 t.length (knsC t) ∧ intsB [0] (boxC [.v (.int .i64 x)]) = true ∧ ((listC t.length mkKn (knsC t))).length ≤ 1000000) ∧ (cond (decide ((idxP (fstP x) (listC t.length mkKn (knsC t))) < (0 : Int))) (post (.t (.c (.v (.int .i64 0))))) ((0 ≤ (idxP (fstP x) (listC t.length mkKn (knsC t))) ∧ (idxP (fstP x) (listC t.length mkKn (knsC t))) < ((t.length : Nat) : Int)) ∧ (post (.t (.c (.v (.int .i64 ((knAt t ((idxP (fstP x) (listC t.length mkKn (knsC t))).toNat)).y))))))))
def ann_flash_yield : Ann := ⟨fun _ => none, fun _ => none, fun _ => [], noIt, false, fun _ => none, fun _ => none⟩
theorem ev_flash_yield (J : Inv) (t : List Knot) (x : Int) (post : DV → Prop) : evFn Tryd.prog tab St110 ann_flash_yield J Tryd.f120 [.t (.a [.sl 2 t.length (knsC t)]), .t (.c (.v (.int .i64 x)))] post = vc_flash_yield t x post := by kernel_rfl
theorem fit_flash_yield : okFn ann_flash_yield Tryd.f120 = true := by kernel_rfl
theorem lp_flash_yield (J : Inv) (post : DV → Prop) : AllG J (loopsFn Tryd.prog tab St110 ann_flash_yield J Tryd.f120 post) = (True) := by kernel_rfl
theorem spec_flash_yield (t : List Knot) (x : Int) (hp : (t).length ≤ 1000000) : vc_flash_yield t x (fun r => LeD r (.t (.c (.v (.int .i64 (yldF x t)))))) := by
 unfold vc_flash_yield
 simp only [kns_listC]
 obtain ⟨y1, y2⟩ := yldF_idx x t
 have rg := idxP_rg (fstP x) t
 refine ⟨⟨numsP_kns t, rfl, hp⟩, cond_i (fun h => leI ?_) (fun h => ⟨?_, leI ?_⟩)⟩
 ·exact (y1 (of_decide_eq_true h)).symm
 ·have := of_decide_eq_false h; omega
 ·have := of_decide_eq_false h
  exact (y2 (by omega)).symm
def con_flash_yield : Con := fun args => match args with
 | [.t (.a [.sl 2 n_t c_t]), .t (.c (.v (.int .i64 x)))] => some (.t (.c (.v (.int .i64 (yldF x (listC n_t mkKn c_t))))), some (numsP 2 n_t c_t ∧ ((listC n_t mkKn c_t)).length ≤ 1000000), false)
 | _ => none
theorem ok_flash_yield : Ok Tryd.prog 120 con_flash_yield := by
 refine Ok.fn (ann := ann_flash_yield) mixed tabOK VSt110 ValidIt.no (fn := Tryd.f120) (by kernel_rfl) (by kernel_rfl) fit_flash_yield fun args r pre fresh h hp => ?_
 unfold con_flash_yield at h
 split at h
 ·rename_i n_t c_t x
  cases h
  obtain ⟨hp0, hp⟩ := hp
  refine ⟨rfl, fun _ _ _ => False, [.t (.a [.sl 2 ((listC n_t mkKn c_t).length) (knsC (listC n_t mkKn c_t))]), .t (.c (.v (.int .i64 x)))], ?_, Nat.le_of_ble_eq_true (by kernel_rfl), ?_, ?_⟩
  ·exact (LeA_cons (leT_a (LeCs.cons ((leL_Knot hp0)) LeCs.nil)) (LeA_cons (LeD.refl _) LeA_nil))
  ·rw [ev_flash_yield]; exact spec_flash_yield (listC n_t mkKn c_t) x hp
  ·rw [lp_flash_yield]; trivial
 ·cases h
noncomputable def St111 : Sum := addS St110 120 con_flash_yield
theorem VSt111 : Valid Tryd.prog St111 := Valid.add VSt110 ok_flash_yield
def vc_flash_LightAt (t : List Knot) (x : Int) (u : Int) (post : DV → Prop) : Prop := (numsP 2 t.length (knsC t)) ∧ ((cond (inB x (0 : Int) (100000 : Int)) (True) ((false = false) ∧ (True))) ∧ (lt ((bif inB x (0 : Int) (100000 : Int) then inB u (0 : Int) (100000 : Int) else false)) fun x1 => (numsP 1 2 (genC [[.v (.int .i64 (tabE (listC t.length mkKn (knsC t))))], [.v (.int .i64 (unl x1 (2 : Int)))]]) ∧ (([(tabE (listC t.length mkKn (knsC t))), (unl x1 (2 : Int))] : List Int)).length ≤ 100) ∧ (cond ((firstNZ ([(tabE (listC t.length mkKn (knsC t))), (unl x1 (2 : Int))] : List Int)) != (0 : Int)) (post (.tu [.a [.v (.int .i64 0), .v (.int .i64 0)], .c (.v (.int .i64 (firstNZ ([(tabE (listC t.length mkKn (knsC t))), (unl x1 (2 : Int))] : List Int))))])) ((numsP 2 t.length (knsC t) ∧ ((listC t.length mkKn (knsC t))).length ≤ 1000000) ∧ (lt (IntKind.i64.wrap (u * (yldF x (listC t.length mkKn (knsC t))))) fun x2 => lt (IntKind.i64.wrap (Int.tdiv x2 (1000 : Int))) fun x3 => (IntKind.i64 = IntKind.i64 ∧ (1000 : Int) ≠ 0) ∧ (lt (IntKind.i64.wrap (x2 + (1000 : Int))) fun x4 => lt (IntKind.i64.wrap (x4 - (1 : Int))) fun x5 => lt (IntKind.i64.wrap (Int.tdiv x5 (1000 : Int))) fun x6 => (IntKind.i64 = IntKind.i64 ∧ (1000 : Int) ≠ 0) ∧ (post (.tu [.a [.v (.int .i64 x3), .v (.int .i64 x6)], .c (.v (.int .i64 0))]))))))))
def ann_flash_LightAt : Ann := ⟨fun _ => none, fun _ => none, fun _ => [], noIt, false, fun r => lookA r [(2, (3, [10]))], fun _ => none⟩
theorem ev_flash_LightAt (J : Inv) (t : List Knot) (x : Int) (u : Int) (post : DV → Prop) : evFn Tryd.prog tab St111 ann_flash_LightAt J Tryd.f55 [.t (.a [.sl 2 t.length (knsC t)]), .t (.c (.v (.int .i64 x))), .t (.c (.v (.int .i64 u)))] post = vc_flash_LightAt t x u post := by kernel_rfl
theorem fit_flash_LightAt : okFn ann_flash_LightAt Tryd.f55 = true := by kernel_rfl
theorem lp_flash_LightAt (J : Inv) (post : DV → Prop) : AllG J (loopsFn Tryd.prog tab St111 ann_flash_LightAt J Tryd.f55 post) = (True) := by kernel_rfl
theorem spec_flash_LightAt (t : List Knot) (x : Int) (u : Int) : vc_flash_LightAt t x u (fun r => LeD r (.tu [.a [.v (.int .i64 ((lgtV t x u).lo)), .v (.int .i64 ((lgtV t x u).hi))], .c (.v (.int .i64 (lgtE t x u)))])) := by
 unfold vc_flash_LightAt
 simp only [kns_listC]
 refine ⟨numsP_kns t, cond_i (fun _ => trivial) (fun _ => by trivial), lt_i fun x1 h1 => ⟨⟨numsP_gen [_, _], Nat.le_of_ble_eq_true rfl⟩, cond_i (fun h => ?_) (fun h => ?_)⟩⟩
 all_goals
  have e1 : x1 = (inB x 0 100000 && inB u 0 100000) := by rw [← h1]; cases inB x 0 100000 <;> rfl
  subst e1
 ·have h : lgtE t x u ≠ 0 := by simpa [lgtE] using h
  rw [show lgtV t x u = ⟨0, 0⟩ from if_neg h]
  exact LeD.refl _
 ·have h : lgtE t x u = 0 := by simpa [lgtE] using h
  obtain ⟨k1, k2⟩ := fn2 h
  rw [unl_0 (by decide), Bool.and_eq_true, inB_true, inB_true] at k2
  have yr := yld_rg k1 x
  have hl := (tab_ok k1).1
  rw [show lgtV t x u = lgtR t x u from if_pos h, h]
  unfold lgtR
  have m1 := mul_rg (x := u) (y := yldF x t) (A := 100000) (B := 10000) (C := 1000000000) (by omega) (by omega) (by decide)
  have m2 := Int.mul_nonneg (a := u) (b := yldF x t) (by omega) (by omega)
  refine ⟨⟨numsP_kns t, by omega⟩, lt_i fun x2 g2 => lt_i fun x3 g3 => ⟨by simp, lt_i fun x4 g4 => lt_i fun x5 g5 => lt_i fun x6 g6 => ⟨by simp, ?_⟩⟩⟩
  rw [wi (by omega)] at g2
  subst g2
  rw [Int.tdiv_eq_ediv_of_nonneg m2, wi (by omega)] at g3
  rw [wi (by omega)] at g4
  subst g3 g4
  rw [wi (by omega)] at g5
  subst g5
  rw [Int.tdiv_eq_ediv_of_nonneg (by omega), wi (by omega), show u * yldF x t + 1000 - 1 = u * yldF x t + 999 by omega] at g6
  subst g6
  exact LeD.refl _
def con_flash_LightAt : Con := fun args => match args with
 | [.t (.a [.sl 2 n_t c_t]), .t (.c (.v (.int .i64 x))), .t (.c (.v (.int .i64 u)))] => some (.tu [.a [.v (.int .i64 ((lgtV (listC n_t mkKn c_t) x u).lo)), .v (.int .i64 ((lgtV (listC n_t mkKn c_t) x u).hi))], .c (.v (.int .i64 (lgtE (listC n_t mkKn c_t) x u)))], some (numsP 2 n_t c_t), false)
 | _ => none
theorem ok_flash_LightAt : Ok Tryd.prog 55 con_flash_LightAt := by
 refine Ok.fn (ann := ann_flash_LightAt) mixed tabOK VSt111 ValidIt.no (fn := Tryd.f55) (by kernel_rfl) (by kernel_rfl) fit_flash_LightAt fun args r pre fresh h hp => ?_
 unfold con_flash_LightAt at h
 split at h
 ·rename_i n_t c_t x u
  cases h
  have hp0 := hp
  refine ⟨rfl, fun _ _ _ => False, [.t (.a [.sl 2 ((listC n_t mkKn c_t).length) (knsC (listC n_t mkKn c_t))]), .t (.c (.v (.int .i64 x))), .t (.c (.v (.int .i64 u)))], ?_, Nat.le_of_ble_eq_true (by kernel_rfl), ?_, ?_⟩
  ·exact (LeA_cons (leT_a (LeCs.cons ((leL_Knot hp0)) LeCs.nil)) (LeA_cons (LeD.refl _) (LeA_cons (LeD.refl _) LeA_nil)))
  ·rw [ev_flash_LightAt]; exact spec_flash_LightAt (listC n_t mkKn c_t) x u
  ·rw [lp_flash_LightAt]; trivial
 ·cases h
noncomputable def St112 : Sum := addS St111 55 con_flash_LightAt
theorem VSt112 : Valid Tryd.prog St112 := Valid.add VSt111 ok_flash_LightAt
def vc_flash_fitting (r0 r1 : Int) (y : Int) (post : DV → Prop) : Prop := cond (y == (0 : Int)) (cond (decide (r0 > (0 : Int))) (post (.t (.a [.v (.int .i64 100001), .v (.int .i64 100000)]))) (post (.t (.a [.v (.int .i64 0), .v (.int .i64 100000)])))) (cond (decide (r0 > (0 : Int))) (lt (IntKind.i64.wrap (r0 - (1 : Int))) fun x1 => lt (IntKind.i64.wrap (x1 * (1000 : Int))) fun x2 => lt (IntKind.i64.wrap (Int.tdiv x2 y)) fun x3 => (IntKind.i64 = IntKind.i64 ∧ y ≠ 0) ∧ (lt (IntKind.i64.wrap (x3 + (1 : Int))) fun x4 => lt (IntKind.i64.wrap (r1 + (1 : Int))) fun x5 => lt (IntKind.i64.wrap (x5 * (1000 : Int))) fun x6 => lt (IntKind.i64.wrap (x6 - (1 : Int))) fun x7 => lt (IntKind.i64.wrap (Int.tdiv x7 y)) fun x8 => (IntKind.i64 = IntKind.i64 ∧ y ≠ 0) ∧ (lt ((if x8 < (100000 : Int) then x8 else (100000 : Int))) fun x9 => post (.t (.a [.v (.int .i64 x4), .v (.int .i64 x9)]))))) (lt (IntKind.i64.wrap (r1 + (1 : Int))) fun x10 => lt (IntKind.i64.wrap (x10 * (1000 : Int))) fun x11 => lt (IntKind.i64.wrap (x11 - (1 : Int))) fun x12 => lt (IntKind.i64.wrap (Int.tdiv x12 y)) fun x13 => (IntKind.i64 = IntKind.i64 ∧ y ≠ 0) ∧ (lt ((if x13 < (100000 : Int) then x13 else (100000 : Int))) fun x14 => post (.t (.a [.v (.int .i64 0), .v (.int .i64 x14)])))))
def ann_flash_fitting : Ann := ⟨fun r => lookA r [(8, ([[], [0], [], [2], [2, 3], [2, 3, 4], [2, 3, 4, 5], [], [2, 3, 4, 5, 6, 7], [0, 1, 2, 3, 4, 5, 6, 7, 8], [0, 1, 2, 3, 4, 5, 6, 7, 8, 9], [0, 1, 2, 3, 4, 5, 6, 7, 8, 9, 10]], [[], [], [], [], [], [], [], [], [], [], [], []]))], fun _ => none, fun _ => [], noIt, false, fun _ => none, fun _ => none⟩
theorem ev_flash_fitting (J : Inv) (r0 r1 : Int) (y : Int) (post : DV → Prop) : evFn Tryd.prog tab St112 ann_flash_fitting J Tryd.f122 [.t (.a [.v (.int .i64 r0), .v (.int .i64 r1)]), .t (.c (.v (.int .i64 y)))] post = vc_flash_fitting r0 r1 y post := by kernel_rfl
theorem fit_flash_fitting : okFn ann_flash_fitting Tryd.f122 = true := by kernel_rfl
theorem lp_flash_fitting (J : Inv) (post : DV → Prop) : AllG J (loopsFn Tryd.prog tab St112 ann_flash_fitting J Tryd.f122 post) = (True) := by kernel_rfl
theorem spec_flash_fitting (r0 r1 : Int) (y : Int) (hp : (0 ≤ y ∧ y ≤ 10000) ∧ (0 ≤ r0 ∧ r0 ≤ 1000000) ∧ 0 ≤ r1 ∧ r1 ≤ 1000000) : vc_flash_fitting r0 r1 y (fun r => LeD r (.t (.a [.v (.int .i64 ((fitG (⟨r0, r1⟩ : Rg) y).lo)), .v (.int .i64 ((fitG (⟨r0, r1⟩ : Rg) y).hi))]))) := by
 obtain ⟨q1, q2, q3⟩ := hp
 unfold vc_flash_fitting fitG
 refine cond_i (fun h => ?_) (fun h => ?_)
 ·have h : y = 0 := by simpa using h
  simp only [if_pos h]
  refine cond_i (fun g => ?_) (fun g => ?_)
  ·rw [if_pos (of_decide_eq_true g)]; exact LeD.refl _
  ·rw [if_neg (of_decide_eq_false g)]; exact LeD.refl _
 ·have h : y ≠ 0 := by simpa using h
  simp only [if_neg h]
  have w2 := Int.ediv_nonneg (a := (r1 + 1) * 1000 - 1) (b := y) (by omega) (by omega)
  have v2 := Int.ediv_le_self (a := (r1 + 1) * 1000 - 1) y (by omega)
  refine cond_i (fun g => ?_) (fun g => ?_)
  ·have g := of_decide_eq_true g
   rw [if_pos g]
   have w1 := Int.ediv_nonneg (a := (r0 - 1) * 1000) (b := y) (by omega) (by omega)
   have v1 := Int.ediv_le_self (a := (r0 - 1) * 1000) y (by omega)
   refine lt_i fun x1 h1 => lt_i fun x2 h2 => lt_i fun x3 h3 => ⟨⟨trivial, h⟩, lt_i fun x4 h4 => lt_i fun x5 h5 => lt_i fun x6 h6 => lt_i fun x7 h7 => lt_i fun x8 h8 => ⟨⟨trivial, h⟩, lt_i fun x9 h9 => ?_⟩⟩
   rw [wi (by omega)] at h1
   subst h1
   rw [wi (by omega)] at h2
   subst h2
   rw [Int.tdiv_eq_ediv_of_nonneg (by omega), wi (by omega)] at h3
   subst h3
   rw [wi (by omega)] at h4
   subst h4
   rw [wi (by omega)] at h5
   subst h5
   rw [wi (by omega)] at h6
   subst h6
   rw [wi (by omega)] at h7
   subst h7
   rw [Int.tdiv_eq_ediv_of_nonneg (by omega), wi (by omega)] at h8
   subst h8
   rw [mn_if] at h9
   subst h9
   exact LeD.refl _
  ·rw [if_neg (of_decide_eq_false g)]
   refine lt_i fun x5 h5 => lt_i fun x6 h6 => lt_i fun x7 h7 => lt_i fun x8 h8 => ⟨⟨trivial, h⟩, lt_i fun x9 h9 => ?_⟩
   rw [wi (by omega)] at h5
   subst h5
   rw [wi (by omega)] at h6
   subst h6
   rw [wi (by omega)] at h7
   subst h7
   rw [Int.tdiv_eq_ediv_of_nonneg (by omega), wi (by omega)] at h8
   subst h8
   rw [mn_if] at h9
   subst h9
   exact LeD.refl _
def con_flash_fitting : Con := fun args => match args with
 | [.t (.a [.v (.int .i64 r0), .v (.int .i64 r1)]), .t (.c (.v (.int .i64 y)))] => some (.t (.a [.v (.int .i64 ((fitG (⟨r0, r1⟩ : Rg) y).lo)), .v (.int .i64 ((fitG (⟨r0, r1⟩ : Rg) y).hi))]), some ((0 ≤ y ∧ y ≤ 10000) ∧ (0 ≤ r0 ∧ r0 ≤ 1000000) ∧ 0 ≤ r1 ∧ r1 ≤ 1000000), false)
 | _ => none
theorem ok_flash_fitting : Ok Tryd.prog 122 con_flash_fitting := by
 refine Ok.fn (ann := ann_flash_fitting) mixed tabOK VSt112 ValidIt.no (fn := Tryd.f122) (by kernel_rfl) (by kernel_rfl) fit_flash_fitting fun args r pre fresh h hp => ?_
 unfold con_flash_fitting at h
 split at h
 ·rename_i r0 r1 y
  cases h
  refine ⟨rfl, fun _ _ _ => False, _, LeA.refl _, Nat.le_of_ble_eq_true (by kernel_rfl), ?_, ?_⟩
  ·rw [ev_flash_fitting]; exact spec_flash_fitting r0 r1 y hp
  ·rw [lp_flash_fitting]; trivial
 ·cases h
noncomputable def St113 : Sum := addS St112 122 con_flash_fitting
theorem VSt113 : Valid Tryd.prog St113 := Valid.add VSt112 ok_flash_fitting
def mk_flash_EnergiesAt_0 (t : List Knot) (l : List FHit) (p0 p1 p2 : Int) (v0_0 : List (List CV)) (v0_1 : Int) : DS := ⟨[none, none, none, some (.t (.c (.p 3 0))), none, some (.t (.c (.p 5 0))), some (.t (.c (.p 6 0))), none, none, none, some (.t (.c (.os 10))), none, none, none, none, none, none, none, none, none, none, none, none, none, none, none, none, none, none, none, some (.t (.c (.sl 7 l.length (hitsC l)))), some (.t (.c (.v (.int .i64 ((l.length : Nat) : Int))))), some (.t (.c (.v (.int .i64 v0_1)))), none, none, none, none, none, none, none, none, none, none, none, none, none, none, none, none, none, none, none, none, none, none, none, none, none, none], [none, none, none, some (.box 88 [.sl 2 t.length (knsC t)]), none, some (.box 24 [.v (.int .i64 p0), .v (.int .i64 p1), .v (.int .i64 p2)]), some (.box 94 [.v (.int .i64 0), .v (.int .i64 0)]), none, none, none, some (.gen 94 2 v0_0), none, none, none, none, none, none, none, none, none, none, none, none, none, none, none, none, none, none, none, none, none, none, none, none, none, none, none, none, none, none, none, none, none, none, none, none, none, none, none, none, none, none, none, none, none, none, none, none]⟩
def vc_flash_EnergiesAt (J : Inv) (t : List Knot) (l : List FHit) (p0 p1 p2 : Int) (post : DV → Prop) : Prop := (numsP 2 t.length (knsC t)) ∧ ((numsP 7 l.length (hitsC l)) ∧ ((numsP 1 3 (genC [[.v (.int .i64 (tabE (listC t.length mkKn (knsC t))))], [.v (.int .i64 (hitsE (listC l.length mkHit (hitsC l))))], [.v (.int .i64 (posE (⟨p0, p1, p2⟩ : P3)))]]) ∧ (([(tabE (listC t.length mkKn (knsC t))), (hitsE (listC l.length mkHit (hitsC l))), (posE (⟨p0, p1, p2⟩ : P3))] : List Int)).length ≤ 100) ∧ (cond ((firstNZ ([(tabE (listC t.length mkKn (knsC t))), (hitsE (listC l.length mkHit (hitsC l))), (posE (⟨p0, p1, p2⟩ : P3))] : List Int)) != (0 : Int)) (post (.tu [.a [.v (.int .i64 0), .v (.int .i64 0)], .c (.v (.int .i64 (firstNZ ([(tabE (listC t.length mkKn (knsC t))), (hitsE (listC l.length mkHit (hitsC l))), (posE (⟨p0, p1, p2⟩ : P3))] : List Int))))])) (∃ n, J 0 (n :: []) (mk_flash_EnergiesAt_0 t l p0 p1 p2 ([]) 0)))))
def ann_flash_EnergiesAt : Ann := ⟨fun r => lookA r [(2, ([[], [], [1], [], [1, 2, 3], [0, 1, 2, 3, 4], [0, 1, 2, 3, 4, 5], [0, 1, 2, 3, 4, 5, 6]], [[21, 23, 24, 25], [21, 23, 24, 25], [23, 24, 25], [21, 23, 24, 25], [24, 25], [25], [], []])), (9, ([[], [], [1], [], [], [], [5], [4, 5, 6], [4, 5, 6, 7], [3, 4, 5, 6, 7, 8], [1, 2, 3, 4, 5, 6, 7, 8, 9], [1, 2, 3, 4, 5, 6, 7, 8, 9, 10], [0, 1, 2, 3, 4, 5, 6, 7, 8, 9, 10, 11], [0, 1, 2, 3, 4, 5, 6, 7, 8, 9, 10, 11, 12]], [[43, 44, 45, 46, 47], [43, 44, 45, 46, 47], [43, 44, 45, 46, 47], [43, 44, 45, 46, 47], [43, 44, 45, 46, 47], [43, 44, 45, 46, 47], [43, 44, 45, 46, 47], [44, 45, 46, 47], [45, 46, 47], [46, 47], [47], [], [], []]))], fun b => lookA b [(0, (none, some ⟨[3, 5, 6, 30, 31, 32], [3, 5, 6], [(10, .gen 94 2 [])]⟩))], fun _ => [], noIt, false, fun _ => none, fun _ => none⟩
theorem ev_flash_EnergiesAt (J : Inv) (t : List Knot) (l : List FHit) (p0 p1 p2 : Int) (post : DV → Prop) : evFn Tryd.prog tab St113 ann_flash_EnergiesAt J Tryd.f56 [.t (.a [.sl 2 t.length (knsC t)]), .t (.c (.sl 7 l.length (hitsC l))), .t (.a [.v (.int .i64 p0), .v (.int .i64 p1), .v (.int .i64 p2)])] post = vc_flash_EnergiesAt J t l p0 p1 p2 post := by kernel_rfl
theorem fit_flash_EnergiesAt : okFn ann_flash_EnergiesAt Tryd.f56 = true := by kernel_rfl
def rd_flash_EnergiesAt_0 (J : Inv) (t : List Knot) (l : List FHit) (p0 p1 p2 : Int) (v0_0 : List (List CV)) (v0_1 : Int) (nn0 : Nat) (post : DV → Prop) : Prop := cond (decide (v0_1 < ((l.length : Nat) : Int))) ((0 ≤ v0_1 ∧ v0_1 < ((l.length : Nat) : Int)) ∧ ((((⟨p0, p1, p2⟩ : P3)).bd 15000 ∧ ((hitAt l v0_1.toNat).p).bd 15000) ∧ ((0 ≤ (sqD (⟨p0, p1, p2⟩ : P3) (hitAt l v0_1.toNat).p) ∧ (sqD (⟨p0, p1, p2⟩ : P3) (hitAt l v0_1.toNat).p) < 1099511627776) ∧ ((numsP 2 t.length (knsC t) ∧ ((listC t.length mkKn (knsC t))).length ≤ 1000000) ∧ (((0 ≤ (yldF (rt (sqD (⟨p0, p1, p2⟩ : P3) (hitAt l v0_1.toNat).p)) (listC t.length mkKn (knsC t))) ∧ (yldF (rt (sqD (⟨p0, p1, p2⟩ : P3) (hitAt l v0_1.toNat).p)) (listC t.length mkKn (knsC t))) ≤ 10000) ∧ (0 ≤ ((hitAt l v0_1.toNat).c.lo) ∧ ((hitAt l v0_1.toNat).c.lo) ≤ 1000000) ∧ 0 ≤ ((hitAt l v0_1.toNat).c.hi) ∧ ((hitAt l v0_1.toNat).c.hi) ≤ 1000000) ∧ ((roomP 16 (v0_0.length + ([[.v (.int .i64 ((fitG (hitAt l v0_1.toNat).c (yldF (rt (sqD (⟨p0, p1, p2⟩ : P3) (hitAt l v0_1.toNat).p)) (listC t.length mkKn (knsC t)))).lo)), .v (.int .i64 ((fitG (hitAt l v0_1.toNat).c (yldF (rt (sqD (⟨p0, p1, p2⟩ : P3) (hitAt l v0_1.toNat).p)) (listC t.length mkKn (knsC t)))).hi))]] : List (List CV)).length)) ∧ (lt (IntKind.i64.wrap (v0_1 + (1 : Int))) fun x1 => J 0 (nn0 :: []) (mk_flash_EnergiesAt_0 t l p0 p1 p2 (v0_0 ++ ([[.v (.int .i64 ((fitG (hitAt l v0_1.toNat).c (yldF (rt (sqD (⟨p0, p1, p2⟩ : P3) (hitAt l v0_1.toNat).p)) (listC t.length mkKn (knsC t)))).lo)), .v (.int .i64 ((fitG (hitAt l v0_1.toNat).c (yldF (rt (sqD (⟨p0, p1, p2⟩ : P3) (hitAt l v0_1.toNat).p)) (listC t.length mkKn (knsC t)))).hi))]] : List (List CV))) x1)))))))) ((numsP 2 v0_0.length (genC v0_0) ∧ 0 < ((listC v0_0.length mkRg (genC v0_0))).length ∧ ((listC v0_0.length mkRg (genC v0_0))).length ≤ 1000000) ∧ (cond (decide (((comm (listC v0_0.length mkRg (genC v0_0))).lo) > ((comm (listC v0_0.length mkRg (genC v0_0))).hi))) (post (.tu [.a [.v (.int .i64 0), .v (.int .i64 0)], .c (.v (.int .i64 12))])) (post (.tu [.a [.v (.int .i64 ((comm (listC v0_0.length mkRg (genC v0_0))).lo)), .v (.int .i64 ((comm (listC v0_0.length mkRg (genC v0_0))).hi))], .c (.v (.int .i64 0))]))))
theorem er_flash_EnergiesAt_0 (J : Inv) (t : List Knot) (l : List FHit) (p0 p1 p2 : Int) (v0_0 : List (List CV)) (v0_1 : Int) (nn0 : Nat) (post : DV → Prop) : round Tryd.prog tab St113 ann_flash_EnergiesAt J Tryd.f56 post 0 (nn0 :: []) (mk_flash_EnergiesAt_0 t l p0 p1 p2 v0_0 v0_1) = rd_flash_EnergiesAt_0 J t l p0 p1 p2 v0_0 v0_1 nn0 post := by kernel_rfl
theorem lp_flash_EnergiesAt (J : Inv) (post : DV → Prop) : AllG J (loopsFn Tryd.prog tab St113 ann_flash_EnergiesAt J Tryd.f56 post) = (((∀ F s, ¬ J 0 (0 :: F) s) ∧ ∀ n F s, J 0 ((n + 1) :: F) s → round Tryd.prog tab St113 ann_flash_EnergiesAt J Tryd.f56 post 0 (n :: F) s) ∧ True) := by kernel_rfl
def J_flash_EnergiesAt (t : List Knot) (l : List FHit) (p0 p1 p2 : Int) : Inv := fun b F s => match b, F with
 | 0, [nn0] => ∃ (v0_0 : List (List CV)) (v0_1 : Int), s = mk_flash_EnergiesAt_0 t l p0 p1 p2 v0_0 v0_1 ∧ (engE0 t l (⟨p0, p1, p2⟩ : P3) = 0 ∧ 0 ≤ v0_1 ∧ v0_1 ≤ l.length ∧ (nn0 : Int) + v0_1 = l.length + 1 ∧ v0_0 = ((l.take v0_1.toNat).map (fitH t (⟨p0, p1, p2⟩ : P3))).map rgCv)
 | _, _ => False
set_option maxHeartbeats 8000000 in
set_option maxRecDepth 100000 in
theorem rnd_flash_EnergiesAt_0 (t : List Knot) (l : List FHit) (p0 p1 p2 : Int) (v0_0 : List (List CV)) (v0_1 : Int) (nn0 : Nat) (hi : engE0 t l (⟨p0, p1, p2⟩ : P3) = 0 ∧ 0 ≤ v0_1 ∧ v0_1 ≤ l.length ∧ ((nn0 + 1) : Int) + v0_1 = l.length + 1 ∧ v0_0 = ((l.take v0_1.toNat).map (fitH t (⟨p0, p1, p2⟩ : P3))).map rgCv) : rd_flash_EnergiesAt_0 (J_flash_EnergiesAt t l p0 p1 p2) t l p0 p1 p2 v0_0 v0_1 nn0 (fun r => LeD r (.tu [.a [.v (.int .i64 ((engV t l (⟨p0, p1, p2⟩ : P3)).lo)), .v (.int .i64 ((engV t l (⟨p0, p1, p2⟩ : P3)).hi))], .c (.v (.int .i64 (engE t l (⟨p0, p1, p2⟩ : P3))))])) := by
 obtain ⟨q0, i1, i2, i3, i4⟩ := hi
 obtain ⟨k, rfl⟩ : ∃ k : Nat, v0_1 = k := ⟨v0_1.toNat, by omega⟩
 have hk : (k : Int).toNat = k := rfl
 rw [hk] at i4
 obtain ⟨q1, q2, q3⟩ := fn3 q0
 obtain ⟨⟨z1, z2⟩, z3⟩ := hitsE_ok q2
 have pb := (posE_0.1 q3).mono (B := 15000) (by decide)
 have hl := (tab_ok q1).1
 unfold rd_flash_EnergiesAt_0
 simp only [kns_listC]
 rw [hk]
 refine cond_i (fun h => ?_) (fun h => ?_)
 ·have hlt : k < l.length := by have := of_decide_eq_true h; omega
  obtain ⟨b1, b2, b3⟩ := hit_ok (z3 k hlt)
  have b4 := b1.mono (B := 15000) (by decide)
  have dd := sqD_rg pb b4
  have yr := yld_rg q1 (rt (sqD (⟨p0, p1, p2⟩ : P3) (hitAt l k).p))
  refine ⟨by omega, ⟨pb, b4⟩, by omega, ⟨numsP_kns t, by omega⟩, ⟨yr, by omega, by omega⟩, ?_, lt_i fun x hx => ?_⟩
  ·rw [i4]; unfold roomP maxLen; simp; omega
  ·rw [wi (by omega)] at hx
   subst hx
   refine ⟨_, _, rfl, q0, by omega, by omega, by omega, ?_⟩
   rw [show ((k : Int) + 1).toNat = k + 1 by omega, i4, hitAt_take hlt, List.map_append, List.map_append]; rfl
 ·have hge : k = l.length := by have := of_decide_eq_false h; omega
  rw [hge, List.take_length] at i4
  subst i4
  simp only [rgg_listC]
  refine ⟨⟨numsP_rgg _, by rw [List.length_map]; omega, by rw [List.length_map]; omega⟩, cond_i (fun g => ?_) (fun g => ?_)⟩
  ·have g := of_decide_eq_true g
   have e : engE t l (⟨p0, p1, p2⟩ : P3) = 12 := by rw [show engE t l (⟨p0, p1, p2⟩ : P3) = _ from if_pos q0, show decide ((engR t l (⟨p0, p1, p2⟩ : P3)).lo ≤ (engR t l (⟨p0, p1, p2⟩ : P3)).hi) = false from decide_eq_false (by unfold engR; omega)]; rfl
   rw [show engV t l (⟨p0, p1, p2⟩ : P3) = ⟨0, 0⟩ from if_neg (by rw [e]; decide), e]
   exact LeD.refl _
  ·have g := of_decide_eq_false g
   have e : engE t l (⟨p0, p1, p2⟩ : P3) = 0 := by rw [show engE t l (⟨p0, p1, p2⟩ : P3) = _ from if_pos q0, show decide ((engR t l (⟨p0, p1, p2⟩ : P3)).lo ≤ (engR t l (⟨p0, p1, p2⟩ : P3)).hi) = true from decide_eq_true (by unfold engR; omega)]; rfl
   rw [show engV t l (⟨p0, p1, p2⟩ : P3) = engR t l (⟨p0, p1, p2⟩ : P3) from if_pos e, e]
   exact LeD.refl _
theorem zero_flash_EnergiesAt_0 (t : List Knot) (l : List FHit) (p0 p1 p2 : Int) (v0_0 : List (List CV)) (v0_1 : Int)  (hi : engE0 t l (⟨p0, p1, p2⟩ : P3) = 0 ∧ 0 ≤ v0_1 ∧ v0_1 ≤ l.length ∧ (0 : Int) + v0_1 = l.length + 1 ∧ v0_0 = ((l.take v0_1.toNat).map (fitH t (⟨p0, p1, p2⟩ : P3))).map rgCv) : False := by
 omega
set_option maxHeartbeats 8000000 in
set_option maxRecDepth 100000 in
theorem spec_flash_EnergiesAt (t : List Knot) (l : List FHit) (p0 p1 p2 : Int) : vc_flash_EnergiesAt (J_flash_EnergiesAt t l p0 p1 p2) t l p0 p1 p2 (fun r => LeD r (.tu [.a [.v (.int .i64 ((engV t l (⟨p0, p1, p2⟩ : P3)).lo)), .v (.int .i64 ((engV t l (⟨p0, p1, p2⟩ : P3)).hi))], .c (.v (.int .i64 (engE t l (⟨p0, p1, p2⟩ : P3))))])) := by
 unfold vc_flash_EnergiesAt
 simp only [kns_listC, hits_listC]
 refine ⟨numsP_kns t, numsP_hits l, ⟨numsP_gen [_, _, _], Nat.le_of_ble_eq_true rfl⟩, cond_i (fun h => ?_) (fun h => ?_)⟩
 ·have h : engE0 t l (⟨p0, p1, p2⟩ : P3) ≠ 0 := by simpa [engE0] using h
  have e : engE t l (⟨p0, p1, p2⟩ : P3) = engE0 t l (⟨p0, p1, p2⟩ : P3) := if_neg h
  rw [show engV t l (⟨p0, p1, p2⟩ : P3) = ⟨0, 0⟩ from if_neg (by rw [e]; exact h), e]
  exact LeD.refl _
 ·have h : engE0 t l (⟨p0, p1, p2⟩ : P3) = 0 := by simpa [engE0] using h
  exact ⟨l.length + 1, [], 0, rfl, h, by omega, by omega, by omega, rfl⟩
theorem all_flash_EnergiesAt (t : List Knot) (l : List FHit) (p0 p1 p2 : Int) : AllG (J_flash_EnergiesAt t l p0 p1 p2) (loopsFn Tryd.prog tab St113 ann_flash_EnergiesAt (J_flash_EnergiesAt t l p0 p1 p2) Tryd.f56 (fun r => LeD r (.tu [.a [.v (.int .i64 ((engV t l (⟨p0, p1, p2⟩ : P3)).lo)), .v (.int .i64 ((engV t l (⟨p0, p1, p2⟩ : P3)).hi))], .c (.v (.int .i64 (engE t l (⟨p0, p1, p2⟩ : P3))))]))) := by
 rw [lp_flash_EnergiesAt]
 refine ⟨⟨?_, ?_⟩, trivial⟩
 ·intro F s h
  obtain _ | ⟨g, F⟩ := F
  case cons => exact h.elim
  obtain ⟨w0, w1, rfl, hi⟩ := h
  exact zero_flash_EnergiesAt_0 t l p0 p1 p2 w0 w1 hi
 ·intro n F s h
  obtain _ | ⟨g, F⟩ := F
  case cons => exact h.elim
  obtain ⟨w0, w1, rfl, hi⟩ := h
  rw [er_flash_EnergiesAt_0]
  exact rnd_flash_EnergiesAt_0 t l p0 p1 p2 _ _ _ hi
def con_flash_EnergiesAt : Con := fun args => match args with
 | [.t (.a [.sl 2 n_t c_t]), .t (.c (.sl 7 n_l c_l)), .t (.a [.v (.int .i64 p0), .v (.int .i64 p1), .v (.int .i64 p2)])] => some (.tu [.a [.v (.int .i64 ((engV (listC n_t mkKn c_t) (listC n_l mkHit c_l) (⟨p0, p1, p2⟩ : P3)).lo)), .v (.int .i64 ((engV (listC n_t mkKn c_t) (listC n_l mkHit c_l) (⟨p0, p1, p2⟩ : P3)).hi))], .c (.v (.int .i64 (engE (listC n_t mkKn c_t) (listC n_l mkHit c_l) (⟨p0, p1, p2⟩ : P3))))], some (numsP 2 n_t c_t ∧ numsP 7 n_l c_l), false)
 | _ => none
theorem ok_flash_EnergiesAt : Ok Tryd.prog 56 con_flash_EnergiesAt := by
 refine Ok.fn (ann := ann_flash_EnergiesAt) mixed tabOK VSt113 ValidIt.no (fn := Tryd.f56) (by kernel_rfl) (by kernel_rfl) fit_flash_EnergiesAt fun args r pre fresh h hp => ?_
 unfold con_flash_EnergiesAt at h
 split at h
 ·rename_i n_t c_t n_l c_l p0 p1 p2
  cases h
  obtain ⟨hp0, hp1⟩ := hp
  refine ⟨rfl, J_flash_EnergiesAt (listC n_t mkKn c_t) (listC n_l mkHit c_l) p0 p1 p2, [.t (.a [.sl 2 ((listC n_t mkKn c_t).length) (knsC (listC n_t mkKn c_t))]), .t (.c (.sl 7 ((listC n_l mkHit c_l).length) (hitsC (listC n_l mkHit c_l)))), .t (.a [.v (.int .i64 p0), .v (.int .i64 p1), .v (.int .i64 p2)])], ?_, Nat.le_of_ble_eq_true (by kernel_rfl), ?_, ?_⟩
  ·exact (LeA_cons (leT_a (LeCs.cons ((leL_Knot hp0)) LeCs.nil)) (LeA_cons (leT_c ((leL_FHit hp1))) (LeA_cons (LeD.refl _) LeA_nil)))
  ·rw [ev_flash_EnergiesAt]; exact spec_flash_EnergiesAt (listC n_t mkKn c_t) (listC n_l mkHit c_l) p0 p1 p2
  ·exact all_flash_EnergiesAt (listC n_t mkKn c_t) (listC n_l mkHit c_l) p0 p1 p2
 ·cases h
noncomputable def St114 : Sum := addS St113 56 con_flash_EnergiesAt
theorem VSt114 : Valid Tryd.prog St114 := Valid.add VSt113 ok_flash_EnergiesAt
end Go.Proofs.YtmhgjlapkhdlmaaDoor
set_option linter.unusedVariables false
set_option linter.unusedSimpArgs false
namespace Go.Proofs.YtmhgjlapkhdlmaaDoor
open Go.RowKit Ev
theorem fit_lo {c : Rg} {y e : Int} (hy : 0 ≤ y) (hc : 0 ≤ c.lo) (he : 0 ≤ e ∧ e ≤ 100000) : (e * y + 999) / 1000 ≥ c.lo ↔ min (fitG c y).lo 100001 ≤ e := by
 unfold fitG
 by_cases h : y = 0
 ·subst h
  rw [if_pos rfl]
  by_cases g : c.lo > 0
  ·simp only [if_pos g]; omega
  ·simp only [if_neg g]; omega
 ·rw [if_neg h]
  by_cases g : c.lo > 0
  ·simp only [if_pos g]
   have h1 := Int.ediv_lt_iff_lt_mul (a := (c.lo - 1) * 1000) (b := e) (c := y) (by omega)
   generalize e * y = m at *
   generalize (c.lo - 1) * 1000 / y = q at *
   omega
  ·simp only [if_neg g]
   have := Int.mul_nonneg he.1 hy
   omega
theorem fit_hi {c : Rg} {y e : Int} (hy : 0 ≤ y) (hc : 0 ≤ c.hi) (he : 0 ≤ e ∧ e ≤ 100000) : e * y / 1000 > c.hi ↔ (fitG c y).hi < e := by
 unfold fitG
 by_cases h : y = 0
 ·subst h
  rw [if_pos rfl]
  simp only
  omega
 ·rw [if_neg h]
  simp only
  have h1 := Int.ediv_lt_iff_lt_mul (a := (c.hi + 1) * 1000 - 1) (b := e) (c := y) (by omega)
  generalize e * y = m at *
  generalize ((c.hi + 1) * 1000 - 1) / y = q at *
  omega
theorem fitG_rg {c : Rg} {y : Int} (hy : 0 ≤ y) (h1 : 0 ≤ c.lo) (h2 : 0 ≤ c.hi) : 0 ≤ (fitG c y).lo ∧ 0 ≤ (fitG c y).hi ∧ (fitG c y).hi ≤ 100000 := by
 unfold fitG
 by_cases h : y = 0
 ·rw [if_pos h]
  simp only
  split <;> omega
 ·rw [if_neg h]
  simp only
  have a := Int.ediv_nonneg (a := (c.hi + 1) * 1000 - 1) (b := y) (by omega) hy
  split
  ·have b := Int.ediv_nonneg (a := (c.lo - 1) * 1000) (b := y) (by omega) hy
   omega
  ·omega
theorem comm_hi {l : List Rg} (h0 : 0 < l.length) (h : ∀ g ∈ l, 0 ≤ g.lo ∧ g.hi ≤ 100000) : (comm l).hi ≤ 100000 ∧ 0 ≤ (comm l).lo := by
 have key : ∀ (l : List Rg) (a : Rg), a.hi ≤ 100000 → 0 ≤ a.lo → (l.foldl meetR a).hi ≤ 100000 ∧ 0 ≤ (l.foldl meetR a).lo := by
  intro l
  induction l with
  | nil => exact fun a h1 h2 => ⟨h1, h2⟩
  | cons g l ih => exact fun a h1 h2 => ih _ (show min a.hi g.hi ≤ 100000 by omega) (show 0 ≤ max a.lo g.lo by omega)
 cases l with
 | nil => simp at h0
 | cons g l =>
  have hg := h g (by simp)
  exact key l g hg.2 hg.1
end Go.Proofs.YtmhgjlapkhdlmaaDoor
set_option linter.unusedVariables false
set_option linter.unusedSimpArgs false
namespace Go.Proofs.YtmhgjlapkhdlmaaDoor
open Go.RowKit Ev
def vc_ref06_CopyTable (t : List Knot) (post : DV → Prop) : Prop := (roomP 16 (([] : List (List CV)).length + ((List.range t.length).map fun i => fwd ((knsC t) i) 0 2).length)) ∧ (post (.t (.a [.sl 2 ((([] : List (List CV)) ++ ((List.range t.length).map fun i => fwd ((knsC t) i) 0 2)).length) (genC (([] : List (List CV)) ++ ((List.range t.length).map fun i => fwd ((knsC t) i) 0 2)))])))
def ann_ref06_CopyTable : Ann := ⟨fun _ => none, fun _ => none, fun _ => [], noIt, true, fun _ => none, fun _ => none⟩
theorem ev_ref06_CopyTable (J : Inv) (t : List Knot) (post : DV → Prop) : evFn Tryd.prog tab St114 ann_ref06_CopyTable J Tryd.f54 [.t (.a [.sl 2 t.length (knsC t)])] post = vc_ref06_CopyTable t post := by kernel_rfl
theorem fit_ref06_CopyTable : okFn ann_ref06_CopyTable Tryd.f54 = true := by kernel_rfl
theorem lp_ref06_CopyTable (J : Inv) (post : DV → Prop) : AllG J (loopsFn Tryd.prog tab St114 ann_ref06_CopyTable J Tryd.f54 post) = (True) := by kernel_rfl
theorem spec_ref06_CopyTable (t : List Knot) (hp : (t).length ≤ 1000) : vc_ref06_CopyTable t (fun r => LeD r (.t (.a [.sl 2 t.length (knsC t)]))) := by
 unfold vc_ref06_CopyTable
 rw [kns_fwd, List.nil_append]
 refine ⟨?_, ?_⟩
 ·unfold roomP maxLen
  simp
  omega
 ·exact leT_a ⟨fun w N v h => le_kns t w N v h, trivial⟩
def con_ref06_CopyTable : Con := fun args => match args with
 | [.t (.a [.sl 2 n_t c_t])] => some (.t (.a [.sl 2 ((listC n_t mkKn c_t).length) (knsC (listC n_t mkKn c_t))]), some (numsP 2 n_t c_t ∧ ((listC n_t mkKn c_t)).length ≤ 1000), true)
 | _ => none
theorem ok_ref06_CopyTable : Ok Tryd.prog 54 con_ref06_CopyTable := by
 refine Ok.fnFr (ann := ann_ref06_CopyTable) mixed tabOK VSt114 ValidIt.no rfl (fn := Tryd.f54) (by kernel_rfl) (by kernel_rfl) fit_ref06_CopyTable fun args r pre fresh h hp => ?_
 unfold con_ref06_CopyTable at h
 split at h
 ·rename_i n_t c_t
  cases h
  obtain ⟨hp0, hp⟩ := hp
  refine ⟨rfl, (by intro x hx; simp only [List.mem_cons, List.not_mem_nil, or_false] at hx; rcases hx with rfl <;> first | trivial | exact (fun i j _ hj => plain_Knot _ i j)), fun _ _ _ => False, [.t (.a [.sl 2 ((listC n_t mkKn c_t).length) (knsC (listC n_t mkKn c_t))])], ?_, Nat.le_of_ble_eq_true (by kernel_rfl), ?_, ?_⟩
  ·exact (LeA_cons (leT_a (LeCs.cons ((leL_Knot hp0)) LeCs.nil)) LeA_nil)
  ·rw [ev_ref06_CopyTable]; exact spec_ref06_CopyTable (listC n_t mkKn c_t) hp
  ·rw [lp_ref06_CopyTable]; trivial
 ·cases h
noncomputable def Su115 : Sum := addS St114 54 con_ref06_CopyTable
theorem VSu115 : Valid Tryd.prog Su115 := Valid.add VSt114 ok_ref06_CopyTable
noncomputable def Su116 : Sum := Su115
theorem VSu116 : Valid Tryd.prog Su116 := VSu115
noncomputable def Su117 : Sum := Su116
theorem VSu117 : Valid Tryd.prog Su117 := VSu116
def mk_ref06_CheckTable_0 (t : List Knot) (v0_0 : Int) : DS := ⟨[none, some (.t (.c (.p 1 0))), none, none, some (.t (.c (.v (.int .i64 v0_0)))), none, none, none, none, none, none, none, none, none, none, none, none, none, none, none, none, none, none, none, none, none, none, none, none, none, none, none, none, none, none, none, none, none, none, none, none, none, none, none, none, none, none, none, none, none, none, none, none, none, none, none, none, none, none, none, none, none, none, none], [none, some (.box 88 [.sl 2 t.length (knsC t)]), none, none, none, none, none, none, none, none, none, none, none, none, none, none, none, none, none, none, none, none, none, none, none, none, none, none, none, none, none, none, none, none, none, none, none, none, none, none, none, none, none, none, none, none, none, none, none, none, none, none, none, none, none, none, none, none, none, none, none, none, none, none]⟩
def vc_ref06_CheckTable (J : Inv) (t : List Knot) (post : DV → Prop) : Prop := cond (((t.length : Nat) : Int) == (0 : Int)) (post (.tu [.c (.v (.int .i64 0)), .c (.v (.int .i64 10))])) (cond (decide (((t.length : Nat) : Int) > (8 : Int))) (post (.tu [.c (.v (.int .i64 0)), .c (.v (.int .i64 8))])) (∃ n, J 0 (n :: []) (mk_ref06_CheckTable_0 t 0)))
def ann_ref06_CheckTable : Ann := ⟨fun r => lookA r [(11, ([[], [0], [0, 1], [0, 1, 2], [0, 1, 2, 3], [0, 1, 2], [0, 1, 2, 5], [0, 1, 2], [0, 1, 2, 7], [0, 1, 2, 5, 6, 7, 8], [0, 1, 2, 5, 6, 7, 8, 9], [0, 1, 2, 5, 6, 7, 8, 9, 10], [0, 1, 2, 3, 4, 5, 6, 7, 8, 9, 10, 11], [0, 1, 2, 3, 4, 5, 6, 7, 8, 9, 10, 11, 12], [0, 1, 2, 3, 4, 5, 6, 7, 8, 9, 10, 11, 12, 13], [0, 1, 2, 3, 4, 5, 6, 7, 8, 9, 10, 11, 12, 13, 14], [0, 1, 2, 3, 4, 5, 6, 7, 8, 9, 10, 11, 12, 13], [0, 1, 2, 3, 4, 5, 6, 7, 8, 9, 10, 11, 12, 13, 16], [0, 1, 2, 3, 4, 5, 6, 7, 8, 9, 10, 11, 12, 13], [0, 1, 2, 3, 4, 5, 6, 7, 8, 9, 10, 11, 12, 13, 18], [0, 1, 2, 3, 4, 5, 6, 7, 8, 9, 10, 11, 12, 13, 16, 17, 18, 19], [0, 1, 2, 3, 4, 5, 6, 7, 8, 9, 10, 11, 12, 13, 16, 17, 18, 19, 20], [0, 1, 2, 3, 4, 5, 6, 7, 8, 9, 10, 11, 12, 13, 16, 17, 18, 19, 20, 21], [0, 1, 2, 3, 4, 5, 6, 7, 8, 9, 10, 11, 12, 13, 14, 15, 16, 17, 18, 19, 20, 21, 22], [0, 1, 2, 3, 4, 5, 6, 7, 8, 9, 10, 11, 12, 13, 14, 15, 16, 17, 18, 19, 20, 21, 22, 23], [0, 1, 2, 3, 4, 5, 6, 7, 8, 9, 10, 11, 12, 13, 14, 15, 16, 17, 18, 19, 20, 21, 22, 23, 24]], [[], [], [], [], [], [], [], [], [], [], [], [], [], [], [], [], [], [], [], [], [], [], [], [], [], []]))], fun b => lookA b [(0, (none, some ⟨[1, 4], [1], []⟩))], fun _ => [], noIt, false, fun r => lookA r [(9, (5, [35])), (11, (3, [62]))], fun _ => none⟩
theorem ev_ref06_CheckTable (J : Inv) (t : List Knot) (post : DV → Prop) : evFn Tryd.prog tab Su117 ann_ref06_CheckTable J Tryd.f57 [.t (.a [.sl 2 t.length (knsC t)])] post = vc_ref06_CheckTable J t post := by kernel_rfl
theorem fit_ref06_CheckTable : okFn ann_ref06_CheckTable Tryd.f57 = true := by kernel_rfl
def rd_ref06_CheckTable_0 (J : Inv) (t : List Knot) (v0_0 : Int) (nn0 : Nat) (post : DV → Prop) : Prop := cond (decide (v0_0 < ((t.length : Nat) : Int))) ((0 ≤ v0_0 ∧ v0_0 < ((t.length : Nat) : Int)) ∧ ((cond (!(inB ((knAt t v0_0.toNat).d) (0 : Int) (100000 : Int))) ((true = true) ∧ (True)) (True)) ∧ (lt ((bif (!(inB ((knAt t v0_0.toNat).d) (0 : Int) (100000 : Int))) then true else (!(inB ((knAt t v0_0.toNat).y) (0 : Int) (10000 : Int))))) fun x1 => cond x1 (post (.tu [.c (.v (.int .i64 v0_0)), .c (.v (.int .i64 2))])) ((cond (decide (v0_0 > (0 : Int))) (lt (IntKind.i64.wrap (v0_0 - (1 : Int))) fun x4 => (0 ≤ x4 ∧ x4 < ((t.length : Nat) : Int)) ∧ (cond (decide (((knAt t v0_0.toNat).d) ≤ ((knAt t x4.toNat).d))) ((true = true) ∧ (True)) (lt (IntKind.i64.wrap (v0_0 - (1 : Int))) fun x5 => (0 ≤ x5 ∧ x5 < ((t.length : Nat) : Int)) ∧ (True)))) ((false = false) ∧ (True))) ∧ (lt ((bif decide (v0_0 > (0 : Int)) then (bif decide (((knAt t v0_0.toNat).d) ≤ ((knAt t ((IntKind.i64.wrap (v0_0 - (1 : Int))).toNat)).d)) then true else decide (((knAt t v0_0.toNat).y) > ((knAt t ((IntKind.i64.wrap (v0_0 - (1 : Int))).toNat)).y))) else false)) fun x6 => cond x6 (post (.tu [.c (.v (.int .i64 v0_0)), .c (.v (.int .i64 9))])) (lt (IntKind.i64.wrap (v0_0 + (1 : Int))) fun x7 => J 0 (nn0 :: []) (mk_ref06_CheckTable_0 t x7))))))) (post (.tu [.c (.v (.int .i64 0)), .c (.v (.int .i64 0))]))
theorem er_ref06_CheckTable_0 (J : Inv) (t : List Knot) (v0_0 : Int) (nn0 : Nat) (post : DV → Prop) : round Tryd.prog tab Su117 ann_ref06_CheckTable J Tryd.f57 post 0 (nn0 :: []) (mk_ref06_CheckTable_0 t v0_0) = rd_ref06_CheckTable_0 J t v0_0 nn0 post := by kernel_rfl
theorem lp_ref06_CheckTable (J : Inv) (post : DV → Prop) : AllG J (loopsFn Tryd.prog tab Su117 ann_ref06_CheckTable J Tryd.f57 post) = (((∀ F s, ¬ J 0 (0 :: F) s) ∧ ∀ n F s, J 0 ((n + 1) :: F) s → round Tryd.prog tab Su117 ann_ref06_CheckTable J Tryd.f57 post 0 (n :: F) s) ∧ True) := by kernel_rfl
def J_ref06_CheckTable (t : List Knot) : Inv := fun b F s => match b, F with
 | 0, [nn0] => ∃ (v0_0 : Int), s = mk_ref06_CheckTable_0 t v0_0 ∧ (cntE t.length 8 = 0 ∧ 0 ≤ v0_0 ∧ v0_0 ≤ t.length ∧ (nn0 : Int) + v0_0 = t.length + 1 ∧ ∀ j : Nat, (j : Int) < v0_0 → ktE t j = 0)
 | _, _ => False
set_option maxHeartbeats 8000000 in
set_option maxRecDepth 100000 in
theorem rnd_ref06_CheckTable_0 (t : List Knot) (v0_0 : Int) (nn0 : Nat) (hi : cntE t.length 8 = 0 ∧ 0 ≤ v0_0 ∧ v0_0 ≤ t.length ∧ ((nn0 + 1) : Int) + v0_0 = t.length + 1 ∧ ∀ j : Nat, (j : Int) < v0_0 → ktE t j = 0) : rd_ref06_CheckTable_0 (J_ref06_CheckTable t) t v0_0 nn0 (fun r => LeD r (.tu [.c (.v (.int .i64 (tabI t))), .c (.v (.int .i64 (tabE t)))])) := by
 obtain ⟨i0, i1, i2, i3, i4⟩ := hi
 obtain ⟨k, rfl⟩ : ∃ k : Nat, v0_0 = k := ⟨v0_0.toNat, by omega⟩
 have hk : (k : Int).toNat = k := rfl
 have l8 : t.length ≤ 8 := by
  have h2 := (fn2 i0).2
  rw [unl_0 (by decide)] at h2
  have := of_decide_eq_true h2
  omega
 unfold rd_ref06_CheckTable_0
 rw [hk]
 have bad : ∀ e, e ≠ 0 → k < t.length → ktE t k = e → LeD (.tu [.c (.v (.int .i64 (k : Int))), .c (.v (.int .i64 e))]) (.tu [.c (.v (.int .i64 (tabI t))), .c (.v (.int .i64 (tabE t)))]) := fun e he hlt q => by
  subst q
  rw [show tabI t = _ from if_pos i0, show tabE t = _ from if_pos i0]
  exact le2 (scanI_at (fun j hj => i4 j (by omega)) hlt he).symm (scan_at (fun j hj => i4 j (by omega)) hlt he).symm
 refine cond_i (fun h => ?_) (fun h => ?_)
 ·have hlt : k < t.length := by have := of_decide_eq_true h; omega
  have eK : ktE t k = knE (k : Int) (knAt t (k - 1)) (knAt t k) := rfl
  refine ⟨by omega, cond_i (fun _ => by trivial) (fun _ => trivial), lt_i fun x1 h1 => cond_i (fun e => bad 2 (by decide) hlt ?_) (fun e => ?_)⟩
  ·rw [eK]; unfold knE
   rw [← h1] at e
   have : (inB (knAt t k).d 0 100000 && inB (knAt t k).y 0 10000) = false := by
    cases q : inB (knAt t k).d 0 100000
    ·rfl
    ·rw [q] at e; simpa using e
   rw [this]; rfl
  ·have e0 : (inB (knAt t k).d 0 100000 && inB (knAt t k).y 0 10000) = true := by
    rw [← h1] at e
    cases q : inB (knAt t k).d 0 100000
    ·rw [q] at e; cases e
    ·rw [q] at e; simpa using e
   have eK2 : ktE t k = unl (decide ((k : Int) = 0) || (decide ((knAt t k).d > (knAt t (k - 1)).d) && decide ((knAt t k).y ≤ (knAt t (k - 1)).y))) 9 := by
    rw [eK]; unfold knE; rw [e0]
    cases (decide ((k : Int) = 0) || (decide ((knAt t k).d > (knAt t (k - 1)).d) && decide ((knAt t k).y ≤ (knAt t (k - 1)).y))) <;> rfl
   refine ⟨cond_i (fun p => lt_i fun x4 h4 => ?_) (fun _ => by trivial), lt_i fun x6 h6 => cond_i (fun c => bad 9 (by decide) hlt ?_) (fun c => lt_i fun x hx => ?_)⟩
   ·have p := of_decide_eq_true p
    rw [wi (by omega)] at h4
    refine ⟨by omega, cond_i (fun _ => by trivial) (fun _ => lt_i fun x5 h5 => ?_)⟩
    rw [wi (by omega)] at h5
    exact ⟨by omega, trivial⟩
   ·have hp0 : (k : Int) > 0 := by
     by_cases z : (k : Int) > 0
     ·exact z
     ·rw [decide_eq_false z] at h6; rw [← h6] at c; cases c
    rw [decide_eq_true hp0, wi (by omega), show ((k : Int) - 1).toNat = k - 1 by omega] at h6
    rw [eK2, decide_eq_false (show ¬ (k : Int) = 0 by omega)]
    have : (decide ((knAt t k).d > (knAt t (k - 1)).d) && decide ((knAt t k).y ≤ (knAt t (k - 1)).y)) = false := by
     rw [← h6] at c
     simp only [_root_.cond_true] at c
     by_cases z : (knAt t k).d ≤ (knAt t (k - 1)).d
     ·rw [decide_eq_false (show ¬ (knAt t k).d > (knAt t (k - 1)).d by omega)]; rfl
     ·rw [decide_eq_false z] at c
      have c : decide ((knAt t k).y > (knAt t (k - 1)).y) = true := c
      have := of_decide_eq_true c
      rw [decide_eq_false (show ¬ (knAt t k).y ≤ (knAt t (k - 1)).y by omega), Bool.and_false]
    rw [this]; rfl
   ·have v : ktE t k = 0 := by
     rw [eK2]
     by_cases z : (k : Int) > 0
     ·rw [decide_eq_true z, wi (by omega), show ((k : Int) - 1).toNat = k - 1 by omega] at h6
      rw [← h6] at c
      simp only [_root_.cond_true] at c
      by_cases z : (knAt t k).d ≤ (knAt t (k - 1)).d
      ·rw [decide_eq_true z] at c; cases c
      ·rw [decide_eq_false z] at c
       have c : decide ((knAt t k).y > (knAt t (k - 1)).y) = false := c
       have := of_decide_eq_false c
       rw [decide_eq_true (show (knAt t k).d > (knAt t (k - 1)).d by omega), decide_eq_true (show (knAt t k).y ≤ (knAt t (k - 1)).y by omega), Bool.and_true, Bool.or_true]; rfl
     ·rw [decide_eq_true (show (k : Int) = 0 by omega)]; rfl
    rw [wi (by omega)] at hx
    subst hx
    refine ⟨_, rfl, i0, by omega, by omega, by omega, fun j hj => ?_⟩
    by_cases q : j = k
    ·rw [q]; exact v
    ·exact i4 j (by omega)
 ·have hge : k = t.length := by have := of_decide_eq_false h; omega
  rw [show tabI t = _ from if_pos i0, show tabE t = _ from if_pos i0]
  exact le2 (scanI_end fun j hj => i4 j (by omega)).symm (scan_end fun j hj => i4 j (by omega)).symm
theorem zero_ref06_CheckTable_0 (t : List Knot) (v0_0 : Int)  (hi : cntE t.length 8 = 0 ∧ 0 ≤ v0_0 ∧ v0_0 ≤ t.length ∧ (0 : Int) + v0_0 = t.length + 1 ∧ ∀ j : Nat, (j : Int) < v0_0 → ktE t j = 0) : False := by
 omega
set_option maxHeartbeats 8000000 in
set_option maxRecDepth 100000 in
theorem spec_ref06_CheckTable (t : List Knot) : vc_ref06_CheckTable (J_ref06_CheckTable t) t (fun r => LeD r (.tu [.c (.v (.int .i64 (tabI t))), .c (.v (.int .i64 (tabE t)))])) := by
 unfold vc_ref06_CheckTable
 have bad : ∀ e, e ≠ 0 → cntE t.length 8 = e → LeD (.tu [.c (.v (.int .i64 0)), .c (.v (.int .i64 e))]) (.tu [.c (.v (.int .i64 (tabI t))), .c (.v (.int .i64 (tabE t)))]) := fun e he q => by
  subst q
  exact le2 (if_neg he).symm (if_neg he).symm
 refine cond_i (fun h => bad 10 (by decide) ?_) (fun h => cond_i (fun h2 => bad 8 (by decide) ?_) (fun h2 => ?_))
 ·have h : (t.length : Int) = 0 := by simpa using h
  unfold cntE; rw [h]; rfl
 ·have h : (t.length : Int) ≠ 0 := by simpa using h
  have h2 := of_decide_eq_true h2
  unfold cntE; rw [decide_eq_true (show (t.length : Int) > 0 by omega), decide_eq_false (show ¬ (t.length : Int) ≤ 8 by omega)]; rfl
 ·have h : (t.length : Int) ≠ 0 := by simpa using h
  have h2 := of_decide_eq_false h2
  refine ⟨t.length + 1, 0, rfl, ?_, by omega, by omega, by omega, fun j hj => by omega⟩
  unfold cntE; rw [decide_eq_true (show (t.length : Int) > 0 by omega), decide_eq_true (show (t.length : Int) ≤ 8 by omega)]; rfl
theorem all_ref06_CheckTable (t : List Knot) : AllG (J_ref06_CheckTable t) (loopsFn Tryd.prog tab Su117 ann_ref06_CheckTable (J_ref06_CheckTable t) Tryd.f57 (fun r => LeD r (.tu [.c (.v (.int .i64 (tabI t))), .c (.v (.int .i64 (tabE t)))]))) := by
 rw [lp_ref06_CheckTable]
 refine ⟨⟨?_, ?_⟩, trivial⟩
 ·intro F s h
  obtain _ | ⟨g, F⟩ := F
  case cons => exact h.elim
  obtain ⟨w0, rfl, hi⟩ := h
  exact zero_ref06_CheckTable_0 t w0 hi
 ·intro n F s h
  obtain _ | ⟨g, F⟩ := F
  case cons => exact h.elim
  obtain ⟨w0, rfl, hi⟩ := h
  rw [er_ref06_CheckTable_0]
  exact rnd_ref06_CheckTable_0 t _ _ hi
def con_ref06_CheckTable : Con := fun args => match args with
 | [.t (.a [.sl 2 n_t c_t])] => some (.tu [.c (.v (.int .i64 (tabI (listC n_t mkKn c_t)))), .c (.v (.int .i64 (tabE (listC n_t mkKn c_t))))], some (numsP 2 n_t c_t), false)
 | _ => none
theorem ok_ref06_CheckTable : Ok Tryd.prog 57 con_ref06_CheckTable := by
 refine Ok.fn (ann := ann_ref06_CheckTable) mixed tabOK VSu117 ValidIt.no (fn := Tryd.f57) (by kernel_rfl) (by kernel_rfl) fit_ref06_CheckTable fun args r pre fresh h hp => ?_
 unfold con_ref06_CheckTable at h
 split at h
 ·rename_i n_t c_t
  cases h
  have hp0 := hp
  refine ⟨rfl, J_ref06_CheckTable (listC n_t mkKn c_t), [.t (.a [.sl 2 ((listC n_t mkKn c_t).length) (knsC (listC n_t mkKn c_t))])], ?_, Nat.le_of_ble_eq_true (by kernel_rfl), ?_, ?_⟩
  ·exact (LeA_cons (leT_a (LeCs.cons ((leL_Knot hp0)) LeCs.nil)) LeA_nil)
  ·rw [ev_ref06_CheckTable]; exact spec_ref06_CheckTable (listC n_t mkKn c_t)
  ·exact all_ref06_CheckTable (listC n_t mkKn c_t)
 ·cases h
noncomputable def Su118 : Sum := addS Su117 57 con_ref06_CheckTable
theorem VSu118 : Valid Tryd.prog Su118 := Valid.add VSu117 ok_ref06_CheckTable
noncomputable def Su119 : Sum := Su118
theorem VSu119 : Valid Tryd.prog Su119 := VSu118
noncomputable def Su120 : Sum := Su119
theorem VSu120 : Valid Tryd.prog Su120 := VSu119
end Go.Proofs.YtmhgjlapkhdlmaaDoor