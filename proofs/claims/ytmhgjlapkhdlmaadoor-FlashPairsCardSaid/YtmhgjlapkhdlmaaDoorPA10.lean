/- Texts of this claim, together. -/
import Derived.Test.YtmhgjlapkhdlmaaDoorPA9
import Derived.Test.YtmhgjlapkhdlmaaDoorPA5
import Derived.RangeFuncLeaves
import Derived.OwnWalkIn
import Derived.TacticsInMore
import Derived.LoopNIn
import Derived.LoopIn

set_option linter.unusedVariables false
set_option linter.unusedSimpArgs false
namespace Go.Proofs.YtmhgjlapkhdlmaaDoor
open Go.RowKit Ev
theorem pow_rg {j : Nat} (h : j ≤ 30) : 1 ≤ (2 : Int) ^ j ∧ (2 : Int) ^ j ≤ 1073741824 := by
 have h1 : 1 ≤ 2 ^ j := Nat.one_le_two_pow
 have h2 : 2 ^ j ≤ 2 ^ 30 := Nat.pow_le_pow_right (by decide) h
 have e : ((2 ^ j : Nat) : Int) = (2 : Int) ^ j := by push_cast; rfl
 omega
theorem FHit.err_eq (h : FHit) : h.err = if posE h.p ≠ 0 then posE h.p else if inB h.t.lo 0 1000000000 = true ∧ inB h.t.hi 0 1000000000 = true ∧ inB h.c.lo 0 1000000 = true ∧ inB h.c.hi 0 1000000 = true then (if h.t.hi < h.t.lo ∨ h.c.hi < h.c.lo then 9 else 0) else 2 := by
 unfold FHit.err rgIn rgE
 by_cases q : posE h.p = 0
 ·rw [if_neg (by rw [q]; simp), q]
  cases inB h.t.lo 0 1000000000 <;> cases inB h.t.hi 0 1000000000 <;> cases inB h.c.lo 0 1000000 <;> cases inB h.c.hi 0 1000000 <;> simp [firstNZ, unl]
  by_cases a : h.t.lo ≤ h.t.hi <;> by_cases b : h.c.lo ≤ h.c.hi <;> simp [a, b] <;> omega
 ·rw [if_pos q]
  simp [firstNZ, q]
theorem digits_of {n i j k : Int} (hn : 1 ≤ n ∧ n ≤ 6) (hi : 0 ≤ i ∧ i < n) (hj : 0 ≤ j ∧ j < n) (hk : 0 ≤ k ∧ k < n) : (0 ≤ i * n * n + j * n + k ∧ i * n * n + j * n + k < 216) ∧ (i * n * n + j * n + k) / n / n = i ∧ (i * n * n + j * n + k) / n % n = j ∧ (i * n * n + j * n + k) % n = k := by
 rcases (by omega : n = 1 ∨ n = 2 ∨ n = 3 ∨ n = 4 ∨ n = 5 ∨ n = 6) with rfl | rfl | rfl | rfl | rfl | rfl <;> omega
def vc_ref06_PositionErr (p0 p1 p2 : Int) (post : DV → Prop) : Prop := cond (!(inB p0 (-10000 : Int) (10000 : Int))) ((true = true) ∧ ((true = true) ∧ (post (.t (.c (.v (.int .i64 2))))))) (cond (!(inB p1 (-10000 : Int) (10000 : Int))) ((true = true) ∧ (post (.t (.c (.v (.int .i64 2)))))) (cond (!(inB p2 (-10000 : Int) (10000 : Int))) (post (.t (.c (.v (.int .i64 2))))) (post (.t (.c (.v (.int .i64 0)))))))
def ann_ref06_PositionErr : Ann := ⟨fun _ => none, fun _ => none, fun _ => [], noIt, false, fun _ => none, fun _ => none⟩
theorem ev_ref06_PositionErr (J : Inv) (p0 p1 p2 : Int) (post : DV → Prop) : evFn Tryd.prog tab S71 ann_ref06_PositionErr J Tryd.f20 [.t (.a [.v (.int .i64 p0), .v (.int .i64 p1), .v (.int .i64 p2)])] post = vc_ref06_PositionErr p0 p1 p2 post := by kernel_rfl
theorem fit_ref06_PositionErr : okFn ann_ref06_PositionErr Tryd.f20 = true := by kernel_rfl
theorem lp_ref06_PositionErr (J : Inv) (post : DV → Prop) : AllG J (loopsFn Tryd.prog tab S71 ann_ref06_PositionErr J Tryd.f20 post) = (True) := by kernel_rfl
theorem spec_ref06_PositionErr (p0 p1 p2 : Int) : vc_ref06_PositionErr p0 p1 p2 (fun r => LeD r (.t (.c (.v (.int .i64 (posE (⟨p0, p1, p2⟩ : P3))))))) := by
 unfold vc_ref06_PositionErr
 unfold posE
 refine cond_i (fun h => ⟨rfl, rfl, leI ?_⟩) (fun h => cond_i (fun h2 => ⟨rfl, leI ?_⟩) (fun h2 => cond_i (fun h3 => leI ?_) (fun h3 => leI ?_)))
 all_goals simp_all [unl]
def con_ref06_PositionErr : Con := fun args => match args with
 | [.t (.a [.v (.int .i64 p0), .v (.int .i64 p1), .v (.int .i64 p2)])] => some (.t (.c (.v (.int .i64 (posE (⟨p0, p1, p2⟩ : P3))))), none, false)
 | _ => none
theorem ok_ref06_PositionErr : Ok Tryd.prog 20 con_ref06_PositionErr := by
 refine Ok.fn (ann := ann_ref06_PositionErr) mixed tabOK VS71 ValidIt.no (fn := Tryd.f20) (by kernel_rfl) (by kernel_rfl) fit_ref06_PositionErr fun args r pre fresh h hp => ?_
 unfold con_ref06_PositionErr at h
 split at h
 ·rename_i p0 p1 p2
  cases h
  refine ⟨rfl, fun _ _ _ => False, _, LeA.refl _, Nat.le_of_ble_eq_true (by kernel_rfl), ?_, ?_⟩
  ·rw [ev_ref06_PositionErr]; exact spec_ref06_PositionErr p0 p1 p2
  ·rw [lp_ref06_PositionErr]; trivial
 ·cases h
def S72 : Sum := addS S71 20 con_ref06_PositionErr
theorem VS72 : Valid Tryd.prog S72 := Valid.add VS71 ok_ref06_PositionErr
def vc_ref06_square (a0 a1 a2 : Int) (b0 b1 b2 : Int) (post : DV → Prop) : Prop := lt (IntKind.i64.wrap (a0 - b0)) fun x1 => lt (IntKind.i64.wrap (a1 - b1)) fun x2 => lt (IntKind.i64.wrap (a2 - b2)) fun x3 => lt (IntKind.i64.wrap (x1 * x1)) fun x4 => lt (IntKind.i64.wrap (x2 * x2)) fun x5 => lt (IntKind.i64.wrap (x4 + x5)) fun x6 => lt (IntKind.i64.wrap (x3 * x3)) fun x7 => lt (IntKind.i64.wrap (x6 + x7)) fun x8 => post (.t (.c (.v (.int .i64 x8))))
def ann_ref06_square : Ann := ⟨fun r => lookA r [(1, ([[], [0], [], [2], [0, 1, 2, 3], [], [5], [], [7], [5, 6, 7, 8], [], [10], [], [12], [10, 11, 12, 13], [0, 1, 2, 3, 4], [0, 1, 2, 3, 4, 5, 6, 7, 8, 9, 15], [0, 1, 2, 3, 4, 5, 6, 7, 8, 9, 10, 11, 12, 13, 14, 15, 16]], [[], [], [], [], [], [], [], [], [], [], [], [], [], [], [], [], [], []]))], fun _ => none, fun _ => [], noIt, false, fun _ => none, fun _ => none⟩
theorem ev_ref06_square (J : Inv) (a0 a1 a2 : Int) (b0 b1 b2 : Int) (post : DV → Prop) : evFn Tryd.prog tab S72 ann_ref06_square J Tryd.f99 [.t (.a [.v (.int .i64 a0), .v (.int .i64 a1), .v (.int .i64 a2)]), .t (.a [.v (.int .i64 b0), .v (.int .i64 b1), .v (.int .i64 b2)])] post = vc_ref06_square a0 a1 a2 b0 b1 b2 post := by kernel_rfl
theorem fit_ref06_square : okFn ann_ref06_square Tryd.f99 = true := by kernel_rfl
theorem lp_ref06_square (J : Inv) (post : DV → Prop) : AllG J (loopsFn Tryd.prog tab S72 ann_ref06_square J Tryd.f99 post) = (True) := by kernel_rfl
theorem spec_ref06_square (a0 a1 a2 : Int) (b0 b1 b2 : Int) (hp : ((⟨a0, a1, a2⟩ : P3)).bd 15000 ∧ ((⟨b0, b1, b2⟩ : P3)).bd 15000) : vc_ref06_square a0 a1 a2 b0 b1 b2 (fun r => LeD r (.t (.c (.v (.int .i64 (sqD (⟨a0, a1, a2⟩ : P3) (⟨b0, b1, b2⟩ : P3))))))) := by
 obtain ⟨⟨u1, u2, u3⟩, w1, w2, w3⟩ := hp
 simp only at u1 u2 u3 w1 w2 w3
 have q1 := sq_rg (d := a0 - b0) (K := 30000) (by omega)
 have q2 := sq_rg (d := a1 - b1) (K := 30000) (by omega)
 have q3 := sq_rg (d := a2 - b2) (K := 30000) (by omega)
 unfold vc_ref06_square
 refine lt_i fun x1 h1 => lt_i fun x2 h2 => lt_i fun x3 h3 => ?_
 rw [wi (by omega)] at h1 h2 h3
 subst h1 h2 h3
 refine lt_i fun x4 h4 => lt_i fun x5 h5 => lt_i fun x6 h6 => lt_i fun x7 h7 => lt_i fun x8 h8 => ?_
 rw [wi (by omega)] at h4 h5 h7
 subst h4 h5 h7
 rw [wi (by omega)] at h6
 subst h6
 rw [wi (by omega)] at h8
 subst h8
 exact LeD.refl _
def con_ref06_square : Con := fun args => match args with
 | [.t (.a [.v (.int .i64 a0), .v (.int .i64 a1), .v (.int .i64 a2)]), .t (.a [.v (.int .i64 b0), .v (.int .i64 b1), .v (.int .i64 b2)])] => some (.t (.c (.v (.int .i64 (sqD (⟨a0, a1, a2⟩ : P3) (⟨b0, b1, b2⟩ : P3))))), some (((⟨a0, a1, a2⟩ : P3)).bd 15000 ∧ ((⟨b0, b1, b2⟩ : P3)).bd 15000), false)
 | _ => none
theorem ok_ref06_square : Ok Tryd.prog 99 con_ref06_square := by
 refine Ok.fn (ann := ann_ref06_square) mixed tabOK VS72 ValidIt.no (fn := Tryd.f99) (by kernel_rfl) (by kernel_rfl) fit_ref06_square fun args r pre fresh h hp => ?_
 unfold con_ref06_square at h
 split at h
 ·rename_i a0 a1 a2 b0 b1 b2
  cases h
  refine ⟨rfl, fun _ _ _ => False, _, LeA.refl _, Nat.le_of_ble_eq_true (by kernel_rfl), ?_, ?_⟩
  ·rw [ev_ref06_square]; exact spec_ref06_square a0 a1 a2 b0 b1 b2 hp
  ·rw [lp_ref06_square]; trivial
 ·cases h
def S73 : Sum := addS S72 99 con_ref06_square
theorem VS73 : Valid Tryd.prog S73 := Valid.add VS72 ok_ref06_square
def mk_base_Root_0 (y : Int) (v0_0 : Int) (v0_1 : Int) : DS := ⟨[some (.t (.c (.v (.int .i64 y)))), none, none, some (.t (.c (.v (.int .i64 v0_0)))), some (.t (.c (.v (.int .i64 v0_1)))), none, none, none, none, none, none, none, none, none, none, none, none, none, none, none, none, none], [none, none, none, none, none, none, none, none, none, none, none, none, none, none, none, none, none, none, none, none, none, none]⟩
def vc_base_Root (J : Inv) (y : Int) (post : DV → Prop) : Prop := ∃ n, J 0 (n :: []) (mk_base_Root_0 y 0 1073741824)
def ann_base_Root : Ann := ⟨fun _ => none, fun b => lookA b [(0, (none, some ⟨[0, 3, 4], [], []⟩))], fun _ => [], noIt, false, fun _ => none, fun _ => none⟩
theorem ev_base_Root (J : Inv) (y : Int) (post : DV → Prop) : evFn Tryd.prog tab S73 ann_base_Root J Tryd.f62 [.t (.c (.v (.int .i64 y)))] post = vc_base_Root J y post := by kernel_rfl
theorem fit_base_Root : okFn ann_base_Root Tryd.f62 = true := by kernel_rfl
def rd_base_Root_0 (J : Inv) (y : Int) (v0_0 : Int) (v0_1 : Int) (nn0 : Nat) (post : DV → Prop) : Prop := cond (decide (v0_1 > (0 : Int))) (lt (IntKind.i64.wrap (v0_0 + v0_1)) fun x1 => lt (IntKind.i64.wrap (v0_0 + v0_1)) fun x2 => lt (IntKind.i64.wrap (x1 * x2)) fun x3 => cond (decide (x3 ≤ y)) (lt (IntKind.i64.wrap (v0_0 + v0_1)) fun x4 => lt (IntKind.i64.wrap (Int.tdiv v0_1 (2 : Int))) fun x5 => (IntKind.i64 = IntKind.i64 ∧ (2 : Int) ≠ 0) ∧ (J 0 (nn0 :: []) (mk_base_Root_0 y x4 x5))) (lt (IntKind.i64.wrap (Int.tdiv v0_1 (2 : Int))) fun x6 => (IntKind.i64 = IntKind.i64 ∧ (2 : Int) ≠ 0) ∧ (J 0 (nn0 :: []) (mk_base_Root_0 y v0_0 x6)))) (post (.t (.c (.v (.int .i64 v0_0)))))
theorem er_base_Root_0 (J : Inv) (y : Int) (v0_0 : Int) (v0_1 : Int) (nn0 : Nat) (post : DV → Prop) : round Tryd.prog tab S73 ann_base_Root J Tryd.f62 post 0 (nn0 :: []) (mk_base_Root_0 y v0_0 v0_1) = rd_base_Root_0 J y v0_0 v0_1 nn0 post := by kernel_rfl
theorem lp_base_Root (J : Inv) (post : DV → Prop) : AllG J (loopsFn Tryd.prog tab S73 ann_base_Root J Tryd.f62 post) = (((∀ F s, ¬ J 0 (0 :: F) s) ∧ ∀ n F s, J 0 ((n + 1) :: F) s → round Tryd.prog tab S73 ann_base_Root J Tryd.f62 post 0 (n :: F) s) ∧ True) := by kernel_rfl
def J_base_Root (y : Int) : Inv := fun b F s => match b, F with
 | 0, [nn0] => ∃ (v0_0 : Int) (v0_1 : Int), s = mk_base_Root_0 y v0_0 v0_1 ∧ (∃ j : Nat, nn0 = j + 1 ∧ j ≤ 31 ∧ v0_1 = (2 : Int) ^ j / 2 ∧ 0 ≤ v0_0 ∧ v0_0 * v0_0 ≤ y ∧ y < (v0_0 + 2 ^ j) * (v0_0 + 2 ^ j))
 | _, _ => False
theorem rnd_base_Root_0 (y : Int) (v0_0 : Int) (v0_1 : Int) (nn0 : Nat) (hp : 0 ≤ y ∧ y < 1099511627776) (hi : ∃ j : Nat, (nn0 + 1) = j + 1 ∧ j ≤ 31 ∧ v0_1 = (2 : Int) ^ j / 2 ∧ 0 ≤ v0_0 ∧ v0_0 * v0_0 ≤ y ∧ y < (v0_0 + 2 ^ j) * (v0_0 + 2 ^ j)) : rd_base_Root_0 (J_base_Root y) y v0_0 v0_1 nn0 (fun r => LeD r (.t (.c (.v (.int .i64 (rt y)))))) := by
 obtain ⟨j, i1, i2, i3, i4, i5, i6⟩ := hi
 unfold rd_base_Root_0
 have r1 : v0_0 ≤ 1048576 := by
  rcases Int.le_total v0_0 1048576 with h | h
  ·exact h
  ·have := Int.mul_le_mul h h (by decide) i4; omega
 cases j with
 | zero =>
  refine cond_i (fun h => ?_) (fun h => leI (rt_of i4 i5 i6 hp.2))
  have h := of_decide_eq_true h
  rw [i3] at h
  exact absurd h (by decide)
 | succ j =>
  have e : (2 : Int) ^ (j + 1) = 2 ^ j * 2 := rfl
  have hB : 1 ≤ (2 : Int) ^ j ∧ (2 : Int) ^ j ≤ 1073741824 := pow_rg (by omega)
  rw [e] at i3 i6
  have e2 : v0_1 = (2 : Int) ^ j := by omega
  rw [e2]
  obtain ⟨B, hj⟩ : ∃ B, (2 : Int) ^ j = B := ⟨_, rfl⟩
  rw [hj] at i3 i6 e2 hB ⊢
  have m := sq_rg (d := v0_0 + B) (K := 2000000000) (by omega)
  refine cond_i (fun h => lt_i fun x1 h1 => lt_i fun x2 h2 => lt_i fun x3 h3 => ?_) (fun h => absurd (of_decide_eq_false h) (by omega))
  rw [wi (by omega)] at h1 h2
  subst h1 h2
  rw [wi (by omega)] at h3
  subst h3
  have td : Int.tdiv B 2 = B / 2 := Int.tdiv_eq_ediv_of_nonneg (by omega)
  refine cond_i (fun q => lt_i fun x4 h4 => lt_i fun x5 h5 => ⟨⟨rfl, by decide⟩, ?_⟩) (fun q => lt_i fun x5 h5 => ⟨⟨rfl, by decide⟩, ?_⟩)
  ·have q := of_decide_eq_true q
   rw [wi (by omega)] at h4
   rw [td, wi (by omega)] at h5
   subst h4 h5
   exact ⟨_, _, rfl, j, by omega, by omega, by rw [hj], by omega, q, by rw [hj, Int.add_assoc, show B + B = B * 2 by omega]; exact i6⟩
  ·have q := of_decide_eq_false q
   rw [td, wi (by omega)] at h5
   subst h5
   exact ⟨_, _, rfl, j, by omega, by omega, by rw [hj], i4, i5, by rw [hj]; omega⟩
theorem zero_base_Root_0 (y : Int) (v0_0 : Int) (v0_1 : Int)  (hi : ∃ j : Nat, 0 = j + 1 ∧ j ≤ 31 ∧ v0_1 = (2 : Int) ^ j / 2 ∧ 0 ≤ v0_0 ∧ v0_0 * v0_0 ≤ y ∧ y < (v0_0 + 2 ^ j) * (v0_0 + 2 ^ j)) : False := by
 obtain ⟨j, h, _⟩ := hi
 omega
theorem spec_base_Root (y : Int) (hp : 0 ≤ y ∧ y < 1099511627776) : vc_base_Root (J_base_Root y) y (fun r => LeD r (.t (.c (.v (.int .i64 (rt y)))))) := by
 unfold vc_base_Root
 exact ⟨32, 0, 1073741824, rfl, 31, rfl, by decide, by decide, by omega, by omega, by omega⟩
theorem all_base_Root (y : Int) (hp : 0 ≤ y ∧ y < 1099511627776) : AllG (J_base_Root y) (loopsFn Tryd.prog tab S73 ann_base_Root (J_base_Root y) Tryd.f62 (fun r => LeD r (.t (.c (.v (.int .i64 (rt y))))))) := by
 rw [lp_base_Root]
 refine ⟨⟨?_, ?_⟩, trivial⟩
 ·intro F s h
  obtain _ | ⟨g, F⟩ := F
  case cons => exact h.elim
  obtain ⟨w0, w1, rfl, hi⟩ := h
  exact zero_base_Root_0 y w0 w1 hi
 ·intro n F s h
  obtain _ | ⟨g, F⟩ := F
  case cons => exact h.elim
  obtain ⟨w0, w1, rfl, hi⟩ := h
  rw [er_base_Root_0]
  exact rnd_base_Root_0 y _ _ _ hp hi
def con_base_Root : Con := fun args => match args with
 | [.t (.c (.v (.int .i64 y)))] => some (.t (.c (.v (.int .i64 (rt y)))), some (0 ≤ y ∧ y < 1099511627776), false)
 | _ => none
theorem ok_base_Root : Ok Tryd.prog 62 con_base_Root := by
 refine Ok.fn (ann := ann_base_Root) mixed tabOK VS73 ValidIt.no (fn := Tryd.f62) (by kernel_rfl) (by kernel_rfl) fit_base_Root fun args r pre fresh h hp => ?_
 unfold con_base_Root at h
 split at h
 ·rename_i y
  cases h
  refine ⟨rfl, J_base_Root y, _, LeA.refl _, Nat.le_of_ble_eq_true (by kernel_rfl), ?_, ?_⟩
  ·rw [ev_base_Root]; exact spec_base_Root y hp
  ·exact all_base_Root y hp
 ·cases h
def S74 : Sum := addS S73 62 con_base_Root
theorem VS74 : Valid Tryd.prog S74 := Valid.add VS73 ok_base_Root
def vc_ref06_Delay (a0 a1 a2 : Int) (b0 b1 b2 : Int) (post : DV → Prop) : Prop := (((⟨a0, a1, a2⟩ : P3)).bd 15000 ∧ ((⟨b0, b1, b2⟩ : P3)).bd 15000) ∧ (lt (IntKind.i64.wrap ((sqD (⟨a0, a1, a2⟩ : P3) (⟨b0, b1, b2⟩ : P3)) * (3 : Int))) fun x1 => lt (IntKind.i64.wrap (x1 * (3 : Int))) fun x2 => lt (IntKind.i64.wrap (Int.tdiv x2 (4 : Int))) fun x3 => (IntKind.i64 = IntKind.i64 ∧ (4 : Int) ≠ 0) ∧ ((0 ≤ x3 ∧ x3 < 1099511627776) ∧ (post (.t (.c (.v (.int .i64 (rt x3))))))))
def ann_ref06_Delay : Ann := ⟨fun _ => none, fun _ => none, fun _ => [], noIt, false, fun _ => none, fun _ => none⟩
theorem ev_ref06_Delay (J : Inv) (a0 a1 a2 : Int) (b0 b1 b2 : Int) (post : DV → Prop) : evFn Tryd.prog tab S74 ann_ref06_Delay J Tryd.f21 [.t (.a [.v (.int .i64 a0), .v (.int .i64 a1), .v (.int .i64 a2)]), .t (.a [.v (.int .i64 b0), .v (.int .i64 b1), .v (.int .i64 b2)])] post = vc_ref06_Delay a0 a1 a2 b0 b1 b2 post := by kernel_rfl
theorem fit_ref06_Delay : okFn ann_ref06_Delay Tryd.f21 = true := by kernel_rfl
theorem lp_ref06_Delay (J : Inv) (post : DV → Prop) : AllG J (loopsFn Tryd.prog tab S74 ann_ref06_Delay J Tryd.f21 post) = (True) := by kernel_rfl
theorem spec_ref06_Delay (a0 a1 a2 : Int) (b0 b1 b2 : Int) (hp : ((⟨a0, a1, a2⟩ : P3)).bd 15000 ∧ ((⟨b0, b1, b2⟩ : P3)).bd 15000) : vc_ref06_Delay a0 a1 a2 b0 b1 b2 (fun r => LeD r (.t (.c (.v (.int .i64 (dly (⟨a0, a1, a2⟩ : P3) (⟨b0, b1, b2⟩ : P3))))))) := by
 have hr := sqD_rg hp.1 hp.2
 unfold vc_ref06_Delay dly
 refine ⟨hp, ?_⟩
 generalize sqD (⟨a0, a1, a2⟩ : P3) (⟨b0, b1, b2⟩ : P3) = s at *
 refine lt_i fun x1 h1 => lt_i fun x2 h2 => lt_i fun x3 h3 => ⟨⟨rfl, by decide⟩, ?_⟩
 rw [wi (by omega)] at h1
 subst h1
 rw [wi (by omega)] at h2
 subst h2
 rw [Int.tdiv_eq_ediv_of_nonneg (by omega), wi (by omega), show s * 3 * 3 = s * 9 by omega] at h3
 subst h3
 exact ⟨by omega, LeD.refl _⟩
def con_ref06_Delay : Con := fun args => match args with
 | [.t (.a [.v (.int .i64 a0), .v (.int .i64 a1), .v (.int .i64 a2)]), .t (.a [.v (.int .i64 b0), .v (.int .i64 b1), .v (.int .i64 b2)])] => some (.t (.c (.v (.int .i64 (dly (⟨a0, a1, a2⟩ : P3) (⟨b0, b1, b2⟩ : P3))))), some (((⟨a0, a1, a2⟩ : P3)).bd 15000 ∧ ((⟨b0, b1, b2⟩ : P3)).bd 15000), false)
 | _ => none
theorem ok_ref06_Delay : Ok Tryd.prog 21 con_ref06_Delay := by
 refine Ok.fn (ann := ann_ref06_Delay) mixed tabOK VS74 ValidIt.no (fn := Tryd.f21) (by kernel_rfl) (by kernel_rfl) fit_ref06_Delay fun args r pre fresh h hp => ?_
 unfold con_ref06_Delay at h
 split at h
 ·rename_i a0 a1 a2 b0 b1 b2
  cases h
  refine ⟨rfl, fun _ _ _ => False, _, LeA.refl _, Nat.le_of_ble_eq_true (by kernel_rfl), ?_, ?_⟩
  ·rw [ev_ref06_Delay]; exact spec_ref06_Delay a0 a1 a2 b0 b1 b2 hp
  ·rw [lp_ref06_Delay]; trivial
 ·cases h
def S75 : Sum := addS S74 21 con_ref06_Delay
theorem VS75 : Valid Tryd.prog S75 := Valid.add VS74 ok_ref06_Delay
def mk_ref06_CheckHits_0 (l : List FHit) (v0_0 : Int) : DS := ⟨[some (.t (.c (.sl 7 l.length (hitsC l)))), none, none, none, some (.t (.c (.v (.int .i64 v0_0)))), none, none, none, none, none, none, none, none, none, none, none, none, none, none, none, none, none, none, none, none, none, none, none, none, none, none, none, none, none, none, none, none, none, none, none, none, none, none, none, none, none, none, none, none, none, none, none, none, none, none, none, none, none, none, none, none, none, none, none, none, none, none, none, none, none, none, none, none, none, none, none], [none, none, none, none, none, none, none, none, none, none, none, none, none, none, none, none, none, none, none, none, none, none, none, none, none, none, none, none, none, none, none, none, none, none, none, none, none, none, none, none, none, none, none, none, none, none, none, none, none, none, none, none, none, none, none, none, none, none, none, none, none, none, none, none, none, none, none, none, none, none, none, none, none, none, none, none]⟩
def vc_ref06_CheckHits (J : Inv) (l : List FHit) (post : DV → Prop) : Prop := cond (((l.length : Nat) : Int) == (0 : Int)) (post (.tu [.c (.v (.int .i64 0)), .c (.v (.int .i64 10))])) (cond (decide (((l.length : Nat) : Int) > (8 : Int))) (post (.tu [.c (.v (.int .i64 0)), .c (.v (.int .i64 8))])) (∃ n, J 0 (n :: []) (mk_ref06_CheckHits_0 l 0)))
def ann_ref06_CheckHits : Ann := ⟨fun r => lookA r [(11, ([[], [], [0, 1], [0, 1, 2], [0, 1, 2, 3], [], [], [5, 6], [5, 6, 7], [5, 6, 7, 8], [], [], [0, 1, 2, 3, 4, 10, 11], [0, 1, 2, 3, 4, 5, 6, 7, 8, 9, 10, 11, 12]], [[6, 7], [6, 7], [6, 7], [6, 7], [6, 7], [6, 7], [6, 7], [6, 7], [6, 7], [6, 7], [7], [6], [9999, 6], []]))], fun b => lookA b [(0, (none, some ⟨[0, 4], [], []⟩))], fun _ => [], noIt, false, fun _ => none, fun _ => none⟩
theorem ev_ref06_CheckHits (J : Inv) (l : List FHit) (post : DV → Prop) : evFn Tryd.prog tab S75 ann_ref06_CheckHits J Tryd.f22 [.t (.c (.sl 7 l.length (hitsC l)))] post = vc_ref06_CheckHits J l post := by kernel_rfl
theorem fit_ref06_CheckHits : okFn ann_ref06_CheckHits Tryd.f22 = true := by kernel_rfl
def rd_ref06_CheckHits_0 (J : Inv) (l : List FHit) (v0_0 : Int) (nn0 : Nat) (post : DV → Prop) : Prop := cond (decide (v0_0 < ((l.length : Nat) : Int))) ((0 ≤ v0_0 ∧ v0_0 < ((l.length : Nat) : Int)) ∧ (cond ((posE (hitAt l v0_0.toNat).p) != (0 : Int)) (post (.tu [.c (.v (.int .i64 v0_0)), .c (.v (.int .i64 (posE (hitAt l v0_0.toNat).p)))])) ((0 ≤ v0_0 ∧ v0_0 < ((l.length : Nat) : Int)) ∧ ((0 ≤ v0_0 ∧ v0_0 < ((l.length : Nat) : Int)) ∧ (cond (!(inB ((hitAt l v0_0.toNat).t.lo) (0 : Int) (1000000000 : Int))) ((true = true) ∧ ((true = true) ∧ ((true = true) ∧ (post (.tu [.c (.v (.int .i64 v0_0)), .c (.v (.int .i64 2))]))))) (cond (!(inB ((hitAt l v0_0.toNat).t.hi) (0 : Int) (1000000000 : Int))) ((true = true) ∧ ((true = true) ∧ (post (.tu [.c (.v (.int .i64 v0_0)), .c (.v (.int .i64 2))])))) (cond (!(inB ((hitAt l v0_0.toNat).c.lo) (0 : Int) (1000000 : Int))) ((true = true) ∧ (post (.tu [.c (.v (.int .i64 v0_0)), .c (.v (.int .i64 2))]))) (cond (!(inB ((hitAt l v0_0.toNat).c.hi) (0 : Int) (1000000 : Int))) (post (.tu [.c (.v (.int .i64 v0_0)), .c (.v (.int .i64 2))])) (cond (decide (((hitAt l v0_0.toNat).t.lo) > ((hitAt l v0_0.toNat).t.hi))) ((true = true) ∧ (post (.tu [.c (.v (.int .i64 v0_0)), .c (.v (.int .i64 9))]))) (cond (decide (((hitAt l v0_0.toNat).c.lo) > ((hitAt l v0_0.toNat).c.hi))) (post (.tu [.c (.v (.int .i64 v0_0)), .c (.v (.int .i64 9))])) (lt (IntKind.i64.wrap (v0_0 + (1 : Int))) fun x1 => J 0 (nn0 :: []) (mk_ref06_CheckHits_0 l x1)))))))))))) (post (.tu [.c (.v (.int .i64 0)), .c (.v (.int .i64 0))]))
theorem er_ref06_CheckHits_0 (J : Inv) (l : List FHit) (v0_0 : Int) (nn0 : Nat) (post : DV → Prop) : round Tryd.prog tab S75 ann_ref06_CheckHits J Tryd.f22 post 0 (nn0 :: []) (mk_ref06_CheckHits_0 l v0_0) = rd_ref06_CheckHits_0 J l v0_0 nn0 post := by kernel_rfl
theorem lp_ref06_CheckHits (J : Inv) (post : DV → Prop) : AllG J (loopsFn Tryd.prog tab S75 ann_ref06_CheckHits J Tryd.f22 post) = (((∀ F s, ¬ J 0 (0 :: F) s) ∧ ∀ n F s, J 0 ((n + 1) :: F) s → round Tryd.prog tab S75 ann_ref06_CheckHits J Tryd.f22 post 0 (n :: F) s) ∧ True) := by kernel_rfl
def J_ref06_CheckHits (l : List FHit) : Inv := fun b F s => match b, F with
 | 0, [nn0] => ∃ (v0_0 : Int), s = mk_ref06_CheckHits_0 l v0_0 ∧ (0 ≤ v0_0 ∧ v0_0 ≤ l.length ∧ (nn0 : Int) + v0_0 = l.length + 1 ∧ (∀ j : Nat, (j : Int) < v0_0 → (hitAt l j).err = 0) ∧ cntE l.length 8 = 0)
 | _, _ => False
set_option maxHeartbeats 8000000 in
set_option maxRecDepth 100000 in
theorem rnd_ref06_CheckHits_0 (l : List FHit) (v0_0 : Int) (nn0 : Nat) (hi : 0 ≤ v0_0 ∧ v0_0 ≤ l.length ∧ ((nn0 + 1) : Int) + v0_0 = l.length + 1 ∧ (∀ j : Nat, (j : Int) < v0_0 → (hitAt l j).err = 0) ∧ cntE l.length 8 = 0) : rd_ref06_CheckHits_0 (J_ref06_CheckHits l) l v0_0 nn0 (fun r => LeD r (.tu [.c (.v (.int .i64 (hitsI l))), .c (.v (.int .i64 (hitsE l)))])) := by
 obtain ⟨i1, i2, i3, i4, i5⟩ := hi
 obtain ⟨k, rfl⟩ : ∃ k : Nat, v0_0 = k := ⟨v0_0.toNat, by omega⟩
 have hk : (k : Int).toNat = k := rfl
 have hz : ∀ j, j < k → (hitAt l j).err = 0 := fun j hj => i4 j (by omega)
 have hlen : l.length ≤ 8 := by
  have h2 := (fn2 i5).2
  rw [unl_0 (by decide)] at h2
  have := of_decide_eq_true h2
  omega
 have eI : hitsI l = scanI (fun i => (hitAt l i).err) l.length := if_pos i5
 have eE : hitsE l = scan (fun i => (hitAt l i).err) l.length := if_pos i5
 unfold rd_ref06_CheckHits_0
 rw [hk]
 refine cond_i (fun h => ?_) (fun h => ?_)
 ·have hlt : k < l.length := by have := of_decide_eq_true h; omega
  have bad : ∀ e, e ≠ 0 → (hitAt l k).err = e → LeD (.tu [.c (.v (.int .i64 (k : Int))), .c (.v (.int .i64 e))]) (.tu [.c (.v (.int .i64 (hitsI l))), .c (.v (.int .i64 (hitsE l)))]) := fun e he q => by
   subst q
   rw [eI, eE]
   exact le2 (scanI_at (f := fun i => (hitAt l i).err) hz hlt he).symm (scan_at (f := fun i => (hitAt l i).err) hz hlt he).symm
  have hq := FHit.err_eq (hitAt l k)
  refine ⟨by omega, cond_i (fun e => ?_) (fun e => ⟨by omega, by omega, cond_i (fun a1 => ⟨rfl, rfl, rfl, ?_⟩) (fun a1 => cond_i (fun a2 => ⟨rfl, rfl, ?_⟩) (fun a2 => cond_i (fun a3 => ⟨rfl, ?_⟩) (fun a3 => cond_i (fun a4 => ?_) (fun a4 => cond_i (fun a5 => ⟨rfl, ?_⟩) (fun a5 => cond_i (fun a6 => ?_) (fun a6 => lt_i fun x hx => ?_))))))⟩)⟩
  ·have e : posE (hitAt l k).p ≠ 0 := by simpa using e
   exact bad _ e (by rw [hq, if_pos e])
  all_goals
   have e : posE (hitAt l k).p = 0 := by simpa using e
   rw [if_neg (by rw [e]; simp)] at hq
  ·exact bad 2 (by decide) (by rw [hq]; simp_all)
  ·exact bad 2 (by decide) (by rw [hq]; simp_all)
  ·exact bad 2 (by decide) (by rw [hq]; simp_all)
  ·exact bad 2 (by decide) (by rw [hq]; simp_all)
  ·exact bad 9 (by decide) (by rw [hq]; simp_all)
  ·exact bad 9 (by decide) (by rw [hq]; simp_all)
  ·have q : (hitAt l k).err = 0 := by rw [hq]; simp_all
   rw [wi (by omega)] at hx
   subst hx
   refine ⟨_, rfl, by omega, by omega, by omega, fun j hj => ?_, i5⟩
   by_cases q2 : j = k
   ·rw [q2]; exact q
   ·exact i4 j (by omega)
 ·have hge : k = l.length := by have := of_decide_eq_false h; omega
  subst hge
  rw [eI, eE]
  exact le2 (scanI_end (f := fun i => (hitAt l i).err) hz).symm (scan_end (f := fun i => (hitAt l i).err) hz).symm
theorem zero_ref06_CheckHits_0 (l : List FHit) (v0_0 : Int)  (hi : 0 ≤ v0_0 ∧ v0_0 ≤ l.length ∧ (0 : Int) + v0_0 = l.length + 1 ∧ (∀ j : Nat, (j : Int) < v0_0 → (hitAt l j).err = 0) ∧ cntE l.length 8 = 0) : False := by
 omega
set_option maxHeartbeats 8000000 in
set_option maxRecDepth 100000 in
theorem spec_ref06_CheckHits (l : List FHit) : vc_ref06_CheckHits (J_ref06_CheckHits l) l (fun r => LeD r (.tu [.c (.v (.int .i64 (hitsI l))), .c (.v (.int .i64 (hitsE l)))])) := by
 unfold vc_ref06_CheckHits
 have bad : ∀ e, e ≠ 0 → cntE l.length 8 = e → LeD (.tu [.c (.v (.int .i64 0)), .c (.v (.int .i64 e))]) (.tu [.c (.v (.int .i64 (hitsI l))), .c (.v (.int .i64 (hitsE l)))]) := fun e he q => by
  subst q
  exact le2 (if_neg he).symm (if_neg he).symm
 refine cond_i (fun h => bad 10 (by decide) ?_) (fun h => cond_i (fun h2 => bad 8 (by decide) ?_) (fun h2 => ?_))
 ·have h : (l.length : Int) = 0 := by simpa using h
  unfold cntE; rw [h]; rfl
 ·have h : (l.length : Int) ≠ 0 := by simpa using h
  have h2 := of_decide_eq_true h2
  unfold cntE; rw [decide_eq_true (show (l.length : Int) > 0 by omega), decide_eq_false (show ¬ (l.length : Int) ≤ 8 by omega)]; rfl
 ·have h : (l.length : Int) ≠ 0 := by simpa using h
  have h2 := of_decide_eq_false h2
  refine ⟨l.length + 1, 0, rfl, by omega, by omega, by omega, fun j hj => by omega, ?_⟩
  unfold cntE; rw [decide_eq_true (show (l.length : Int) > 0 by omega), decide_eq_true (show (l.length : Int) ≤ 8 by omega)]; rfl
theorem all_ref06_CheckHits (l : List FHit) : AllG (J_ref06_CheckHits l) (loopsFn Tryd.prog tab S75 ann_ref06_CheckHits (J_ref06_CheckHits l) Tryd.f22 (fun r => LeD r (.tu [.c (.v (.int .i64 (hitsI l))), .c (.v (.int .i64 (hitsE l)))]))) := by
 rw [lp_ref06_CheckHits]
 refine ⟨⟨?_, ?_⟩, trivial⟩
 ·intro F s h
  obtain _ | ⟨g, F⟩ := F
  case cons => exact h.elim
  obtain ⟨w0, rfl, hi⟩ := h
  exact zero_ref06_CheckHits_0 l w0 hi
 ·intro n F s h
  obtain _ | ⟨g, F⟩ := F
  case cons => exact h.elim
  obtain ⟨w0, rfl, hi⟩ := h
  rw [er_ref06_CheckHits_0]
  exact rnd_ref06_CheckHits_0 l _ _ hi
def con_ref06_CheckHits : Con := fun args => match args with
 | [.t (.c (.sl 7 n_l c_l))] => some (.tu [.c (.v (.int .i64 (hitsI (listC n_l mkHit c_l)))), .c (.v (.int .i64 (hitsE (listC n_l mkHit c_l))))], some (numsP 7 n_l c_l), false)
 | _ => none
theorem ok_ref06_CheckHits : Ok Tryd.prog 22 con_ref06_CheckHits := by
 refine Ok.fn (ann := ann_ref06_CheckHits) mixed tabOK VS75 ValidIt.no (fn := Tryd.f22) (by kernel_rfl) (by kernel_rfl) fit_ref06_CheckHits fun args r pre fresh h hp => ?_
 unfold con_ref06_CheckHits at h
 split at h
 ·rename_i n_l c_l
  cases h
  have hp0 := hp
  refine ⟨rfl, J_ref06_CheckHits (listC n_l mkHit c_l), [.t (.c (.sl 7 ((listC n_l mkHit c_l).length) (hitsC (listC n_l mkHit c_l))))], ?_, Nat.le_of_ble_eq_true (by kernel_rfl), ?_, ?_⟩
  ·exact (LeA_cons (leT_c ((leL_FHit hp0))) LeA_nil)
  ·rw [ev_ref06_CheckHits]; exact spec_ref06_CheckHits (listC n_l mkHit c_l)
  ·exact all_ref06_CheckHits (listC n_l mkHit c_l)
 ·cases h
def S76 : Sum := addS S75 22 con_ref06_CheckHits
theorem VS76 : Valid Tryd.prog S76 := Valid.add VS75 ok_ref06_CheckHits
def vc_ref06_HitsErr (l : List FHit) (post : DV → Prop) : Prop := (numsP 7 l.length (hitsC l)) ∧ (post (.t (.c (.v (.int .i64 (hitsE (listC l.length mkHit (hitsC l))))))))
def ann_ref06_HitsErr : Ann := ⟨fun _ => none, fun _ => none, fun _ => [], noIt, false, fun _ => none, fun _ => none⟩
theorem ev_ref06_HitsErr (J : Inv) (l : List FHit) (post : DV → Prop) : evFn Tryd.prog tab S76 ann_ref06_HitsErr J Tryd.f59 [.t (.c (.sl 7 l.length (hitsC l)))] post = vc_ref06_HitsErr l post := by kernel_rfl
theorem fit_ref06_HitsErr : okFn ann_ref06_HitsErr Tryd.f59 = true := by kernel_rfl
theorem lp_ref06_HitsErr (J : Inv) (post : DV → Prop) : AllG J (loopsFn Tryd.prog tab S76 ann_ref06_HitsErr J Tryd.f59 post) = (True) := by kernel_rfl
theorem spec_ref06_HitsErr (l : List FHit) : vc_ref06_HitsErr l (fun r => LeD r (.t (.c (.v (.int .i64 (hitsE l)))))) := by
 unfold vc_ref06_HitsErr
 rw [hits_listC]
 exact ⟨numsP_hits l, LeD.refl _⟩
def con_ref06_HitsErr : Con := fun args => match args with
 | [.t (.c (.sl 7 n_l c_l))] => some (.t (.c (.v (.int .i64 (hitsE (listC n_l mkHit c_l))))), some (numsP 7 n_l c_l), false)
 | _ => none
theorem ok_ref06_HitsErr : Ok Tryd.prog 59 con_ref06_HitsErr := by
 refine Ok.fn (ann := ann_ref06_HitsErr) mixed tabOK VS76 ValidIt.no (fn := Tryd.f59) (by kernel_rfl) (by kernel_rfl) fit_ref06_HitsErr fun args r pre fresh h hp => ?_
 unfold con_ref06_HitsErr at h
 split at h
 ·rename_i n_l c_l
  cases h
  have hp0 := hp
  refine ⟨rfl, fun _ _ _ => False, [.t (.c (.sl 7 ((listC n_l mkHit c_l).length) (hitsC (listC n_l mkHit c_l))))], ?_, Nat.le_of_ble_eq_true (by kernel_rfl), ?_, ?_⟩
  ·exact (LeA_cons (leT_c ((leL_FHit hp0))) LeA_nil)
  ·rw [ev_ref06_HitsErr]; exact spec_ref06_HitsErr (listC n_l mkHit c_l)
  ·rw [lp_ref06_HitsErr]; trivial
 ·cases h
def S77 : Sum := addS S76 59 con_ref06_HitsErr
theorem VS77 : Valid Tryd.prog S77 := Valid.add VS76 ok_ref06_HitsErr
def vc_ref06_LatticeErr (g0 g1 g2 g3 g4 : Int) (post : DV → Prop) : Prop := cond ((posE (⟨g0, g1, g2⟩ : P3)) != (0 : Int)) (post (.t (.c (.v (.int .i64 (posE (⟨g0, g1, g2⟩ : P3))))))) (cond (!(inB g3 (1 : Int) (1000 : Int))) ((true = true) ∧ (post (.t (.c (.v (.int .i64 2)))))) (cond (!(inB g4 (1 : Int) (6 : Int))) (post (.t (.c (.v (.int .i64 2))))) (post (.t (.c (.v (.int .i64 0)))))))
def ann_ref06_LatticeErr : Ann := ⟨fun _ => none, fun _ => none, fun _ => [], noIt, false, fun _ => none, fun _ => none⟩
theorem ev_ref06_LatticeErr (J : Inv) (g0 g1 g2 g3 g4 : Int) (post : DV → Prop) : evFn Tryd.prog tab S77 ann_ref06_LatticeErr J Tryd.f23 [.t (.a [.v (.int .i64 g0), .v (.int .i64 g1), .v (.int .i64 g2), .v (.int .i64 g3), .v (.int .i64 g4)])] post = vc_ref06_LatticeErr g0 g1 g2 g3 g4 post := by kernel_rfl
theorem fit_ref06_LatticeErr : okFn ann_ref06_LatticeErr Tryd.f23 = true := by kernel_rfl
theorem lp_ref06_LatticeErr (J : Inv) (post : DV → Prop) : AllG J (loopsFn Tryd.prog tab S77 ann_ref06_LatticeErr J Tryd.f23 post) = (True) := by kernel_rfl
theorem spec_ref06_LatticeErr (g0 g1 g2 g3 g4 : Int) : vc_ref06_LatticeErr g0 g1 g2 g3 g4 (fun r => LeD r (.t (.c (.v (.int .i64 (latE (⟨⟨g0, g1, g2⟩, g3, g4⟩ : Lat))))))) := by
 unfold vc_ref06_LatticeErr
 unfold latE
 refine cond_i (fun h => leI ?_) (fun h => cond_i (fun h2 => ⟨rfl, leI ?_⟩) (fun h2 => cond_i (fun h3 => leI ?_) (fun h3 => leI ?_)))
 all_goals simp_all [unl, firstNZ]
def con_ref06_LatticeErr : Con := fun args => match args with
 | [.t (.a [.v (.int .i64 g0), .v (.int .i64 g1), .v (.int .i64 g2), .v (.int .i64 g3), .v (.int .i64 g4)])] => some (.t (.c (.v (.int .i64 (latE (⟨⟨g0, g1, g2⟩, g3, g4⟩ : Lat))))), none, false)
 | _ => none
theorem ok_ref06_LatticeErr : Ok Tryd.prog 23 con_ref06_LatticeErr := by
 refine Ok.fn (ann := ann_ref06_LatticeErr) mixed tabOK VS77 ValidIt.no (fn := Tryd.f23) (by kernel_rfl) (by kernel_rfl) fit_ref06_LatticeErr fun args r pre fresh h hp => ?_
 unfold con_ref06_LatticeErr at h
 split at h
 ·rename_i g0 g1 g2 g3 g4
  cases h
  refine ⟨rfl, fun _ _ _ => False, _, LeA.refl _, Nat.le_of_ble_eq_true (by kernel_rfl), ?_, ?_⟩
  ·rw [ev_ref06_LatticeErr]; exact spec_ref06_LatticeErr g0 g1 g2 g3 g4
  ·rw [lp_ref06_LatticeErr]; trivial
 ·cases h
def S78 : Sum := addS S77 23 con_ref06_LatticeErr
theorem VS78 : Valid Tryd.prog S78 := Valid.add VS77 ok_ref06_LatticeErr
def mk_ref06_Positions_0 (g0 g1 g2 g3 g4 : Int) (v0_0 : List (List CV)) (v0_1 : Int) : DS := ⟨[none, some (.t (.c (.p 1 0))), none, some (.t (.c (.os 3))), some (.t (.c (.v (.int .i64 v0_1)))), none, none, none, none, none, none, none, none, none, none, none, none, none, none, none, none, none, none, none, none, none, none, none, none, none, none, none, none, none, none, none, none, none, none, none, none, none, none, none, none, none, none, none, none, none, none, none, none, none], [none, some (.box 26 [.v (.int .i64 g0), .v (.int .i64 g1), .v (.int .i64 g2), .v (.int .i64 g3), .v (.int .i64 g4)]), none, some (.gen 24 3 v0_0), none, none, none, none, none, none, none, none, none, none, none, none, none, none, none, none, none, none, none, none, none, none, none, none, none, none, none, none, none, none, none, none, none, none, none, none, none, none, none, none, none, none, none, none, none, none, none, none, none, none]⟩
def mk_ref06_Positions_2 (g0 g1 g2 g3 g4 : Int) (v2_0 : List (List CV)) (v2_1 : Int) (v2_2 : Int) : DS := ⟨[none, some (.t (.c (.p 1 0))), none, some (.t (.c (.os 3))), some (.t (.c (.v (.int .i64 v2_1)))), some (.t (.c (.v (.int .i64 v2_2)))), none, none, none, none, none, none, none, none, none, none, none, none, none, none, none, none, none, none, none, none, none, none, none, none, none, none, none, none, none, none, none, none, none, none, none, none, none, none, none, none, none, none, none, none, none, none, none, none], [none, some (.box 26 [.v (.int .i64 g0), .v (.int .i64 g1), .v (.int .i64 g2), .v (.int .i64 g3), .v (.int .i64 g4)]), none, some (.gen 24 3 v2_0), none, none, none, none, none, none, none, none, none, none, none, none, none, none, none, none, none, none, none, none, none, none, none, none, none, none, none, none, none, none, none, none, none, none, none, none, none, none, none, none, none, none, none, none, none, none, none, none, none, none]⟩
def mk_ref06_Positions_4 (g0 g1 g2 g3 g4 : Int) (v4_0 : List (List CV)) (v4_1 : Int) (v4_2 : Int) (v4_3 : Int) : DS := ⟨[none, some (.t (.c (.p 1 0))), none, some (.t (.c (.os 3))), some (.t (.c (.v (.int .i64 v4_1)))), some (.t (.c (.v (.int .i64 v4_2)))), some (.t (.c (.v (.int .i64 v4_3)))), none, none, none, none, none, none, none, none, none, none, none, none, none, none, none, none, none, none, none, none, none, none, none, none, none, none, none, none, none, none, none, none, none, none, none, none, none, none, none, none, none, none, none, none, none, none, none], [none, some (.box 26 [.v (.int .i64 g0), .v (.int .i64 g1), .v (.int .i64 g2), .v (.int .i64 g3), .v (.int .i64 g4)]), none, some (.gen 24 3 v4_0), none, none, none, none, none, none, none, none, none, none, none, none, none, none, none, none, none, none, none, none, none, none, none, none, none, none, none, none, none, none, none, none, none, none, none, none, none, none, none, none, none, none, none, none, none, none, none, none, none, none]⟩
def vc_ref06_Positions (J : Inv) (g0 g1 g2 g3 g4 : Int) (post : DV → Prop) : Prop := ∃ n, J 0 (n :: []) (mk_ref06_Positions_0 g0 g1 g2 g3 g4 ([]) 0)
def ann_ref06_Positions : Ann := ⟨fun _ => none, fun b => lookA b [(0, (none, some ⟨[1, 4], [1], [(3, .gen 24 3 [])]⟩)), (2, (none, some ⟨[1, 4, 5], [1], [(3, .gen 24 3 [])]⟩)), (4, (none, some ⟨[1, 4, 5, 6], [1], [(3, .gen 24 3 [])]⟩))], fun _ => [], noIt, true, fun _ => none, fun _ => none⟩
theorem ev_ref06_Positions (J : Inv) (g0 g1 g2 g3 g4 : Int) (post : DV → Prop) : evFn Tryd.prog tab S78 ann_ref06_Positions J Tryd.f25 [.t (.a [.v (.int .i64 g0), .v (.int .i64 g1), .v (.int .i64 g2), .v (.int .i64 g3), .v (.int .i64 g4)])] post = vc_ref06_Positions J g0 g1 g2 g3 g4 post := by kernel_rfl
theorem fit_ref06_Positions : okFn ann_ref06_Positions Tryd.f25 = true := by kernel_rfl
def rd_ref06_Positions_0 (J : Inv) (g0 g1 g2 g3 g4 : Int) (v0_0 : List (List CV)) (v0_1 : Int) (nn0 : Nat) (post : DV → Prop) : Prop := cond (decide (v0_1 < g4)) (∃ n, J 2 (n :: nn0 :: []) (mk_ref06_Positions_2 g0 g1 g2 g3 g4 v0_0 v0_1 0)) (post (.t (.c (.sl 3 v0_0.length (genC v0_0)))))
theorem er_ref06_Positions_0 (J : Inv) (g0 g1 g2 g3 g4 : Int) (v0_0 : List (List CV)) (v0_1 : Int) (nn0 : Nat) (post : DV → Prop) : round Tryd.prog tab S78 ann_ref06_Positions J Tryd.f25 post 0 (nn0 :: []) (mk_ref06_Positions_0 g0 g1 g2 g3 g4 v0_0 v0_1) = rd_ref06_Positions_0 J g0 g1 g2 g3 g4 v0_0 v0_1 nn0 post := by kernel_rfl
def rd_ref06_Positions_2 (J : Inv) (g0 g1 g2 g3 g4 : Int) (v2_0 : List (List CV)) (v2_1 : Int) (v2_2 : Int) (nn2 nn0 : Nat) (post : DV → Prop) : Prop := cond (decide (v2_2 < g4)) (∃ n, J 4 (n :: nn2 :: nn0 :: []) (mk_ref06_Positions_4 g0 g1 g2 g3 g4 v2_0 v2_1 v2_2 0)) (lt (IntKind.i64.wrap (v2_1 + (1 : Int))) fun x1 => J 0 (nn0 :: []) (mk_ref06_Positions_0 g0 g1 g2 g3 g4 v2_0 x1))
theorem er_ref06_Positions_2 (J : Inv) (g0 g1 g2 g3 g4 : Int) (v2_0 : List (List CV)) (v2_1 : Int) (v2_2 : Int) (nn2 nn0 : Nat) (post : DV → Prop) : round Tryd.prog tab S78 ann_ref06_Positions J Tryd.f25 post 1 (nn2 :: nn0 :: []) (mk_ref06_Positions_2 g0 g1 g2 g3 g4 v2_0 v2_1 v2_2) = rd_ref06_Positions_2 J g0 g1 g2 g3 g4 v2_0 v2_1 v2_2 nn2 nn0 post := by kernel_rfl
def rd_ref06_Positions_4 (J : Inv) (g0 g1 g2 g3 g4 : Int) (v4_0 : List (List CV)) (v4_1 : Int) (v4_2 : Int) (v4_3 : Int) (nn4 nn2 nn0 : Nat) (post : DV → Prop) : Prop := cond (decide (v4_3 < g4)) (lt (IntKind.i64.wrap (g3 * v4_1)) fun x1 => lt (IntKind.i64.wrap (g0 + x1)) fun x2 => lt (IntKind.i64.wrap (g3 * v4_2)) fun x3 => lt (IntKind.i64.wrap (g1 + x3)) fun x4 => lt (IntKind.i64.wrap (g3 * v4_3)) fun x5 => lt (IntKind.i64.wrap (g2 + x5)) fun x6 => (roomP 24 (v4_0.length + ([[.v (.int .i64 x2), .v (.int .i64 x4), .v (.int .i64 x6)]] : List (List CV)).length)) ∧ (lt (IntKind.i64.wrap (v4_3 + (1 : Int))) fun x7 => J 4 (nn4 :: nn2 :: nn0 :: []) (mk_ref06_Positions_4 g0 g1 g2 g3 g4 (v4_0 ++ ([[.v (.int .i64 x2), .v (.int .i64 x4), .v (.int .i64 x6)]] : List (List CV))) v4_1 v4_2 x7))) (lt (IntKind.i64.wrap (v4_2 + (1 : Int))) fun x8 => J 2 (nn2 :: nn0 :: []) (mk_ref06_Positions_2 g0 g1 g2 g3 g4 v4_0 v4_1 x8))
theorem er_ref06_Positions_4 (J : Inv) (g0 g1 g2 g3 g4 : Int) (v4_0 : List (List CV)) (v4_1 : Int) (v4_2 : Int) (v4_3 : Int) (nn4 nn2 nn0 : Nat) (post : DV → Prop) : round Tryd.prog tab S78 ann_ref06_Positions J Tryd.f25 post 2 (nn4 :: nn2 :: nn0 :: []) (mk_ref06_Positions_4 g0 g1 g2 g3 g4 v4_0 v4_1 v4_2 v4_3) = rd_ref06_Positions_4 J g0 g1 g2 g3 g4 v4_0 v4_1 v4_2 v4_3 nn4 nn2 nn0 post := by kernel_rfl
theorem lp_ref06_Positions (J : Inv) (post : DV → Prop) : AllG J (loopsFn Tryd.prog tab S78 ann_ref06_Positions J Tryd.f25 post) = (((∀ F s, ¬ J 0 (0 :: F) s) ∧ ∀ n F s, J 0 ((n + 1) :: F) s → round Tryd.prog tab S78 ann_ref06_Positions J Tryd.f25 post 0 (n :: F) s) ∧ ((∀ F s, ¬ J 2 (0 :: F) s) ∧ ∀ n F s, J 2 ((n + 1) :: F) s → round Tryd.prog tab S78 ann_ref06_Positions J Tryd.f25 post 1 (n :: F) s) ∧ ((∀ F s, ¬ J 4 (0 :: F) s) ∧ ∀ n F s, J 4 ((n + 1) :: F) s → round Tryd.prog tab S78 ann_ref06_Positions J Tryd.f25 post 2 (n :: F) s) ∧ True) := by kernel_rfl
def J_ref06_Positions (g0 g1 g2 g3 g4 : Int) : Inv := fun b F s => match b, F with
 | 0, [nn0] => ∃ (v0_0 : List (List CV)) (v0_1 : Int), s = mk_ref06_Positions_0 g0 g1 g2 g3 g4 v0_0 v0_1 ∧ (latE (⟨⟨g0, g1, g2⟩, g3, g4⟩ : Lat) = 0 ∧ 0 ≤ v0_1 ∧ v0_1 ≤ g4 ∧ (nn0 : Int) + v0_1 = g4 + 1 ∧ v0_0 = (((List.range (v0_1 * g4 * g4).toNat).map fun k : Nat => posAt (⟨⟨g0, g1, g2⟩, g3, g4⟩ : Lat) k).map plCv))
 | 2, [nn2, nn0] => ∃ (v2_0 : List (List CV)) (v2_1 : Int) (v2_2 : Int), s = mk_ref06_Positions_2 g0 g1 g2 g3 g4 v2_0 v2_1 v2_2 ∧ (latE (⟨⟨g0, g1, g2⟩, g3, g4⟩ : Lat) = 0 ∧ (0 ≤ v2_1 ∧ v2_1 < g4 ∧ (nn0 : Int) + v2_1 = g4) ∧ 0 ≤ v2_2 ∧ v2_2 ≤ g4 ∧ (nn2 : Int) + v2_2 = g4 + 1 ∧ v2_0 = (((List.range (v2_1 * g4 * g4 + v2_2 * g4).toNat).map fun k : Nat => posAt (⟨⟨g0, g1, g2⟩, g3, g4⟩ : Lat) k).map plCv))
 | 4, [nn4, nn2, nn0] => ∃ (v4_0 : List (List CV)) (v4_1 : Int) (v4_2 : Int) (v4_3 : Int), s = mk_ref06_Positions_4 g0 g1 g2 g3 g4 v4_0 v4_1 v4_2 v4_3 ∧ (latE (⟨⟨g0, g1, g2⟩, g3, g4⟩ : Lat) = 0 ∧ (0 ≤ v4_1 ∧ v4_1 < g4 ∧ (nn0 : Int) + v4_1 = g4) ∧ (0 ≤ v4_2 ∧ v4_2 < g4 ∧ (nn2 : Int) + v4_2 = g4) ∧ 0 ≤ v4_3 ∧ v4_3 ≤ g4 ∧ (nn4 : Int) + v4_3 = g4 + 1 ∧ v4_0 = (((List.range (v4_1 * g4 * g4 + v4_2 * g4 + v4_3).toNat).map fun k : Nat => posAt (⟨⟨g0, g1, g2⟩, g3, g4⟩ : Lat) k).map plCv))
 | _, _ => False
set_option maxHeartbeats 8000000 in
set_option maxRecDepth 100000 in
theorem rnd_ref06_Positions_0 (g0 g1 g2 g3 g4 : Int) (v0_0 : List (List CV)) (v0_1 : Int) (nn0 : Nat) (hp : latE (⟨⟨g0, g1, g2⟩, g3, g4⟩ : Lat) = 0) (hi : latE (⟨⟨g0, g1, g2⟩, g3, g4⟩ : Lat) = 0 ∧ 0 ≤ v0_1 ∧ v0_1 ≤ g4 ∧ ((nn0 + 1) : Int) + v0_1 = g4 + 1 ∧ v0_0 = (((List.range (v0_1 * g4 * g4).toNat).map fun k : Nat => posAt (⟨⟨g0, g1, g2⟩, g3, g4⟩ : Lat) k).map plCv)) : rd_ref06_Positions_0 (J_ref06_Positions g0 g1 g2 g3 g4) g0 g1 g2 g3 g4 v0_0 v0_1 nn0 (fun r => LeD r (.t (.c (.sl 3 ((allP (⟨⟨g0, g1, g2⟩, g3, g4⟩ : Lat)).length) (plsC (allP (⟨⟨g0, g1, g2⟩, g3, g4⟩ : Lat))))))) := by
 obtain ⟨i0, i1, i2, i3, i4⟩ := hi
 unfold rd_ref06_Positions_0
 refine cond_i (fun h => ?_) (fun h => ?_)
 ·have h := of_decide_eq_true h
  exact ⟨g4.toNat + 1, _, _, 0, rfl, i0, by omega, by omega, by omega, by omega, by rw [i4, Int.zero_mul, Int.add_zero]⟩
 ·have h := of_decide_eq_false h
  have e : v0_1 = g4 := by omega
  rw [i4, e]
  exact le_pls _
theorem zero_ref06_Positions_0 (g0 g1 g2 g3 g4 : Int) (v0_0 : List (List CV)) (v0_1 : Int)  (hi : latE (⟨⟨g0, g1, g2⟩, g3, g4⟩ : Lat) = 0 ∧ 0 ≤ v0_1 ∧ v0_1 ≤ g4 ∧ (0 : Int) + v0_1 = g4 + 1 ∧ v0_0 = (((List.range (v0_1 * g4 * g4).toNat).map fun k : Nat => posAt (⟨⟨g0, g1, g2⟩, g3, g4⟩ : Lat) k).map plCv)) : False := by
 omega
set_option maxHeartbeats 8000000 in
set_option maxRecDepth 100000 in
theorem rnd_ref06_Positions_2 (g0 g1 g2 g3 g4 : Int) (v2_0 : List (List CV)) (v2_1 : Int) (v2_2 : Int) (nn2 nn0 : Nat) (hp : latE (⟨⟨g0, g1, g2⟩, g3, g4⟩ : Lat) = 0) (hi : latE (⟨⟨g0, g1, g2⟩, g3, g4⟩ : Lat) = 0 ∧ (0 ≤ v2_1 ∧ v2_1 < g4 ∧ (nn0 : Int) + v2_1 = g4) ∧ 0 ≤ v2_2 ∧ v2_2 ≤ g4 ∧ ((nn2 + 1) : Int) + v2_2 = g4 + 1 ∧ v2_0 = (((List.range (v2_1 * g4 * g4 + v2_2 * g4).toNat).map fun k : Nat => posAt (⟨⟨g0, g1, g2⟩, g3, g4⟩ : Lat) k).map plCv)) : rd_ref06_Positions_2 (J_ref06_Positions g0 g1 g2 g3 g4) g0 g1 g2 g3 g4 v2_0 v2_1 v2_2 nn2 nn0 (fun r => LeD r (.t (.c (.sl 3 ((allP (⟨⟨g0, g1, g2⟩, g3, g4⟩ : Lat)).length) (plsC (allP (⟨⟨g0, g1, g2⟩, g3, g4⟩ : Lat))))))) := by
 obtain ⟨i0, i1, i2, i3, i4, i5⟩ := hi
 obtain ⟨_, _, q1, q2⟩ := lat_ok i0
 simp only at q1 q2
 unfold rd_ref06_Positions_2
 refine cond_i (fun h => ?_) (fun h => lt_i fun x hx => ?_)
 ·have h := of_decide_eq_true h
  exact ⟨g4.toNat + 1, _, _, _, 0, rfl, i0, i1, by omega, by omega, by omega, by omega, by rw [i5, Int.add_zero]⟩
 ·have h := of_decide_eq_false h
  rw [wi (by omega)] at hx
  subst hx
  exact ⟨_, _, rfl, i0, by omega, by omega, by omega, by rw [i5, show v2_2 = g4 by omega, Int.add_mul, Int.add_mul, Int.one_mul]⟩
theorem zero_ref06_Positions_2 (g0 g1 g2 g3 g4 : Int) (v2_0 : List (List CV)) (v2_1 : Int) (v2_2 : Int) (nn0 : Nat) (hi : latE (⟨⟨g0, g1, g2⟩, g3, g4⟩ : Lat) = 0 ∧ (0 ≤ v2_1 ∧ v2_1 < g4 ∧ (nn0 : Int) + v2_1 = g4) ∧ 0 ≤ v2_2 ∧ v2_2 ≤ g4 ∧ (0 : Int) + v2_2 = g4 + 1 ∧ v2_0 = (((List.range (v2_1 * g4 * g4 + v2_2 * g4).toNat).map fun k : Nat => posAt (⟨⟨g0, g1, g2⟩, g3, g4⟩ : Lat) k).map plCv)) : False := by
 omega
set_option maxHeartbeats 8000000 in
set_option maxRecDepth 100000 in
theorem rnd_ref06_Positions_4 (g0 g1 g2 g3 g4 : Int) (v4_0 : List (List CV)) (v4_1 : Int) (v4_2 : Int) (v4_3 : Int) (nn4 nn2 nn0 : Nat) (hp : latE (⟨⟨g0, g1, g2⟩, g3, g4⟩ : Lat) = 0) (hi : latE (⟨⟨g0, g1, g2⟩, g3, g4⟩ : Lat) = 0 ∧ (0 ≤ v4_1 ∧ v4_1 < g4 ∧ (nn0 : Int) + v4_1 = g4) ∧ (0 ≤ v4_2 ∧ v4_2 < g4 ∧ (nn2 : Int) + v4_2 = g4) ∧ 0 ≤ v4_3 ∧ v4_3 ≤ g4 ∧ ((nn4 + 1) : Int) + v4_3 = g4 + 1 ∧ v4_0 = (((List.range (v4_1 * g4 * g4 + v4_2 * g4 + v4_3).toNat).map fun k : Nat => posAt (⟨⟨g0, g1, g2⟩, g3, g4⟩ : Lat) k).map plCv)) : rd_ref06_Positions_4 (J_ref06_Positions g0 g1 g2 g3 g4) g0 g1 g2 g3 g4 v4_0 v4_1 v4_2 v4_3 nn4 nn2 nn0 (fun r => LeD r (.t (.c (.sl 3 ((allP (⟨⟨g0, g1, g2⟩, g3, g4⟩ : Lat)).length) (plsC (allP (⟨⟨g0, g1, g2⟩, g3, g4⟩ : Lat))))))) := by
 obtain ⟨i0, i1, i2, i3, i4, i5, i6⟩ := hi
 obtain ⟨⟨a1, a2, a3⟩, hs, q1, q2⟩ := lat_ok i0
 simp only at a1 a2 a3 hs q1 q2
 unfold rd_ref06_Positions_4
 refine cond_i (fun h => ?_) (fun h => lt_i fun x hx => ?_)
 ·have h := of_decide_eq_true h
  obtain ⟨d1, d2, d3, d4⟩ := digits_of (n := g4) (i := v4_1) (j := v4_2) (k := v4_3) ⟨q1, q2⟩ ⟨i1.1, i1.2.1⟩ ⟨i2.1, i2.2.1⟩ ⟨i3, h⟩
  have e1 := step_rg hs q2 ⟨i1.1, i1.2.1⟩
  have e2 := step_rg hs q2 ⟨i2.1, i2.2.1⟩
  have e3 := step_rg hs q2 ⟨i3, h⟩
  refine lt_i fun x1 h1 => lt_i fun x2 h2 => lt_i fun x3 h3 => lt_i fun x4 h4 => lt_i fun x5 h5 => lt_i fun x6 h6 => ⟨?_, lt_i fun x7 h7 => ?_⟩
  ·rw [i6]; unfold roomP maxLen; simp only [List.length_map, List.length_range, List.length_singleton]; omega
  ·rw [wi (by omega)] at h1 h3 h5 h7
   subst h1 h3 h5 h7
   rw [wi (by omega)] at h2 h4 h6
   subst h2 h4 h6
   refine ⟨_, _, _, _, rfl, i0, i1, i2, by omega, by omega, by omega, ?_⟩
   rw [i6, show (v4_1 * g4 * g4 + v4_2 * g4 + (v4_3 + 1)).toNat = (v4_1 * g4 * g4 + v4_2 * g4 + v4_3).toNat + 1 by omega, List.range_succ, List.map_append, List.map_append]
   congr 1
   simp only [List.map_cons, List.map_nil, plCv, posAt]
   rw [show (((v4_1 * g4 * g4 + v4_2 * g4 + v4_3).toNat : Nat) : Int) = v4_1 * g4 * g4 + v4_2 * g4 + v4_3 by omega, d2, d3, d4]
 ·have h := of_decide_eq_false h
  rw [wi (by omega)] at hx
  subst hx
  exact ⟨_, _, _, rfl, i0, i1, by omega, by omega, by omega, by rw [i6, show v4_3 = g4 by omega, Int.add_mul, Int.one_mul, Int.add_assoc]⟩
theorem zero_ref06_Positions_4 (g0 g1 g2 g3 g4 : Int) (v4_0 : List (List CV)) (v4_1 : Int) (v4_2 : Int) (v4_3 : Int) (nn2 nn0 : Nat) (hi : latE (⟨⟨g0, g1, g2⟩, g3, g4⟩ : Lat) = 0 ∧ (0 ≤ v4_1 ∧ v4_1 < g4 ∧ (nn0 : Int) + v4_1 = g4) ∧ (0 ≤ v4_2 ∧ v4_2 < g4 ∧ (nn2 : Int) + v4_2 = g4) ∧ 0 ≤ v4_3 ∧ v4_3 ≤ g4 ∧ (0 : Int) + v4_3 = g4 + 1 ∧ v4_0 = (((List.range (v4_1 * g4 * g4 + v4_2 * g4 + v4_3).toNat).map fun k : Nat => posAt (⟨⟨g0, g1, g2⟩, g3, g4⟩ : Lat) k).map plCv)) : False := by
 omega
set_option maxHeartbeats 8000000 in
set_option maxRecDepth 100000 in
theorem spec_ref06_Positions (g0 g1 g2 g3 g4 : Int) (hp : latE (⟨⟨g0, g1, g2⟩, g3, g4⟩ : Lat) = 0) : vc_ref06_Positions (J_ref06_Positions g0 g1 g2 g3 g4) g0 g1 g2 g3 g4 (fun r => LeD r (.t (.c (.sl 3 ((allP (⟨⟨g0, g1, g2⟩, g3, g4⟩ : Lat)).length) (plsC (allP (⟨⟨g0, g1, g2⟩, g3, g4⟩ : Lat))))))) := by
 obtain ⟨_, _, q1, q2⟩ := lat_ok hp
 simp only at q1 q2
 unfold vc_ref06_Positions
 exact ⟨g4.toNat + 1, [], 0, rfl, hp, by omega, by omega, by omega, by simp⟩
theorem all_ref06_Positions (g0 g1 g2 g3 g4 : Int) (hp : latE (⟨⟨g0, g1, g2⟩, g3, g4⟩ : Lat) = 0) : AllG (J_ref06_Positions g0 g1 g2 g3 g4) (loopsFn Tryd.prog tab S78 ann_ref06_Positions (J_ref06_Positions g0 g1 g2 g3 g4) Tryd.f25 (fun r => LeD r (.t (.c (.sl 3 ((allP (⟨⟨g0, g1, g2⟩, g3, g4⟩ : Lat)).length) (plsC (allP (⟨⟨g0, g1, g2⟩, g3, g4⟩ : Lat)))))))) := by
 rw [lp_ref06_Positions]
 refine ⟨⟨?_, ?_⟩, ⟨?_, ?_⟩, ⟨?_, ?_⟩, trivial⟩
 ·intro F s h
  obtain _ | ⟨g, F⟩ := F
  case cons => exact h.elim
  obtain ⟨w0, w1, rfl, hi⟩ := h
  exact zero_ref06_Positions_0 g0 g1 g2 g3 g4 w0 w1 hi
 ·intro n F s h
  obtain _ | ⟨g, F⟩ := F
  case cons => exact h.elim
  obtain ⟨w0, w1, rfl, hi⟩ := h
  rw [er_ref06_Positions_0]
  exact rnd_ref06_Positions_0 g0 g1 g2 g3 g4 _ _ _ hp hi
 ·intro F s h
  obtain _ | ⟨f0, F⟩ := F
  ·exact h.elim
  obtain _ | ⟨g, F⟩ := F
  case cons => exact h.elim
  obtain ⟨w0, w1, w2, rfl, hi⟩ := h
  exact zero_ref06_Positions_2 g0 g1 g2 g3 g4 w0 w1 w2 _ hi
 ·intro n F s h
  obtain _ | ⟨f0, F⟩ := F
  ·exact h.elim
  obtain _ | ⟨g, F⟩ := F
  case cons => exact h.elim
  obtain ⟨w0, w1, w2, rfl, hi⟩ := h
  rw [er_ref06_Positions_2]
  exact rnd_ref06_Positions_2 g0 g1 g2 g3 g4 _ _ _ _ _ hp hi
 ·intro F s h
  obtain _ | ⟨f0, F⟩ := F
  ·exact h.elim
  obtain _ | ⟨f1, F⟩ := F
  ·exact h.elim
  obtain _ | ⟨g, F⟩ := F
  case cons => exact h.elim
  obtain ⟨w0, w1, w2, w3, rfl, hi⟩ := h
  exact zero_ref06_Positions_4 g0 g1 g2 g3 g4 w0 w1 w2 w3 _ _ hi
 ·intro n F s h
  obtain _ | ⟨f0, F⟩ := F
  ·exact h.elim
  obtain _ | ⟨f1, F⟩ := F
  ·exact h.elim
  obtain _ | ⟨g, F⟩ := F
  case cons => exact h.elim
  obtain ⟨w0, w1, w2, w3, rfl, hi⟩ := h
  rw [er_ref06_Positions_4]
  exact rnd_ref06_Positions_4 g0 g1 g2 g3 g4 _ _ _ _ _ _ _ hp hi
def con_ref06_Positions : Con := fun args => match args with
 | [.t (.a [.v (.int .i64 g0), .v (.int .i64 g1), .v (.int .i64 g2), .v (.int .i64 g3), .v (.int .i64 g4)])] => some (.t (.c (.sl 3 ((allP (⟨⟨g0, g1, g2⟩, g3, g4⟩ : Lat)).length) (plsC (allP (⟨⟨g0, g1, g2⟩, g3, g4⟩ : Lat))))), some (latE (⟨⟨g0, g1, g2⟩, g3, g4⟩ : Lat) = 0), true)
 | _ => none
theorem ok_ref06_Positions : Ok Tryd.prog 25 con_ref06_Positions := by
 refine Ok.fnFr (ann := ann_ref06_Positions) mixed tabOK VS78 ValidIt.no rfl (fn := Tryd.f25) (by kernel_rfl) (by kernel_rfl) fit_ref06_Positions fun args r pre fresh h hp => ?_
 unfold con_ref06_Positions at h
 split at h
 ·rename_i g0 g1 g2 g3 g4
  cases h
  refine ⟨rfl, (fun i j _ hj => plain_P3 _ i j), J_ref06_Positions g0 g1 g2 g3 g4, _, LeA.refl _, Nat.le_of_ble_eq_true (by kernel_rfl), ?_, ?_⟩
  ·rw [ev_ref06_Positions]; exact spec_ref06_Positions g0 g1 g2 g3 g4 hp
  ·exact all_ref06_Positions g0 g1 g2 g3 g4 hp
 ·cases h
def S79 : Sum := addS S78 25 con_ref06_Positions
theorem VS79 : Valid Tryd.prog S79 := Valid.add VS78 ok_ref06_Positions
def vc_ref06_CopyHits (l : List FHit) (post : DV → Prop) : Prop := (roomP 56 (([] : List (List CV)).length + ((List.range l.length).map fun i => fwd ((hitsC l) i) 0 7).length)) ∧ (post (.t (.c (.sl 7 ((([] : List (List CV)) ++ ((List.range l.length).map fun i => fwd ((hitsC l) i) 0 7)).length) (genC (([] : List (List CV)) ++ ((List.range l.length).map fun i => fwd ((hitsC l) i) 0 7)))))))
def ann_ref06_CopyHits : Ann := ⟨fun _ => none, fun _ => none, fun _ => [], noIt, true, fun _ => none, fun _ => none⟩
theorem ev_ref06_CopyHits (J : Inv) (l : List FHit) (post : DV → Prop) : evFn Tryd.prog tab S79 ann_ref06_CopyHits J Tryd.f18 [.t (.c (.sl 7 l.length (hitsC l)))] post = vc_ref06_CopyHits l post := by kernel_rfl
theorem fit_ref06_CopyHits : okFn ann_ref06_CopyHits Tryd.f18 = true := by kernel_rfl
theorem lp_ref06_CopyHits (J : Inv) (post : DV → Prop) : AllG J (loopsFn Tryd.prog tab S79 ann_ref06_CopyHits J Tryd.f18 post) = (True) := by kernel_rfl
theorem spec_ref06_CopyHits (l : List FHit) (hp : (l).length ≤ 1000) : vc_ref06_CopyHits l (fun r => LeD r (.t (.c (.sl 7 l.length (hitsC l))))) := by
 unfold vc_ref06_CopyHits
 rw [hits_fwd, List.nil_append]
 refine ⟨?_, le_hits l⟩
 unfold roomP maxLen
 simp
 omega
def con_ref06_CopyHits : Con := fun args => match args with
 | [.t (.c (.sl 7 n_l c_l))] => some (.t (.c (.sl 7 ((listC n_l mkHit c_l).length) (hitsC (listC n_l mkHit c_l)))), some (numsP 7 n_l c_l ∧ ((listC n_l mkHit c_l)).length ≤ 1000), true)
 | _ => none
theorem ok_ref06_CopyHits : Ok Tryd.prog 18 con_ref06_CopyHits := by
 refine Ok.fnFr (ann := ann_ref06_CopyHits) mixed tabOK VS79 ValidIt.no rfl (fn := Tryd.f18) (by kernel_rfl) (by kernel_rfl) fit_ref06_CopyHits fun args r pre fresh h hp => ?_
 unfold con_ref06_CopyHits at h
 split at h
 ·rename_i n_l c_l
  cases h
  obtain ⟨hp0, hp⟩ := hp
  refine ⟨rfl, (fun i j _ hj => plain_FHit _ i j), fun _ _ _ => False, [.t (.c (.sl 7 ((listC n_l mkHit c_l).length) (hitsC (listC n_l mkHit c_l))))], ?_, Nat.le_of_ble_eq_true (by kernel_rfl), ?_, ?_⟩
  ·exact (LeA_cons (leT_c ((leL_FHit hp0))) LeA_nil)
  ·rw [ev_ref06_CopyHits]; exact spec_ref06_CopyHits (listC n_l mkHit c_l) hp
  ·rw [lp_ref06_CopyHits]; trivial
 ·cases h
def S80 : Sum := addS S79 18 con_ref06_CopyHits
theorem VS80 : Valid Tryd.prog S80 := Valid.add VS79 ok_ref06_CopyHits
end Go.Proofs.YtmhgjlapkhdlmaaDoor
set_option linter.unusedVariables false
set_option linter.unusedSimpArgs false
namespace Go.Proofs.YtmhgjlapkhdlmaaDoor
open Go.RowKit Ev
theorem getD_mem {l : List Int} {k : Nat} (h : k < l.length) : l.getD k 0 ∈ l := by
 rw [show l.getD k 0 = l[k] by simp [List.getD, h]]; exact List.getElem_mem h
theorem mem_getD {l : List Int} {a : Int} (h : a ∈ l) : ∃ j, j < l.length ∧ l.getD j 0 = a := by
 obtain ⟨j, hj, e⟩ := List.getElem_of_mem h
 exact ⟨j, hj, by simp [List.getD, hj, e]⟩
def S81 : Sum := S80
theorem VS81 : Valid Tryd.prog S81 := VS80
def S82 : Sum := S81
theorem VS82 : Valid Tryd.prog S82 := VS81
def S83 : Sum := S82
theorem VS83 : Valid Tryd.prog S83 := VS82
def S84 : Sum := S83
theorem VS84 : Valid Tryd.prog S84 := VS83
def S85 : Sum := S84
theorem VS85 : Valid Tryd.prog S85 := VS84
def S86 : Sum := S85
theorem VS86 : Valid Tryd.prog S86 := VS85
def S87 : Sum := S86
theorem VS87 : Valid Tryd.prog S87 := VS86
def S88 : Sum := S87
theorem VS88 : Valid Tryd.prog S88 := VS87
def S89 : Sum := S88
theorem VS89 : Valid Tryd.prog S89 := VS88
def S90 : Sum := S89
theorem VS90 : Valid Tryd.prog S90 := VS89
end Go.Proofs.YtmhgjlapkhdlmaaDoor
set_option linter.unusedVariables false
set_option linter.unusedSimpArgs false
namespace Go.Proofs.YtmhgjlapkhdlmaaDoor
open Go.RowKit Ev
def S91 : Sum := S90
theorem VS91 : Valid Tryd.prog S91 := VS90
def S92 : Sum := S91
theorem VS92 : Valid Tryd.prog S92 := VS91
def S93 : Sum := S92
theorem VS93 : Valid Tryd.prog S93 := VS92
def S94 : Sum := S93
theorem VS94 : Valid Tryd.prog S94 := VS93
end Go.Proofs.YtmhgjlapkhdlmaaDoor
set_option linter.unusedVariables false
set_option linter.unusedSimpArgs false
namespace Go.Proofs.YtmhgjlapkhdlmaaDoor
open Go.RowKit Ev
end Go.Proofs.YtmhgjlapkhdlmaaDoor
set_option linter.unusedVariables false
set_option linter.unusedSimpArgs false
namespace Go.Proofs.YtmhgjlapkhdlmaaDoor
open Go.RowKit Ev
end Go.Proofs.YtmhgjlapkhdlmaaDoor
set_option linter.unusedVariables false
set_option linter.unusedSimpArgs false
namespace Go.Proofs.YtmhgjlapkhdlmaaDoor
open Go.RowKit Ev
theorem nums_ints : numsC .i64 = intsC := rfl
noncomputable def hd {α : Type} (x : α) : α := Classical.choose (⟨x, rfl⟩ : ∃ y, y = x)
theorem hd_eq {α : Type} (x : α) : hd x = x := Classical.choose_spec (⟨x, rfl⟩ : ∃ y, y = x)
def S95 : Sum := S94
theorem VS95 : Valid Tryd.prog S95 := VS94
def S96 : Sum := S95
theorem VS96 : Valid Tryd.prog S96 := VS95
def S97 : Sum := S96
theorem VS97 : Valid Tryd.prog S97 := VS96
def S98 : Sum := S97
theorem VS98 : Valid Tryd.prog S98 := VS97
def S99 : Sum := S98
theorem VS99 : Valid Tryd.prog S99 := VS98
noncomputable def S100 : Sum := S99
theorem VS100 : Valid Tryd.prog S100 := VS99
noncomputable def conh_flash_PartOf : Con := fun args => match args with
 | [.t (.c (.sl 2 n_m c_m)), .t (.a [.v (.int .i64 f), .sl 1 n_v c_v])] => some (.tu [.a [.v (.int .i64 (hd (prtN (muOf n_m c_m) f (listC n_v mkInt c_v)))), .v (.int .i64 (hd (prtD (muOf n_m c_m) f (listC n_v mkInt c_v))))], .c (.v (.int .i64 (hd (vvE (muOf n_m c_m) f (listC n_v mkInt c_v)))))], some (muP n_m c_m ∧ numsP 1 n_v c_v ∧ muSm (muOf n_m c_m) ∧ ((listC n_v mkInt c_v)).length ≤ 1000000), false)
 | _ => none
theorem okh_flash_PartOf : Ok Tryd.prog 38 conh_flash_PartOf := by
 refine Ok.over ok_flash_PartOf fun args r' pre' fresh h hp => ?_
 unfold conh_flash_PartOf at h
 split at h
 ·cases h
  exact ⟨_, _, rfl, hp, by simp only [hd_eq]⟩
 ·cases h
noncomputable def S101 : Sum := addS S100 38 conh_flash_PartOf
theorem VS101 : Valid Tryd.prog S101 := Valid.add VS100 okh_flash_PartOf
noncomputable def S102 : Sum := S101
theorem VS102 : Valid Tryd.prog S102 := VS101
noncomputable def S103 : Sum := S102
theorem VS103 : Valid Tryd.prog S103 := VS102
noncomputable def S104 : Sum := S103
theorem VS104 : Valid Tryd.prog S104 := VS103
noncomputable def S105 : Sum := S104
theorem VS105 : Valid Tryd.prog S105 := VS104
end Go.Proofs.YtmhgjlapkhdlmaaDoor
set_option linter.unusedVariables false
set_option linter.unusedSimpArgs false
namespace Go.Proofs.YtmhgjlapkhdlmaaDoor
open Go.RowKit Ev
end Go.Proofs.YtmhgjlapkhdlmaaDoor
set_option linter.unusedVariables false
set_option linter.unusedSimpArgs false
namespace Go.Proofs.YtmhgjlapkhdlmaaDoor
open Go.RowKit Ev
noncomputable def St106 : Sum := S105
theorem VSt106 : Valid Tryd.prog St106 := VS105
noncomputable def St107 : Sum := St106
theorem VSt107 : Valid Tryd.prog St107 := VSt106
noncomputable def St108 : Sum := St107
theorem VSt108 : Valid Tryd.prog St108 := VSt107
noncomputable def St109 : Sum := St108
theorem VSt109 : Valid Tryd.prog St109 := VSt108
noncomputable def St110 : Sum := St109
theorem VSt110 : Valid Tryd.prog St110 := VSt109
noncomputable def St111 : Sum := St110
theorem VSt111 : Valid Tryd.prog St111 := VSt110
noncomputable def St112 : Sum := St111
theorem VSt112 : Valid Tryd.prog St112 := VSt111
noncomputable def St113 : Sum := St112
theorem VSt113 : Valid Tryd.prog St113 := VSt112
noncomputable def St114 : Sum := St113
theorem VSt114 : Valid Tryd.prog St114 := VSt113
end Go.Proofs.YtmhgjlapkhdlmaaDoor
set_option linter.unusedVariables false
set_option linter.unusedSimpArgs false
namespace Go.Proofs.YtmhgjlapkhdlmaaDoor
open Go.RowKit Ev
end Go.Proofs.YtmhgjlapkhdlmaaDoor
set_option linter.unusedVariables false
set_option linter.unusedSimpArgs false
namespace Go.Proofs.YtmhgjlapkhdlmaaDoor
open Go.RowKit Ev
noncomputable def Su115 : Sum := St114
theorem VSu115 : Valid Tryd.prog Su115 := VSt114
noncomputable def Su116 : Sum := Su115
theorem VSu116 : Valid Tryd.prog Su116 := VSu115
noncomputable def Su117 : Sum := Su116
theorem VSu117 : Valid Tryd.prog Su117 := VSu116
noncomputable def Su118 : Sum := Su117
theorem VSu118 : Valid Tryd.prog Su118 := VSu117
noncomputable def Su119 : Sum := Su118
theorem VSu119 : Valid Tryd.prog Su119 := VSu118
noncomputable def Su120 : Sum := Su119
theorem VSu120 : Valid Tryd.prog Su120 := VSu119
end Go.Proofs.YtmhgjlapkhdlmaaDoor
set_option linter.unusedVariables false
set_option linter.unusedSimpArgs false
namespace Go.Proofs.YtmhgjlapkhdlmaaDoor
open Go.RowKit Ev
theorem comm_iff : ∀ {l : List Rg} {e : Int}, 0 < l.length → ((comm l).lo ≤ e ∧ e ≤ (comm l).hi ↔ ∀ g ∈ l, g.lo ≤ e ∧ e ≤ g.hi) := by
 have key : ∀ (l : List Rg) (a : Rg) (e : Int), ((l.foldl meetR a).lo ≤ e ∧ e ≤ (l.foldl meetR a).hi ↔ (a.lo ≤ e ∧ e ≤ a.hi) ∧ ∀ g ∈ l, g.lo ≤ e ∧ e ≤ g.hi) := by
  intro l
  induction l with
  | nil => intro a e; simp
  | cons g l ih =>
   intro a e
   rw [List.foldl_cons, ih]
   simp only [List.mem_cons, forall_eq_or_imp]
   have : ((meetR a g).lo ≤ e ∧ e ≤ (meetR a g).hi) ↔ (a.lo ≤ e ∧ e ≤ a.hi) ∧ g.lo ≤ e ∧ e ≤ g.hi := by
    show (max a.lo g.lo ≤ e ∧ e ≤ min a.hi g.hi) ↔ _
    omega
   rw [this, and_assoc]
 intro l e h0
 cases l with
 | nil => simp at h0
 | cons g l =>
  have := key l g e
  simp only [List.mem_cons, forall_eq_or_imp]
  exact this
end Go.Proofs.YtmhgjlapkhdlmaaDoor
set_option linter.unusedVariables false
set_option linter.unusedSimpArgs false
namespace Go.Proofs.YtmhgjlapkhdlmaaDoor
open Go.RowKit Ev
end Go.Proofs.YtmhgjlapkhdlmaaDoor
set_option linter.unusedVariables false
set_option linter.unusedSimpArgs false
namespace Go.Proofs.YtmhgjlapkhdlmaaDoor
open Go.RowKit Ev
def sprF (sp : List (List Rg)) (k : Nat) : Int := max 0 ((comm (rlAt sp k)).lo - (comm (rlAt sp k)).hi)
def sprY (sp : List (List Rg)) (i : Nat) : List TV := [.c (.v (.int .i64 (i : Int))), .c (.v (.int .i64 (sprF sp i)))]
theorem comm_rg {l : List Rg} {K : Int} (h0 : 0 < l.length) (h : ∀ g ∈ l, -K ≤ g.lo ∧ g.lo ≤ K ∧ -K ≤ g.hi ∧ g.hi ≤ K) : -K ≤ (comm l).lo ∧ (comm l).lo ≤ K ∧ -K ≤ (comm l).hi ∧ (comm l).hi ≤ K := by
 have key : ∀ (l : List Rg) (a : Rg), (-K ≤ a.lo ∧ a.lo ≤ K ∧ -K ≤ a.hi ∧ a.hi ≤ K) → (∀ g ∈ l, -K ≤ g.lo ∧ g.lo ≤ K ∧ -K ≤ g.hi ∧ g.hi ≤ K) → -K ≤ (l.foldl meetR a).lo ∧ (l.foldl meetR a).lo ≤ K ∧ -K ≤ (l.foldl meetR a).hi ∧ (l.foldl meetR a).hi ≤ K := by
  intro l
  induction l with
  | nil => exact fun a h _ => h
  | cons g l ih =>
   intro a ha hl
   have hg := hl g (by simp)
   refine ih _ ?_ fun x hx => hl x (by simp [hx])
   show -K ≤ max a.lo g.lo ∧ max a.lo g.lo ≤ K ∧ -K ≤ min a.hi g.hi ∧ min a.hi g.hi ≤ K
   omega
 cases l with
 | nil => simp at h0
 | cons g l => exact key l g (h g (by simp)) fun x hx => h x (by simp [hx])
set_option maxRecDepth 100000 in
set_option maxHeartbeats 2000000 in
theorem seq_spreads (w : World) (N : Nat → Prop) (vs : List Value) (sp : List (List Rg)) (x y z a b c d : CV) (hsp : ∀ k, k < sp.length → 0 < (rlAt sp k).length ∧ (rlAt sp k).length ≤ 8 ∧ ∀ g ∈ rlAt sp k, -2000000000 ≤ g.lo ∧ g.lo ≤ 2000000000 ∧ -2000000000 ≤ g.hi ∧ g.hi ≤ 2000000000) (hl : sp.length ≤ 1000)
  (hv : All2 (RelF w N) [x, y, z, a, b, c, .sl 1 sp.length (rlsC sp)] vs) :
  SeqIt Tryd.prog 131 #[.agg vs.toArray] #[] sp.length (fun i => ((sprY sp i).map tvVal).toArray) (fun A B => A.heap.size ≤ B.heap.size ∧ ∀ b, b < w.heap.size → N b → B.heap[b]? = A.heap[b]?) w := by
 intro l J Jx W hb hJ hJx hgJ hgX hY h0
 refine callsIn_of_wp Tryd.func131 rfl trivial ?_ rfl
 obtain ⟨v0, us0, rfl, r0, hv0⟩ := hv.cons_inv
 obtain ⟨v1, us1, rfl, r1, hv1⟩ := hv0.cons_inv
 obtain ⟨v2, us2, rfl, r2, hv2⟩ := hv1.cons_inv
 obtain ⟨v3, us3, rfl, r3, hv3⟩ := hv2.cons_inv
 obtain ⟨v4, us4, rfl, r4, hv4⟩ := hv3.cons_inv
 obtain ⟨v5, us5, rfl, r5, hv5⟩ := hv4.cons_inv
 obtain ⟨v6, us6, rfl, r6, hv6⟩ := hv5.cons_inv
 obtain rfl := hv6.nil_inv
 obtain ⟨ao, cap, rfl, hcap, hmx, hnil, hcells⟩ := r6
 simp only [Tryd.ntmps131, List.size_toArray, List.length_cons, List.length_nil, Nat.reduceAdd, Nat.reduceSub, Array.replicate_succ, Array.replicate_zero, List.push_toArray, List.append_toArray, List.nil_append, List.cons_append]
 have hW := hb.size
 have hcells : ∀ k, k < sp.length → ∃ b off, ao = some ⟨b, off, none⟩ ∧ b < w.heap.size ∧ N b ∧ ∃ ao' cap', w.cell? ⟨b, off + k, none⟩ = some (.slice ao' (rlAt sp k).length cap') ∧ RelF w N (.sl 2 (rlAt sp k).length (rgsC (rlAt sp k))) (.slice ao' (rlAt sp k).length cap') := by
  intro k hk
  obtain ⟨b, off, e1, e2, e3, e4⟩ := hcells (by omega)
  obtain ⟨x, x1, x2⟩ := e4 k 0 hk (by omega)
  obtain ⟨ao', cap', y1, y2⟩ := id x2
  rw [Nat.mul_one, Nat.add_zero, y1] at x1
  rw [y1] at x2
  exact ⟨b, off, e1, e2, e3, ao', cap', x1, x2⟩
 have HC := hid hcells
 have HY := hid hY
 have HSP := hid hsp
 have HJ := hid hJ
 have HG := hid hgJ
 clear hcells hY hsp hJ hgJ hgX hJx r0 r1 r2 r3 r4 r5 hcap hmx hnil hv hv0 hv1 hv2 hv3 hv4 hv5 hv6
 gi_wp2
 gi_loopw [10] (fun i wr => ∃ k : Nat, k ≤ sp.length ∧ i = .int .i64 k ∧ J k wr ∧ W.heap.size ≤ wr.heap.size ∧ Hid (∀ b, b < w.heap.size → N b → wr.heap[b]? = W.heap[b]?)) (fun i _ => sp.length - (intOf i).toNat)
 case atStart => exact ⟨0, Nat.zero_le _, rfl, HJ.out 0 W _ none h0 (below_grown ((Below.refl _ _).alloc (Nat.le_refl _) _)) (fun r e => by cases e), by simp, hid fun b hb0 _ => Below.heap_alloc _ _ _ (by omega)⟩
 case round =>
  obtain ⟨k, hk, rfl, hJs, hsz, HK⟩ := hrel
  by_cases hlt : k < sp.length
  ·obtain ⟨b, off, rfl, hb1, hN1, ao', cap', hc, hrl⟩ := HC.out k hlt
   have hcx : wr.cell? ⟨b, off + k, none⟩ = some (.slice ao' (rlAt sp k).length cap') := (World.cell?_of_block (w := w) (a := ⟨b, off + k, none⟩) ((HK.out b hb1 hN1).trans (hb.block b hb1))).trans hc
   have HR := hid hrl
   clear hrl hc
   have hGr := HG.out k wr hJs
   obtain ⟨s1, s2, s3⟩ := HSP.out k hlt
   have HCOM : Hid (Calls Tryd.prog 125 #[.slice ao' (rlAt sp k).length cap'] wr fun e w' => e = .returned (.agg #[.int .i64 (comm (rlAt sp k)).lo, .int .i64 (comm (rlAt sp k)).hi]) ∧ Below wr.heap.size wr w') := by
    refine hid (((ok_flash_common [.t (.c (.sl 2 (rlAt sp k).length (rgsC (rlAt sp k))))] _ _ _ rfl ⟨numsP_rgs _, by rw [rgs_listC]; omega, by rw [rgs_listC]; omega⟩).2 wr N [.slice ao' (rlAt sp k).length cap'] hGr ⟨RelF.mono (by omega) (fun b hb0 hlt0 off => World.cell?_of_block (w := w) (a := ⟨b, off, none⟩) ((HK.out b hlt0 hb0).trans (hb.block b hlt0))) (fun b hb0 _ => hb0) _ HR.out, trivial⟩).mono ?_)
    rintro e w' ⟨v, rfl, hr, hbl⟩
    rw [rgs_listC] at hr
    obtain ⟨us, rfl, t1⟩ := hr
    obtain ⟨x0, us0, rfl, t2, t3⟩ := t1.cons_inv
    obtain ⟨x1, us1, rfl, t4, t5⟩ := t3.cons_inv
    obtain rfl := t5.nil_inv
    obtain ⟨rfl, _⟩ := t2
    obtain ⟨rfl, _⟩ := t4
    exact ⟨rfl, hbl⟩
   gi_wp2
   refine ⟨trivial, rfl, callsIn_wide.2 (HCOM.out.mono ?_)⟩
   rintro _ w1 ⟨rfl, hb1'⟩
   have cr := comm_rg (K := 2000000000) s1 (fun g hg => by have := s3 g hg; omega)
   have hsv : sprF sp k = max 0 ((comm (rlAt sp k)).lo - (comm (rlAt sp k)).hi) := rfl
   have HSV := hid hsv
   obtain ⟨lo, elo⟩ : ∃ lo, lo = (comm (rlAt sp k)).lo := ⟨_, rfl⟩
   obtain ⟨hi, ehi⟩ : ∃ hi, hi = (comm (rlAt sp k)).hi := ⟨_, rfl⟩
   rw [← elo, ← ehi] at cr hsv ⊢
   have HE := hid hsv
   have hw : wrap64 (lo - hi) = lo - hi := IntWalk.wrap64_in _ (by omega)
   clear elo ehi HSV HCOM hsv s3
   have HYK : ∀ W1, J k W1 → ∀ m, m = sprF sp k → YieldAt Fence.wide 0 Tryd.prog l #[.int .i64 (k : Int), .int .i64 m] W1 fun e W' => (e = .returned (.bool true) ∧ J (k + 1) W' ∧ W1.heap.size ≤ W'.heap.size ∧ ∀ b, b < w.heap.size → N b → W'.heap[b]? = W1.heap[b]?) ∨ (e = .returned (.bool false) ∧ Jx () W') := fun W1 h1 m hm => by
    subst hm
    exact HY.out k W1 hlt h1
   have HYK := hid HYK
   have hJ1 : Hid (J k (w1.alloc (Obj.cells #[Value.int IntKind.i64 lo, Value.int IntKind.i64 hi] 94))) := hid (HJ.out k wr _ none hJs (below_grown (hb1'.alloc hb1'.size _)) (fun r e => by cases e))
   by_cases hpos : 0 < lo - hi
   ·obtain ⟨fn, tmps, assign, body, hy, hR⟩ := HYK.out _ hJ1.out (lo - hi) (by rw [HE.out]; omega)
    gi_wp2
    refine ⟨rfl, hR.mono ?_⟩
    rintro e W3 (⟨rfl, hJ3, hs3, hk3⟩ | ⟨rfl, hJx3⟩)
    ·gi_wp2
     go_roundw
     case rel =>
      refine ⟨k + 1, by omega, by simp, hJ3, ?_, hid fun b0 hb0 hN0 => ?_⟩
      ·have := hb1'.size
       rw [World.size_alloc] at hs3
       omega
      ·have h1 := hb1'.size
       rw [hk3 b0 hb0 hN0, Below.heap_alloc _ _ _ (by omega), hb1'.block b0 (by omega), HK.out b0 hb0 hN0]
     case measure => simp [intOf]; omega
    ·gi_wp2
     refine bodyPost_ret (results_none rfl _ _ _) rfl ?_
     exact ⟨⟨_, rfl⟩, .inr hJx3⟩
   ·obtain ⟨fn, tmps, assign, body, hy, hR⟩ := HYK.out _ hJ1.out 0 (by rw [HE.out]; omega)
    gi_wp2
    refine ⟨rfl, hR.mono ?_⟩
    rintro e W3 (⟨rfl, hJ3, hs3, hk3⟩ | ⟨rfl, hJx3⟩)
    ·gi_wp2
     go_roundw
     case rel =>
      refine ⟨k + 1, by omega, by simp, hJ3, ?_, hid fun b0 hb0 hN0 => ?_⟩
      ·have := hb1'.size
       rw [World.size_alloc] at hs3
       omega
      ·have h1 := hb1'.size
       rw [hk3 b0 hb0 hN0, Below.heap_alloc _ _ _ (by omega), hb1'.block b0 (by omega), HK.out b0 hb0 hN0]
     case measure => simp [intOf]; omega
    ·gi_wp2
     refine bodyPost_ret (results_none rfl _ _ _) rfl ?_
     exact ⟨⟨_, rfl⟩, .inr hJx3⟩
  ·obtain rfl : k = sp.length := by omega
   gi_wp2
   go_end0
   exact ⟨⟨_, rfl⟩, .inl hJs⟩
end Go.Proofs.YtmhgjlapkhdlmaaDoor
set_option linter.unusedVariables false
set_option linter.unusedSimpArgs false
namespace Go.Proofs.YtmhgjlapkhdlmaaDoor
open Go.RowKit Ev
def spOk (sp : List (List Rg)) : Prop := sp.length ≤ 1000 ∧ ∀ k, k < sp.length → 0 < (rlAt sp k).length ∧ (rlAt sp k).length ≤ 8 ∧ ∀ g ∈ rlAt sp k, -2000000000 ≤ g.lo ∧ g.lo ≤ 2000000000 ∧ -2000000000 ≤ g.hi ∧ g.hi ≤ 2000000000
def con_spreads : ItC := fun l => match l with
 | [.sl 7 n_l c_l, .v (.int .i64 g0), .v (.int .i64 g1), .v (.int .i64 g2), .v (.int .i64 g3), .v (.int .i64 g4), .sl 1 n_sp c_sp] => some ⟨(rlOf n_sp c_sp).length, 2, sprY (rlOf n_sp c_sp), some (rlP n_sp c_sp ∧ spOk (rlOf n_sp c_sp)), true⟩
 | _ => none
theorem ok_spreads : OkIt Tryd.prog 131 con_spreads := by
 intro l R h hp
 unfold con_spreads at h
 split at h
 ·rename_i n_l c_l g0 g1 g2 g3 g4 n_sp c_sp
  cases h
  obtain ⟨hp0, hp1, hp2⟩ := hp
  refine ⟨Enters.of (fn := Tryd.f131) (by kernel_rfl) (by kernel_rfl) (by kernel_rfl), fun i _ => ⟨rfl, rfl⟩, fun w N vs hv => ?_⟩
  obtain ⟨v0, us0, rfl, r0, hv0⟩ := hv.cons_inv
  obtain ⟨v1, us1, rfl, r1, hv1⟩ := hv0.cons_inv
  obtain ⟨v2, us2, rfl, r2, hv2⟩ := hv1.cons_inv
  obtain ⟨v3, us3, rfl, r3, hv3⟩ := hv2.cons_inv
  obtain ⟨v4, us4, rfl, r4, hv4⟩ := hv3.cons_inv
  obtain ⟨v5, us5, rfl, r5, hv5⟩ := hv4.cons_inv
  obtain ⟨v6, us6, rfl, r6, hv6⟩ := hv5.cons_inv
  obtain rfl := hv6.nil_inv
  exact seq_spreads w N _ (rlOf n_sp c_sp) _ _ _ _ _ _ (.v (.int .i64 0)) hp2 hp1 ⟨r0, r1, r2, r3, r4, r5, leL_LRg hp0 w N v6 r6, trivial⟩
 ·cases h
def I1 : It := addI noIt 131 con_spreads
theorem VI1 : ValidIt Tryd.prog I1 := ValidIt.add ValidIt.no ok_spreads
end Go.Proofs.YtmhgjlapkhdlmaaDoor
set_option linter.unusedVariables false
set_option linter.unusedSimpArgs false
namespace Go.Proofs.YtmhgjlapkhdlmaaDoor
open Go.RowKit Ev
theorem spOk_opn {l : List FHit} {x : Lat} (h : bothE l x = 0) : spOk (opnS l x) := by
 obtain ⟨h1, h2⟩ := fn2 (show firstNZ [hitsE l, latE x] = 0 from h)
 obtain ⟨⟨z1, z2⟩, z3⟩ := hitsE_ok h1
 have hz := sz_rg h2
 rw [show opnS l x = _ from if_pos h]
 have hl : ((allP x).map (sts l)).length = x.sz.toNat := by rw [List.length_map, allP_len]
 refine ⟨by omega, fun k hk => ?_⟩
 rw [hl] at hk
 have e : rlAt ((allP x).map (sts l)) k = sts l (posAt x k) := by
  rw [rlAt_lt (by omega), List.getElem_map]
  congr 1
  simp [allP]
 rw [e, sts_len]
 refine ⟨z1, z2, fun g hg => ?_⟩
 obtain ⟨a, ha, rfl⟩ := List.mem_map.1 hg
 obtain ⟨i, hi, rfl⟩ := List.getElem_of_mem ha
 obtain ⟨b1, b2, _⟩ := hit_ok (z3 i hi)
 rw [show hitAt l i = l[i] by simp [hitAt, List.getD, hi]] at b1 b2
 have dd := dly_rg (posAt_bd h2 (show (0 : Int) ≤ (k : Int) by omega) (by omega)) (b1.mono (B := 15000) (by decide))
 unfold stR
 simp only
 omega
end Go.Proofs.YtmhgjlapkhdlmaaDoor
set_option linter.unusedVariables false
set_option linter.unusedSimpArgs false
namespace Go.Proofs.YtmhgjlapkhdlmaaDoor
open Go.RowKit Ev
def vtxK (sp : List (List Rg)) (k : Nat) : List Int := ((List.range k).filter fun i => sprF sp i == 0).map fun i : Nat => (i : Int)
theorem vtxK_succ (sp : List (List Rg)) (k : Nat) : vtxK sp (k + 1) = vtxK sp k ++ (if (sprF sp k == 0) = true then [(k : Int)] else []) := by
 unfold vtxK
 rw [List.range_succ, List.filter_append, List.map_append]
 congr 1
 rw [List.filter_cons]
 cases (sprF sp k == 0) <;> rfl
theorem vtxK_len (sp : List (List Rg)) (k : Nat) : (vtxK sp k).length ≤ k := by
 unfold vtxK
 rw [List.length_map]
 have := List.length_filter_le (fun i => sprF sp i == 0) (List.range k)
 rwa [List.length_range] at this
def vtxL (sp : List (List Rg)) : List Int := vtxK sp sp.length
def mk_cherenkov_flash_search_vertices_0 (l : List FHit) (g0 g1 g2 g3 g4 : Int) (sp : List (List Rg)) (v0_0 : List Int) : DS := ⟨[none, none, none, some (.t (.c (.p 3 0))), none, none, none, some (.t (.fb 131 [.sl 7 l.length (hitsC l), .v (.int .i64 g0), .v (.int .i64 g1), .v (.int .i64 g2), .v (.int .i64 g3), .v (.int .i64 g4), .sl 1 sp.length (rlsC sp)])), none, none, none, none, none, none, none, none, none], [some (.num 3 .i64 v0_0), none, none, some (.box 53 [.os 0]), none, none, none, none, none, none, none, none, none, none, none, none, none]⟩
def vc_cherenkov_flash_search_vertices (J : Inv) (l : List FHit) (g0 g1 g2 g3 g4 : Int) (sp : List (List Rg)) (post : DV → Row → Prop) : Prop := (rlP sp.length (rlsC sp) ∧ spOk (rlOf (sp.length) (rlsC sp))) ∧ (J 0 [0] (mk_cherenkov_flash_search_vertices_0 l g0 g1 g2 g3 g4 sp ([])))
def ann_cherenkov_flash_search_vertices : Ann := ⟨fun _ => none, fun b => lookA b [(0, (none, some ⟨[3, 7], [3], []⟩))], fun b => (lookA b [(0, [(3, 0, 0, .num 3 .i64 ([]))])]).getD [], I1, false, fun _ => none, fun _ => none⟩
theorem ev_cherenkov_flash_search_vertices (J : Inv) (l : List FHit) (g0 g1 g2 g3 g4 : Int) (sp : List (List Rg)) (post : DV → Row → Prop) : evFnO Tryd.prog tab Su120 ann_cherenkov_flash_search_vertices J Tryd.f132 [.t (.a [.sl 7 l.length (hitsC l), .v (.int .i64 g0), .v (.int .i64 g1), .v (.int .i64 g2), .v (.int .i64 g3), .v (.int .i64 g4), .sl 1 sp.length (rlsC sp)])] post = vc_cherenkov_flash_search_vertices J l g0 g1 g2 g3 g4 sp post := by kernel_rfl
theorem fit_cherenkov_flash_search_vertices : okFn ann_cherenkov_flash_search_vertices Tryd.f132 = true := by kernel_rfl
def rd_cherenkov_flash_search_vertices_0 (J : Inv) (l : List FHit) (g0 g1 g2 g3 g4 : Int) (sp : List (List Rg)) (v0_0 : List Int) (nn0 : Nat) (post : DV → Row → Prop) : Prop := (nn0 = (rlOf (sp.length) (rlsC sp)).length → post (.t (.c (.os 0))) (.num 3 .i64 v0_0)) ∧ (nn0 < (rlOf (sp.length) (rlsC sp)).length → cond ((sprF (rlOf (sp.length) (rlsC sp)) nn0) == (0 : Int)) (((IntKind.i64 = IntKind.i64 ∧ True) ∧ roomP 8 (v0_0.length + ([((nn0 : Nat) : Int)] : List Int).length)) ∧ (((some (.t (.fb 131 [.sl 7 l.length (hitsC l), .v (.int .i64 g0), .v (.int .i64 g1), .v (.int .i64 g2), .v (.int .i64 g3), .v (.int .i64 g4), .sl 1 sp.length (rlsC sp)])) : Option DV) = some (.t (.fb 131 [.sl 7 l.length (hitsC l), .v (.int .i64 g0), .v (.int .i64 g1), .v (.int .i64 g2), .v (.int .i64 g3), .v (.int .i64 g4), .sl 1 sp.length (rlsC sp)]))) ∧ J 0 [nn0 + 1] (mk_cherenkov_flash_search_vertices_0 l g0 g1 g2 g3 g4 sp (v0_0 ++ ([((nn0 : Nat) : Int)]))))) (((some (.t (.fb 131 [.sl 7 l.length (hitsC l), .v (.int .i64 g0), .v (.int .i64 g1), .v (.int .i64 g2), .v (.int .i64 g3), .v (.int .i64 g4), .sl 1 sp.length (rlsC sp)])) : Option DV) = some (.t (.fb 131 [.sl 7 l.length (hitsC l), .v (.int .i64 g0), .v (.int .i64 g1), .v (.int .i64 g2), .v (.int .i64 g3), .v (.int .i64 g4), .sl 1 sp.length (rlsC sp)]))) ∧ J 0 [nn0 + 1] (mk_cherenkov_flash_search_vertices_0 l g0 g1 g2 g3 g4 sp v0_0)))
theorem er_cherenkov_flash_search_vertices_0 (J : Inv) (l : List FHit) (g0 g1 g2 g3 g4 : Int) (sp : List (List Rg)) (v0_0 : List Int) (nn0 : Nat) (post : DV → Row → Prop) : roundO Tryd.prog tab Su120 ann_cherenkov_flash_search_vertices J Tryd.f132 post 0 (nn0 :: []) (mk_cherenkov_flash_search_vertices_0 l g0 g1 g2 g3 g4 sp v0_0) = rd_cherenkov_flash_search_vertices_0 J l g0 g1 g2 g3 g4 sp v0_0 nn0 post := by kernel_rfl
theorem lp_cherenkov_flash_search_vertices (J : Inv) (post : DV → Row → Prop) : AllG J (loopsFnO Tryd.prog tab Su120 ann_cherenkov_flash_search_vertices J Tryd.f132 post) = ((∀ i s, J 0 [i] s → roundO Tryd.prog tab Su120 ann_cherenkov_flash_search_vertices J Tryd.f132 post 0 [i] s) ∧ True) := by kernel_rfl
def J_cherenkov_flash_search_vertices (l : List FHit) (g0 g1 g2 g3 g4 : Int) (sp : List (List Rg)) : Inv := fun b F s => match b, F with
 | 0, [nn0] => ∃ (v0_0 : List Int), s = mk_cherenkov_flash_search_vertices_0 l g0 g1 g2 g3 g4 sp v0_0 ∧ (spOk sp ∧ nn0 ≤ sp.length ∧ v0_0 = vtxK sp nn0)
 | _, _ => False
theorem rnd_cherenkov_flash_search_vertices_0 (l : List FHit) (g0 g1 g2 g3 g4 : Int) (sp : List (List Rg)) (v0_0 : List Int) (nn0 : Nat) (hp : spOk sp) (hi : spOk sp ∧ nn0 ≤ sp.length ∧ v0_0 = vtxK sp nn0) : rd_cherenkov_flash_search_vertices_0 (J_cherenkov_flash_search_vertices l g0 g1 g2 g3 g4 sp) l g0 g1 g2 g3 g4 sp v0_0 nn0 (fun r' R' => r' = (.t (.c (.os 0))) ∧ R' = (.num 3 .i64 (vtxL sp))) := by
 obtain ⟨i0, i1, i2⟩ := hi
 have hl := vtxK_len sp nn0
 have h1 := i0.1
 unfold rd_cherenkov_flash_search_vertices_0
 simp only [rls_of]
 refine ⟨fun h => ?_, fun h => cond_i (fun e => ⟨⟨by trivial, ?_⟩, by trivial, _, rfl, i0, by omega, ?_⟩) (fun e => ⟨by trivial, _, rfl, i0, by omega, ?_⟩)⟩
 ·subst h
  subst i2
  exact ⟨by trivial, rfl⟩
 ·rw [i2]; unfold roomP maxLen; simp; omega
 ·rw [vtxK_succ, i2, if_pos e]
 ·rw [vtxK_succ, i2, if_neg (by rw [e]; simp), List.append_nil]
theorem spec_cherenkov_flash_search_vertices (l : List FHit) (g0 g1 g2 g3 g4 : Int) (sp : List (List Rg)) (hp : spOk sp) : vc_cherenkov_flash_search_vertices (J_cherenkov_flash_search_vertices l g0 g1 g2 g3 g4 sp) l g0 g1 g2 g3 g4 sp (fun r' R' => r' = (.t (.c (.os 0))) ∧ R' = (.num 3 .i64 (vtxL sp))) := by
 unfold vc_cherenkov_flash_search_vertices
 rw [rls_of]
 exact ⟨⟨rlP_rls sp, hp⟩, _, rfl, hp, Nat.zero_le _, rfl⟩
theorem all_cherenkov_flash_search_vertices (l : List FHit) (g0 g1 g2 g3 g4 : Int) (sp : List (List Rg)) (hp : spOk sp) : AllG (J_cherenkov_flash_search_vertices l g0 g1 g2 g3 g4 sp) (loopsFnO Tryd.prog tab Su120 ann_cherenkov_flash_search_vertices (J_cherenkov_flash_search_vertices l g0 g1 g2 g3 g4 sp) Tryd.f132 (fun r' R' => r' = (.t (.c (.os 0))) ∧ R' = (.num 3 .i64 (vtxL sp)))) := by
 rw [lp_cherenkov_flash_search_vertices]
 refine ⟨?_, trivial⟩
 ·intro i s h
  obtain ⟨w0, rfl, hi⟩ := h
  rw [er_cherenkov_flash_search_vertices_0]
  exact rnd_cherenkov_flash_search_vertices_0 l g0 g1 g2 g3 g4 sp _ _ hp hi
def con_cherenkov_flash_search_vertices : Con := fun args => match args with
 | [.t (.a [.sl 7 n_l c_l, .v (.int .i64 g0), .v (.int .i64 g1), .v (.int .i64 g2), .v (.int .i64 g3), .v (.int .i64 g4), .sl 1 n_sp c_sp])] => some (.t (.c (.os 0)), some (numsP 7 n_l c_l ∧ rlP n_sp c_sp ∧ spOk (rlOf n_sp c_sp)), .own (.num 3 .i64 (vtxL (rlOf n_sp c_sp))))
 | _ => none
theorem ok_cherenkov_flash_search_vertices : Ok Tryd.prog 132 con_cherenkov_flash_search_vertices := by
 refine Ok.fnO (ann := ann_cherenkov_flash_search_vertices) mixed tabOK VSu120 VI1 (fn := Tryd.f132) (by kernel_rfl) (by kernel_rfl) fit_cherenkov_flash_search_vertices fun args r pre fresh h hp => ?_
 unfold con_cherenkov_flash_search_vertices at h
 split at h
 ·rename_i n_l c_l g0 g1 g2 g3 g4 n_sp c_sp
  cases h
  obtain ⟨hp0, hp1, hp⟩ := hp
  refine ⟨_, rfl, trivial, J_cherenkov_flash_search_vertices (listC n_l mkHit c_l) g0 g1 g2 g3 g4 (rlOf n_sp c_sp), [.t (.a [.sl 7 ((listC n_l mkHit c_l).length) (hitsC (listC n_l mkHit c_l)), .v (.int .i64 g0), .v (.int .i64 g1), .v (.int .i64 g2), .v (.int .i64 g3), .v (.int .i64 g4), .sl 1 ((rlOf n_sp c_sp).length) (rlsC (rlOf n_sp c_sp))])], ?_, Nat.le_of_ble_eq_true (by kernel_rfl), ?_, ?_⟩
  ·exact (LeA_cons (leT_a (LeCs.cons ((leL_FHit hp0)) (LeCs.cons (LeC1.refl _) (LeCs.cons (LeC1.refl _) (LeCs.cons (LeC1.refl _) (LeCs.cons (LeC1.refl _) (LeCs.cons (LeC1.refl _) (LeCs.cons ((leL_LRg hp1)) LeCs.nil)))))))) LeA_nil)
  ·rw [ev_cherenkov_flash_search_vertices]; exact spec_cherenkov_flash_search_vertices (listC n_l mkHit c_l) g0 g1 g2 g3 g4 (rlOf n_sp c_sp) hp
  ·exact all_cherenkov_flash_search_vertices (listC n_l mkHit c_l) g0 g1 g2 g3 g4 (rlOf n_sp c_sp) hp
 ·cases h
noncomputable def Sx121 : Sum := addS Su120 132 con_cherenkov_flash_search_vertices
theorem VSx121 : Valid Tryd.prog Sx121 := Valid.add VSu120 ok_cherenkov_flash_search_vertices
noncomputable def Sx122 : Sum := Sx121
theorem VSx122 : Valid Tryd.prog Sx122 := VSx121
noncomputable def Sx123 : Sum := Sx122
theorem VSx123 : Valid Tryd.prog Sx123 := VSx122
end Go.Proofs.YtmhgjlapkhdlmaaDoor
set_option linter.unusedVariables false
set_option linter.unusedSimpArgs false
namespace Go.Proofs.YtmhgjlapkhdlmaaDoor
open Go.RowKit Ev
def foldS (hd : List Int → Bool) (n : Nat) : Option (List Int) := (List.range n).foldl (fun o k => smStep hd o (membs 8 k)) none
theorem membs_lt (i k : Nat) : (membs i k).length ≤ i := by
 unfold membs
 rw [List.length_map]
 have := List.length_filter_le (fun j : Nat => k.testBit j) (List.range i)
 rwa [List.length_range] at this
end Go.Proofs.YtmhgjlapkhdlmaaDoor
set_option linter.unusedVariables false
set_option linter.unusedSimpArgs false
namespace Go.Proofs.YtmhgjlapkhdlmaaDoor
open Go.RowKit Ev
def spd (l : List FHit) (p : P3) : Int := max 0 ((tms l p).lo - (tms l p).hi)
def allS (l : List FHit) (x : Lat) : List (List Rg) := (allP x).map (sts l)
theorem allS_len {l : List FHit} {x : Lat} : (allS l x).length = x.sz.toNat := by rw [allS, List.length_map, allP_len]
theorem rlAt_all {l : List FHit} {x : Lat} {k : Nat} (hk : k < x.sz.toNat) : rlAt (allS l x) k = sts l (posAt x k) := by
 unfold allS
 rw [rlAt_lt (by rw [List.length_map, allP_len]; exact hk), List.getElem_map]
 congr 1
 simp [allP]
theorem sprF_all {l : List FHit} {x : Lat} {k : Nat} (hk : k < x.sz.toNat) : sprF (allS l x) k = spd l (posAt x k) := by
 unfold sprF
 rw [rlAt_all hk]; rfl
theorem opnS_all {l : List FHit} {x : Lat} (h : bothE l x = 0) : opnS l x = allS l x := if_pos h
def vtxR (l : List FHit) (x : Lat) : List Int := vtxL (allS l x)
structure Bx6 where
 (x y z : Rg)
def Bx6.zero : Bx6 := ⟨⟨0, 0⟩, ⟨0, 0⟩, ⟨0, 0⟩⟩
def subR (all : List Rg) (s : List Int) : List Rg := s.map fun i => rgAt all i.toNat
def rowB (s : List Int) (all : List Rg) : Bool := decide ((comm (subR all s)).lo ≤ (comm (subR all s)).hi)
def explB (sp : List (List Rg)) (s : List Int) : Bool := s.isEmpty || sp.any (rowB s)
def contB (sp : List (List Rg)) (s : List Int) : Bool := !explB sp s
theorem membs_8 : ((List.range 9).all fun n => (List.range (2 ^ n)).all fun k => decide (membs n k = membs 8 k)) = true := by kernel_rfl
theorem membs_n {n k : Nat} (hn : n ≤ 8) (hk : k < 2 ^ n) : membs n k = membs 8 k := by
 have h := List.all_eq_true.1 membs_8 n (List.mem_range.2 (by omega))
 exact of_decide_eq_true (List.all_eq_true.1 h k (List.mem_range.2 hk))
theorem mem_membs {n s : Nat} {x : Int} (h : x ∈ membs n s) : 0 ≤ x ∧ x < n := by
 unfold membs at h
 obtain ⟨i, hi, rfl⟩ := List.mem_map.1 h
 have := List.mem_range.1 (List.mem_filter.1 hi).1
 omega
theorem pow_8 {n : Nat} (h : n ≤ 8) : 2 ^ n ≤ 256 := Nat.pow_le_pow_right (n := 2) (by decide) h
end Go.Proofs.YtmhgjlapkhdlmaaDoor