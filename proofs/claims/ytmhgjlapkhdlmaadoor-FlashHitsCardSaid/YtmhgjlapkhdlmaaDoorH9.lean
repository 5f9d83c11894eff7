/- Texts of this claim, together. -/
import Derived.Test.YtmhgjlapkhdlmaaDoorH8
import Derived.Test.YtmhgjlapkhdlmaaDoorH5
import Derived.ProofKit
import Derived.OpenShut
import Derived.ShutString
import Derived.ChangeOld
import Derived.Below
import Derived.Lib.SmallJoins

set_option linter.unusedVariables false
set_option linter.unusedSimpArgs false
namespace Go.Proofs.YtmhgjlapkhdlmaaDoor
open Go.RowKit Ev
theorem pow_rg {j : Nat} (h : j ≤ 30) : 1 ≤ (2 : Int) ^ j ∧ (2 : Int) ^ j ≤ 1073741824 := by
 have h1 : 1 ≤ 2 ^ j := Nat.one_le_two_pow
 have h2 : 2 ^ j ≤ 2 ^ 30 := Nat.pow_le_pow_right (by decide) h
 have e : ((2 ^ j : Nat) : Int) = (2 : Int) ^ j := by push_cast; rfl
 omega
theorem FHit.err_eq (h : FHit) : h.err = if posE h.p ≠ 0 then posE h.p else if inB h.t.lo 0 1000000000 = true ∧ inB h.t.hi 0 1000000000 = true ∧ inB h.c.lo 0 1000000 = true ∧ inB h.c.hi 0 1000000 = true then (if h.t.hi < h.t.lo ∨ h.c.hi < h.c.lo then 9 else 0) else 2 := by
 unfold FHit.err rgIn rgE
 by_cases q : posE h.p = 0
 ·rw [if_neg (by rw [q]; simp), q]
  cases inB h.t.lo 0 1000000000 <;> cases inB h.t.hi 0 1000000000 <;> cases inB h.c.lo 0 1000000 <;> cases inB h.c.hi 0 1000000 <;> simp [firstNZ, unl]
  by_cases a : h.t.lo ≤ h.t.hi <;> by_cases b : h.c.lo ≤ h.c.hi <;> simp [a, b] <;> omega
 ·rw [if_pos q]
  simp [firstNZ, q]
theorem digits_of {n i j k : Int} (hn : 1 ≤ n ∧ n ≤ 6) (hi : 0 ≤ i ∧ i < n) (hj : 0 ≤ j ∧ j < n) (hk : 0 ≤ k ∧ k < n) : (0 ≤ i * n * n + j * n + k ∧ i * n * n + j * n + k < 216) ∧ (i * n * n + j * n + k) / n / n = i ∧ (i * n * n + j * n + k) / n % n = j ∧ (i * n * n + j * n + k) % n = k := by
 rcases (by omega : n = 1 ∨ n = 2 ∨ n = 3 ∨ n = 4 ∨ n = 5 ∨ n = 6) with rfl | rfl | rfl | rfl | rfl | rfl <;> omega
def vc_ref06_PositionErr (p0 p1 p2 : Int) (post : DV → Prop) : Prop := cond (!(inB p0 (-10000 : Int) (10000 : Int))) ((true = true) ∧ ((true = true) ∧ (post (.t (.c (.v (.int .i64 2))))))) (cond (!(inB p1 (-10000 : Int) (10000 : Int))) ((true = true) ∧ (post (.t (.c (.v (.int .i64 2)))))) (cond (!(inB p2 (-10000 : Int) (10000 : Int))) (post (.t (.c (.v (.int .i64 2))))) (post (.t (.c (.v (.int .i64 0)))))))
def ann_ref06_PositionErr : Ann := ⟨fun _ => none, fun _ => none, fun _ => [], noIt, false, fun _ => none, fun _ => none⟩
theorem ev_ref06_PositionErr (J : Inv) (p0 p1 p2 : Int) (post : DV → Prop) : evFn Tryd.prog tab S71 ann_ref06_PositionErr J Tryd.f20 [.t (.a [.v (.int .i64 p0), .v (.int .i64 p1), .v (.int .i64 p2)])] post = vc_ref06_PositionErr p0 p1 p2 post := by kernel_rfl
theorem fit_ref06_PositionErr : okFn ann_ref06_PositionErr Tryd.f20 = true := by kernel_rfl
theorem lp_ref06_PositionErr (J : Inv) (post : DV → Prop) : AllG J (loopsFn Tryd.prog tab S71 ann_ref06_PositionErr J Tryd.f20 post) = (True) := by kernel_rfl
theorem spec_ref06_PositionErr (p0 p1 p2 : Int) : vc_ref06_PositionErr p0 p1 p2 (fun r => LeD r (.t (.c (.v (.int .i64 (posE (⟨p0, p1, p2⟩ : P3))))))) := by
 unfold vc_ref06_PositionErr
 unfold posE
 refine cond_i (fun h => ⟨rfl, rfl, leI ?_⟩) (fun h => cond_i (fun h2 => ⟨rfl, leI ?_⟩) (fun h2 => cond_i (fun h3 => leI ?_) (fun h3 => leI ?_)))
 all_goals simp_all [unl]
def con_ref06_PositionErr : Con := fun args => match args with
 | [.t (.a [.v (.int .i64 p0), .v (.int .i64 p1), .v (.int .i64 p2)])] => some (.t (.c (.v (.int .i64 (posE (⟨p0, p1, p2⟩ : P3))))), none, false)
 | _ => none
theorem ok_ref06_PositionErr : Ok Tryd.prog 20 con_ref06_PositionErr := by
 refine Ok.fn (ann := ann_ref06_PositionErr) mixed tabOK VS71 ValidIt.no (fn := Tryd.f20) (by kernel_rfl) (by kernel_rfl) fit_ref06_PositionErr fun args r pre fresh h hp => ?_
 unfold con_ref06_PositionErr at h
 split at h
 ·rename_i p0 p1 p2
  cases h
  refine ⟨rfl, fun _ _ _ => False, _, LeA.refl _, Nat.le_of_ble_eq_true (by kernel_rfl), ?_, ?_⟩
  ·rw [ev_ref06_PositionErr]; exact spec_ref06_PositionErr p0 p1 p2
  ·rw [lp_ref06_PositionErr]; trivial
 ·cases h
def S72 : Sum := addS S71 20 con_ref06_PositionErr
theorem VS72 : Valid Tryd.prog S72 := Valid.add VS71 ok_ref06_PositionErr
def vc_ref06_square (a0 a1 a2 : Int) (b0 b1 b2 : Int) (post : DV → Prop) : Prop := lt (IntKind.i64.wrap (a0 - b0)) fun x1 => lt (IntKind.i64.wrap (a1 - b1)) fun x2 => lt (IntKind.i64.wrap (a2 - b2)) fun x3 => lt (IntKind.i64.wrap (x1 * x1)) fun x4 => lt (IntKind.i64.wrap (x2 * x2)) fun x5 => lt (IntKind.i64.wrap (x4 + x5)) fun x6 => lt (IntKind.i64.wrap (x3 * x3)) fun x7 => lt (IntKind.i64.wrap (x6 + x7)) fun x8 => post (.t (.c (.v (.int .i64 x8))))
def ann_ref06_square : Ann := ⟨fun r => lookA r [(1, ([[], [0], [], [2], [0, 1, 2, 3], [], [5], [], [7], [5, 6, 7, 8], [], [10], [], [12], [10, 11, 12, 13], [0, 1, 2, 3, 4], [0, 1, 2, 3, 4, 5, 6, 7, 8, 9, 15], [0, 1, 2, 3, 4, 5, 6, 7, 8, 9, 10, 11, 12, 13, 14, 15, 16]], [[], [], [], [], [], [], [], [], [], [], [], [], [], [], [], [], [], []]))], fun _ => none, fun _ => [], noIt, false, fun _ => none, fun _ => none⟩
theorem ev_ref06_square (J : Inv) (a0 a1 a2 : Int) (b0 b1 b2 : Int) (post : DV → Prop) : evFn Tryd.prog tab S72 ann_ref06_square J Tryd.f99 [.t (.a [.v (.int .i64 a0), .v (.int .i64 a1), .v (.int .i64 a2)]), .t (.a [.v (.int .i64 b0), .v (.int .i64 b1), .v (.int .i64 b2)])] post = vc_ref06_square a0 a1 a2 b0 b1 b2 post := by kernel_rfl
theorem fit_ref06_square : okFn ann_ref06_square Tryd.f99 = true := by kernel_rfl
theorem lp_ref06_square (J : Inv) (post : DV → Prop) : AllG J (loopsFn Tryd.prog tab S72 ann_ref06_square J Tryd.f99 post) = (True) := by kernel_rfl
theorem spec_ref06_square (a0 a1 a2 : Int) (b0 b1 b2 : Int) (hp : ((⟨a0, a1, a2⟩ : P3)).bd 15000 ∧ ((⟨b0, b1, b2⟩ : P3)).bd 15000) : vc_ref06_square a0 a1 a2 b0 b1 b2 (fun r => LeD r (.t (.c (.v (.int .i64 (sqD (⟨a0, a1, a2⟩ : P3) (⟨b0, b1, b2⟩ : P3))))))) := by
 obtain ⟨⟨u1, u2, u3⟩, w1, w2, w3⟩ := hp
 simp only at u1 u2 u3 w1 w2 w3
 have q1 := sq_rg (d := a0 - b0) (K := 30000) (by omega)
 have q2 := sq_rg (d := a1 - b1) (K := 30000) (by omega)
 have q3 := sq_rg (d := a2 - b2) (K := 30000) (by omega)
 unfold vc_ref06_square
 refine lt_i fun x1 h1 => lt_i fun x2 h2 => lt_i fun x3 h3 => ?_
 rw [wi (by omega)] at h1 h2 h3
 subst h1 h2 h3
 refine lt_i fun x4 h4 => lt_i fun x5 h5 => lt_i fun x6 h6 => lt_i fun x7 h7 => lt_i fun x8 h8 => ?_
 rw [wi (by omega)] at h4 h5 h7
 subst h4 h5 h7
 rw [wi (by omega)] at h6
 subst h6
 rw [wi (by omega)] at h8
 subst h8
 exact LeD.refl _
def con_ref06_square : Con := fun args => match args with
 | [.t (.a [.v (.int .i64 a0), .v (.int .i64 a1), .v (.int .i64 a2)]), .t (.a [.v (.int .i64 b0), .v (.int .i64 b1), .v (.int .i64 b2)])] => some (.t (.c (.v (.int .i64 (sqD (⟨a0, a1, a2⟩ : P3) (⟨b0, b1, b2⟩ : P3))))), some (((⟨a0, a1, a2⟩ : P3)).bd 15000 ∧ ((⟨b0, b1, b2⟩ : P3)).bd 15000), false)
 | _ => none
theorem ok_ref06_square : Ok Tryd.prog 99 con_ref06_square := by
 refine Ok.fn (ann := ann_ref06_square) mixed tabOK VS72 ValidIt.no (fn := Tryd.f99) (by kernel_rfl) (by kernel_rfl) fit_ref06_square fun args r pre fresh h hp => ?_
 unfold con_ref06_square at h
 split at h
 ·rename_i a0 a1 a2 b0 b1 b2
  cases h
  refine ⟨rfl, fun _ _ _ => False, _, LeA.refl _, Nat.le_of_ble_eq_true (by kernel_rfl), ?_, ?_⟩
  ·rw [ev_ref06_square]; exact spec_ref06_square a0 a1 a2 b0 b1 b2 hp
  ·rw [lp_ref06_square]; trivial
 ·cases h
def S73 : Sum := addS S72 99 con_ref06_square
theorem VS73 : Valid Tryd.prog S73 := Valid.add VS72 ok_ref06_square
def mk_base_Root_0 (y : Int) (v0_0 : Int) (v0_1 : Int) : DS := ⟨[some (.t (.c (.v (.int .i64 y)))), none, none, some (.t (.c (.v (.int .i64 v0_0)))), some (.t (.c (.v (.int .i64 v0_1)))), none, none, none, none, none, none, none, none, none, none, none, none, none, none, none, none, none], [none, none, none, none, none, none, none, none, none, none, none, none, none, none, none, none, none, none, none, none, none, none]⟩
def vc_base_Root (J : Inv) (y : Int) (post : DV → Prop) : Prop := ∃ n, J 0 (n :: []) (mk_base_Root_0 y 0 1073741824)
def ann_base_Root : Ann := ⟨fun _ => none, fun b => lookA b [(0, (none, some ⟨[0, 3, 4], [], []⟩))], fun _ => [], noIt, false, fun _ => none, fun _ => none⟩
theorem ev_base_Root (J : Inv) (y : Int) (post : DV → Prop) : evFn Tryd.prog tab S73 ann_base_Root J Tryd.f62 [.t (.c (.v (.int .i64 y)))] post = vc_base_Root J y post := by kernel_rfl
theorem fit_base_Root : okFn ann_base_Root Tryd.f62 = true := by kernel_rfl
def rd_base_Root_0 (J : Inv) (y : Int) (v0_0 : Int) (v0_1 : Int) (nn0 : Nat) (post : DV → Prop) : Prop := cond (decide (v0_1 > (0 : Int))) (lt (IntKind.i64.wrap (v0_0 + v0_1)) fun x1 => lt (IntKind.i64.wrap (v0_0 + v0_1)) fun x2 => lt (IntKind.i64.wrap (x1 * x2)) fun x3 => cond (decide (x3 ≤ y)) (lt (IntKind.i64.wrap (v0_0 + v0_1)) fun x4 => lt (IntKind.i64.wrap (Int.tdiv v0_1 (2 : Int))) fun x5 => (IntKind.i64 = IntKind.i64 ∧ (2 : Int) ≠ 0) ∧ (J 0 (nn0 :: []) (mk_base_Root_0 y x4 x5))) (lt (IntKind.i64.wrap (Int.tdiv v0_1 (2 : Int))) fun x6 => (IntKind.i64 = IntKind.i64 ∧ (2 : Int) ≠ 0) ∧ (J 0 (nn0 :: []) (mk_base_Root_0 y v0_0 x6)))) (post (.t (.c (.v (.int .i64 v0_0)))))
theorem er_base_Root_0 (J : Inv) (y : Int) (v0_0 : Int) (v0_1 : Int) (nn0 : Nat) (post : DV → Prop) : round Tryd.prog tab S73 ann_base_Root J Tryd.f62 post 0 (nn0 :: []) (mk_base_Root_0 y v0_0 v0_1) = rd_base_Root_0 J y v0_0 v0_1 nn0 post := by kernel_rfl
theorem lp_base_Root (J : Inv) (post : DV → Prop) : AllG J (loopsFn Tryd.prog tab S73 ann_base_Root J Tryd.f62 post) = (((∀ F s, ¬ J 0 (0 :: F) s) ∧ ∀ n F s, J 0 ((n + 1) :: F) s → round Tryd.prog tab S73 ann_base_Root J Tryd.f62 post 0 (n :: F) s) ∧ True) := by kernel_rfl
def J_base_Root (y : Int) : Inv := fun b F s => match b, F with
 | 0, [nn0] => ∃ (v0_0 : Int) (v0_1 : Int), s = mk_base_Root_0 y v0_0 v0_1 ∧ (∃ j : Nat, nn0 = j + 1 ∧ j ≤ 31 ∧ v0_1 = (2 : Int) ^ j / 2 ∧ 0 ≤ v0_0 ∧ v0_0 * v0_0 ≤ y ∧ y < (v0_0 + 2 ^ j) * (v0_0 + 2 ^ j))
 | _, _ => False
theorem rnd_base_Root_0 (y : Int) (v0_0 : Int) (v0_1 : Int) (nn0 : Nat) (hp : 0 ≤ y ∧ y < 1099511627776) (hi : ∃ j : Nat, (nn0 + 1) = j + 1 ∧ j ≤ 31 ∧ v0_1 = (2 : Int) ^ j / 2 ∧ 0 ≤ v0_0 ∧ v0_0 * v0_0 ≤ y ∧ y < (v0_0 + 2 ^ j) * (v0_0 + 2 ^ j)) : rd_base_Root_0 (J_base_Root y) y v0_0 v0_1 nn0 (fun r => LeD r (.t (.c (.v (.int .i64 (rt y)))))) := by
 obtain ⟨j, i1, i2, i3, i4, i5, i6⟩ := hi
 unfold rd_base_Root_0
 have r1 : v0_0 ≤ 1048576 := by
  rcases Int.le_total v0_0 1048576 with h | h
  ·exact h
  ·have := Int.mul_le_mul h h (by decide) i4; omega
 cases j with
 | zero =>
  refine cond_i (fun h => ?_) (fun h => leI (rt_of i4 i5 i6 hp.2))
  have h := of_decide_eq_true h
  rw [i3] at h
  exact absurd h (by decide)
 | succ j =>
  have e : (2 : Int) ^ (j + 1) = 2 ^ j * 2 := rfl
  have hB : 1 ≤ (2 : Int) ^ j ∧ (2 : Int) ^ j ≤ 1073741824 := pow_rg (by omega)
  rw [e] at i3 i6
  have e2 : v0_1 = (2 : Int) ^ j := by omega
  rw [e2]
  obtain ⟨B, hj⟩ : ∃ B, (2 : Int) ^ j = B := ⟨_, rfl⟩
  rw [hj] at i3 i6 e2 hB ⊢
  have m := sq_rg (d := v0_0 + B) (K := 2000000000) (by omega)
  refine cond_i (fun h => lt_i fun x1 h1 => lt_i fun x2 h2 => lt_i fun x3 h3 => ?_) (fun h => absurd (of_decide_eq_false h) (by omega))
  rw [wi (by omega)] at h1 h2
  subst h1 h2
  rw [wi (by omega)] at h3
  subst h3
  have td : Int.tdiv B 2 = B / 2 := Int.tdiv_eq_ediv_of_nonneg (by omega)
  refine cond_i (fun q => lt_i fun x4 h4 => lt_i fun x5 h5 => ⟨⟨rfl, by decide⟩, ?_⟩) (fun q => lt_i fun x5 h5 => ⟨⟨rfl, by decide⟩, ?_⟩)
  ·have q := of_decide_eq_true q
   rw [wi (by omega)] at h4
   rw [td, wi (by omega)] at h5
   subst h4 h5
   exact ⟨_, _, rfl, j, by omega, by omega, by rw [hj], by omega, q, by rw [hj, Int.add_assoc, show B + B = B * 2 by omega]; exact i6⟩
  ·have q := of_decide_eq_false q
   rw [td, wi (by omega)] at h5
   subst h5
   exact ⟨_, _, rfl, j, by omega, by omega, by rw [hj], i4, i5, by rw [hj]; omega⟩
theorem zero_base_Root_0 (y : Int) (v0_0 : Int) (v0_1 : Int)  (hi : ∃ j : Nat, 0 = j + 1 ∧ j ≤ 31 ∧ v0_1 = (2 : Int) ^ j / 2 ∧ 0 ≤ v0_0 ∧ v0_0 * v0_0 ≤ y ∧ y < (v0_0 + 2 ^ j) * (v0_0 + 2 ^ j)) : False := by
 obtain ⟨j, h, _⟩ := hi
 omega
theorem spec_base_Root (y : Int) (hp : 0 ≤ y ∧ y < 1099511627776) : vc_base_Root (J_base_Root y) y (fun r => LeD r (.t (.c (.v (.int .i64 (rt y)))))) := by
 unfold vc_base_Root
 exact ⟨32, 0, 1073741824, rfl, 31, rfl, by decide, by decide, by omega, by omega, by omega⟩
theorem all_base_Root (y : Int) (hp : 0 ≤ y ∧ y < 1099511627776) : AllG (J_base_Root y) (loopsFn Tryd.prog tab S73 ann_base_Root (J_base_Root y) Tryd.f62 (fun r => LeD r (.t (.c (.v (.int .i64 (rt y))))))) := by
 rw [lp_base_Root]
 refine ⟨⟨?_, ?_⟩, trivial⟩
 ·intro F s h
  obtain _ | ⟨g, F⟩ := F
  case cons => exact h.elim
  obtain ⟨w0, w1, rfl, hi⟩ := h
  exact zero_base_Root_0 y w0 w1 hi
 ·intro n F s h
  obtain _ | ⟨g, F⟩ := F
  case cons => exact h.elim
  obtain ⟨w0, w1, rfl, hi⟩ := h
  rw [er_base_Root_0]
  exact rnd_base_Root_0 y _ _ _ hp hi
def con_base_Root : Con := fun args => match args with
 | [.t (.c (.v (.int .i64 y)))] => some (.t (.c (.v (.int .i64 (rt y)))), some (0 ≤ y ∧ y < 1099511627776), false)
 | _ => none
theorem ok_base_Root : Ok Tryd.prog 62 con_base_Root := by
 refine Ok.fn (ann := ann_base_Root) mixed tabOK VS73 ValidIt.no (fn := Tryd.f62) (by kernel_rfl) (by kernel_rfl) fit_base_Root fun args r pre fresh h hp => ?_
 unfold con_base_Root at h
 split at h
 ·rename_i y
  cases h
  refine ⟨rfl, J_base_Root y, _, LeA.refl _, Nat.le_of_ble_eq_true (by kernel_rfl), ?_, ?_⟩
  ·rw [ev_base_Root]; exact spec_base_Root y hp
  ·exact all_base_Root y hp
 ·cases h
def S74 : Sum := addS S73 62 con_base_Root
theorem VS74 : Valid Tryd.prog S74 := Valid.add VS73 ok_base_Root
def vc_ref06_Delay (a0 a1 a2 : Int) (b0 b1 b2 : Int) (post : DV → Prop) : Prop := (((⟨a0, a1, a2⟩ : P3)).bd 15000 ∧ ((⟨b0, b1, b2⟩ : P3)).bd 15000) ∧ (lt (IntKind.i64.wrap ((sqD (⟨a0, a1, a2⟩ : P3) (⟨b0, b1, b2⟩ : P3)) * (3 : Int))) fun x1 => lt (IntKind.i64.wrap (x1 * (3 : Int))) fun x2 => lt (IntKind.i64.wrap (Int.tdiv x2 (4 : Int))) fun x3 => (IntKind.i64 = IntKind.i64 ∧ (4 : Int) ≠ 0) ∧ ((0 ≤ x3 ∧ x3 < 1099511627776) ∧ (post (.t (.c (.v (.int .i64 (rt x3))))))))
def ann_ref06_Delay : Ann := ⟨fun _ => none, fun _ => none, fun _ => [], noIt, false, fun _ => none, fun _ => none⟩
theorem ev_ref06_Delay (J : Inv) (a0 a1 a2 : Int) (b0 b1 b2 : Int) (post : DV → Prop) : evFn Tryd.prog tab S74 ann_ref06_Delay J Tryd.f21 [.t (.a [.v (.int .i64 a0), .v (.int .i64 a1), .v (.int .i64 a2)]), .t (.a [.v (.int .i64 b0), .v (.int .i64 b1), .v (.int .i64 b2)])] post = vc_ref06_Delay a0 a1 a2 b0 b1 b2 post := by kernel_rfl
theorem fit_ref06_Delay : okFn ann_ref06_Delay Tryd.f21 = true := by kernel_rfl
theorem lp_ref06_Delay (J : Inv) (post : DV → Prop) : AllG J (loopsFn Tryd.prog tab S74 ann_ref06_Delay J Tryd.f21 post) = (True) := by kernel_rfl
theorem spec_ref06_Delay (a0 a1 a2 : Int) (b0 b1 b2 : Int) (hp : ((⟨a0, a1, a2⟩ : P3)).bd 15000 ∧ ((⟨b0, b1, b2⟩ : P3)).bd 15000) : vc_ref06_Delay a0 a1 a2 b0 b1 b2 (fun r => LeD r (.t (.c (.v (.int .i64 (dly (⟨a0, a1, a2⟩ : P3) (⟨b0, b1, b2⟩ : P3))))))) := by
 have hr := sqD_rg hp.1 hp.2
 unfold vc_ref06_Delay dly
 refine ⟨hp, ?_⟩
 generalize sqD (⟨a0, a1, a2⟩ : P3) (⟨b0, b1, b2⟩ : P3) = s at *
 refine lt_i fun x1 h1 => lt_i fun x2 h2 => lt_i fun x3 h3 => ⟨⟨rfl, by decide⟩, ?_⟩
 rw [wi (by omega)] at h1
 subst h1
 rw [wi (by omega)] at h2
 subst h2
 rw [Int.tdiv_eq_ediv_of_nonneg (by omega), wi (by omega), show s * 3 * 3 = s * 9 by omega] at h3
 subst h3
 exact ⟨by omega, LeD.refl _⟩
def con_ref06_Delay : Con := fun args => match args with
 | [.t (.a [.v (.int .i64 a0), .v (.int .i64 a1), .v (.int .i64 a2)]), .t (.a [.v (.int .i64 b0), .v (.int .i64 b1), .v (.int .i64 b2)])] => some (.t (.c (.v (.int .i64 (dly (⟨a0, a1, a2⟩ : P3) (⟨b0, b1, b2⟩ : P3))))), some (((⟨a0, a1, a2⟩ : P3)).bd 15000 ∧ ((⟨b0, b1, b2⟩ : P3)).bd 15000), false)
 | _ => none
theorem ok_ref06_Delay : Ok Tryd.prog 21 con_ref06_Delay := by
 refine Ok.fn (ann := ann_ref06_Delay) mixed tabOK VS74 ValidIt.no (fn := Tryd.f21) (by kernel_rfl) (by kernel_rfl) fit_ref06_Delay fun args r pre fresh h hp => ?_
 unfold con_ref06_Delay at h
 split at h
 ·rename_i a0 a1 a2 b0 b1 b2
  cases h
  refine ⟨rfl, fun _ _ _ => False, _, LeA.refl _, Nat.le_of_ble_eq_true (by kernel_rfl), ?_, ?_⟩
  ·rw [ev_ref06_Delay]; exact spec_ref06_Delay a0 a1 a2 b0 b1 b2 hp
  ·rw [lp_ref06_Delay]; trivial
 ·cases h
def S75 : Sum := addS S74 21 con_ref06_Delay
theorem VS75 : Valid Tryd.prog S75 := Valid.add VS74 ok_ref06_Delay
def mk_ref06_CheckHits_0 (l : List FHit) (v0_0 : Int) : DS := ⟨[some (.t (.c (.sl 7 l.length (hitsC l)))), none, none, none, some (.t (.c (.v (.int .i64 v0_0)))), none, none, none, none, none, none, none, none, none, none, none, none, none, none, none, none, none, none, none, none, none, none, none, none, none, none, none, none, none, none, none, none, none, none, none, none, none, none, none, none, none, none, none, none, none, none, none, none, none, none, none, none, none, none, none, none, none, none, none, none, none, none, none, none, none, none, none, none, none, none, none], [none, none, none, none, none, none, none, none, none, none, none, none, none, none, none, none, none, none, none, none, none, none, none, none, none, none, none, none, none, none, none, none, none, none, none, none, none, none, none, none, none, none, none, none, none, none, none, none, none, none, none, none, none, none, none, none, none, none, none, none, none, none, none, none, none, none, none, none, none, none, none, none, none, none, none, none]⟩
def vc_ref06_CheckHits (J : Inv) (l : List FHit) (post : DV → Prop) : Prop := cond (((l.length : Nat) : Int) == (0 : Int)) (post (.tu [.c (.v (.int .i64 0)), .c (.v (.int .i64 10))])) (cond (decide (((l.length : Nat) : Int) > (8 : Int))) (post (.tu [.c (.v (.int .i64 0)), .c (.v (.int .i64 8))])) (∃ n, J 0 (n :: []) (mk_ref06_CheckHits_0 l 0)))
def ann_ref06_CheckHits : Ann := ⟨fun r => lookA r [(11, ([[], [], [0, 1], [0, 1, 2], [0, 1, 2, 3], [], [], [5, 6], [5, 6, 7], [5, 6, 7, 8], [], [], [0, 1, 2, 3, 4, 10, 11], [0, 1, 2, 3, 4, 5, 6, 7, 8, 9, 10, 11, 12]], [[6, 7], [6, 7], [6, 7], [6, 7], [6, 7], [6, 7], [6, 7], [6, 7], [6, 7], [6, 7], [7], [6], [9999, 6], []]))], fun b => lookA b [(0, (none, some ⟨[0, 4], [], []⟩))], fun _ => [], noIt, false, fun _ => none, fun _ => none⟩
theorem ev_ref06_CheckHits (J : Inv) (l : List FHit) (post : DV → Prop) : evFn Tryd.prog tab S75 ann_ref06_CheckHits J Tryd.f22 [.t (.c (.sl 7 l.length (hitsC l)))] post = vc_ref06_CheckHits J l post := by kernel_rfl
theorem fit_ref06_CheckHits : okFn ann_ref06_CheckHits Tryd.f22 = true := by kernel_rfl
def rd_ref06_CheckHits_0 (J : Inv) (l : List FHit) (v0_0 : Int) (nn0 : Nat) (post : DV → Prop) : Prop := cond (decide (v0_0 < ((l.length : Nat) : Int))) ((0 ≤ v0_0 ∧ v0_0 < ((l.length : Nat) : Int)) ∧ (cond ((posE (hitAt l v0_0.toNat).p) != (0 : Int)) (post (.tu [.c (.v (.int .i64 v0_0)), .c (.v (.int .i64 (posE (hitAt l v0_0.toNat).p)))])) ((0 ≤ v0_0 ∧ v0_0 < ((l.length : Nat) : Int)) ∧ ((0 ≤ v0_0 ∧ v0_0 < ((l.length : Nat) : Int)) ∧ (cond (!(inB ((hitAt l v0_0.toNat).t.lo) (0 : Int) (1000000000 : Int))) ((true = true) ∧ ((true = true) ∧ ((true = true) ∧ (post (.tu [.c (.v (.int .i64 v0_0)), .c (.v (.int .i64 2))]))))) (cond (!(inB ((hitAt l v0_0.toNat).t.hi) (0 : Int) (1000000000 : Int))) ((true = true) ∧ ((true = true) ∧ (post (.tu [.c (.v (.int .i64 v0_0)), .c (.v (.int .i64 2))])))) (cond (!(inB ((hitAt l v0_0.toNat).c.lo) (0 : Int) (1000000 : Int))) ((true = true) ∧ (post (.tu [.c (.v (.int .i64 v0_0)), .c (.v (.int .i64 2))]))) (cond (!(inB ((hitAt l v0_0.toNat).c.hi) (0 : Int) (1000000 : Int))) (post (.tu [.c (.v (.int .i64 v0_0)), .c (.v (.int .i64 2))])) (cond (decide (((hitAt l v0_0.toNat).t.lo) > ((hitAt l v0_0.toNat).t.hi))) ((true = true) ∧ (post (.tu [.c (.v (.int .i64 v0_0)), .c (.v (.int .i64 9))]))) (cond (decide (((hitAt l v0_0.toNat).c.lo) > ((hitAt l v0_0.toNat).c.hi))) (post (.tu [.c (.v (.int .i64 v0_0)), .c (.v (.int .i64 9))])) (lt (IntKind.i64.wrap (v0_0 + (1 : Int))) fun x1 => J 0 (nn0 :: []) (mk_ref06_CheckHits_0 l x1)))))))))))) (post (.tu [.c (.v (.int .i64 0)), .c (.v (.int .i64 0))]))
theorem er_ref06_CheckHits_0 (J : Inv) (l : List FHit) (v0_0 : Int) (nn0 : Nat) (post : DV → Prop) : round Tryd.prog tab S75 ann_ref06_CheckHits J Tryd.f22 post 0 (nn0 :: []) (mk_ref06_CheckHits_0 l v0_0) = rd_ref06_CheckHits_0 J l v0_0 nn0 post := by kernel_rfl
theorem lp_ref06_CheckHits (J : Inv) (post : DV → Prop) : AllG J (loopsFn Tryd.prog tab S75 ann_ref06_CheckHits J Tryd.f22 post) = (((∀ F s, ¬ J 0 (0 :: F) s) ∧ ∀ n F s, J 0 ((n + 1) :: F) s → round Tryd.prog tab S75 ann_ref06_CheckHits J Tryd.f22 post 0 (n :: F) s) ∧ True) := by kernel_rfl
def J_ref06_CheckHits (l : List FHit) : Inv := fun b F s => match b, F with
 | 0, [nn0] => ∃ (v0_0 : Int), s = mk_ref06_CheckHits_0 l v0_0 ∧ (0 ≤ v0_0 ∧ v0_0 ≤ l.length ∧ (nn0 : Int) + v0_0 = l.length + 1 ∧ (∀ j : Nat, (j : Int) < v0_0 → (hitAt l j).err = 0) ∧ cntE l.length 8 = 0)
 | _, _ => False
set_option maxHeartbeats 8000000 in
set_option maxRecDepth 100000 in
theorem rnd_ref06_CheckHits_0 (l : List FHit) (v0_0 : Int) (nn0 : Nat) (hi : 0 ≤ v0_0 ∧ v0_0 ≤ l.length ∧ ((nn0 + 1) : Int) + v0_0 = l.length + 1 ∧ (∀ j : Nat, (j : Int) < v0_0 → (hitAt l j).err = 0) ∧ cntE l.length 8 = 0) : rd_ref06_CheckHits_0 (J_ref06_CheckHits l) l v0_0 nn0 (fun r => LeD r (.tu [.c (.v (.int .i64 (hitsI l))), .c (.v (.int .i64 (hitsE l)))])) := by
 obtain ⟨i1, i2, i3, i4, i5⟩ := hi
 obtain ⟨k, rfl⟩ : ∃ k : Nat, v0_0 = k := ⟨v0_0.toNat, by omega⟩
 have hk : (k : Int).toNat = k := rfl
 have hz : ∀ j, j < k → (hitAt l j).err = 0 := fun j hj => i4 j (by omega)
 have hlen : l.length ≤ 8 := by
  have h2 := (fn2 i5).2
  rw [unl_0 (by decide)] at h2
  have := of_decide_eq_true h2
  omega
 have eI : hitsI l = scanI (fun i => (hitAt l i).err) l.length := if_pos i5
 have eE : hitsE l = scan (fun i => (hitAt l i).err) l.length := if_pos i5
 unfold rd_ref06_CheckHits_0
 rw [hk]
 refine cond_i (fun h => ?_) (fun h => ?_)
 ·have hlt : k < l.length := by have := of_decide_eq_true h; omega
  have bad : ∀ e, e ≠ 0 → (hitAt l k).err = e → LeD (.tu [.c (.v (.int .i64 (k : Int))), .c (.v (.int .i64 e))]) (.tu [.c (.v (.int .i64 (hitsI l))), .c (.v (.int .i64 (hitsE l)))]) := fun e he q => by
   subst q
   rw [eI, eE]
   exact le2 (scanI_at (f := fun i => (hitAt l i).err) hz hlt he).symm (scan_at (f := fun i => (hitAt l i).err) hz hlt he).symm
  have hq := FHit.err_eq (hitAt l k)
  refine ⟨by omega, cond_i (fun e => ?_) (fun e => ⟨by omega, by omega, cond_i (fun a1 => ⟨rfl, rfl, rfl, ?_⟩) (fun a1 => cond_i (fun a2 => ⟨rfl, rfl, ?_⟩) (fun a2 => cond_i (fun a3 => ⟨rfl, ?_⟩) (fun a3 => cond_i (fun a4 => ?_) (fun a4 => cond_i (fun a5 => ⟨rfl, ?_⟩) (fun a5 => cond_i (fun a6 => ?_) (fun a6 => lt_i fun x hx => ?_))))))⟩)⟩
  ·have e : posE (hitAt l k).p ≠ 0 := by simpa using e
   exact bad _ e (by rw [hq, if_pos e])
  all_goals
   have e : posE (hitAt l k).p = 0 := by simpa using e
   rw [if_neg (by rw [e]; simp)] at hq
  ·exact bad 2 (by decide) (by rw [hq]; simp_all)
  ·exact bad 2 (by decide) (by rw [hq]; simp_all)
  ·exact bad 2 (by decide) (by rw [hq]; simp_all)
  ·exact bad 2 (by decide) (by rw [hq]; simp_all)
  ·exact bad 9 (by decide) (by rw [hq]; simp_all)
  ·exact bad 9 (by decide) (by rw [hq]; simp_all)
  ·have q : (hitAt l k).err = 0 := by rw [hq]; simp_all
   rw [wi (by omega)] at hx
   subst hx
   refine ⟨_, rfl, by omega, by omega, by omega, fun j hj => ?_, i5⟩
   by_cases q2 : j = k
   ·rw [q2]; exact q
   ·exact i4 j (by omega)
 ·have hge : k = l.length := by have := of_decide_eq_false h; omega
  subst hge
  rw [eI, eE]
  exact le2 (scanI_end (f := fun i => (hitAt l i).err) hz).symm (scan_end (f := fun i => (hitAt l i).err) hz).symm
theorem zero_ref06_CheckHits_0 (l : List FHit) (v0_0 : Int)  (hi : 0 ≤ v0_0 ∧ v0_0 ≤ l.length ∧ (0 : Int) + v0_0 = l.length + 1 ∧ (∀ j : Nat, (j : Int) < v0_0 → (hitAt l j).err = 0) ∧ cntE l.length 8 = 0) : False := by
 omega
set_option maxHeartbeats 8000000 in
set_option maxRecDepth 100000 in
theorem spec_ref06_CheckHits (l : List FHit) : vc_ref06_CheckHits (J_ref06_CheckHits l) l (fun r => LeD r (.tu [.c (.v (.int .i64 (hitsI l))), .c (.v (.int .i64 (hitsE l)))])) := by
 unfold vc_ref06_CheckHits
 have bad : ∀ e, e ≠ 0 → cntE l.length 8 = e → LeD (.tu [.c (.v (.int .i64 0)), .c (.v (.int .i64 e))]) (.tu [.c (.v (.int .i64 (hitsI l))), .c (.v (.int .i64 (hitsE l)))]) := fun e he q => by
  subst q
  exact le2 (if_neg he).symm (if_neg he).symm
 refine cond_i (fun h => bad 10 (by decide) ?_) (fun h => cond_i (fun h2 => bad 8 (by decide) ?_) (fun h2 => ?_))
 ·have h : (l.length : Int) = 0 := by simpa using h
  unfold cntE; rw [h]; rfl
 ·have h : (l.length : Int) ≠ 0 := by simpa using h
  have h2 := of_decide_eq_true h2
  unfold cntE; rw [decide_eq_true (show (l.length : Int) > 0 by omega), decide_eq_false (show ¬ (l.length : Int) ≤ 8 by omega)]; rfl
 ·have h : (l.length : Int) ≠ 0 := by simpa using h
  have h2 := of_decide_eq_false h2
  refine ⟨l.length + 1, 0, rfl, by omega, by omega, by omega, fun j hj => by omega, ?_⟩
  unfold cntE; rw [decide_eq_true (show (l.length : Int) > 0 by omega), decide_eq_true (show (l.length : Int) ≤ 8 by omega)]; rfl
theorem all_ref06_CheckHits (l : List FHit) : AllG (J_ref06_CheckHits l) (loopsFn Tryd.prog tab S75 ann_ref06_CheckHits (J_ref06_CheckHits l) Tryd.f22 (fun r => LeD r (.tu [.c (.v (.int .i64 (hitsI l))), .c (.v (.int .i64 (hitsE l)))]))) := by
 rw [lp_ref06_CheckHits]
 refine ⟨⟨?_, ?_⟩, trivial⟩
 ·intro F s h
  obtain _ | ⟨g, F⟩ := F
  case cons => exact h.elim
  obtain ⟨w0, rfl, hi⟩ := h
  exact zero_ref06_CheckHits_0 l w0 hi
 ·intro n F s h
  obtain _ | ⟨g, F⟩ := F
  case cons => exact h.elim
  obtain ⟨w0, rfl, hi⟩ := h
  rw [er_ref06_CheckHits_0]
  exact rnd_ref06_CheckHits_0 l _ _ hi
def con_ref06_CheckHits : Con := fun args => match args with
 | [.t (.c (.sl 7 n_l c_l))] => some (.tu [.c (.v (.int .i64 (hitsI (listC n_l mkHit c_l)))), .c (.v (.int .i64 (hitsE (listC n_l mkHit c_l))))], some (numsP 7 n_l c_l), false)
 | _ => none
theorem ok_ref06_CheckHits : Ok Tryd.prog 22 con_ref06_CheckHits := by
 refine Ok.fn (ann := ann_ref06_CheckHits) mixed tabOK VS75 ValidIt.no (fn := Tryd.f22) (by kernel_rfl) (by kernel_rfl) fit_ref06_CheckHits fun args r pre fresh h hp => ?_
 unfold con_ref06_CheckHits at h
 split at h
 ·rename_i n_l c_l
  cases h
  have hp0 := hp
  refine ⟨rfl, J_ref06_CheckHits (listC n_l mkHit c_l), [.t (.c (.sl 7 ((listC n_l mkHit c_l).length) (hitsC (listC n_l mkHit c_l))))], ?_, Nat.le_of_ble_eq_true (by kernel_rfl), ?_, ?_⟩
  ·exact (LeA_cons (leT_c ((leL_FHit hp0))) LeA_nil)
  ·rw [ev_ref06_CheckHits]; exact spec_ref06_CheckHits (listC n_l mkHit c_l)
  ·exact all_ref06_CheckHits (listC n_l mkHit c_l)
 ·cases h
def S76 : Sum := addS S75 22 con_ref06_CheckHits
theorem VS76 : Valid Tryd.prog S76 := Valid.add VS75 ok_ref06_CheckHits
def S77 : Sum := S76
theorem VS77 : Valid Tryd.prog S77 := VS76
def vc_ref06_LatticeErr (g0 g1 g2 g3 g4 : Int) (post : DV → Prop) : Prop := cond ((posE (⟨g0, g1, g2⟩ : P3)) != (0 : Int)) (post (.t (.c (.v (.int .i64 (posE (⟨g0, g1, g2⟩ : P3))))))) (cond (!(inB g3 (1 : Int) (1000 : Int))) ((true = true) ∧ (post (.t (.c (.v (.int .i64 2)))))) (cond (!(inB g4 (1 : Int) (6 : Int))) (post (.t (.c (.v (.int .i64 2))))) (post (.t (.c (.v (.int .i64 0)))))))
def ann_ref06_LatticeErr : Ann := ⟨fun _ => none, fun _ => none, fun _ => [], noIt, false, fun _ => none, fun _ => none⟩
theorem ev_ref06_LatticeErr (J : Inv) (g0 g1 g2 g3 g4 : Int) (post : DV → Prop) : evFn Tryd.prog tab S77 ann_ref06_LatticeErr J Tryd.f23 [.t (.a [.v (.int .i64 g0), .v (.int .i64 g1), .v (.int .i64 g2), .v (.int .i64 g3), .v (.int .i64 g4)])] post = vc_ref06_LatticeErr g0 g1 g2 g3 g4 post := by kernel_rfl
theorem fit_ref06_LatticeErr : okFn ann_ref06_LatticeErr Tryd.f23 = true := by kernel_rfl
theorem lp_ref06_LatticeErr (J : Inv) (post : DV → Prop) : AllG J (loopsFn Tryd.prog tab S77 ann_ref06_LatticeErr J Tryd.f23 post) = (True) := by kernel_rfl
theorem spec_ref06_LatticeErr (g0 g1 g2 g3 g4 : Int) : vc_ref06_LatticeErr g0 g1 g2 g3 g4 (fun r => LeD r (.t (.c (.v (.int .i64 (latE (⟨⟨g0, g1, g2⟩, g3, g4⟩ : Lat))))))) := by
 unfold vc_ref06_LatticeErr
 unfold latE
 refine cond_i (fun h => leI ?_) (fun h => cond_i (fun h2 => ⟨rfl, leI ?_⟩) (fun h2 => cond_i (fun h3 => leI ?_) (fun h3 => leI ?_)))
 all_goals simp_all [unl, firstNZ]
def con_ref06_LatticeErr : Con := fun args => match args with
 | [.t (.a [.v (.int .i64 g0), .v (.int .i64 g1), .v (.int .i64 g2), .v (.int .i64 g3), .v (.int .i64 g4)])] => some (.t (.c (.v (.int .i64 (latE (⟨⟨g0, g1, g2⟩, g3, g4⟩ : Lat))))), none, false)
 | _ => none
theorem ok_ref06_LatticeErr : Ok Tryd.prog 23 con_ref06_LatticeErr := by
 refine Ok.fn (ann := ann_ref06_LatticeErr) mixed tabOK VS77 ValidIt.no (fn := Tryd.f23) (by kernel_rfl) (by kernel_rfl) fit_ref06_LatticeErr fun args r pre fresh h hp => ?_
 unfold con_ref06_LatticeErr at h
 split at h
 ·rename_i g0 g1 g2 g3 g4
  cases h
  refine ⟨rfl, fun _ _ _ => False, _, LeA.refl _, Nat.le_of_ble_eq_true (by kernel_rfl), ?_, ?_⟩
  ·rw [ev_ref06_LatticeErr]; exact spec_ref06_LatticeErr g0 g1 g2 g3 g4
  ·rw [lp_ref06_LatticeErr]; trivial
 ·cases h
def S78 : Sum := addS S77 23 con_ref06_LatticeErr
theorem VS78 : Valid Tryd.prog S78 := Valid.add VS77 ok_ref06_LatticeErr
def mk_ref06_Positions_0 (g0 g1 g2 g3 g4 : Int) (v0_0 : List (List CV)) (v0_1 : Int) : DS := ⟨[none, some (.t (.c (.p 1 0))), none, some (.t (.c (.os 3))), some (.t (.c (.v (.int .i64 v0_1)))), none, none, none, none, none, none, none, none, none, none, none, none, none, none, none, none, none, none, none, none, none, none, none, none, none, none, none, none, none, none, none, none, none, none, none, none, none, none, none, none, none, none, none, none, none, none, none, none, none], [none, some (.box 26 [.v (.int .i64 g0), .v (.int .i64 g1), .v (.int .i64 g2), .v (.int .i64 g3), .v (.int .i64 g4)]), none, some (.gen 24 3 v0_0), none, none, none, none, none, none, none, none, none, none, none, none, none, none, none, none, none, none, none, none, none, none, none, none, none, none, none, none, none, none, none, none, none, none, none, none, none, none, none, none, none, none, none, none, none, none, none, none, none, none]⟩
def mk_ref06_Positions_2 (g0 g1 g2 g3 g4 : Int) (v2_0 : List (List CV)) (v2_1 : Int) (v2_2 : Int) : DS := ⟨[none, some (.t (.c (.p 1 0))), none, some (.t (.c (.os 3))), some (.t (.c (.v (.int .i64 v2_1)))), some (.t (.c (.v (.int .i64 v2_2)))), none, none, none, none, none, none, none, none, none, none, none, none, none, none, none, none, none, none, none, none, none, none, none, none, none, none, none, none, none, none, none, none, none, none, none, none, none, none, none, none, none, none, none, none, none, none, none, none], [none, some (.box 26 [.v (.int .i64 g0), .v (.int .i64 g1), .v (.int .i64 g2), .v (.int .i64 g3), .v (.int .i64 g4)]), none, some (.gen 24 3 v2_0), none, none, none, none, none, none, none, none, none, none, none, none, none, none, none, none, none, none, none, none, none, none, none, none, none, none, none, none, none, none, none, none, none, none, none, none, none, none, none, none, none, none, none, none, none, none, none, none, none, none]⟩
def mk_ref06_Positions_4 (g0 g1 g2 g3 g4 : Int) (v4_0 : List (List CV)) (v4_1 : Int) (v4_2 : Int) (v4_3 : Int) : DS := ⟨[none, some (.t (.c (.p 1 0))), none, some (.t (.c (.os 3))), some (.t (.c (.v (.int .i64 v4_1)))), some (.t (.c (.v (.int .i64 v4_2)))), some (.t (.c (.v (.int .i64 v4_3)))), none, none, none, none, none, none, none, none, none, none, none, none, none, none, none, none, none, none, none, none, none, none, none, none, none, none, none, none, none, none, none, none, none, none, none, none, none, none, none, none, none, none, none, none, none, none, none], [none, some (.box 26 [.v (.int .i64 g0), .v (.int .i64 g1), .v (.int .i64 g2), .v (.int .i64 g3), .v (.int .i64 g4)]), none, some (.gen 24 3 v4_0), none, none, none, none, none, none, none, none, none, none, none, none, none, none, none, none, none, none, none, none, none, none, none, none, none, none, none, none, none, none, none, none, none, none, none, none, none, none, none, none, none, none, none, none, none, none, none, none, none, none]⟩
def vc_ref06_Positions (J : Inv) (g0 g1 g2 g3 g4 : Int) (post : DV → Prop) : Prop := ∃ n, J 0 (n :: []) (mk_ref06_Positions_0 g0 g1 g2 g3 g4 ([]) 0)
def ann_ref06_Positions : Ann := ⟨fun _ => none, fun b => lookA b [(0, (none, some ⟨[1, 4], [1], [(3, .gen 24 3 [])]⟩)), (2, (none, some ⟨[1, 4, 5], [1], [(3, .gen 24 3 [])]⟩)), (4, (none, some ⟨[1, 4, 5, 6], [1], [(3, .gen 24 3 [])]⟩))], fun _ => [], noIt, true, fun _ => none, fun _ => none⟩
theorem ev_ref06_Positions (J : Inv) (g0 g1 g2 g3 g4 : Int) (post : DV → Prop) : evFn Tryd.prog tab S78 ann_ref06_Positions J Tryd.f25 [.t (.a [.v (.int .i64 g0), .v (.int .i64 g1), .v (.int .i64 g2), .v (.int .i64 g3), .v (.int .i64 g4)])] post = vc_ref06_Positions J g0 g1 g2 g3 g4 post := by kernel_rfl
theorem fit_ref06_Positions : okFn ann_ref06_Positions Tryd.f25 = true := by kernel_rfl
def rd_ref06_Positions_0 (J : Inv) (g0 g1 g2 g3 g4 : Int) (v0_0 : List (List CV)) (v0_1 : Int) (nn0 : Nat) (post : DV → Prop) : Prop := cond (decide (v0_1 < g4)) (∃ n, J 2 (n :: nn0 :: []) (mk_ref06_Positions_2 g0 g1 g2 g3 g4 v0_0 v0_1 0)) (post (.t (.c (.sl 3 v0_0.length (genC v0_0)))))
theorem er_ref06_Positions_0 (J : Inv) (g0 g1 g2 g3 g4 : Int) (v0_0 : List (List CV)) (v0_1 : Int) (nn0 : Nat) (post : DV → Prop) : round Tryd.prog tab S78 ann_ref06_Positions J Tryd.f25 post 0 (nn0 :: []) (mk_ref06_Positions_0 g0 g1 g2 g3 g4 v0_0 v0_1) = rd_ref06_Positions_0 J g0 g1 g2 g3 g4 v0_0 v0_1 nn0 post := by kernel_rfl
def rd_ref06_Positions_2 (J : Inv) (g0 g1 g2 g3 g4 : Int) (v2_0 : List (List CV)) (v2_1 : Int) (v2_2 : Int) (nn2 nn0 : Nat) (post : DV → Prop) : Prop := cond (decide (v2_2 < g4)) (∃ n, J 4 (n :: nn2 :: nn0 :: []) (mk_ref06_Positions_4 g0 g1 g2 g3 g4 v2_0 v2_1 v2_2 0)) (lt (IntKind.i64.wrap (v2_1 + (1 : Int))) fun x1 => J 0 (nn0 :: []) (mk_ref06_Positions_0 g0 g1 g2 g3 g4 v2_0 x1))
theorem er_ref06_Positions_2 (J : Inv) (g0 g1 g2 g3 g4 : Int) (v2_0 : List (List CV)) (v2_1 : Int) (v2_2 : Int) (nn2 nn0 : Nat) (post : DV → Prop) : round Tryd.prog tab S78 ann_ref06_Positions J Tryd.f25 post 1 (nn2 :: nn0 :: []) (mk_ref06_Positions_2 g0 g1 g2 g3 g4 v2_0 v2_1 v2_2) = rd_ref06_Positions_2 J g0 g1 g2 g3 g4 v2_0 v2_1 v2_2 nn2 nn0 post := by kernel_rfl
def rd_ref06_Positions_4 (J : Inv) (g0 g1 g2 g3 g4 : Int) (v4_0 : List (List CV)) (v4_1 : Int) (v4_2 : Int) (v4_3 : Int) (nn4 nn2 nn0 : Nat) (post : DV → Prop) : Prop := cond (decide (v4_3 < g4)) (lt (IntKind.i64.wrap (g3 * v4_1)) fun x1 => lt (IntKind.i64.wrap (g0 + x1)) fun x2 => lt (IntKind.i64.wrap (g3 * v4_2)) fun x3 => lt (IntKind.i64.wrap (g1 + x3)) fun x4 => lt (IntKind.i64.wrap (g3 * v4_3)) fun x5 => lt (IntKind.i64.wrap (g2 + x5)) fun x6 => (roomP 24 (v4_0.length + ([[.v (.int .i64 x2), .v (.int .i64 x4), .v (.int .i64 x6)]] : List (List CV)).length)) ∧ (lt (IntKind.i64.wrap (v4_3 + (1 : Int))) fun x7 => J 4 (nn4 :: nn2 :: nn0 :: []) (mk_ref06_Positions_4 g0 g1 g2 g3 g4 (v4_0 ++ ([[.v (.int .i64 x2), .v (.int .i64 x4), .v (.int .i64 x6)]] : List (List CV))) v4_1 v4_2 x7))) (lt (IntKind.i64.wrap (v4_2 + (1 : Int))) fun x8 => J 2 (nn2 :: nn0 :: []) (mk_ref06_Positions_2 g0 g1 g2 g3 g4 v4_0 v4_1 x8))
theorem er_ref06_Positions_4 (J : Inv) (g0 g1 g2 g3 g4 : Int) (v4_0 : List (List CV)) (v4_1 : Int) (v4_2 : Int) (v4_3 : Int) (nn4 nn2 nn0 : Nat) (post : DV → Prop) : round Tryd.prog tab S78 ann_ref06_Positions J Tryd.f25 post 2 (nn4 :: nn2 :: nn0 :: []) (mk_ref06_Positions_4 g0 g1 g2 g3 g4 v4_0 v4_1 v4_2 v4_3) = rd_ref06_Positions_4 J g0 g1 g2 g3 g4 v4_0 v4_1 v4_2 v4_3 nn4 nn2 nn0 post := by kernel_rfl
theorem lp_ref06_Positions (J : Inv) (post : DV → Prop) : AllG J (loopsFn Tryd.prog tab S78 ann_ref06_Positions J Tryd.f25 post) = (((∀ F s, ¬ J 0 (0 :: F) s) ∧ ∀ n F s, J 0 ((n + 1) :: F) s → round Tryd.prog tab S78 ann_ref06_Positions J Tryd.f25 post 0 (n :: F) s) ∧ ((∀ F s, ¬ J 2 (0 :: F) s) ∧ ∀ n F s, J 2 ((n + 1) :: F) s → round Tryd.prog tab S78 ann_ref06_Positions J Tryd.f25 post 1 (n :: F) s) ∧ ((∀ F s, ¬ J 4 (0 :: F) s) ∧ ∀ n F s, J 4 ((n + 1) :: F) s → round Tryd.prog tab S78 ann_ref06_Positions J Tryd.f25 post 2 (n :: F) s) ∧ True) := by kernel_rfl
def J_ref06_Positions (g0 g1 g2 g3 g4 : Int) : Inv := fun b F s => match b, F with
 | 0, [nn0] => ∃ (v0_0 : List (List CV)) (v0_1 : Int), s = mk_ref06_Positions_0 g0 g1 g2 g3 g4 v0_0 v0_1 ∧ (latE (⟨⟨g0, g1, g2⟩, g3, g4⟩ : Lat) = 0 ∧ 0 ≤ v0_1 ∧ v0_1 ≤ g4 ∧ (nn0 : Int) + v0_1 = g4 + 1 ∧ v0_0 = (((List.range (v0_1 * g4 * g4).toNat).map fun k : Nat => posAt (⟨⟨g0, g1, g2⟩, g3, g4⟩ : Lat) k).map plCv))
 | 2, [nn2, nn0] => ∃ (v2_0 : List (List CV)) (v2_1 : Int) (v2_2 : Int), s = mk_ref06_Positions_2 g0 g1 g2 g3 g4 v2_0 v2_1 v2_2 ∧ (latE (⟨⟨g0, g1, g2⟩, g3, g4⟩ : Lat) = 0 ∧ (0 ≤ v2_1 ∧ v2_1 < g4 ∧ (nn0 : Int) + v2_1 = g4) ∧ 0 ≤ v2_2 ∧ v2_2 ≤ g4 ∧ (nn2 : Int) + v2_2 = g4 + 1 ∧ v2_0 = (((List.range (v2_1 * g4 * g4 + v2_2 * g4).toNat).map fun k : Nat => posAt (⟨⟨g0, g1, g2⟩, g3, g4⟩ : Lat) k).map plCv))
 | 4, [nn4, nn2, nn0] => ∃ (v4_0 : List (List CV)) (v4_1 : Int) (v4_2 : Int) (v4_3 : Int), s = mk_ref06_Positions_4 g0 g1 g2 g3 g4 v4_0 v4_1 v4_2 v4_3 ∧ (latE (⟨⟨g0, g1, g2⟩, g3, g4⟩ : Lat) = 0 ∧ (0 ≤ v4_1 ∧ v4_1 < g4 ∧ (nn0 : Int) + v4_1 = g4) ∧ (0 ≤ v4_2 ∧ v4_2 < g4 ∧ (nn2 : Int) + v4_2 = g4) ∧ 0 ≤ v4_3 ∧ v4_3 ≤ g4 ∧ (nn4 : Int) + v4_3 = g4 + 1 ∧ v4_0 = (((List.range (v4_1 * g4 * g4 + v4_2 * g4 + v4_3).toNat).map fun k : Nat => posAt (⟨⟨g0, g1, g2⟩, g3, g4⟩ : Lat) k).map plCv))
 | _, _ => False
set_option maxHeartbeats 8000000 in
set_option maxRecDepth 100000 in
theorem rnd_ref06_Positions_0 (g0 g1 g2 g3 g4 : Int) (v0_0 : List (List CV)) (v0_1 : Int) (nn0 : Nat) (hp : latE (⟨⟨g0, g1, g2⟩, g3, g4⟩ : Lat) = 0) (hi : latE (⟨⟨g0, g1, g2⟩, g3, g4⟩ : Lat) = 0 ∧ 0 ≤ v0_1 ∧ v0_1 ≤ g4 ∧ ((nn0 + 1) : Int) + v0_1 = g4 + 1 ∧ v0_0 = (((List.range (v0_1 * g4 * g4).toNat).map fun k : Nat => posAt (⟨⟨g0, g1, g2⟩, g3, g4⟩ : Lat) k).map plCv)) : rd_ref06_Positions_0 (J_ref06_Positions g0 g1 g2 g3 g4) g0 g1 g2 g3 g4 v0_0 v0_1 nn0 (fun r => LeD r (.t (.c (.sl 3 ((allP (⟨⟨g0, g1, g2⟩, g3, g4⟩ : Lat)).length) (plsC (allP (⟨⟨g0, g1, g2⟩, g3, g4⟩ : Lat))))))) := by
 obtain ⟨i0, i1, i2, i3, i4⟩ := hi
 unfold rd_ref06_Positions_0
 refine cond_i (fun h => ?_) (fun h => ?_)
 ·have h := of_decide_eq_true h
  exact ⟨g4.toNat + 1, _, _, 0, rfl, i0, by omega, by omega, by omega, by omega, by rw [i4, Int.zero_mul, Int.add_zero]⟩
 ·have h := of_decide_eq_false h
  have e : v0_1 = g4 := by omega
  rw [i4, e]
  exact le_pls _
theorem zero_ref06_Positions_0 (g0 g1 g2 g3 g4 : Int) (v0_0 : List (List CV)) (v0_1 : Int)  (hi : latE (⟨⟨g0, g1, g2⟩, g3, g4⟩ : Lat) = 0 ∧ 0 ≤ v0_1 ∧ v0_1 ≤ g4 ∧ (0 : Int) + v0_1 = g4 + 1 ∧ v0_0 = (((List.range (v0_1 * g4 * g4).toNat).map fun k : Nat => posAt (⟨⟨g0, g1, g2⟩, g3, g4⟩ : Lat) k).map plCv)) : False := by
 omega
set_option maxHeartbeats 8000000 in
set_option maxRecDepth 100000 in
theorem rnd_ref06_Positions_2 (g0 g1 g2 g3 g4 : Int) (v2_0 : List (List CV)) (v2_1 : Int) (v2_2 : Int) (nn2 nn0 : Nat) (hp : latE (⟨⟨g0, g1, g2⟩, g3, g4⟩ : Lat) = 0) (hi : latE (⟨⟨g0, g1, g2⟩, g3, g4⟩ : Lat) = 0 ∧ (0 ≤ v2_1 ∧ v2_1 < g4 ∧ (nn0 : Int) + v2_1 = g4) ∧ 0 ≤ v2_2 ∧ v2_2 ≤ g4 ∧ ((nn2 + 1) : Int) + v2_2 = g4 + 1 ∧ v2_0 = (((List.range (v2_1 * g4 * g4 + v2_2 * g4).toNat).map fun k : Nat => posAt (⟨⟨g0, g1, g2⟩, g3, g4⟩ : Lat) k).map plCv)) : rd_ref06_Positions_2 (J_ref06_Positions g0 g1 g2 g3 g4) g0 g1 g2 g3 g4 v2_0 v2_1 v2_2 nn2 nn0 (fun r => LeD r (.t (.c (.sl 3 ((allP (⟨⟨g0, g1, g2⟩, g3, g4⟩ : Lat)).length) (plsC (allP (⟨⟨g0, g1, g2⟩, g3, g4⟩ : Lat))))))) := by
 obtain ⟨i0, i1, i2, i3, i4, i5⟩ := hi
 obtain ⟨_, _, q1, q2⟩ := lat_ok i0
 simp only at q1 q2
 unfold rd_ref06_Positions_2
 refine cond_i (fun h => ?_) (fun h => lt_i fun x hx => ?_)
 ·have h := of_decide_eq_true h
  exact ⟨g4.toNat + 1, _, _, _, 0, rfl, i0, i1, by omega, by omega, by omega, by omega, by rw [i5, Int.add_zero]⟩
 ·have h := of_decide_eq_false h
  rw [wi (by omega)] at hx
  subst hx
  exact ⟨_, _, rfl, i0, by omega, by omega, by omega, by rw [i5, show v2_2 = g4 by omega, Int.add_mul, Int.add_mul, Int.one_mul]⟩
theorem zero_ref06_Positions_2 (g0 g1 g2 g3 g4 : Int) (v2_0 : List (List CV)) (v2_1 : Int) (v2_2 : Int) (nn0 : Nat) (hi : latE (⟨⟨g0, g1, g2⟩, g3, g4⟩ : Lat) = 0 ∧ (0 ≤ v2_1 ∧ v2_1 < g4 ∧ (nn0 : Int) + v2_1 = g4) ∧ 0 ≤ v2_2 ∧ v2_2 ≤ g4 ∧ (0 : Int) + v2_2 = g4 + 1 ∧ v2_0 = (((List.range (v2_1 * g4 * g4 + v2_2 * g4).toNat).map fun k : Nat => posAt (⟨⟨g0, g1, g2⟩, g3, g4⟩ : Lat) k).map plCv)) : False := by
 omega
set_option maxHeartbeats 8000000 in
set_option maxRecDepth 100000 in
theorem rnd_ref06_Positions_4 (g0 g1 g2 g3 g4 : Int) (v4_0 : List (List CV)) (v4_1 : Int) (v4_2 : Int) (v4_3 : Int) (nn4 nn2 nn0 : Nat) (hp : latE (⟨⟨g0, g1, g2⟩, g3, g4⟩ : Lat) = 0) (hi : latE (⟨⟨g0, g1, g2⟩, g3, g4⟩ : Lat) = 0 ∧ (0 ≤ v4_1 ∧ v4_1 < g4 ∧ (nn0 : Int) + v4_1 = g4) ∧ (0 ≤ v4_2 ∧ v4_2 < g4 ∧ (nn2 : Int) + v4_2 = g4) ∧ 0 ≤ v4_3 ∧ v4_3 ≤ g4 ∧ ((nn4 + 1) : Int) + v4_3 = g4 + 1 ∧ v4_0 = (((List.range (v4_1 * g4 * g4 + v4_2 * g4 + v4_3).toNat).map fun k : Nat => posAt (⟨⟨g0, g1, g2⟩, g3, g4⟩ : Lat) k).map plCv)) : rd_ref06_Positions_4 (J_ref06_Positions g0 g1 g2 g3 g4) g0 g1 g2 g3 g4 v4_0 v4_1 v4_2 v4_3 nn4 nn2 nn0 (fun r => LeD r (.t (.c (.sl 3 ((allP (⟨⟨g0, g1, g2⟩, g3, g4⟩ : Lat)).length) (plsC (allP (⟨⟨g0, g1, g2⟩, g3, g4⟩ : Lat))))))) := by
 obtain ⟨i0, i1, i2, i3, i4, i5, i6⟩ := hi
 obtain ⟨⟨a1, a2, a3⟩, hs, q1, q2⟩ := lat_ok i0
 simp only at a1 a2 a3 hs q1 q2
 unfold rd_ref06_Positions_4
 refine cond_i (fun h => ?_) (fun h => lt_i fun x hx => ?_)
 ·have h := of_decide_eq_true h
  obtain ⟨d1, d2, d3, d4⟩ := digits_of (n := g4) (i := v4_1) (j := v4_2) (k := v4_3) ⟨q1, q2⟩ ⟨i1.1, i1.2.1⟩ ⟨i2.1, i2.2.1⟩ ⟨i3, h⟩
  have e1 := step_rg hs q2 ⟨i1.1, i1.2.1⟩
  have e2 := step_rg hs q2 ⟨i2.1, i2.2.1⟩
  have e3 := step_rg hs q2 ⟨i3, h⟩
  refine lt_i fun x1 h1 => lt_i fun x2 h2 => lt_i fun x3 h3 => lt_i fun x4 h4 => lt_i fun x5 h5 => lt_i fun x6 h6 => ⟨?_, lt_i fun x7 h7 => ?_⟩
  ·rw [i6]; unfold roomP maxLen; simp only [List.length_map, List.length_range, List.length_singleton]; omega
  ·rw [wi (by omega)] at h1 h3 h5 h7
   subst h1 h3 h5 h7
   rw [wi (by omega)] at h2 h4 h6
   subst h2 h4 h6
   refine ⟨_, _, _, _, rfl, i0, i1, i2, by omega, by omega, by omega, ?_⟩
   rw [i6, show (v4_1 * g4 * g4 + v4_2 * g4 + (v4_3 + 1)).toNat = (v4_1 * g4 * g4 + v4_2 * g4 + v4_3).toNat + 1 by omega, List.range_succ, List.map_append, List.map_append]
   congr 1
   simp only [List.map_cons, List.map_nil, plCv, posAt]
   rw [show (((v4_1 * g4 * g4 + v4_2 * g4 + v4_3).toNat : Nat) : Int) = v4_1 * g4 * g4 + v4_2 * g4 + v4_3 by omega, d2, d3, d4]
 ·have h := of_decide_eq_false h
  rw [wi (by omega)] at hx
  subst hx
  exact ⟨_, _, _, rfl, i0, i1, by omega, by omega, by omega, by rw [i6, show v4_3 = g4 by omega, Int.add_mul, Int.one_mul, Int.add_assoc]⟩
theorem zero_ref06_Positions_4 (g0 g1 g2 g3 g4 : Int) (v4_0 : List (List CV)) (v4_1 : Int) (v4_2 : Int) (v4_3 : Int) (nn2 nn0 : Nat) (hi : latE (⟨⟨g0, g1, g2⟩, g3, g4⟩ : Lat) = 0 ∧ (0 ≤ v4_1 ∧ v4_1 < g4 ∧ (nn0 : Int) + v4_1 = g4) ∧ (0 ≤ v4_2 ∧ v4_2 < g4 ∧ (nn2 : Int) + v4_2 = g4) ∧ 0 ≤ v4_3 ∧ v4_3 ≤ g4 ∧ (0 : Int) + v4_3 = g4 + 1 ∧ v4_0 = (((List.range (v4_1 * g4 * g4 + v4_2 * g4 + v4_3).toNat).map fun k : Nat => posAt (⟨⟨g0, g1, g2⟩, g3, g4⟩ : Lat) k).map plCv)) : False := by
 omega
set_option maxHeartbeats 8000000 in
set_option maxRecDepth 100000 in
theorem spec_ref06_Positions (g0 g1 g2 g3 g4 : Int) (hp : latE (⟨⟨g0, g1, g2⟩, g3, g4⟩ : Lat) = 0) : vc_ref06_Positions (J_ref06_Positions g0 g1 g2 g3 g4) g0 g1 g2 g3 g4 (fun r => LeD r (.t (.c (.sl 3 ((allP (⟨⟨g0, g1, g2⟩, g3, g4⟩ : Lat)).length) (plsC (allP (⟨⟨g0, g1, g2⟩, g3, g4⟩ : Lat))))))) := by
 obtain ⟨_, _, q1, q2⟩ := lat_ok hp
 simp only at q1 q2
 unfold vc_ref06_Positions
 exact ⟨g4.toNat + 1, [], 0, rfl, hp, by omega, by omega, by omega, by simp⟩
theorem all_ref06_Positions (g0 g1 g2 g3 g4 : Int) (hp : latE (⟨⟨g0, g1, g2⟩, g3, g4⟩ : Lat) = 0) : AllG (J_ref06_Positions g0 g1 g2 g3 g4) (loopsFn Tryd.prog tab S78 ann_ref06_Positions (J_ref06_Positions g0 g1 g2 g3 g4) Tryd.f25 (fun r => LeD r (.t (.c (.sl 3 ((allP (⟨⟨g0, g1, g2⟩, g3, g4⟩ : Lat)).length) (plsC (allP (⟨⟨g0, g1, g2⟩, g3, g4⟩ : Lat)))))))) := by
 rw [lp_ref06_Positions]
 refine ⟨⟨?_, ?_⟩, ⟨?_, ?_⟩, ⟨?_, ?_⟩, trivial⟩
 ·intro F s h
  obtain _ | ⟨g, F⟩ := F
  case cons => exact h.elim
  obtain ⟨w0, w1, rfl, hi⟩ := h
  exact zero_ref06_Positions_0 g0 g1 g2 g3 g4 w0 w1 hi
 ·intro n F s h
  obtain _ | ⟨g, F⟩ := F
  case cons => exact h.elim
  obtain ⟨w0, w1, rfl, hi⟩ := h
  rw [er_ref06_Positions_0]
  exact rnd_ref06_Positions_0 g0 g1 g2 g3 g4 _ _ _ hp hi
 ·intro F s h
  obtain _ | ⟨f0, F⟩ := F
  ·exact h.elim
  obtain _ | ⟨g, F⟩ := F
  case cons => exact h.elim
  obtain ⟨w0, w1, w2, rfl, hi⟩ := h
  exact zero_ref06_Positions_2 g0 g1 g2 g3 g4 w0 w1 w2 _ hi
 ·intro n F s h
  obtain _ | ⟨f0, F⟩ := F
  ·exact h.elim
  obtain _ | ⟨g, F⟩ := F
  case cons => exact h.elim
  obtain ⟨w0, w1, w2, rfl, hi⟩ := h
  rw [er_ref06_Positions_2]
  exact rnd_ref06_Positions_2 g0 g1 g2 g3 g4 _ _ _ _ _ hp hi
 ·intro F s h
  obtain _ | ⟨f0, F⟩ := F
  ·exact h.elim
  obtain _ | ⟨f1, F⟩ := F
  ·exact h.elim
  obtain _ | ⟨g, F⟩ := F
  case cons => exact h.elim
  obtain ⟨w0, w1, w2, w3, rfl, hi⟩ := h
  exact zero_ref06_Positions_4 g0 g1 g2 g3 g4 w0 w1 w2 w3 _ _ hi
 ·intro n F s h
  obtain _ | ⟨f0, F⟩ := F
  ·exact h.elim
  obtain _ | ⟨f1, F⟩ := F
  ·exact h.elim
  obtain _ | ⟨g, F⟩ := F
  case cons => exact h.elim
  obtain ⟨w0, w1, w2, w3, rfl, hi⟩ := h
  rw [er_ref06_Positions_4]
  exact rnd_ref06_Positions_4 g0 g1 g2 g3 g4 _ _ _ _ _ _ _ hp hi
def con_ref06_Positions : Con := fun args => match args with
 | [.t (.a [.v (.int .i64 g0), .v (.int .i64 g1), .v (.int .i64 g2), .v (.int .i64 g3), .v (.int .i64 g4)])] => some (.t (.c (.sl 3 ((allP (⟨⟨g0, g1, g2⟩, g3, g4⟩ : Lat)).length) (plsC (allP (⟨⟨g0, g1, g2⟩, g3, g4⟩ : Lat))))), some (latE (⟨⟨g0, g1, g2⟩, g3, g4⟩ : Lat) = 0), true)
 | _ => none
theorem ok_ref06_Positions : Ok Tryd.prog 25 con_ref06_Positions := by
 refine Ok.fnFr (ann := ann_ref06_Positions) mixed tabOK VS78 ValidIt.no rfl (fn := Tryd.f25) (by kernel_rfl) (by kernel_rfl) fit_ref06_Positions fun args r pre fresh h hp => ?_
 unfold con_ref06_Positions at h
 split at h
 ·rename_i g0 g1 g2 g3 g4
  cases h
  refine ⟨rfl, (fun i j _ hj => plain_P3 _ i j), J_ref06_Positions g0 g1 g2 g3 g4, _, LeA.refl _, Nat.le_of_ble_eq_true (by kernel_rfl), ?_, ?_⟩
  ·rw [ev_ref06_Positions]; exact spec_ref06_Positions g0 g1 g2 g3 g4 hp
  ·exact all_ref06_Positions g0 g1 g2 g3 g4 hp
 ·cases h
def S79 : Sum := addS S78 25 con_ref06_Positions
theorem VS79 : Valid Tryd.prog S79 := Valid.add VS78 ok_ref06_Positions
def vc_ref06_CopyHits (l : List FHit) (post : DV → Prop) : Prop := (roomP 56 (([] : List (List CV)).length + ((List.range l.length).map fun i => fwd ((hitsC l) i) 0 7).length)) ∧ (post (.t (.c (.sl 7 ((([] : List (List CV)) ++ ((List.range l.length).map fun i => fwd ((hitsC l) i) 0 7)).length) (genC (([] : List (List CV)) ++ ((List.range l.length).map fun i => fwd ((hitsC l) i) 0 7)))))))
def ann_ref06_CopyHits : Ann := ⟨fun _ => none, fun _ => none, fun _ => [], noIt, true, fun _ => none, fun _ => none⟩
theorem ev_ref06_CopyHits (J : Inv) (l : List FHit) (post : DV → Prop) : evFn Tryd.prog tab S79 ann_ref06_CopyHits J Tryd.f18 [.t (.c (.sl 7 l.length (hitsC l)))] post = vc_ref06_CopyHits l post := by kernel_rfl
theorem fit_ref06_CopyHits : okFn ann_ref06_CopyHits Tryd.f18 = true := by kernel_rfl
theorem lp_ref06_CopyHits (J : Inv) (post : DV → Prop) : AllG J (loopsFn Tryd.prog tab S79 ann_ref06_CopyHits J Tryd.f18 post) = (True) := by kernel_rfl
theorem spec_ref06_CopyHits (l : List FHit) (hp : (l).length ≤ 1000) : vc_ref06_CopyHits l (fun r => LeD r (.t (.c (.sl 7 l.length (hitsC l))))) := by
 unfold vc_ref06_CopyHits
 rw [hits_fwd, List.nil_append]
 refine ⟨?_, le_hits l⟩
 unfold roomP maxLen
 simp
 omega
def con_ref06_CopyHits : Con := fun args => match args with
 | [.t (.c (.sl 7 n_l c_l))] => some (.t (.c (.sl 7 ((listC n_l mkHit c_l).length) (hitsC (listC n_l mkHit c_l)))), some (numsP 7 n_l c_l ∧ ((listC n_l mkHit c_l)).length ≤ 1000), true)
 | _ => none
theorem ok_ref06_CopyHits : Ok Tryd.prog 18 con_ref06_CopyHits := by
 refine Ok.fnFr (ann := ann_ref06_CopyHits) mixed tabOK VS79 ValidIt.no rfl (fn := Tryd.f18) (by kernel_rfl) (by kernel_rfl) fit_ref06_CopyHits fun args r pre fresh h hp => ?_
 unfold con_ref06_CopyHits at h
 split at h
 ·rename_i n_l c_l
  cases h
  obtain ⟨hp0, hp⟩ := hp
  refine ⟨rfl, (fun i j _ hj => plain_FHit _ i j), fun _ _ _ => False, [.t (.c (.sl 7 ((listC n_l mkHit c_l).length) (hitsC (listC n_l mkHit c_l))))], ?_, Nat.le_of_ble_eq_true (by kernel_rfl), ?_, ?_⟩
  ·exact (LeA_cons (leT_c ((leL_FHit hp0))) LeA_nil)
  ·rw [ev_ref06_CopyHits]; exact spec_ref06_CopyHits (listC n_l mkHit c_l) hp
  ·rw [lp_ref06_CopyHits]; trivial
 ·cases h
def S80 : Sum := addS S79 18 con_ref06_CopyHits
theorem VS80 : Valid Tryd.prog S80 := Valid.add VS79 ok_ref06_CopyHits
end Go.Proofs.YtmhgjlapkhdlmaaDoor
set_option linter.unusedVariables false
set_option linter.unusedSimpArgs false
namespace Go.Proofs.YtmhgjlapkhdlmaaDoor
open Go.RowKit Ev
def vc_law06_FlashHits (l : List FHit) (g0 g1 g2 g3 g4 : Int) (a0 a1 a2 : Int) (c0 c1 c2 : Int) (k : Int) (post : DV → Prop) : Prop := (numsP 7 l.length (hitsC l)) ∧ (cond (!(decide (((listC l.length mkHit (hitsC l))).length ≤ 10))) (post (.t (.c (.v (.bool true))))) ((numsP 7 l.length (hitsC l) ∧ ((listC l.length mkHit (hitsC l))).length ≤ 1000) ∧ ((numsP 7 ((listC l.length mkHit (hitsC l)).length) (hitsC (listC l.length mkHit (hitsC l)))) ∧ ((cond ((posE (⟨a0, a1, a2⟩ : P3)) == (0 : Int)) (True) (True)) ∧ (lt ((bif ((posE (⟨a0, a1, a2⟩ : P3)) == (0 : Int)) then posE (⟨c0, c1, c2⟩ : P3) else posE (⟨a0, a1, a2⟩ : P3))) fun x1 => (cond (x1 != (0 : Int)) (cond ((delE (⟨a0, a1, a2⟩ : P3) (⟨c0, c1, c2⟩ : P3)) != x1) ((true = true) ∧ ((true = true) ∧ (True))) (cond ((delV (⟨a0, a1, a2⟩ : P3) (⟨c0, c1, c2⟩ : P3)) != (0 : Int)) ((true = true) ∧ (True)) (cond (x1 == (0 : Int)) (cond ((delE (⟨a0, a1, a2⟩ : P3) (⟨c0, c1, c2⟩ : P3)) != (0 : Int)) ((true = true) ∧ (True)) ((((⟨a0, a1, a2⟩ : P3)).bd 15000 ∧ ((⟨c0, c1, c2⟩ : P3)).bd 15000) ∧ (True))) ((false = false) ∧ (True))))) ((false = false) ∧ (cond (x1 == (0 : Int)) (cond ((delE (⟨a0, a1, a2⟩ : P3) (⟨c0, c1, c2⟩ : P3)) != (0 : Int)) ((true = true) ∧ (True)) ((((⟨a0, a1, a2⟩ : P3)).bd 15000 ∧ ((⟨c0, c1, c2⟩ : P3)).bd 15000) ∧ (True))) ((false = false) ∧ (True))))) ∧ (lt ((bif (x1 != (0 : Int)) then (bif ((delE (⟨a0, a1, a2⟩ : P3) (⟨c0, c1, c2⟩ : P3)) != x1) then true else (bif ((delV (⟨a0, a1, a2⟩ : P3) (⟨c0, c1, c2⟩ : P3)) != (0 : Int)) then true else (bif (x1 == (0 : Int)) then (bif ((delE (⟨a0, a1, a2⟩ : P3) (⟨c0, c1, c2⟩ : P3)) != (0 : Int)) then true else ((delV (⟨a0, a1, a2⟩ : P3) (⟨c0, c1, c2⟩ : P3)) != (dly (⟨a0, a1, a2⟩ : P3) (⟨c0, c1, c2⟩ : P3)))) else false))) else (bif (x1 == (0 : Int)) then (bif ((delE (⟨a0, a1, a2⟩ : P3) (⟨c0, c1, c2⟩ : P3)) != (0 : Int)) then true else ((delV (⟨a0, a1, a2⟩ : P3) (⟨c0, c1, c2⟩ : P3)) != (dly (⟨a0, a1, a2⟩ : P3) (⟨c0, c1, c2⟩ : P3)))) else false))) fun x2 => cond x2 (post (.t (.c (.v (.bool false))))) ((numsP 7 l.length (hitsC l)) ∧ ((cond ((hitsE (listC ((listC l.length mkHit (hitsC l)).length) mkHit (hitsC (listC l.length mkHit (hitsC l))))) != (hitsE (listC l.length mkHit (hitsC l)))) ((true = true) ∧ (True)) (True)) ∧ (lt ((bif ((hitsE (listC ((listC l.length mkHit (hitsC l)).length) mkHit (hitsC (listC l.length mkHit (hitsC l))))) != (hitsE (listC l.length mkHit (hitsC l)))) then true else ((hitsI (listC ((listC l.length mkHit (hitsC l)).length) mkHit (hitsC (listC l.length mkHit (hitsC l))))) != (hitsI (listC l.length mkHit (hitsC l)))))) fun x3 => cond x3 (post (.t (.c (.v (.bool false))))) (cond ((latE (⟨⟨g0, g1, g2⟩, g3, g4⟩ : Lat)) != (latE (⟨⟨g0, g1, g2⟩, g3, g4⟩ : Lat))) (post (.t (.c (.v (.bool false))))) (cond ((latE (⟨⟨g0, g1, g2⟩, g3, g4⟩ : Lat)) != (0 : Int)) ((cond ((posVE (⟨⟨g0, g1, g2⟩, g3, g4⟩ : Lat) k) == (latE (⟨⟨g0, g1, g2⟩, g3, g4⟩ : Lat))) (True) ((false = false) ∧ (True))) ∧ (lt ((bif ((posVE (⟨⟨g0, g1, g2⟩, g3, g4⟩ : Lat) k) == (latE (⟨⟨g0, g1, g2⟩, g3, g4⟩ : Lat))) then (bif (((posV (⟨⟨g0, g1, g2⟩, g3, g4⟩ : Lat) k).x) == (0 : Int)) then (bif (((posV (⟨⟨g0, g1, g2⟩, g3, g4⟩ : Lat) k).y) == (0 : Int)) then (bif (((posV (⟨⟨g0, g1, g2⟩, g3, g4⟩ : Lat) k).z) == (0 : Int)) then true else false) else false) else false) else false)) fun x4 => post (.t (.c (.v (.bool x4)))))) ((latE (⟨⟨g0, g1, g2⟩, g3, g4⟩ : Lat) = 0) ∧ (lt (IntKind.i64.wrap ((((allP (⟨⟨g0, g1, g2⟩, g3, g4⟩ : Lat)).length : Nat) : Int) - (1 : Int))) fun x5 => cond (!(inB k (0 : Int) x5)) ((cond ((posVE (⟨⟨g0, g1, g2⟩, g3, g4⟩ : Lat) k) == (6 : Int)) (True) ((false = false) ∧ (True))) ∧ (lt ((bif ((posVE (⟨⟨g0, g1, g2⟩, g3, g4⟩ : Lat) k) == (6 : Int)) then (bif (((posV (⟨⟨g0, g1, g2⟩, g3, g4⟩ : Lat) k).x) == (0 : Int)) then (bif (((posV (⟨⟨g0, g1, g2⟩, g3, g4⟩ : Lat) k).y) == (0 : Int)) then (bif (((posV (⟨⟨g0, g1, g2⟩, g3, g4⟩ : Lat) k).z) == (0 : Int)) then true else false) else false) else false) else false)) fun x6 => post (.t (.c (.v (.bool x6)))))) ((cond ((posVE (⟨⟨g0, g1, g2⟩, g3, g4⟩ : Lat) k) == (0 : Int)) ((0 ≤ k ∧ k < (((allP (⟨⟨g0, g1, g2⟩, g3, g4⟩ : Lat)).length : Nat) : Int)) ∧ (True)) ((false = false) ∧ (True))) ∧ (lt ((bif ((posVE (⟨⟨g0, g1, g2⟩, g3, g4⟩ : Lat) k) == (0 : Int)) then (bif (((posV (⟨⟨g0, g1, g2⟩, g3, g4⟩ : Lat) k).x) == ((plAt (allP (⟨⟨g0, g1, g2⟩, g3, g4⟩ : Lat)) k.toNat).x)) then (bif (((posV (⟨⟨g0, g1, g2⟩, g3, g4⟩ : Lat) k).y) == ((plAt (allP (⟨⟨g0, g1, g2⟩, g3, g4⟩ : Lat)) k.toNat).y)) then (bif (((posV (⟨⟨g0, g1, g2⟩, g3, g4⟩ : Lat) k).z) == ((plAt (allP (⟨⟨g0, g1, g2⟩, g3, g4⟩ : Lat)) k.toNat).z)) then true else false) else false) else false) else false)) fun x7 => post (.t (.c (.v (.bool x7)))))))))))))))))))
def ann_law06_FlashHits : Ann := ⟨fun r => lookA r [(24, ([[], [0], [0, 1], [0, 1, 2], [0, 1, 2], [0, 1, 2], [0, 1, 2, 5], [0, 1, 2, 4, 5, 6], [0, 1, 2, 4, 5, 6, 7], [0, 1, 2, 3, 4, 5, 6, 7, 8], [0, 1, 2, 3, 4, 5, 6, 7, 8, 9], [0, 1, 2, 3, 4, 5, 6, 7, 8, 9, 10]], [[], [], [], [], [], [], [], [], [], [], [], []]))], fun _ => none, fun _ => [], noIt, false, fun r => lookA r [(11, (3, [77])), (14, (4, [90])), (20, (4, [6])), (23, (3, [6])), (24, (3, [6]))], fun r => lookA r [(10, [13])]⟩
theorem ev_law06_FlashHits (J : Inv) (l : List FHit) (g0 g1 g2 g3 g4 : Int) (a0 a1 a2 : Int) (c0 c1 c2 : Int) (k : Int) (post : DV → Prop) : evFn Tryd.prog tab S80 ann_law06_FlashHits J Tryd.f3 [.t (.c (.sl 7 l.length (hitsC l))), .t (.a [.v (.int .i64 g0), .v (.int .i64 g1), .v (.int .i64 g2), .v (.int .i64 g3), .v (.int .i64 g4)]), .t (.a [.v (.int .i64 a0), .v (.int .i64 a1), .v (.int .i64 a2), .v (.int .i64 c0), .v (.int .i64 c1), .v (.int .i64 c2), .v (.int .i64 k)])] post = vc_law06_FlashHits l g0 g1 g2 g3 g4 a0 a1 a2 c0 c1 c2 k post := by kernel_rfl
theorem fit_law06_FlashHits : okFn ann_law06_FlashHits Tryd.f3 = true := by kernel_rfl
theorem lp_law06_FlashHits (J : Inv) (post : DV → Prop) : AllG J (loopsFn Tryd.prog tab S80 ann_law06_FlashHits J Tryd.f3 post) = (True) := by kernel_rfl
set_option maxHeartbeats 8000000 in
set_option maxRecDepth 100000 in
theorem spec_law06_FlashHits (l : List FHit) (g0 g1 g2 g3 g4 : Int) (a0 a1 a2 : Int) (c0 c1 c2 : Int) (k : Int) : vc_law06_FlashHits l g0 g1 g2 g3 g4 a0 a1 a2 c0 c1 c2 k (fun r => LeD r (.t (.c (.v (.bool true))))) := by
 unfold vc_law06_FlashHits
 rw [hits_listC]
 refine ⟨numsP_hits l, cond_i (fun h => LeD.refl _) (fun h => ?_)⟩
 have hl : l.length ≤ 10 := by simpa using h
 have bdd : delE (⟨a0, a1, a2⟩ : P3) (⟨c0, c1, c2⟩ : P3) = 0 → (⟨a0, a1, a2⟩ : P3).bd 15000 ∧ (⟨c0, c1, c2⟩ : P3).bd 15000 := fun q => by
  have q := fn2 q
  exact ⟨(posE_0.1 q.1).mono (by decide), (posE_0.1 q.2).mono (by decide)⟩
 rw [hits_listC]
 refine ⟨⟨numsP_hits l, by omega⟩, numsP_hits l, cond_i (fun _ => trivial) (fun _ => trivial), lt_i fun x1 h1 => ?_⟩
 have e1 : x1 = delE (⟨a0, a1, a2⟩ : P3) (⟨c0, c1, c2⟩ : P3) := by
  rw [← h1]
  unfold delE
  by_cases q : posE (⟨a0, a1, a2⟩ : P3) = 0
  ·by_cases q2 : posE (⟨c0, c1, c2⟩ : P3) = 0 <;> simp [firstNZ, q, q2]
  ·have : (posE (⟨a0, a1, a2⟩ : P3) == 0) = false := by simpa using q
   rw [this]
   simp [firstNZ, q]
 subst e1
 refine ⟨?_, lt_i fun x2 h2 => ?_⟩
 ·refine cond_i (fun q => cond_i (fun _ => ⟨rfl, rfl, trivial⟩) (fun _ => cond_i (fun _ => ⟨rfl, trivial⟩) (fun _ => cond_i (fun q2 => ?_) (fun _ => ⟨rfl, trivial⟩)))) (fun _ => ⟨rfl, cond_i (fun q2 => cond_i (fun _ => ⟨rfl, trivial⟩) (fun _ => ⟨bdd (by simpa using q2), trivial⟩)) (fun _ => ⟨rfl, trivial⟩)⟩)
  simp at q q2
  exact (q q2).elim
 have e2 : x2 = false := by
  rw [← h2]
  by_cases q : delE (⟨a0, a1, a2⟩ : P3) (⟨c0, c1, c2⟩ : P3) = 0
  ·have : delV (⟨a0, a1, a2⟩ : P3) (⟨c0, c1, c2⟩ : P3) = dly (⟨a0, a1, a2⟩ : P3) (⟨c0, c1, c2⟩ : P3) := if_pos q
   simp [q, this]
  ·have : delV (⟨a0, a1, a2⟩ : P3) (⟨c0, c1, c2⟩ : P3) = 0 := if_neg q
   simp [q, this]
 refine cond_i (fun e => by rw [e2] at e; cases e) (fun _ => ⟨numsP_hits l, cond_i (fun _ => ⟨rfl, trivial⟩) (fun _ => trivial), lt_i fun x3 h3 => cond_i (fun e => ?_) (fun _ => cond_i (fun e => ?_) (fun _ => cond_i (fun e => ⟨cond_i (fun _ => trivial) (fun _ => ⟨rfl, trivial⟩), lt_i fun x4 h4 => leB ?_⟩) (fun e => ⟨by simpa using e, lt_i fun x5 h5 => cond_i (fun q => ⟨cond_i (fun _ => trivial) (fun _ => ⟨rfl, trivial⟩), lt_i fun x6 h6 => leB ?_⟩) (fun q => ⟨?_, lt_i fun x7 h7 => leB ?_⟩)⟩)))⟩)
 ·rw [← h3] at e; simp at e
 ·simp at e
 ·have e : latE (⟨⟨g0, g1, g2⟩, g3, g4⟩ : Lat) ≠ 0 := by simpa using e
  have v1 : posVE (⟨⟨g0, g1, g2⟩, g3, g4⟩ : Lat) k = latE (⟨⟨g0, g1, g2⟩, g3, g4⟩ : Lat) := if_neg e
  have v2 : posV (⟨⟨g0, g1, g2⟩, g3, g4⟩ : Lat) k = ⟨0, 0, 0⟩ := if_neg (by rw [v1]; exact e)
  rw [← h4, v1, v2]; simp
 all_goals
  have e : latE (⟨⟨g0, g1, g2⟩, g3, g4⟩ : Lat) = 0 := by simpa using e
  have hz := sz_rg e
  rw [allP_len, wi (by omega)] at h5
  have h5 : x5 = (⟨⟨g0, g1, g2⟩, g3, g4⟩ : Lat).sz - 1 := by omega
  subst h5
  have v0 : posVE (⟨⟨g0, g1, g2⟩, g3, g4⟩ : Lat) k = unl (inB k 0 ((⟨⟨g0, g1, g2⟩, g3, g4⟩ : Lat).sz - 1)) 6 := if_pos e
 ·have q : inB k 0 ((⟨⟨g0, g1, g2⟩, g3, g4⟩ : Lat).sz - 1) = false := by simpa using q
  have v1 : posVE (⟨⟨g0, g1, g2⟩, g3, g4⟩ : Lat) k = 6 := by rw [v0, q]; rfl
  have v2 : posV (⟨⟨g0, g1, g2⟩, g3, g4⟩ : Lat) k = ⟨0, 0, 0⟩ := if_neg (by rw [v1]; decide)
  rw [← h6, v1, v2]; simp
 ·have q : inB k 0 ((⟨⟨g0, g1, g2⟩, g3, g4⟩ : Lat).sz - 1) = true := by simpa using q
  have q := inB_true.1 q
  exact cond_i (fun _ => ⟨by rw [allP_len]; omega, trivial⟩) (fun _ => ⟨rfl, trivial⟩)
 ·have q : inB k 0 ((⟨⟨g0, g1, g2⟩, g3, g4⟩ : Lat).sz - 1) = true := by simpa using q
  have v1 : posVE (⟨⟨g0, g1, g2⟩, g3, g4⟩ : Lat) k = 0 := by rw [v0, q]; rfl
  have v2 : posV (⟨⟨g0, g1, g2⟩, g3, g4⟩ : Lat) k = posAt (⟨⟨g0, g1, g2⟩, g3, g4⟩ : Lat) k := if_pos v1
  have q := inB_true.1 q
  have v3 : plAt (allP (⟨⟨g0, g1, g2⟩, g3, g4⟩ : Lat)) k.toNat = posAt (⟨⟨g0, g1, g2⟩, g3, g4⟩ : Lat) k := by
   have hlt : k.toNat < (⟨⟨g0, g1, g2⟩, g3, g4⟩ : Lat).sz.toNat := by omega
   simp only [plAt, allP, List.getD, List.getElem?_map, List.getElem?_range hlt, Option.map_some, Option.getD_some]
   rw [show ((k.toNat : Nat) : Int) = k by omega]
  rw [← h7, v1, v2, v3]; simp
theorem law_law06_FlashHits (l : List FHit) (g0 g1 g2 g3 g4 : Int) (a0 a1 a2 : Int) (c0 c1 c2 : Int) (k : Int) (W : World) (N : Nat → Prop) (vs : List Value) (hG : Gd W) (h : All2 (RelD (RelF W N)) [.t (.c (.sl 7 l.length (hitsC l))), .t (.a [.v (.int .i64 g0), .v (.int .i64 g1), .v (.int .i64 g2), .v (.int .i64 g3), .v (.int .i64 g4)]), .t (.a [.v (.int .i64 a0), .v (.int .i64 a1), .v (.int .i64 a2), .v (.int .i64 c0), .v (.int .i64 c1), .v (.int .i64 c2), .v (.int .i64 k)])] vs) : Calls Tryd.prog 3 vs.toArray W fun e w' => e = .returned (.bool true) ∧ Below W.heap.size W w' :=
 law_end (fn_sound mixed tabOK VS80 (ann := ann_law06_FlashHits) ValidIt.no (fn := Tryd.f3) (J := fun _ _ _ => False) (by kernel_rfl) fit_law06_FlashHits (args := [.t (.c (.sl 7 l.length (hitsC l))), .t (.a [.v (.int .i64 g0), .v (.int .i64 g1), .v (.int .i64 g2), .v (.int .i64 g3), .v (.int .i64 g4)]), .t (.a [.v (.int .i64 a0), .v (.int .i64 a1), .v (.int .i64 a2), .v (.int .i64 c0), .v (.int .i64 c1), .v (.int .i64 c2), .v (.int .i64 k)])]) (post := (fun r => LeD r (.t (.c (.v (.bool true)))))) (by rw [ev_law06_FlashHits]; exact spec_law06_FlashHits l g0 g1 g2 g3 g4 a0 a1 a2 c0 c1 c2 k) (by rw [lp_law06_FlashHits]; trivial) (Nat.le_of_ble_eq_true (by kernel_rfl)) W N vs hG h)
end Go.Proofs.YtmhgjlapkhdlmaaDoor
set_option linter.unusedVariables false
set_option linter.unusedSimpArgs false
namespace Go.Proofs.YtmhgjlapkhdlmaaDoor
open Go.RowKit
section
variable {H : Type} {enc : TypeId × Value → H} {P : Program} {w : World} {base : Nat} {spare : Nat → Bool} {held : Bool}
theorem cell_lt {w : World} {a : Addr} {v : Value} (h : w.cell? a = some v) : a.block < w.heap.size := by
 unfold World.cell? at h
 cases e : w.heap[a.block]? with
 | none => simp [e] at h
 | some o => exact (Array.getElem?_eq_some_iff.1 e).1
theorem list_of {α : Type} (d : α) : ∀ (n : Nat) {R : Nat → α → Prop}, (∀ i, i < n → ∃ x, R i x) → ∃ l : List α, l.length = n ∧ ∀ i, i < n → R i (l.getD i d) := by
 intro n
 induction n with
 | zero => intro R _; exact ⟨[], rfl, fun i hi => absurd hi (by omega)⟩
 | succ n ih =>
  intro R h
  obtain ⟨l, hl, hr⟩ := ih (fun i hi => h i (by omega))
  obtain ⟨x, hx⟩ := h n (by omega)
  refine ⟨l ++ [x], by simp [hl], fun i hi => ?_⟩
  rcases Nat.lt_or_ge i n with h1 | h1
  ·have : (l ++ [x]).getD i d = l.getD i d := by simp [List.getD, List.getElem?_append_left (show i < l.length by omega)]
   rw [this]; exact hr i h1
  ·have e : i = n := by omega
   subst e
   have : (l ++ [x]).getD i d = x := by rw [← hl]; simp [List.getD]
   rw [this]; exact hx
theorem SlAt.congr {w : World} {v : Value} {n sz : Nat} {c d : Nat → Nat → Value} (h : SlAt w v n sz c) (e : ∀ i j, i < n → j < sz → c i j = d i j) : SlAt w v n sz d := by
 obtain ⟨ao, cap, rfl, h1, h2, h3, h4⟩ := h
 refine ⟨ao, cap, rfl, h1, h2, fun h0 => ?_, h4⟩
 obtain ⟨b, off, e1, hlt, hc⟩ := h3 h0
 exact ⟨b, off, e1, hlt, fun i j hi hj => by rw [hc i j hi hj, e i j hi hj]⟩
theorem slAt_of_trod {t e : TypeId} {sz fuel : Nat} {v : Value} {x : DataW H × List MemPlace} (ht : P.underlying t = some (.slice e)) (hc : P.cellsOf e = sz) (hsz : 0 < sz)
  (h : DataW.trod enc P w base spare held fuel t [v] = some x) :
  ∃ (n : Nat) (css : Nat → List Value), SlAt w v n sz (fun i j => (css i).getD j undef) ∧ ∀ i, i < n → (css i).length = sz ∧ ∃ m y, DataW.trod enc P w base spare held m e (css i) = some y := by
 rcases DataW.trod_slice ht h with ⟨h0, _⟩ | ⟨a, len, cap, elems, rest, m, _, h0, _, hb, hl, hm, hlen, hel, _, _⟩
 ·obtain rfl : v = .slice none 0 0 := by simpa using h0
  exact ⟨0, fun _ => [], ⟨none, 0, rfl, by simp, by simp, fun h => absurd h (by omega), fun _ => rfl⟩, fun i hi => absurd hi (by omega)⟩
 ·obtain rfl : v = .slice (some a) len cap := by simpa using h0
  have each : ∀ i, i < len → ∃ cs : List Value, w.cells? base (a.add (i * sz)) sz = some cs ∧ ∃ y, DataW.trod enc P w base spare held m e cs = some y := by
   intro i hi
   have h1 := hel i hi
   rw [hc] at h1
   have h2 : elems[i]? = some elems[i] := by simp
   rw [h2, Option.bind_eq_some_iff] at h1
   obtain ⟨cs, h3, h4⟩ := h1
   exact ⟨cs, h3, _, h4⟩
  obtain ⟨css, hcl, hcs⟩ := list_of ([] : List Value) len each
  have hcell : ∀ i j, i < len → j < sz → w.cell? ((a.add (i * sz)).add j) = some ((css.getD i []).getD j undef) := by
   intro i j hi hj
   obtain ⟨_, h2, h3⟩ := World.cells?_some (hcs i hi).1
   rw [h3 j hj]
   generalize css.getD i [] = c at h2 ⊢
   rw [List.getElem?_eq_getElem (by omega)]
   simp [List.getD, List.getElem?_eq_getElem (show j < c.length by omega)]
  refine ⟨len, fun i => css.getD i [], ⟨some a, cap, rfl, hl, hm, fun hp => ?_, fun h => by cases h⟩, fun i hi => ⟨(World.cells?_some (hcs i hi).1).2.1, m, (hcs i hi).2⟩⟩
  obtain ⟨b, off, spot⟩ := a
  have hspot : spot = none := by simpa [Addr.add] using World.cell?_spot (hcell 0 0 hp hsz)
  subst hspot
  refine ⟨b, off, rfl, by simpa [Addr.add] using cell_lt (hcell 0 0 hp hsz), fun i j hi hj => ?_⟩
  have := hcell i j hi hj
  rw [add_plain', add_plain'] at this
  exact this
end
end Go.Proofs.YtmhgjlapkhdlmaaDoor
set_option linter.unusedVariables false
set_option linter.unusedSimpArgs false
namespace Go.Proofs.YtmhgjlapkhdlmaaDoor.Ev
open Go.RowKit
inductive CK where
 | int (k : IntKind)
 | bool
 | str
 | sl (e : TypeId)
def findF (P : Program) (go : TypeId → Nat → Option CK) (j : Nat) : List Field → Option CK
 | [] => none
 | f :: l => bif Nat.ble f.offset j && Nat.blt j (f.offset + P.cellsOf f.type) then go f.type (j - f.offset) else findF P go j l
def kindAt (P : Program) : Nat → TypeId → Nat → Option CK
 | 0, _, _ => none
 | k + 1, t, j => match P.underlying t with
  | some (.int ik) => bif Nat.beq j 0 then some (.int ik) else none
  | some .bool => bif Nat.beq j 0 then some .bool else none
  | some .string => bif Nat.beq j 0 then some .str else none
  | some (.slice e) => bif Nat.beq j 0 then some (.sl e) else none
  | some (.array n e) => bif Nat.blt j (n * P.cellsOf e) then kindAt P k e (j % P.cellsOf e) else none
  | some (.struct fs) => findF P (kindAt P k) j fs.toList
  | _ => none
def kindB (P : Program) : Nat → TypeId → Bool
 | 0, _ => false
 | d + 1, t => (List.range (P.cellsOf t)).all fun j => match kindAt P 20 t j with
  | some (.sl e) => Nat.blt 0 (P.cellsOf e) && kindB P d e
  | some _ => true
  | none => false
def okK (P : Program) : Nat → CK → CV → Prop
 | _, .int ik, c => ∃ n, c = .v (.int ik n) ∧ (Lit.int ik n).wf = true
 | _, .bool, c => ∃ b, c = .v (.bool b)
 | _, .str, c => ∃ s, c = .v (.string s) ∧ s.size ≤ maxLen
 | 0, .sl e, c => False
 | d + 1, .sl e, c => ∃ n cc, c = .sl (P.cellsOf e) n cc ∧ n ≤ maxLen ∧ ∀ i j, i < n → j < P.cellsOf e → ∃ κ, kindAt P 20 e j = some κ ∧ okK P d κ (cc i j)
section
variable {H : Type} {enc : TypeId × Value → H} {P : Program} {w : World} {base : Nat} {spare : Nat → Bool} {held : Bool}
def leaf (H : Type) (enc : TypeId × Value → H) (P : Program) (w : World) (base : Nat) (spare : Nat → Bool) (held : Bool) : CK → Value → Prop
 | .int ik, u => ∃ n, u = .int ik n ∧ (Lit.int ik n).wf = true
 | .bool, u => ∃ b, u = .bool b
 | .str, u => ∃ s : ByteArray, u = .string s ∧ s.size ≤ maxLen
 | .sl e, u => ∃ t m y, P.underlying t = some (.slice e) ∧ DataW.trod enc P w base spare held m t [u] = some y
theorem leaf_of : ∀ (k : Nat) (t : TypeId) (fuel : Nat) (cs : List Value) (x : DataW H × List MemPlace) (j : Nat) (κ : CK), kindAt P k t j = some κ → DataW.trod enc P w base spare held fuel t cs = some x → ∃ u, cs[j]? = some u ∧ leaf H enc P w base spare held κ u := by
 intro k
 induction k with
 | zero => intro t fuel cs x j κ h; cases h
 | succ k ih =>
  intro t fuel cs x j κ hk h
  unfold kindAt at hk
  have zero : ∀ {κ' : CK}, (bif Nat.beq j 0 then some κ' else none) = some κ → j = 0 ∧ κ' = κ := by
   intro κ' e
   cases hb : Nat.beq j 0 with
   | false => rw [hb] at e; cases e
   | true => rw [hb] at e; cases e; exact ⟨Nat.eq_of_beq_eq_true hb, rfl⟩
  split at hk
  ·rename_i ik ht
   obtain ⟨rfl, rfl⟩ := zero hk
   obtain ⟨n, rfl, _, h2⟩ := DataW.trod_int ht h
   exact ⟨_, rfl, n, rfl, h2⟩
  ·rename_i ht
   obtain ⟨rfl, rfl⟩ := zero hk
   obtain ⟨b, rfl, _⟩ := DataW.trod_bool ht h
   exact ⟨_, rfl, b, rfl⟩
  ·rename_i ht
   obtain ⟨rfl, rfl⟩ := zero hk
   obtain ⟨s, rfl, _, h2⟩ := DataW.trod_string ht h
   exact ⟨_, rfl, s, rfl, h2⟩
  ·rename_i e ht
   obtain ⟨rfl, rfl⟩ := zero hk
   rcases DataW.trod_slice ht h with ⟨rfl, _⟩ | ⟨a, len, cap, elems, rest, m, _, rfl, _⟩
   ·exact ⟨_, rfl, t, fuel, x, ht, h⟩
   ·exact ⟨_, rfl, t, fuel, x, ht, h⟩
  ·rename_i n e ht
   cases hb : Nat.blt j (n * P.cellsOf e) with
   | false => rw [hb] at hk; cases hk
   | true =>
    rw [hb] at hk
    simp only [cond_true] at hk
    have hj : j < n * P.cellsOf e := Nat.le_of_ble_eq_true hb
    have hpos : 0 < P.cellsOf e := by
     rcases Nat.eq_zero_or_pos (P.cellsOf e) with q | q
     ·rw [q, Nat.mul_zero] at hj; omega
     ·exact q
    obtain ⟨xs, m, _, _, hl, hxs, hf⟩ := DataW.trod_array ht h
    have hi : j / P.cellsOf e < n := Nat.div_lt_of_lt_mul (by rwa [Nat.mul_comm])
    have h5 := hf _ hi
    rw [show xs[j / P.cellsOf e]? = some xs[j / P.cellsOf e] from List.getElem?_eq_getElem (by omega)] at h5
    obtain ⟨u, h6, h7⟩ := ih e _ _ _ _ _ hk h5
    refine ⟨u, ?_, h7⟩
    rw [List.getElem?_take, if_pos (Nat.mod_lt _ hpos), List.getElem?_drop] at h6
    rwa [Nat.div_add_mod' j (P.cellsOf e)] at h6
  ·rename_i fs ht
   obtain ⟨xs, m, _, _, hl, hxs, hf⟩ := DataW.trod_struct ht h
   have find : ∀ l : List Field, (∀ f ∈ l, ∃ i : Nat, fs[i]? = some f) → findF P (kindAt P k) j l = some κ → ∃ (f : Field) (i : Nat), fs[i]? = some f ∧ f.offset ≤ j ∧ j < f.offset + P.cellsOf f.type ∧ kindAt P k f.type (j - f.offset) = some κ := by
    intro l
    induction l with
    | nil => intro _ h; cases h
    | cons f l ihl =>
     intro hm h
     unfold findF at h
     cases hb : (Nat.ble f.offset j && Nat.blt j (f.offset + P.cellsOf f.type)) with
     | false => rw [hb] at h; exact ihl (fun g hg => hm g (by simp [hg])) h
     | true =>
      rw [hb] at h
      simp only [Bool.and_eq_true] at hb
      obtain ⟨i, hi⟩ := hm f (by simp)
      exact ⟨f, i, hi, Nat.le_of_ble_eq_true hb.1, Nat.le_of_ble_eq_true hb.2, h⟩
   obtain ⟨f, i, hi, h1, h2, h3⟩ := find fs.toList (fun f hf => by
    obtain ⟨i, hi, e⟩ := List.getElem_of_mem hf
    exact ⟨i, by rw [← e]; simp at hi ⊢⟩) hk
   have h5 := hf i f hi
   have hlt : i < fs.size := by
    rcases Nat.lt_or_ge i fs.size with q | q
    ·exact q
    ·rw [Array.getElem?_eq_none q] at hi; cases hi
   rw [show xs[i]? = some xs[i] from List.getElem?_eq_getElem (by omega)] at h5
   obtain ⟨u, h6, h7⟩ := ih _ _ _ _ _ _ h3 h5
   refine ⟨u, ?_, h7⟩
   rw [List.getElem?_take, if_pos (by omega), List.getElem?_drop] at h6
   rwa [show f.offset + (j - f.offset) = j by omega] at h6
  ·cases hk
theorem open_cell : ∀ (d : Nat) (t : TypeId) (fuel : Nat) (cs : List Value) (x : DataW H × List MemPlace), kindB P d t = true → DataW.trod enc P w base spare held fuel t cs = some x → ∀ j, j < P.cellsOf t → ∃ κ c u, kindAt P 20 t j = some κ ∧ cs[j]? = some u ∧ RelF w (fun _ => True) c u ∧ okK P d κ c := by
 intro d
 induction d with
 | zero => intro t fuel cs x h; cases h
 | succ d ih =>
  intro t fuel cs x hB h j hj
  have hB' := hB
  unfold kindB at hB
  have h1 := List.all_eq_true.1 hB j (List.mem_range.2 hj)
  cases hk : kindAt P 20 t j with
  | none => rw [hk] at h1; cases h1
  | some κ =>
   rw [hk] at h1
   obtain ⟨u, h2, h3⟩ := leaf_of 20 t fuel cs x j κ hk h
   cases κ with
   | int ik =>
    obtain ⟨n, rfl, hw⟩ := h3
    exact ⟨_, .v (.int ik n), _, rfl, h2, ⟨rfl, rfl⟩, by simp only [okK]; exact ⟨n, rfl, hw⟩⟩
   | bool =>
    obtain ⟨b, rfl⟩ := h3
    exact ⟨_, .v (.bool b), _, rfl, h2, ⟨rfl, rfl⟩, by simp only [okK]; exact ⟨b, rfl⟩⟩
   | str =>
    obtain ⟨s, rfl, hs⟩ := h3
    exact ⟨_, .v (.string s), _, rfl, h2, ⟨rfl, rfl⟩, by simp only [okK]; exact ⟨s, rfl, hs⟩⟩
   | sl e =>
    simp only [Bool.and_eq_true] at h1
    have hpos : 0 < P.cellsOf e := Nat.le_of_ble_eq_true h1.1
    obtain ⟨t', m, y, ht, hy⟩ := h3
    obtain ⟨n, css, ⟨ao, cap, rfl, g1, g2, g3, g4⟩, hel⟩ := slAt_of_trod ht rfl hpos hy
    have each : ∀ i j, i < n → j < P.cellsOf e → ∃ c : CV, ∃ κ u, kindAt P 20 e j = some κ ∧ (css i)[j]? = some u ∧ RelF w (fun _ => True) c u ∧ okK P d κ c := by
     intro i j hi hj
     obtain ⟨_, m', y', h6⟩ := hel i hi
     obtain ⟨κ, c, u, q⟩ := ih e m' (css i) y' h1.2 h6 j hj
     exact ⟨c, κ, u, q⟩
    classical
    let cc : Nat → Nat → CV := fun i j => if h : i < n ∧ j < P.cellsOf e then Classical.choose (each i j h.1 h.2) else .v (.bool false)
    have hcc : ∀ i j, i < n → j < P.cellsOf e → ∃ κ u, kindAt P 20 e j = some κ ∧ (css i)[j]? = some u ∧ RelF w (fun _ => True) (cc i j) u ∧ okK P d κ (cc i j) := by
     intro i j hi hj
     have : cc i j = Classical.choose (each i j hi hj) := dif_pos ⟨hi, hj⟩
     rw [this]
     exact Classical.choose_spec (each i j hi hj)
    refine ⟨_, .sl (P.cellsOf e) n cc, _, rfl, h2, ⟨ao, cap, rfl, g1, g2, g4, fun h0 => ?_⟩, by
     simp only [okK]
     exact ⟨n, cc, rfl, Nat.le_trans g1 g2, fun i j hi hj => by obtain ⟨κ, u, q1, _, _, q4⟩ := hcc i j hi hj; exact ⟨κ, q1, q4⟩⟩⟩
    obtain ⟨b, off, e1, hlt, hc⟩ := g3 h0
    refine ⟨b, off, e1, hlt, trivial, fun i j hi hj => ?_⟩
    obtain ⟨κ, u, q1, q2, q3, _⟩ := hcc i j hi hj
    refine ⟨u, ?_, q3⟩
    rw [hc i j hi hj]
    simp [List.getD, q2]
theorem open_cells {d : Nat} {t : TypeId} {fuel : Nat} {cs : List Value} {x : DataW H × List MemPlace} (hB : kindB P d t = true) (hl : cs.length = P.cellsOf t) (h : DataW.trod enc P w base spare held fuel t cs = some x) :
  ∃ l : List CV, l.length = P.cellsOf t ∧ All2 (RelF w (fun _ => True)) l cs ∧ ∀ j, j < P.cellsOf t → ∃ κ, kindAt P 20 t j = some κ ∧ okK P d κ (l.getD j (.v (.bool false))) := by
 have each := open_cell d t fuel cs x hB h
 obtain ⟨l, h1, h2⟩ := list_of (CV.v (.bool false)) (P.cellsOf t) (R := fun j c => ∃ κ u, kindAt P 20 t j = some κ ∧ cs[j]? = some u ∧ RelF w (fun _ => True) c u ∧ okK P d κ c) (fun j hj => by obtain ⟨κ, c, u, q⟩ := each j hj; exact ⟨c, κ, u, q⟩)
 refine ⟨l, h1, All2.of_get (by omega) fun i a b ha hb => ?_, fun j hj => ?_⟩
 ·have hi : i < P.cellsOf t := by
   rcases Nat.lt_or_ge i l.length with q | q
   ·omega
   ·rw [List.getElem?_eq_none q] at ha; cases ha
  obtain ⟨κ, u, _, q2, q3, _⟩ := h2 i hi
  rw [hb] at q2
  cases q2
  rw [show l.getD i (.v (.bool false)) = a by simp [List.getD, ha]] at q3
  exact q3
 ·obtain ⟨κ, u, q1, _, _, q4⟩ := h2 j hj
  exact ⟨κ, q1, q4⟩
theorem open_agg {d : Nat} {t : TypeId} {cs : Array Value} {y : DataW H} {ps : List MemPlace} (hB : kindB P d t = true) (hl : cs.size = P.cellsOf t) (h : DataW.Trod enc P w base spare held t (.agg cs) y ps) :
  ∃ l : List CV, l.length = P.cellsOf t ∧ All2 (RelF w (fun _ => True)) l cs.toList ∧ ∀ j, j < P.cellsOf t → ∃ κ, kindAt P 20 t j = some κ ∧ okK P d κ (l.getD j (.v (.bool false))) := by
 obtain ⟨fuel, hf⟩ := h
 exact open_cells hB (by simpa using hl) (by simpa [Value.cells] using hf)
end
theorem open_i64 {P : Program} {d : Nat} {t : TypeId} {j : Nat} {c : CV} (hk : kindAt P 20 t j = some (.int .i64)) (h : ∃ κ, kindAt P 20 t j = some κ ∧ okK P d κ c) : ∃ n : Int, c = .v (.int .i64 n) ∧ -9223372036854775808 ≤ n ∧ n ≤ 9223372036854775807 := by
 obtain ⟨κ, h1, h2⟩ := h
 rw [hk] at h1
 cases h1
 have h3 : ∃ n, c = .v (.int .i64 n) ∧ (Lit.int .i64 n).wf = true := by cases d <;> exact h2
 obtain ⟨n, e, hw⟩ := h3
 have := bounds_i64 hw
 exact ⟨n, e, this.1, this.2⟩
theorem open_sl {P : Program} {d : Nat} {t e : TypeId} {j : Nat} {c : CV} (hk : kindAt P 20 t j = some (.sl e)) (h : ∃ κ, kindAt P 20 t j = some κ ∧ okK P (d + 1) κ c) : ∃ n cc, c = .sl (P.cellsOf e) n cc ∧ n ≤ maxLen ∧ ∀ i j, i < n → j < P.cellsOf e → ∃ κ, kindAt P 20 e j = some κ ∧ okK P d κ (cc i j) := by
 obtain ⟨κ, h1, h2⟩ := h
 rw [hk] at h1
 cases h1
 exact h2
def allI (P : Program) (e : TypeId) : Bool := (List.range (P.cellsOf e)).all fun j => match kindAt P 20 e j with
 | some (.int .i64) => true
 | _ => false
theorem nums_of {P : Program} {d : Nat} {e : TypeId} {n : Nat} {cc : Nat → Nat → CV} (hk : allI P e = true) (h : ∀ i j, i < n → j < P.cellsOf e → ∃ κ, kindAt P 20 e j = some κ ∧ okK P d κ (cc i j)) : numsP (P.cellsOf e) n cc := by
 intro i j hi hj
 have h1 := List.all_eq_true.1 hk j (List.mem_range.2 hj)
 split at h1
 ·rename_i hq
  obtain ⟨m, e1, _⟩ := open_i64 hq (h i j hi hj)
  rw [e1]; rfl
 ·cases h1
end Go.Proofs.YtmhgjlapkhdlmaaDoor.Ev