/- Texts of this claim, together. -/
import Derived.Test.YtfadkjcfjkmalaaGreatDoorLT13

set_option maxRecDepth 100000
set_option linter.unusedVariables false
set_option linter.unusedSimpArgs false
namespace Go.Proofs.YtfadkjcfjkmalaaGreatDoor
open Go.RowKit Ev
def q9B (a0 a1 a2 a3 a4 a5 b0 b1 b2 b3 b4 b5 : Int) (post : DV → Prop) : Prop := (0 ≤ (0 : Int) ∧ (0 : Int) < ((3 : Nat) : Int)) ∧ ((0 ≤ (0 : Int) ∧ (0 : Int) < ((3 : Nat) : Int)) ∧ (cond (decide (a0 < b0)) ((true = true) ∧ (post (.t (.c (.v (.bool false)))))) ((0 ≤ (0 : Int) ∧ (0 : Int) < ((3 : Nat) : Int)) ∧ ((0 ≤ (0 : Int) ∧ (0 : Int) < ((3 : Nat) : Int)) ∧ (cond (decide (a3 > b3)) (post (.t (.c (.v (.bool false))))) ((0 ≤ (1 : Int) ∧ (1 : Int) < ((3 : Nat) : Int)) ∧ ((0 ≤ (1 : Int) ∧ (1 : Int) < ((3 : Nat) : Int)) ∧ (cond (decide (a1 < b1)) ((true = true) ∧ (post (.t (.c (.v (.bool false)))))) ((0 ≤ (1 : Int) ∧ (1 : Int) < ((3 : Nat) : Int)) ∧ ((0 ≤ (1 : Int) ∧ (1 : Int) < ((3 : Nat) : Int)) ∧ (cond (decide (a4 > b4)) (post (.t (.c (.v (.bool false))))) ((0 ≤ (2 : Int) ∧ (2 : Int) < ((3 : Nat) : Int)) ∧ ((0 ≤ (2 : Int) ∧ (2 : Int) < ((3 : Nat) : Int)) ∧ (cond (decide (a2 < b2)) ((true = true) ∧ (post (.t (.c (.v (.bool false)))))) ((0 ≤ (2 : Int) ∧ (2 : Int) < ((3 : Nat) : Int)) ∧ ((0 ≤ (2 : Int) ∧ (2 : Int) < ((3 : Nat) : Int)) ∧ (cond (decide (a5 > b5)) (post (.t (.c (.v (.bool false))))) (post (.t (.c (.v (.bool true))))))))))))))))))))))
def qfL : Ann := ⟨fun r => qr r [(4, ([[], [], [0, 1], [0, 1, 2], [], [], [4, 5], [4, 5, 6], [0, 1, 2, 3, 4, 5, 6, 7], [0, 1, 2, 3, 4, 5, 6, 7, 8], [0, 1, 2, 3, 4, 5, 6, 7, 8, 9], [0, 1, 2, 3, 4, 5, 6, 7, 8, 9], [0, 1, 2, 3, 4, 5, 6, 7, 8, 9, 10, 11], [0, 1, 2, 3, 4, 5, 6, 7, 8, 9, 10, 11, 12], [0, 1, 2, 3, 4, 5, 6, 7, 8, 9], [0, 1, 2, 3, 4, 5, 6, 7, 8, 9], [0, 1, 2, 3, 4, 5, 6, 7, 8, 9, 14, 15], [0, 1, 2, 3, 4, 5, 6, 7, 8, 9, 14, 15, 16], [0, 1, 2, 3, 4, 5, 6, 7, 8, 9, 10, 11, 12, 13, 14, 15, 16, 17], [0, 1, 2, 3, 4, 5, 6, 7, 8, 9, 10, 11, 12, 13, 14, 15, 16, 17, 18]], [[], [], [], [], [], [], [], [], [], [], [], [], [], [], [], [], [], [], [], []]))], fun b => qr b [(0, (some 4, some ⟨[2, 3, 6], [2, 3], []⟩))], fun _ => [], Ikv64, false, fun _ => none, fun _ => none⟩
theorem qez (a0 a1 a2 a3 a4 a5 b0 b1 b2 b3 b4 b5 : Int) : q9B a0 a1 a2 a3 a4 a5 b0 b1 b2 b3 b4 b5 (fun r => LeD r (.t (.c (.v (.bool (decide (((TB.mk (.mk a0 a1 a2) (.mk a3 a4 a5))).sub (TB.mk (.mk b0 b1 b2) (.mk b3 b4 b5))))))))) := by
 unfold q9B
 (repeat' first | (refine And.intro (by decide) ?_) | (refine And.intro rfl ?_) | (refine qg ?_ ?_ <;> intro _) | (refine leBt ?_) | (refine leBf ?_))
 all_goals ((try simp only [decide_eq_true_eq, decide_eq_false_iff_not, q0Q, inB_no, Classical.not_not] at *); (try simp only [TB.sub, TB.rx, TB.ry, TB.rz, Rg.sub, Rg.has] at *); omega)
def q5m : Con := fun args => match args with
 | [.t (.a [.v (.int .i64 a0), .v (.int .i64 a1), .v (.int .i64 a2), .v (.int .i64 a3), .v (.int .i64 a4), .v (.int .i64 a5)]), .t (.a [.v (.int .i64 b0), .v (.int .i64 b1), .v (.int .i64 b2), .v (.int .i64 b3), .v (.int .i64 b4), .v (.int .i64 b5)])] => some (.t (.c (.v (.bool (decide (((TB.mk (.mk a0 a1 a2) (.mk a3 a4 a5))).sub (TB.mk (.mk b0 b1 b2) (.mk b3 b4 b5))))))), none, false)
 | _ => none
theorem qgY : Ok Tryz.prog 69 q5m := by
 refine Ok.fn (ann := qfL) mixed qo VSlg90 VIkv64 (fn := Tryz.f69) (by kernel_rfl) (by kernel_rfl) (by kernel_rfl) fun args r pre fresh h hp => ?_
 unfold q5m at h
 split at h
 ·rename_i a0 a1 a2 a3 a4 a5 b0 b1 b2 b3 b4 b5
  cases h
  refine ⟨rfl, fun _ _ _ => False, _, LeA.refl _, Nat.le_of_ble_eq_true (by kernel_rfl), ?_, ?_⟩
  ·exact cast (by kernel_rfl) (qez a0 a1 a2 a3 a4 a5 b0 b1 b2 b3 b4 b5)
  ·exact cast (by kernel_rfl) trivial
 ·cases h
def Sli91 : Sum := addS Slg90 69 q5m
theorem VSli91 : Valid Tryz.prog Sli91 := Valid.add VSlg90 qgY
def qaS (a0 a1 a2 a3 a4 a5 b0 b1 b2 b3 b4 b5 : Int) (post : DV → Prop) : Prop := (0 ≤ (0 : Int) ∧ (0 : Int) < ((3 : Nat) : Int)) ∧ ((0 ≤ (0 : Int) ∧ (0 : Int) < ((3 : Nat) : Int)) ∧ (cond (decide (a3 < b0)) ((true = true) ∧ (post (.t (.c (.v (.bool true)))))) ((0 ≤ (0 : Int) ∧ (0 : Int) < ((3 : Nat) : Int)) ∧ ((0 ≤ (0 : Int) ∧ (0 : Int) < ((3 : Nat) : Int)) ∧ (cond (decide (b3 < a0)) (post (.t (.c (.v (.bool true))))) ((0 ≤ (1 : Int) ∧ (1 : Int) < ((3 : Nat) : Int)) ∧ ((0 ≤ (1 : Int) ∧ (1 : Int) < ((3 : Nat) : Int)) ∧ (cond (decide (a4 < b1)) ((true = true) ∧ (post (.t (.c (.v (.bool true)))))) ((0 ≤ (1 : Int) ∧ (1 : Int) < ((3 : Nat) : Int)) ∧ ((0 ≤ (1 : Int) ∧ (1 : Int) < ((3 : Nat) : Int)) ∧ (cond (decide (b4 < a1)) (post (.t (.c (.v (.bool true))))) ((0 ≤ (2 : Int) ∧ (2 : Int) < ((3 : Nat) : Int)) ∧ ((0 ≤ (2 : Int) ∧ (2 : Int) < ((3 : Nat) : Int)) ∧ (cond (decide (a5 < b2)) ((true = true) ∧ (post (.t (.c (.v (.bool true)))))) ((0 ≤ (2 : Int) ∧ (2 : Int) < ((3 : Nat) : Int)) ∧ ((0 ≤ (2 : Int) ∧ (2 : Int) < ((3 : Nat) : Int)) ∧ (cond (decide (b5 < a2)) (post (.t (.c (.v (.bool true))))) (post (.t (.c (.v (.bool false))))))))))))))))))))))
def qgZ : Ann := ⟨fun r => qr r [(4, ([[], [], [0, 1], [0, 1, 2], [], [], [4, 5], [4, 5, 6], [0, 1, 2, 3, 4, 5, 6, 7], [0, 1, 2, 3, 4, 5, 6, 7, 8], [0, 1, 2, 3, 4, 5, 6, 7, 8, 9], [0, 1, 2, 3, 4, 5, 6, 7, 8, 9], [0, 1, 2, 3, 4, 5, 6, 7, 8, 9, 10, 11], [0, 1, 2, 3, 4, 5, 6, 7, 8, 9, 10, 11, 12], [0, 1, 2, 3, 4, 5, 6, 7, 8, 9], [0, 1, 2, 3, 4, 5, 6, 7, 8, 9], [0, 1, 2, 3, 4, 5, 6, 7, 8, 9, 14, 15], [0, 1, 2, 3, 4, 5, 6, 7, 8, 9, 14, 15, 16], [0, 1, 2, 3, 4, 5, 6, 7, 8, 9, 10, 11, 12, 13, 14, 15, 16, 17], [0, 1, 2, 3, 4, 5, 6, 7, 8, 9, 10, 11, 12, 13, 14, 15, 16, 17, 18]], [[], [], [], [], [], [], [], [], [], [], [], [], [], [], [], [], [], [], [], []]))], fun b => qr b [(0, (some 4, some ⟨[2, 3, 6], [2, 3], []⟩))], fun _ => [], Ikv64, false, fun _ => none, fun _ => none⟩
theorem qfM (a0 a1 a2 a3 a4 a5 b0 b1 b2 b3 b4 b5 : Int) : qaS a0 a1 a2 a3 a4 a5 b0 b1 b2 b3 b4 b5 (fun r => LeD r (.t (.c (.v (.bool (decide (((TB.mk (.mk a0 a1 a2) (.mk a3 a4 a5))).apart (TB.mk (.mk b0 b1 b2) (.mk b3 b4 b5))))))))) := by
 unfold qaS
 (repeat' first | (refine And.intro (by decide) ?_) | (refine And.intro rfl ?_) | (refine qg ?_ ?_ <;> intro _) | (refine leBt ?_) | (refine leBf ?_))
 all_goals ((try simp only [decide_eq_true_eq, decide_eq_false_iff_not, q0Q, inB_no, Classical.not_not] at *); (try simp only [TB.apart, TB.rx, TB.ry, TB.rz, Rg.sub, Rg.has] at *); omega)
def q6h : Con := fun args => match args with
 | [.t (.a [.v (.int .i64 a0), .v (.int .i64 a1), .v (.int .i64 a2), .v (.int .i64 a3), .v (.int .i64 a4), .v (.int .i64 a5)]), .t (.a [.v (.int .i64 b0), .v (.int .i64 b1), .v (.int .i64 b2), .v (.int .i64 b3), .v (.int .i64 b4), .v (.int .i64 b5)])] => some (.t (.c (.v (.bool (decide (((TB.mk (.mk a0 a1 a2) (.mk a3 a4 a5))).apart (TB.mk (.mk b0 b1 b2) (.mk b3 b4 b5))))))), none, false)
 | _ => none
theorem qhS : Ok Tryz.prog 68 q6h := by
 refine Ok.fn (ann := qgZ) mixed qo VSli91 VIkv64 (fn := Tryz.f68) (by kernel_rfl) (by kernel_rfl) (by kernel_rfl) fun args r pre fresh h hp => ?_
 unfold q6h at h
 split at h
 ·rename_i a0 a1 a2 a3 a4 a5 b0 b1 b2 b3 b4 b5
  cases h
  refine ⟨rfl, fun _ _ _ => False, _, LeA.refl _, Nat.le_of_ble_eq_true (by kernel_rfl), ?_, ?_⟩
  ·exact cast (by kernel_rfl) (qfM a0 a1 a2 a3 a4 a5 b0 b1 b2 b3 b4 b5)
  ·exact cast (by kernel_rfl) trivial
 ·cases h
def Sli92 : Sum := addS Sli91 68 q6h
theorem VSli92 : Valid Tryz.prog Sli92 := Valid.add VSli91 qhS
def q5z (a0 a1 a2 a3 a4 a5 b0 b1 b2 b3 b4 b5 : Int) (post : DV → Prop) : Prop := post (.t (.c (.v (.bool (!(decide (((TB.mk (.mk a0 a1 a2) (.mk a3 a4 a5))).apart (TB.mk (.mk b0 b1 b2) (.mk b3 b4 b5)))))))))
def qa4 : Ann := ⟨fun _ => none, fun _ => none, fun _ => [], Ikv64, false, fun _ => none, fun _ => none⟩
theorem q9g (a0 a1 a2 a3 a4 a5 b0 b1 b2 b3 b4 b5 : Int) : q5z a0 a1 a2 a3 a4 a5 b0 b1 b2 b3 b4 b5 (fun r => LeD r (.t (.c (.v (.bool (decide (¬ ((TB.mk (.mk a0 a1 a2) (.mk a3 a4 a5))).apart (TB.mk (.mk b0 b1 b2) (.mk b3 b4 b5))))))))) := by
 unfold q5z
 exact leB (by simp)
def q2p : Con := fun args => match args with
 | [.t (.a [.v (.int .i64 a0), .v (.int .i64 a1), .v (.int .i64 a2), .v (.int .i64 a3), .v (.int .i64 a4), .v (.int .i64 a5)]), .t (.c (.px 6 0 c_pb))] => some (.t (.c (.v (.bool (decide (¬ ((TB.mk (.mk a0 a1 a2) (.mk a3 a4 a5))).apart (⟨⟨(qb (c_pb 0)), (qb (c_pb 1)), (qb (c_pb 2))⟩, ⟨(qb (c_pb 3)), (qb (c_pb 4)), (qb (c_pb 5))⟩⟩ : TB)))))), some (qQ [0, 1, 2, 3, 4, 5] c_pb = true), false)
 | _ => none
theorem qaT : Ok Tryz.prog 67 q2p := by
 refine Ok.fn (ann := qa4) mixed qo VSli92 VIkv64 (fn := Tryz.f67) (by kernel_rfl) (by kernel_rfl) (by kernel_rfl) fun args r pre fresh h hp => ?_
 unfold q2p at h
 split at h
 ·rename_i a0 a1 a2 a3 a4 a5 c_pb
  cases h
  have hp0 := hp
  refine ⟨rfl, fun _ _ _ => False, _, (qk (LeD.refl _) (qk (leT_c (leC_p (LeCs.cons (leC_i (qh hp0 0 (by decide))) (LeCs.cons (leC_i (qh hp0 1 (by decide))) (LeCs.cons (leC_i (qh hp0 2 (by decide))) (LeCs.cons (leC_i (qh hp0 3 (by decide))) (LeCs.cons (leC_i (qh hp0 4 (by decide))) (LeCs.cons (leC_i (qh hp0 5 (by decide))) LeCs.nil)))))))) qM)), Nat.le_of_ble_eq_true (by kernel_rfl), ?_, ?_⟩
  ·exact cast (by kernel_rfl) (q9g a0 a1 a2 a3 a4 a5 (qb (c_pb 0)) (qb (c_pb 1)) (qb (c_pb 2)) (qb (c_pb 3)) (qb (c_pb 4)) (qb (c_pb 5)))
  ·exact cast (by kernel_rfl) trivial
 ·cases h
def Sli93 : Sum := addS Sli92 67 q2p
theorem VSli93 : Valid Tryz.prog Sli93 := Valid.add VSli92 qaT
def qG (c : List TB) (b0 b1 b2 b3 b4 b5 v0_0 : Int) : DS := ⟨[some (.t (.c (.sl 6 c.length (bxsC c)))), some (.t (.fn 67 [.px 6 0 (boxC [.v (.int .i64 b0), .v (.int .i64 b1), .v (.int .i64 b2), .v (.int .i64 b3), .v (.int .i64 b4), .v (.int .i64 b5)])])), none, none, none, none, none, some (.t (.c (.v (.int .i64 ((c.length : Nat) : Int))))), some (.t (.c (.v (.int .i64 v0_0)))), none, none, none, none, none, none, none, none, none, none], [none, none, none, none, none, none, none, none, none, none, none, none, none, none, none, none, none, none, none]⟩
def qW (J : Inv) (c : List TB) (b0 b1 b2 b3 b4 b5 : Int) (post : DV → Prop) : Prop := ∃ n, J 0 (n :: []) (qG c b0 b1 b2 b3 b4 b5 0)
def qx : Ann := ⟨fun _ => none, fun b => qr b [(0, (none, some ⟨[0, 1, 7, 8], [], []⟩))], fun _ => [], Ikv64, false, fun _ => none, fun _ => none⟩
def qT (J : Inv) (c : List TB) (b0 b1 b2 b3 b4 b5 v0_0 : Int) (nn0 : Nat) (post : DV → Prop) : Prop := cond (decide (v0_0 < ((c.length : Nat) : Int))) ((0 ≤ v0_0 ∧ v0_0 < ((c.length : Nat) : Int)) ∧ ((qQ [0, 1, 2, 3, 4, 5] (boxC [.v (.int .i64 b0), .v (.int .i64 b1), .v (.int .i64 b2), .v (.int .i64 b3), .v (.int .i64 b4), .v (.int .i64 b5)]) = true) ∧ (cond (decide (¬ ((⟨⟨((bxAt c v0_0.toNat).lo.x), ((bxAt c v0_0.toNat).lo.y), ((bxAt c v0_0.toNat).lo.z)⟩, ⟨((bxAt c v0_0.toNat).hi.x), ((bxAt c v0_0.toNat).hi.y), ((bxAt c v0_0.toNat).hi.z)⟩⟩ : TB)).apart (TB.mk (.mk b0 b1 b2) (.mk b3 b4 b5)))) (post (.t (.c (.v (.int .i64 v0_0))))) (lt (IntKind.i64.wrap (v0_0 + (1 : Int))) fun x1 => J 0 (nn0 :: []) (qG c b0 b1 b2 b3 b4 b5 x1))))) (post (.t (.c (.v (.int .i64 (-1))))))
theorem q0C (J : Inv) (post : DV → Prop) : AllG J (qz Tryz.prog tab Sli93 qx J Tryz.f72 post) = (((∀ F s, ¬ J 0 (0 :: F) s) ∧ ∀ n F s, J 0 ((n + 1) :: F) s → round Tryz.prog tab Sli93 qx J Tryz.f72 post 0 (n :: F) s) ∧ True) := by kernel_rfl
def qt (c : List TB) (b0 b1 b2 b3 b4 b5 : Int) : Inv := fun b F s => match b, F with
 | 0, [nn0] => ∃ (v0_0 : Int), s = qG c b0 b1 b2 b3 b4 b5 v0_0 ∧ (c.length ≤ 1000000 ∧ 0 ≤ v0_0 ∧ v0_0 ≤ c.length ∧ (nn0 : Int) + v0_0 = c.length + 1 ∧ ∀ j : Nat, (j : Int) < v0_0 → (fun a : TB => decide (¬ a.apart (TB.mk (.mk b0 b1 b2) (.mk b3 b4 b5)))) (bxAt c j) = false)
 | _, _ => False
theorem q0p (c : List TB) (b0 b1 b2 b3 b4 b5 v0_0 : Int) (nn0 : Nat) (hp : (c).length ≤ 1000000) (hi : c.length ≤ 1000000 ∧ 0 ≤ v0_0 ∧ v0_0 ≤ c.length ∧ ((nn0 + 1) : Int) + v0_0 = c.length + 1 ∧ ∀ j : Nat, (j : Int) < v0_0 → (fun a : TB => decide (¬ a.apart (TB.mk (.mk b0 b1 b2) (.mk b3 b4 b5)))) (bxAt c j) = false) : qT (qt c b0 b1 b2 b3 b4 b5) c b0 b1 b2 b3 b4 b5 v0_0 nn0 (fun r => LeD r (.t (.c (.v (.int .i64 (idxP (fun a => decide (¬ a.apart (TB.mk (.mk b0 b1 b2) (.mk b3 b4 b5)))) c)))))) := by
 obtain ⟨i0, i1, i2, i3, i4⟩ := hi
 obtain ⟨k, rfl⟩ : ∃ k : Nat, v0_0 = k := ⟨v0_0.toNat, by omega⟩
 have hk : (k : Int).toNat = k := rfl
 unfold qT
 rw [hk]
 refine qg (fun h => ?_) (fun h => leI ?_)
 ·have hlt : k < c.length := by have := of_decide_eq_true h; omega
  refine ⟨by omega, rfl, qg (fun e => leI ?_) (fun e => lt_i fun x hx => ?_)⟩
  ·exact (qhv (d := (TB.mk (.mk 0 0 0) (.mk 0 0 0))) hlt (fun j hj => i4 j (by omega)) e).symm
  ·rw [IntWalk.i64_in _ (by omega)] at hx
   subst hx
   exact ⟨_, rfl, i0, by omega, by omega, by omega, fun j hj => by
    by_cases q : j = k
    ·rw [q]; exact e
    ·exact i4 j (by omega)⟩
 ·have hge : k = c.length := by have := of_decide_eq_false h; omega
  exact (q9n (d := (TB.mk (.mk 0 0 0) (.mk 0 0 0))) fun j hj => i4 j (by omega)).symm
theorem q0t (c : List TB) (b0 b1 b2 b3 b4 b5 : Int) (hp : (c).length ≤ 1000000) : qW (qt c b0 b1 b2 b3 b4 b5) c b0 b1 b2 b3 b4 b5 (fun r => LeD r (.t (.c (.v (.int .i64 (idxP (fun a => decide (¬ a.apart (TB.mk (.mk b0 b1 b2) (.mk b3 b4 b5)))) c)))))) := by
 unfold qW
 exact ⟨c.length + 1, 0, rfl, hp, by omega, by omega, by omega, fun j hj => by omega⟩
theorem q0y (c : List TB) (b0 b1 b2 b3 b4 b5 : Int) (hp : (c).length ≤ 1000000) : AllG (qt c b0 b1 b2 b3 b4 b5) (qz Tryz.prog tab Sli93 qx (qt c b0 b1 b2 b3 b4 b5) Tryz.f72 (fun r => LeD r (.t (.c (.v (.int .i64 (idxP (fun a => decide (¬ a.apart (TB.mk (.mk b0 b1 b2) (.mk b3 b4 b5)))) c))))))) := by
 rw [q0C]
 refine ⟨⟨?_, ?_⟩, trivial⟩
 ·intro F s h
  obtain _ | ⟨g, F⟩ := F
  case cons => exact h.elim
  obtain ⟨w0, rfl, hi⟩ := h
  omega
 ·intro n F s h
  obtain _ | ⟨g, F⟩ := F
  case cons => exact h.elim
  obtain ⟨w0, rfl, hi⟩ := h
  exact cast (by kernel_rfl) (q0p c b0 b1 b2 b3 b4 b5 _ _ hp hi)
def qJ : Con := fun args => match args with
 | [.t (.c (.sl 6 n_c c_c)), .t (.fn 67 [.px 6 0 c_pb])] => some (.t (.c (.v (.int .i64 (idxP (fun a => decide (¬ a.apart (⟨⟨(qb (c_pb 0)), (qb (c_pb 1)), (qb (c_pb 2))⟩, ⟨(qb (c_pb 3)), (qb (c_pb 4)), (qb (c_pb 5))⟩⟩ : TB))) (qa n_c mkBx c_c))))), some (qj 6 n_c c_c ∧ qQ [0, 1, 2, 3, 4, 5] c_pb = true ∧ ((qa n_c mkBx c_c)).length ≤ 1000000), false)
 | _ => none
theorem q0D : Ok Tryz.prog 72 qJ := by
 refine Ok.fn (ann := qx) mixed qo VSli93 VIkv64 (fn := Tryz.f72) (by kernel_rfl) (by kernel_rfl) (by kernel_rfl) fun args r pre fresh h hp => ?_
 unfold qJ at h
 split at h
 ·rename_i n_c c_c c_pb
  cases h
  obtain ⟨hp0, hp1, hp⟩ := hp
  refine ⟨rfl, qt (qa n_c mkBx c_c) (qb (c_pb 0)) (qb (c_pb 1)) (qb (c_pb 2)) (qb (c_pb 3)) (qb (c_pb 4)) (qb (c_pb 5)), _, (qk (leT_c ((q6S hp0))) (qk (leT_f (LeCs.cons (leC_p (LeCs.cons (leC_i (qh hp1 0 (by decide))) (LeCs.cons (leC_i (qh hp1 1 (by decide))) (LeCs.cons (leC_i (qh hp1 2 (by decide))) (LeCs.cons (leC_i (qh hp1 3 (by decide))) (LeCs.cons (leC_i (qh hp1 4 (by decide))) (LeCs.cons (leC_i (qh hp1 5 (by decide))) LeCs.nil))))))) LeCs.nil)) qM)), Nat.le_of_ble_eq_true (by kernel_rfl), ?_, ?_⟩
  ·exact cast (by kernel_rfl) (q0t (qa n_c mkBx c_c) (qb (c_pb 0)) (qb (c_pb 1)) (qb (c_pb 2)) (qb (c_pb 3)) (qb (c_pb 4)) (qb (c_pb 5)) hp)
  ·exact q0y (qa n_c mkBx c_c) (qb (c_pb 0)) (qb (c_pb 1)) (qb (c_pb 2)) (qb (c_pb 3)) (qb (c_pb 4)) (qb (c_pb 5)) hp
 ·cases h
def Sli94 : Sum := addF Sli93 72 qJ
theorem VSli94 : Valid Tryz.prog Sli94 := Valid.addF VSli93 q0D
def qV (c : List TB) (b0 b1 b2 b3 b4 b5 : Int) (post : DV → Prop) : Prop := (qj 6 c.length (bxsC c) ∧ qQ [0, 1, 2, 3, 4, 5] (boxC [.v (.int .i64 b0), .v (.int .i64 b1), .v (.int .i64 b2), .v (.int .i64 b3), .v (.int .i64 b4), .v (.int .i64 b5)]) = true ∧ ((qa c.length mkBx (bxsC c))).length ≤ 1000000) ∧ (post (.t (.c (.v (.bool (decide ((idxP (fun a => decide (¬ a.apart (TB.mk (.mk b0 b1 b2) (.mk b3 b4 b5)))) (qa c.length mkBx (bxsC c))) ≥ (0 : Int))))))))
def q0u : Ann := ⟨fun _ => none, fun _ => none, fun _ => [], Ikv64, false, fun _ => none, fun _ => none⟩
theorem q0q (c : List TB) (b0 b1 b2 b3 b4 b5 : Int) (hp : (c).length ≤ 1000000) : qV c b0 b1 b2 b3 b4 b5 (fun r => LeD r (.t (.c (.v (.bool ((c).any (fun a => decide (¬ a.apart (TB.mk (.mk b0 b1 b2) (.mk b3 b4 b5)))))))))) := by
 unfold qV
 rw [qiP]
 refine ⟨⟨q5y c, rfl, hp⟩, leB ?_⟩
 rw [qfd]
def qH : Con := fun args => match args with
 | [.t (.c (.sl 6 n_c c_c)), .t (.fn 67 [.px 6 0 c_pb])] => some (.t (.c (.v (.bool (((qa n_c mkBx c_c)).any (fun a => decide (¬ a.apart (⟨⟨(qb (c_pb 0)), (qb (c_pb 1)), (qb (c_pb 2))⟩, ⟨(qb (c_pb 3)), (qb (c_pb 4)), (qb (c_pb 5))⟩⟩ : TB))))))), some (qj 6 n_c c_c ∧ qQ [0, 1, 2, 3, 4, 5] c_pb = true ∧ ((qa n_c mkBx c_c)).length ≤ 1000000), false)
 | _ => none
theorem q0z : Ok Tryz.prog 70 qH := by
 refine Ok.fn (ann := q0u) mixed qo VSli94 VIkv64 (fn := Tryz.f70) (by kernel_rfl) (by kernel_rfl) (by kernel_rfl) fun args r pre fresh h hp => ?_
 unfold qH at h
 split at h
 ·rename_i n_c c_c c_pb
  cases h
  obtain ⟨hp0, hp1, hp⟩ := hp
  refine ⟨rfl, fun _ _ _ => False, _, (qk (leT_c ((q6S hp0))) (qk (leT_f (LeCs.cons (leC_p (LeCs.cons (leC_i (qh hp1 0 (by decide))) (LeCs.cons (leC_i (qh hp1 1 (by decide))) (LeCs.cons (leC_i (qh hp1 2 (by decide))) (LeCs.cons (leC_i (qh hp1 3 (by decide))) (LeCs.cons (leC_i (qh hp1 4 (by decide))) (LeCs.cons (leC_i (qh hp1 5 (by decide))) LeCs.nil))))))) LeCs.nil)) qM)), Nat.le_of_ble_eq_true (by kernel_rfl), ?_, ?_⟩
  ·exact cast (by kernel_rfl) (q0q (qa n_c mkBx c_c) (qb (c_pb 0)) (qb (c_pb 1)) (qb (c_pb 2)) (qb (c_pb 3)) (qb (c_pb 4)) (qb (c_pb 5)) hp)
  ·exact cast (by kernel_rfl) trivial
 ·cases h
def Sli95 : Sum := addS Sli94 70 qH
theorem VSli95 : Valid Tryz.prog Sli95 := Valid.add VSli94 q0z
def q5A (m0 m1 m2 m3 m4 m5 m6 m7 m8 m9 mA mB b0 b1 b2 b3 b4 b5 : Int) (l : List TH) (K : Int) (post : DV → Prop) : Prop := (fun (Z1 : TM) (Z2 : TB) (Z3 : List TH) => lt ((sqsW Z2).lo) fun x1 => lt ((sqsW Z2).hi) fun x2 => lt (canW Z1 Z2) fun x3 => cond (!x3) ((true = true) ∧ (post (.t (.c (.v (.bool true)))))) ((qj 5 l.length (qi l) ∧ (Z1).Ok ∧ (Z2).lo.inS 20 = true ∧ (Z2).hi.inS 20 = true ∧ (Z1).canBe Z2 ∧ (Z3).length ≤ 12 ∧ ∀ i, i < (Z3).length → (qe Z3 i).Ok) ∧ (post (.t (.c (.v (.bool (decide ((((Z1).scores Z2 Z3).lo) ≥ K))))))))) (TM.mk m0 m1 m2 m3 m4 m5 m6 m7 m8 m9 mA mB) (TB.mk (.mk b0 b1 b2) (.mk b3 b4 b5)) (qa l.length qc (qi l))
def qa5 : Ann := ⟨fun _ => none, fun _ => none, fun _ => [], Ikv64, false, fun _ => none, fun _ => none⟩
theorem q9h (m0 m1 m2 m3 m4 m5 m6 m7 m8 m9 mA mB b0 b1 b2 b3 b4 b5 : Int) (l : List TH) (K : Int) (hp : ((TM.mk m0 m1 m2 m3 m4 m5 m6 m7 m8 m9 mA mB)).err = 0 ∧ ((TB.mk (.mk b0 b1 b2) (.mk b3 b4 b5))).err = 0 ∧ ql l = 0) : q5A m0 m1 m2 m3 m4 m5 m6 m7 m8 m9 mA mB b0 b1 b2 b3 b4 b5 l K (fun r => LeD r (.t (.c (.v (.bool (q0i (TM.mk m0 m1 m2 m3 m4 m5 m6 m7 m8 m9 mA mB) l K (TB.mk (.mk b0 b1 b2) (.mk b3 b4 b5)))))))) := by
 obtain ⟨p1, p2, p3⟩ := hp
 have hb := q0Z p2
 obtain ⟨q6, q7⟩ := q1N p3
 have hc := q6J (m := (TM.mk m0 m1 m2 m3 m4 m5 m6 m7 m8 m9 mA mB)) hb.1 hb.2
 unfold q5A
 rw [qP]
 refine lt_i fun _ _ => lt_i fun _ _ => lt_i fun x h => qg (fun e => ⟨rfl, leB ?_⟩) (fun e => ?_)
 ·have e : x = false := by simpa using e
  unfold q0i
  rw [h, e]; rfl
 ·have e : x = true := by simpa using e
  refine ⟨⟨qA l, q1g p1, hb.1, hb.2, q3U.1 (by rw [← hc, h]; exact e), q6, q7⟩, leB ?_⟩
  unfold q0i
  rw [h, e]; rfl
def q2q : Con := fun args => match args with
 | [.t (.a [.v (.int .i64 m0), .v (.int .i64 m1), .v (.int .i64 m2), .v (.int .i64 m3), .v (.int .i64 m4), .v (.int .i64 m5), .v (.int .i64 m6), .v (.int .i64 m7), .v (.int .i64 m8), .v (.int .i64 m9), .v (.int .i64 mA), .v (.int .i64 mB)]), .t (.a [.v (.int .i64 b0), .v (.int .i64 b1), .v (.int .i64 b2), .v (.int .i64 b3), .v (.int .i64 b4), .v (.int .i64 b5)]), .t (.c (.sl 5 n_l c_l)), .t (.c (.v (.int .i64 K)))] => some (.t (.c (.v (.bool (q0i (TM.mk m0 m1 m2 m3 m4 m5 m6 m7 m8 m9 mA mB) (qa n_l qc c_l) K (TB.mk (.mk b0 b1 b2) (.mk b3 b4 b5)))))), some (qj 5 n_l c_l ∧ ((TM.mk m0 m1 m2 m3 m4 m5 m6 m7 m8 m9 mA mB)).err = 0 ∧ ((TB.mk (.mk b0 b1 b2) (.mk b3 b4 b5))).err = 0 ∧ ql (qa n_l qc c_l) = 0), false)
 | _ => none
theorem qaU : Ok Tryz.prog 74 q2q := by
 refine Ok.fn (ann := qa5) mixed qo VSli95 VIkv64 (fn := Tryz.f74) (by kernel_rfl) (by kernel_rfl) (by kernel_rfl) fun args r pre fresh h hp => ?_
 unfold q2q at h
 split at h
 ·rename_i m0 m1 m2 m3 m4 m5 m6 m7 m8 m9 mA mB b0 b1 b2 b3 b4 b5 n_l c_l K
  cases h
  obtain ⟨hp0, hp⟩ := hp
  refine ⟨rfl, fun _ _ _ => False, _, (qk (LeD.refl _) (qk (LeD.refl _) (qk (leT_c ((qY hp0))) (qk (LeD.refl _) qM)))), Nat.le_of_ble_eq_true (by kernel_rfl), ?_, ?_⟩
  ·exact cast (by kernel_rfl) (q9h m0 m1 m2 m3 m4 m5 m6 m7 m8 m9 mA mB b0 b1 b2 b3 b4 b5 (qa n_l qc c_l) K hp)
  ·exact cast (by kernel_rfl) trivial
 ·cases h
def Sli96 : Sum := addS Sli95 74 q2q
theorem VSli96 : Valid Tryz.prog Sli96 := Valid.add VSli95 qaU
def q2r (kk : Nat) : Con := fun args => match args with
 | [.t (.a [.v (.int .i64 m0), .v (.int .i64 m1), .v (.int .i64 m2), .v (.int .i64 m3), .v (.int .i64 m4), .v (.int .i64 m5), .v (.int .i64 m6), .v (.int .i64 m7), .v (.int .i64 m8), .v (.int .i64 m9), .v (.int .i64 mA), .v (.int .i64 mB)]), .t (.a [.v (.int .i64 b0), .v (.int .i64 b1), .v (.int .i64 b2), .v (.int .i64 b3), .v (.int .i64 b4), .v (.int .i64 b5)]), .t (.c (.sl 5 n_l c_l)), .t (.c (.v (.int .i64 K)))] => some (.tu [.c (.sl 6 (((covR (TM.mk m0 m1 m2 m3 m4 m5 m6 m7 m8 m9 mA mB) (qa n_l qc c_l) K (TB.mk (.mk b0 b1 b2) (.mk b3 b4 b5))).1).length) (bxsC ((covR (TM.mk m0 m1 m2 m3 m4 m5 m6 m7 m8 m9 mA mB) (qa n_l qc c_l) K (TB.mk (.mk b0 b1 b2) (.mk b3 b4 b5))).1))), .c (.v (.bool ((covR (TM.mk m0 m1 m2 m3 m4 m5 m6 m7 m8 m9 mA mB) (qa n_l qc c_l) K (TB.mk (.mk b0 b1 b2) (.mk b3 b4 b5))).2)))], some (qj 5 n_l c_l ∧ (((TM.mk m0 m1 m2 m3 m4 m5 m6 m7 m8 m9 mA mB)).err = 0 ∧ ((TB.mk (.mk b0 b1 b2) (.mk b3 b4 b5))).err = 0 ∧ ql (qa n_l qc c_l) = 0) ∧ (((TB.mk (.mk b0 b1 b2) (.mk b3 b4 b5))).count.toNat) < kk), true)
 | _ => none
def q6i (kk : Nat) (m0 m1 m2 m3 m4 m5 m6 m7 m8 m9 mA mB b0 b1 b2 b3 b4 b5 : Int) (l : List TH) (K : Int) (post : DV → Prop) : Prop := (fun (Z1 : TM) (Z2 : TB) (Z3 : List TH) => (qj 5 l.length (qi l) ∧ (Z1).err = 0 ∧ (Z2).err = 0 ∧ ql Z3 = 0) ∧ (cond (q0i Z1 Z3 K Z2) (post (.tu [.c (.sl 6 1 (genC [[.v (.int .i64 b0), .v (.int .i64 b1), .v (.int .i64 b2), .v (.int .i64 b3), .v (.int .i64 b4), .v (.int .i64 b5)]])), .c (.v (.bool true))])) (((Z2).lo.inS 20 = true ∧ (Z2).hi.inS 20 = true ∧ (Z2).ok) ∧ (cond (((Z2).count) == (1 : Int)) (post (.tu [.c (.v (.slice none 0 0)), .c (.v (.bool false))])) (((Z2).lo.inS 20 = true ∧ (Z2).hi.inS 20 = true ∧ (Z2).ok) ∧ ((0 ≤ (0 : Int) ∧ (0 : Int) < ((2 : Nat) : Int)) ∧ ((qj 5 l.length (qi l) ∧ ((Z1).err = 0 ∧ ((⟨⟨((Z2).half1.lo.x), ((Z2).half1.lo.y), ((Z2).half1.lo.z)⟩, ⟨((Z2).half1.hi.x), ((Z2).half1.hi.y), ((Z2).half1.hi.z)⟩⟩ : TB)).err = 0 ∧ ql Z3 = 0) ∧ (((⟨⟨((Z2).half1.lo.x), ((Z2).half1.lo.y), ((Z2).half1.lo.z)⟩, ⟨((Z2).half1.hi.x), ((Z2).half1.hi.y), ((Z2).half1.hi.z)⟩⟩ : TB)).count.toNat) < kk) ∧ (cond (!((covR Z1 Z3 K (⟨⟨((Z2).half1.lo.x), ((Z2).half1.lo.y), ((Z2).half1.lo.z)⟩, ⟨((Z2).half1.hi.x), ((Z2).half1.hi.y), ((Z2).half1.hi.z)⟩⟩ : TB)).2)) (post (.tu [.c (.v (.slice none 0 0)), .c (.v (.bool false))])) ((q0k 48 (([] : List (List CV)).length + ((List.range (((covR Z1 Z3 K (⟨⟨((Z2).half1.lo.x), ((Z2).half1.lo.y), ((Z2).half1.lo.z)⟩, ⟨((Z2).half1.hi.x), ((Z2).half1.hi.y), ((Z2).half1.hi.z)⟩⟩ : TB)).1).length)).map fun i => fwd ((bxsC ((covR Z1 Z3 K (⟨⟨((Z2).half1.lo.x), ((Z2).half1.lo.y), ((Z2).half1.lo.z)⟩, ⟨((Z2).half1.hi.x), ((Z2).half1.hi.y), ((Z2).half1.hi.z)⟩⟩ : TB)).1)) i) 0 6).length)) ∧ ((0 ≤ (1 : Int) ∧ (1 : Int) < ((2 : Nat) : Int)) ∧ ((qj 5 l.length (qi l) ∧ ((Z1).err = 0 ∧ ((⟨⟨((Z2).half2.lo.x), ((Z2).half2.lo.y), ((Z2).half2.lo.z)⟩, ⟨((Z2).half2.hi.x), ((Z2).half2.hi.y), ((Z2).half2.hi.z)⟩⟩ : TB)).err = 0 ∧ ql Z3 = 0) ∧ (((⟨⟨((Z2).half2.lo.x), ((Z2).half2.lo.y), ((Z2).half2.lo.z)⟩, ⟨((Z2).half2.hi.x), ((Z2).half2.hi.y), ((Z2).half2.hi.z)⟩⟩ : TB)).count.toNat) < kk) ∧ (cond (!((covR Z1 Z3 K (⟨⟨((Z2).half2.lo.x), ((Z2).half2.lo.y), ((Z2).half2.lo.z)⟩, ⟨((Z2).half2.hi.x), ((Z2).half2.hi.y), ((Z2).half2.hi.z)⟩⟩ : TB)).2)) (post (.tu [.c (.v (.slice none 0 0)), .c (.v (.bool false))])) ((q0k 48 ((([] : List (List CV)) ++ ((List.range (((covR Z1 Z3 K (⟨⟨((Z2).half1.lo.x), ((Z2).half1.lo.y), ((Z2).half1.lo.z)⟩, ⟨((Z2).half1.hi.x), ((Z2).half1.hi.y), ((Z2).half1.hi.z)⟩⟩ : TB)).1).length)).map fun i => fwd ((bxsC ((covR Z1 Z3 K (⟨⟨((Z2).half1.lo.x), ((Z2).half1.lo.y), ((Z2).half1.lo.z)⟩, ⟨((Z2).half1.hi.x), ((Z2).half1.hi.y), ((Z2).half1.hi.z)⟩⟩ : TB)).1)) i) 0 6)).length + ((List.range (((covR Z1 Z3 K (⟨⟨((Z2).half2.lo.x), ((Z2).half2.lo.y), ((Z2).half2.lo.z)⟩, ⟨((Z2).half2.hi.x), ((Z2).half2.hi.y), ((Z2).half2.hi.z)⟩⟩ : TB)).1).length)).map fun i => fwd ((bxsC ((covR Z1 Z3 K (⟨⟨((Z2).half2.lo.x), ((Z2).half2.lo.y), ((Z2).half2.lo.z)⟩, ⟨((Z2).half2.hi.x), ((Z2).half2.hi.y), ((Z2).half2.hi.z)⟩⟩ : TB)).1)) i) 0 6).length)) ∧ (post (.tu [.c (.sl 6 (((([] : List (List CV)) ++ ((List.range (((covR Z1 Z3 K (⟨⟨((Z2).half1.lo.x), ((Z2).half1.lo.y), ((Z2).half1.lo.z)⟩, ⟨((Z2).half1.hi.x), ((Z2).half1.hi.y), ((Z2).half1.hi.z)⟩⟩ : TB)).1).length)).map fun i => fwd ((bxsC ((covR Z1 Z3 K (⟨⟨((Z2).half1.lo.x), ((Z2).half1.lo.y), ((Z2).half1.lo.z)⟩, ⟨((Z2).half1.hi.x), ((Z2).half1.hi.y), ((Z2).half1.hi.z)⟩⟩ : TB)).1)) i) 0 6)) ++ ((List.range (((covR Z1 Z3 K (⟨⟨((Z2).half2.lo.x), ((Z2).half2.lo.y), ((Z2).half2.lo.z)⟩, ⟨((Z2).half2.hi.x), ((Z2).half2.hi.y), ((Z2).half2.hi.z)⟩⟩ : TB)).1).length)).map fun i => fwd ((bxsC ((covR Z1 Z3 K (⟨⟨((Z2).half2.lo.x), ((Z2).half2.lo.y), ((Z2).half2.lo.z)⟩, ⟨((Z2).half2.hi.x), ((Z2).half2.hi.y), ((Z2).half2.hi.z)⟩⟩ : TB)).1)) i) 0 6)).length) (genC ((([] : List (List CV)) ++ ((List.range (((covR Z1 Z3 K (⟨⟨((Z2).half1.lo.x), ((Z2).half1.lo.y), ((Z2).half1.lo.z)⟩, ⟨((Z2).half1.hi.x), ((Z2).half1.hi.y), ((Z2).half1.hi.z)⟩⟩ : TB)).1).length)).map fun i => fwd ((bxsC ((covR Z1 Z3 K (⟨⟨((Z2).half1.lo.x), ((Z2).half1.lo.y), ((Z2).half1.lo.z)⟩, ⟨((Z2).half1.hi.x), ((Z2).half1.hi.y), ((Z2).half1.hi.z)⟩⟩ : TB)).1)) i) 0 6)) ++ ((List.range (((covR Z1 Z3 K (⟨⟨((Z2).half2.lo.x), ((Z2).half2.lo.y), ((Z2).half2.lo.z)⟩, ⟨((Z2).half2.hi.x), ((Z2).half2.hi.y), ((Z2).half2.hi.z)⟩⟩ : TB)).1).length)).map fun i => fwd ((bxsC ((covR Z1 Z3 K (⟨⟨((Z2).half2.lo.x), ((Z2).half2.lo.y), ((Z2).half2.lo.z)⟩, ⟨((Z2).half2.hi.x), ((Z2).half2.hi.y), ((Z2).half2.hi.z)⟩⟩ : TB)).1)) i) 0 6)))), .c (.v (.bool true))]))))))))))))))) (TM.mk m0 m1 m2 m3 m4 m5 m6 m7 m8 m9 mA mB) (TB.mk (.mk b0 b1 b2) (.mk b3 b4 b5)) (qa l.length qc (qi l))
def qaV : Ann := ⟨fun _ => none, fun b => qr b [(0, (some 3, some ⟨[2, 3, 4, 26, 27], [4], [(10, .gen 25 6 [])]⟩))], fun _ => [], Ikv64, true, fun _ => none, fun _ => none⟩
set_option maxHeartbeats 8000000 in
theorem qa6 (kk : Nat) (m0 m1 m2 m3 m4 m5 m6 m7 m8 m9 mA mB b0 b1 b2 b3 b4 b5 : Int) (l : List TH) (K : Int) (hp : (((TM.mk m0 m1 m2 m3 m4 m5 m6 m7 m8 m9 mA mB)).err = 0 ∧ ((TB.mk (.mk b0 b1 b2) (.mk b3 b4 b5))).err = 0 ∧ ql l = 0) ∧ (((TB.mk (.mk b0 b1 b2) (.mk b3 b4 b5))).count.toNat) < kk + 1) : q6i kk m0 m1 m2 m3 m4 m5 m6 m7 m8 m9 mA mB b0 b1 b2 b3 b4 b5 l K (fun r => LeD r (.tu [.c (.sl 6 (((covR (TM.mk m0 m1 m2 m3 m4 m5 m6 m7 m8 m9 mA mB) l K (TB.mk (.mk b0 b1 b2) (.mk b3 b4 b5))).1).length) (bxsC ((covR (TM.mk m0 m1 m2 m3 m4 m5 m6 m7 m8 m9 mA mB) l K (TB.mk (.mk b0 b1 b2) (.mk b3 b4 b5))).1))), .c (.v (.bool ((covR (TM.mk m0 m1 m2 m3 m4 m5 m6 m7 m8 m9 mA mB) l K (TB.mk (.mk b0 b1 b2) (.mk b3 b4 b5))).2)))])) := by
 obtain ⟨⟨hm, hb, hh⟩, hk⟩ := hp
 have hin := q0Z hb
 have ho := q0c hb
 have hE := covR_eq (m := (TM.mk m0 m1 m2 m3 m4 m5 m6 m7 m8 m9 mA mB)) (l := l) (K := K) hb
 have hpos := q0e ho
 unfold q6i
 have eb : ∀ q : TB, (TB.mk (.mk q.lo.x q.lo.y q.lo.z) (.mk q.hi.x q.hi.y q.hi.z)) = q := fun q => rfl
 simp only [qP, bxs_fwd, eb]
 refine ⟨⟨qA l, hm, hb, hh⟩, qg (fun e => ?_) (fun e => ⟨⟨hin.1, hin.2, ho⟩, qg (fun e1 => ?_) (fun e1 => ?_)⟩)⟩
 ·rw [hE, if_pos e]
  exact le_tu (le_bxs [(TB.mk (.mk b0 b1 b2) (.mk b3 b4 b5))]) (LeD.refl _)
 ·rw [hE, if_neg (by rw [e]; simp), if_pos (by simpa using e1)]
  exact le_tu q3V (LeD.refl _)
 have hne : (TB.mk (.mk b0 b1 b2) (.mk b3 b4 b5)).count ≠ 1 := by simpa using e1
 obtain ⟨f1, f2, s1, s2⟩ := q4g hb hne
 have hc := q0R (TB.mk (.mk b0 b1 b2) (.mk b3 b4 b5))
 have p1 := q0e (q0c f1)
 have p2 := q0e (q0c f2)
 have l1 := qkq (K := K) hm f1 hh
 have l2 := qkq (K := K) hm f2 hh
 rw [if_neg (by rw [e]; simp), if_neg hne] at hE
 refine ⟨⟨hin.1, hin.2, ho⟩, by omega, ⟨qA l, ⟨hm, f1, hh⟩, by omega⟩, qg (fun e2 => ?_) (fun e2 => ⟨?_, by omega, ⟨qA l, ⟨hm, f2, hh⟩, by omega⟩, qg (fun e3 => ?_) (fun e3 => ⟨?_, ?_⟩)⟩)⟩
 ·have e2 : (covR (TM.mk m0 m1 m2 m3 m4 m5 m6 m7 m8 m9 mA mB) l K (TB.mk (.mk b0 b1 b2) (.mk b3 b4 b5)).half1).2 = false := by simpa using e2
  rw [hE, e2]
  exact le_tu q3V (LeD.refl _)
 ·unfold q0k maxLen; simp; omega
 ·have e2 : (covR (TM.mk m0 m1 m2 m3 m4 m5 m6 m7 m8 m9 mA mB) l K (TB.mk (.mk b0 b1 b2) (.mk b3 b4 b5)).half1).2 = true := by simpa using e2
  have e3 : (covR (TM.mk m0 m1 m2 m3 m4 m5 m6 m7 m8 m9 mA mB) l K (TB.mk (.mk b0 b1 b2) (.mk b3 b4 b5)).half2).2 = false := by simpa using e3
  rw [hE, e2, e3]
  exact le_tu q3V (LeD.refl _)
 ·unfold q0k maxLen; simp; omega
 ·have e2 : (covR (TM.mk m0 m1 m2 m3 m4 m5 m6 m7 m8 m9 mA mB) l K (TB.mk (.mk b0 b1 b2) (.mk b3 b4 b5)).half1).2 = true := by simpa using e2
  have e3 : (covR (TM.mk m0 m1 m2 m3 m4 m5 m6 m7 m8 m9 mA mB) l K (TB.mk (.mk b0 b1 b2) (.mk b3 b4 b5)).half2).2 = true := by simpa using e3
  rw [hE, e2, e3]
  have := le_bxs ((covR (TM.mk m0 m1 m2 m3 m4 m5 m6 m7 m8 m9 mA mB) l K (TB.mk (.mk b0 b1 b2) (.mk b3 b4 b5)).half1).1 ++ (covR (TM.mk m0 m1 m2 m3 m4 m5 m6 m7 m8 m9 mA mB) l K (TB.mk (.mk b0 b1 b2) (.mk b3 b4 b5)).half2).1)
  rw [List.map_append] at this
  exact le_tu this (LeD.refl _)
theorem qaW : ∀ kk, Ok Tryz.prog 66 (q2r kk) := by
 intro kk
 induction kk with
 | zero =>
  intro args r pre fresh h hp
  unfold q2r at h
  split at h
  ·cases h
   exact absurd hp.2.2 (Nat.not_lt_zero _)
  ·cases h
 | succ kk ih =>
  refine Ok.fnFr (ann := qaV) mixed qo (Valid.add VSli96 ih) VIkv64 rfl (fn := Tryz.f66) (by kernel_rfl) (by kernel_rfl) (by kernel_rfl) fun args r pre fresh h hp => ?_
  unfold q2r at h
  split at h
  ·rename_i m0 m1 m2 m3 m4 m5 m6 m7 m8 m9 mA mB b0 b1 b2 b3 b4 b5 n_l c_l K
   cases h
   obtain ⟨hp0, hp⟩ := hp
   refine ⟨rfl, (by intro x hx; simp only [List.mem_cons, List.not_mem_nil, or_false] at hx; rcases hx with rfl | rfl; exact (fun i j _ hj => qmz _ i j); exact trivial), fun _ _ _ => False, _, (qk (LeD.refl _) (qk (LeD.refl _) (qk (leT_c ((qY hp0))) (qk (LeD.refl _) qM)))), Nat.le_of_ble_eq_true (by kernel_rfl), ?_, ?_⟩
   ·exact cast (by kernel_rfl) (qa6 kk m0 m1 m2 m3 m4 m5 m6 m7 m8 m9 mA mB b0 b1 b2 b3 b4 b5 (qa n_l qc c_l) K hp)
   ·exact cast (by kernel_rfl) trivial
  ·cases h
def q2J : Con := fun args => match args with
 | [.t (.a [.v (.int .i64 m0), .v (.int .i64 m1), .v (.int .i64 m2), .v (.int .i64 m3), .v (.int .i64 m4), .v (.int .i64 m5), .v (.int .i64 m6), .v (.int .i64 m7), .v (.int .i64 m8), .v (.int .i64 m9), .v (.int .i64 mA), .v (.int .i64 mB)]), .t (.a [.v (.int .i64 b0), .v (.int .i64 b1), .v (.int .i64 b2), .v (.int .i64 b3), .v (.int .i64 b4), .v (.int .i64 b5)]), .t (.c (.sl 5 n_l c_l)), .t (.c (.v (.int .i64 K)))] => some (.tu [.c (.sl 6 (((covR (TM.mk m0 m1 m2 m3 m4 m5 m6 m7 m8 m9 mA mB) (qa n_l qc c_l) K (TB.mk (.mk b0 b1 b2) (.mk b3 b4 b5))).1).length) (bxsC ((covR (TM.mk m0 m1 m2 m3 m4 m5 m6 m7 m8 m9 mA mB) (qa n_l qc c_l) K (TB.mk (.mk b0 b1 b2) (.mk b3 b4 b5))).1))), .c (.v (.bool ((covR (TM.mk m0 m1 m2 m3 m4 m5 m6 m7 m8 m9 mA mB) (qa n_l qc c_l) K (TB.mk (.mk b0 b1 b2) (.mk b3 b4 b5))).2)))], some (qj 5 n_l c_l ∧ ((TM.mk m0 m1 m2 m3 m4 m5 m6 m7 m8 m9 mA mB)).err = 0 ∧ ((TB.mk (.mk b0 b1 b2) (.mk b3 b4 b5))).err = 0 ∧ ql (qa n_l qc c_l) = 0), true)
 | _ => none
theorem qbU : Ok Tryz.prog 66 q2J := by
 intro args r pre fresh h hp
 unfold q2J at h
 split at h
 ·rename_i m0 m1 m2 m3 m4 m5 m6 m7 m8 m9 mA mB b0 b1 b2 b3 b4 b5 n_l c_l K
  cases h
  exact qaW ((((TB.mk (.mk b0 b1 b2) (.mk b3 b4 b5))).count.toNat) + 1) _ _ _ _ rfl ⟨hp.1, hp.2, Nat.lt_succ_self _⟩
 ·cases h
def Sli97 : Sum := addS Sli96 66 q2J
theorem VSli97 : Valid Tryz.prog Sli97 := Valid.add VSli96 qbU
def q8Q (m0 m1 m2 m3 m4 m5 m6 m7 m8 m9 mA mB b0 b1 b2 b3 b4 b5 : Int) (l : List TH) (K : Int) (post : DV → Prop) : Prop := (fun (Z1 : TM) (Z2 : TB) (Z3 : List TH) => (qj 5 l.length (qi l)) ∧ (cond ((qd [qd [(Z1).err, (Z2).err], ql Z3]) != (0 : Int)) (post (.tu [.c (.v (.slice none 0 0)), .c (.v (.int .i64 (qd [qd [(Z1).err, (Z2).err], ql Z3])))])) ((qj 5 l.length (qi l) ∧ (Z1).err = 0 ∧ (Z2).err = 0 ∧ ql Z3 = 0) ∧ (post (.tu [.c (.sl 6 (((covR Z1 Z3 K Z2).1).length) (bxsC ((covR Z1 Z3 K Z2).1))), .c (.v (.int .i64 (unl ((covR Z1 Z3 K Z2).2) (12 : Int))))]))))) (TM.mk m0 m1 m2 m3 m4 m5 m6 m7 m8 m9 mA mB) (TB.mk (.mk b0 b1 b2) (.mk b3 b4 b5)) (qa l.length qc (qi l))
def qeA : Ann := ⟨fun _ => none, fun _ => none, fun _ => [], Ikv64, false, fun _ => none, fun _ => none⟩
set_option maxHeartbeats 8000000 in
theorem qdt (m0 m1 m2 m3 m4 m5 m6 m7 m8 m9 mA mB b0 b1 b2 b3 b4 b5 : Int) (l : List TH) (K : Int) : q8Q m0 m1 m2 m3 m4 m5 m6 m7 m8 m9 mA mB b0 b1 b2 b3 b4 b5 l K (fun r => LeD r (.tu [.c (.sl 6 ((if qd [qd [((TM.mk m0 m1 m2 m3 m4 m5 m6 m7 m8 m9 mA mB)).err, ((TB.mk (.mk b0 b1 b2) (.mk b3 b4 b5))).err], ql l] = 0 then (covR (TM.mk m0 m1 m2 m3 m4 m5 m6 m7 m8 m9 mA mB) l K (TB.mk (.mk b0 b1 b2) (.mk b3 b4 b5))).1 else []).length) (bxsC (if qd [qd [((TM.mk m0 m1 m2 m3 m4 m5 m6 m7 m8 m9 mA mB)).err, ((TB.mk (.mk b0 b1 b2) (.mk b3 b4 b5))).err], ql l] = 0 then (covR (TM.mk m0 m1 m2 m3 m4 m5 m6 m7 m8 m9 mA mB) l K (TB.mk (.mk b0 b1 b2) (.mk b3 b4 b5))).1 else []))), .c (.v (.int .i64 (if qd [qd [((TM.mk m0 m1 m2 m3 m4 m5 m6 m7 m8 m9 mA mB)).err, ((TB.mk (.mk b0 b1 b2) (.mk b3 b4 b5))).err], ql l] = 0 then unl (covR (TM.mk m0 m1 m2 m3 m4 m5 m6 m7 m8 m9 mA mB) l K (TB.mk (.mk b0 b1 b2) (.mk b3 b4 b5))).2 12 else qd [qd [((TM.mk m0 m1 m2 m3 m4 m5 m6 m7 m8 m9 mA mB)).err, ((TB.mk (.mk b0 b1 b2) (.mk b3 b4 b5))).err], ql l])))])) := by
 unfold q8Q
 simp only [qP]
 refine ⟨qA l, qg (fun h => ?_) (fun h => ?_)⟩
 ·have h : qd [qd [(TM.mk m0 m1 m2 m3 m4 m5 m6 m7 m8 m9 mA mB).err, (TB.mk (.mk b0 b1 b2) (.mk b3 b4 b5)).err], ql l] ≠ 0 := by simpa using h
  rw [if_neg h, if_neg h]
  exact le_tu q3V (LeD.refl _)
 ·have h : qd [qd [(TM.mk m0 m1 m2 m3 m4 m5 m6 m7 m8 m9 mA mB).err, (TB.mk (.mk b0 b1 b2) (.mk b3 b4 b5)).err], ql l] = 0 := by simpa using h
  obtain ⟨q1, q2⟩ := fn2 h
  obtain ⟨q3, q4⟩ := fn2 q1
  rw [if_pos h, if_pos h]
  exact ⟨⟨qA l, q3, q4, q2⟩, LeD.refl _⟩
def q4I : Con := fun args => match args with
 | [.t (.a [.v (.int .i64 m0), .v (.int .i64 m1), .v (.int .i64 m2), .v (.int .i64 m3), .v (.int .i64 m4), .v (.int .i64 m5), .v (.int .i64 m6), .v (.int .i64 m7), .v (.int .i64 m8), .v (.int .i64 m9), .v (.int .i64 mA), .v (.int .i64 mB)]), .t (.a [.v (.int .i64 b0), .v (.int .i64 b1), .v (.int .i64 b2), .v (.int .i64 b3), .v (.int .i64 b4), .v (.int .i64 b5), .sl 5 n_l c_l]), .t (.c (.v (.int .i64 K)))] => some (.tu [.c (.sl 6 ((if qd [qd [((TM.mk m0 m1 m2 m3 m4 m5 m6 m7 m8 m9 mA mB)).err, ((TB.mk (.mk b0 b1 b2) (.mk b3 b4 b5))).err], ql (qa n_l qc c_l)] = 0 then (covR (TM.mk m0 m1 m2 m3 m4 m5 m6 m7 m8 m9 mA mB) (qa n_l qc c_l) K (TB.mk (.mk b0 b1 b2) (.mk b3 b4 b5))).1 else []).length) (bxsC (if qd [qd [((TM.mk m0 m1 m2 m3 m4 m5 m6 m7 m8 m9 mA mB)).err, ((TB.mk (.mk b0 b1 b2) (.mk b3 b4 b5))).err], ql (qa n_l qc c_l)] = 0 then (covR (TM.mk m0 m1 m2 m3 m4 m5 m6 m7 m8 m9 mA mB) (qa n_l qc c_l) K (TB.mk (.mk b0 b1 b2) (.mk b3 b4 b5))).1 else []))), .c (.v (.int .i64 (if qd [qd [((TM.mk m0 m1 m2 m3 m4 m5 m6 m7 m8 m9 mA mB)).err, ((TB.mk (.mk b0 b1 b2) (.mk b3 b4 b5))).err], ql (qa n_l qc c_l)] = 0 then unl (covR (TM.mk m0 m1 m2 m3 m4 m5 m6 m7 m8 m9 mA mB) (qa n_l qc c_l) K (TB.mk (.mk b0 b1 b2) (.mk b3 b4 b5))).2 12 else qd [qd [((TM.mk m0 m1 m2 m3 m4 m5 m6 m7 m8 m9 mA mB)).err, ((TB.mk (.mk b0 b1 b2) (.mk b3 b4 b5))).err], ql (qa n_l qc c_l)])))], some (qj 5 n_l c_l), false)
 | _ => none
theorem qfN : Ok Tryz.prog 30 q4I := by
 refine Ok.fn (ann := qeA) mixed qo VSli97 VIkv64 (fn := Tryz.f30) (by kernel_rfl) (by kernel_rfl) (by kernel_rfl) fun args r pre fresh h hp => ?_
 unfold q4I at h
 split at h
 ·rename_i m0 m1 m2 m3 m4 m5 m6 m7 m8 m9 mA mB b0 b1 b2 b3 b4 b5 n_l c_l K
  cases h
  have hp0 := hp
  refine ⟨rfl, fun _ _ _ => False, _, (qk (LeD.refl _) (qk (leT_a (LeCs.cons (LeC1.refl _) (LeCs.cons (LeC1.refl _) (LeCs.cons (LeC1.refl _) (LeCs.cons (LeC1.refl _) (LeCs.cons (LeC1.refl _) (LeCs.cons (LeC1.refl _) (LeCs.cons ((qY hp0)) LeCs.nil)))))))) (qk (LeD.refl _) qM))), Nat.le_of_ble_eq_true (by kernel_rfl), ?_, ?_⟩
  ·exact cast (by kernel_rfl) (qdt m0 m1 m2 m3 m4 m5 m6 m7 m8 m9 mA mB b0 b1 b2 b3 b4 b5 (qa n_l qc c_l) K)
  ·exact cast (by kernel_rfl) trivial
 ·cases h
def Sli98 : Sum := addS Sli97 30 q4I
theorem VSli98 : Valid Tryz.prog Sli98 := Valid.add VSli97 qfN
def q5B (a0 a1 a2 a3 a4 a5 m0 m1 m2 m3 m4 m5 m6 m7 m8 m9 mA mB b0 b1 b2 b3 b4 b5 : Int) (l : List TH) (d : List TB) (K : Int) (post : DV → Prop) : Prop := (qj 5 l.length (qi l) ∧ ((TM.mk m0 m1 m2 m3 m4 m5 m6 m7 m8 m9 mA mB)).err = 0 ∧ ((TB.mk (.mk a0 a1 a2) (.mk a3 a4 a5))).err = 0 ∧ ql (qa l.length qc (qi l)) = 0) ∧ (post (.t (.c (.v (.bool (!(q0i (TM.mk m0 m1 m2 m3 m4 m5 m6 m7 m8 m9 mA mB) (qa l.length qc (qi l)) K (TB.mk (.mk a0 a1 a2) (.mk a3 a4 a5)))))))))
def qa7 : Ann := ⟨fun _ => none, fun _ => none, fun _ => [], Ikv64, false, fun _ => none, fun _ => none⟩
theorem q9i (a0 a1 a2 a3 a4 a5 m0 m1 m2 m3 m4 m5 m6 m7 m8 m9 mA mB b0 b1 b2 b3 b4 b5 : Int) (l : List TH) (d : List TB) (K : Int) (hp : ((TM.mk m0 m1 m2 m3 m4 m5 m6 m7 m8 m9 mA mB)).err = 0 ∧ ((TB.mk (.mk a0 a1 a2) (.mk a3 a4 a5))).err = 0 ∧ ql l = 0) : q5B a0 a1 a2 a3 a4 a5 m0 m1 m2 m3 m4 m5 m6 m7 m8 m9 mA mB b0 b1 b2 b3 b4 b5 l d K (fun r => LeD r (.t (.c (.v (.bool (!q0i (TM.mk m0 m1 m2 m3 m4 m5 m6 m7 m8 m9 mA mB) l K (TB.mk (.mk a0 a1 a2) (.mk a3 a4 a5)))))))) := by
 unfold q5B
 rw [qP]
 exact ⟨⟨qA l, hp⟩, LeD.refl _⟩
def q2s : Con := fun args => match args with
 | [.t (.a [.v (.int .i64 a0), .v (.int .i64 a1), .v (.int .i64 a2), .v (.int .i64 a3), .v (.int .i64 a4), .v (.int .i64 a5)]), .t (.c (.px 12 0 c_pm)), .t (.c (.px 7 0 c_ps)), .t (.c (.px 2 0 c_pc))] => some (.t (.c (.v (.bool (!q0i (⟨(qb (c_pm 0)), (qb (c_pm 1)), (qb (c_pm 2)), (qb (c_pm 3)), (qb (c_pm 4)), (qb (c_pm 5)), (qb (c_pm 6)), (qb (c_pm 7)), (qb (c_pm 8)), (qb (c_pm 9)), (qb (c_pm 10)), (qb (c_pm 11))⟩ : TM) (qa (q1U (c_ps 6)) qc (q0G (c_ps 6))) (qb (c_pc 1)) (TB.mk (.mk a0 a1 a2) (.mk a3 a4 a5)))))), some (qQ [0, 1, 2, 3, 4, 5, 6, 7, 8, 9, 10, 11] c_pm = true ∧ qQ [0, 1, 2, 3, 4, 5] c_ps = true ∧ slP 5 (c_ps 6) ∧ qj 5 (q1U (c_ps 6)) (q0G (c_ps 6)) ∧ qQ [1] c_pc = true ∧ slP 6 (c_pc 0) ∧ qj 6 (q1U (c_pc 0)) (q0G (c_pc 0)) ∧ ((⟨(qb (c_pm 0)), (qb (c_pm 1)), (qb (c_pm 2)), (qb (c_pm 3)), (qb (c_pm 4)), (qb (c_pm 5)), (qb (c_pm 6)), (qb (c_pm 7)), (qb (c_pm 8)), (qb (c_pm 9)), (qb (c_pm 10)), (qb (c_pm 11))⟩ : TM)).err = 0 ∧ ((TB.mk (.mk a0 a1 a2) (.mk a3 a4 a5))).err = 0 ∧ ql (qa (q1U (c_ps 6)) qc (q0G (c_ps 6))) = 0), false)
 | _ => none
theorem qaX : Ok Tryz.prog 73 q2s := by
 refine Ok.fn (ann := qa7) mixed qo VSli98 VIkv64 (fn := Tryz.f73) (by kernel_rfl) (by kernel_rfl) (by kernel_rfl) fun args r pre fresh h hp => ?_
 unfold q2s at h
 split at h
 ·rename_i a0 a1 a2 a3 a4 a5 c_pm c_ps c_pc
  cases h
  obtain ⟨hp0, hp1, hp2, hp3, hp4, hp5, hp6, hp⟩ := hp
  refine ⟨rfl, fun _ _ _ => False, _, (qk (LeD.refl _) (qk (leT_c (leC_p (LeCs.cons (leC_i (qh hp0 0 (by decide))) (LeCs.cons (leC_i (qh hp0 1 (by decide))) (LeCs.cons (leC_i (qh hp0 2 (by decide))) (LeCs.cons (leC_i (qh hp0 3 (by decide))) (LeCs.cons (leC_i (qh hp0 4 (by decide))) (LeCs.cons (leC_i (qh hp0 5 (by decide))) (LeCs.cons (leC_i (qh hp0 6 (by decide))) (LeCs.cons (leC_i (qh hp0 7 (by decide))) (LeCs.cons (leC_i (qh hp0 8 (by decide))) (LeCs.cons (leC_i (qh hp0 9 (by decide))) (LeCs.cons (leC_i (qh hp0 10 (by decide))) (LeCs.cons (leC_i (qh hp0 11 (by decide))) LeCs.nil)))))))))))))) (qk (leT_c (leC_p (LeCs.cons (leC_i (qh hp1 0 (by decide))) (LeCs.cons (leC_i (qh hp1 1 (by decide))) (LeCs.cons (leC_i (qh hp1 2 (by decide))) (LeCs.cons (leC_i (qh hp1 3 (by decide))) (LeCs.cons (leC_i (qh hp1 4 (by decide))) (LeCs.cons (leC_i (qh hp1 5 (by decide))) (LeCs.cons (leC_s hp2 (qY hp3)) LeCs.nil))))))))) (qk (leT_c (leC_p (LeCs.cons (leC_s hp5 (q6S hp6)) (LeCs.cons (leC_i (qh hp4 1 (by decide))) LeCs.nil)))) qM)))), Nat.le_of_ble_eq_true (by kernel_rfl), ?_, ?_⟩
  ·exact cast (by kernel_rfl) (q9i a0 a1 a2 a3 a4 a5 (qb (c_pm 0)) (qb (c_pm 1)) (qb (c_pm 2)) (qb (c_pm 3)) (qb (c_pm 4)) (qb (c_pm 5)) (qb (c_pm 6)) (qb (c_pm 7)) (qb (c_pm 8)) (qb (c_pm 9)) (qb (c_pm 10)) (qb (c_pm 11)) (qb (c_ps 0)) (qb (c_ps 1)) (qb (c_ps 2)) (qb (c_ps 3)) (qb (c_ps 4)) (qb (c_ps 5)) (qa (q1U (c_ps 6)) qc (q0G (c_ps 6))) (qa (q1U (c_pc 0)) mkBx (q0G (c_pc 0))) (qb (c_pc 1)) hp)
  ·exact cast (by kernel_rfl) trivial
 ·cases h
def Sli99 : Sum := addS Sli98 73 q2s
theorem VSli99 : Valid Tryz.prog Sli99 := Valid.add VSli98 qaX
def qI (c : List TB) (m0 m1 m2 m3 m4 m5 m6 m7 m8 m9 mA mB b0 b1 b2 b3 b4 b5 : Int) (l : List TH) (d : List TB) (K v0_0 : Int) : DS := ⟨[some (.t (.c (.sl 6 c.length (bxsC c)))), some (.t (.fn 73 [.px 12 0 (boxC [.v (.int .i64 m0), .v (.int .i64 m1), .v (.int .i64 m2), .v (.int .i64 m3), .v (.int .i64 m4), .v (.int .i64 m5), .v (.int .i64 m6), .v (.int .i64 m7), .v (.int .i64 m8), .v (.int .i64 m9), .v (.int .i64 mA), .v (.int .i64 mB)]), .px 7 0 (boxC [.v (.int .i64 b0), .v (.int .i64 b1), .v (.int .i64 b2), .v (.int .i64 b3), .v (.int .i64 b4), .v (.int .i64 b5), .sl 5 l.length (qi l)]), .px 2 0 (boxC [.sl 6 d.length (bxsC d), .v (.int .i64 K)])])), none, none, none, none, none, some (.t (.c (.v (.int .i64 ((c.length : Nat) : Int))))), some (.t (.c (.v (.int .i64 v0_0)))), none, none, none, none, none, none, none, none, none, none], [none, none, none, none, none, none, none, none, none, none, none, none, none, none, none, none, none, none, none]⟩
def qX (J : Inv) (c : List TB) (m0 m1 m2 m3 m4 m5 m6 m7 m8 m9 mA mB b0 b1 b2 b3 b4 b5 : Int) (l : List TH) (d : List TB) (K : Int) (post : DV → Prop) : Prop := ∃ n, J 0 (n :: []) (qI c m0 m1 m2 m3 m4 m5 m6 m7 m8 m9 mA mB b0 b1 b2 b3 b4 b5 l d K 0)
def qy : Ann := ⟨fun _ => none, fun b => qr b [(0, (none, some ⟨[0, 1, 7, 8], [], []⟩))], fun _ => [], Ikv64, false, fun _ => none, fun _ => none⟩
def qU (J : Inv) (c : List TB) (m0 m1 m2 m3 m4 m5 m6 m7 m8 m9 mA mB b0 b1 b2 b3 b4 b5 : Int) (l : List TH) (d : List TB) (K v0_0 : Int) (nn0 : Nat) (post : DV → Prop) : Prop := cond (decide (v0_0 < ((c.length : Nat) : Int))) ((0 ≤ v0_0 ∧ v0_0 < ((c.length : Nat) : Int)) ∧ ((qQ [0, 1, 2, 3, 4, 5, 6, 7, 8, 9, 10, 11] (boxC [.v (.int .i64 m0), .v (.int .i64 m1), .v (.int .i64 m2), .v (.int .i64 m3), .v (.int .i64 m4), .v (.int .i64 m5), .v (.int .i64 m6), .v (.int .i64 m7), .v (.int .i64 m8), .v (.int .i64 m9), .v (.int .i64 mA), .v (.int .i64 mB)]) = true ∧ qQ [0, 1, 2, 3, 4, 5] (boxC [.v (.int .i64 b0), .v (.int .i64 b1), .v (.int .i64 b2), .v (.int .i64 b3), .v (.int .i64 b4), .v (.int .i64 b5), .sl 5 l.length (qi l)]) = true ∧ slP 5 ((boxC [.v (.int .i64 b0), .v (.int .i64 b1), .v (.int .i64 b2), .v (.int .i64 b3), .v (.int .i64 b4), .v (.int .i64 b5), .sl 5 l.length (qi l)]) 6) ∧ qj 5 l.length (qi l) ∧ qQ [1] (boxC [.sl 6 d.length (bxsC d), .v (.int .i64 K)]) = true ∧ slP 6 ((boxC [.sl 6 d.length (bxsC d), .v (.int .i64 K)]) 0) ∧ qj 6 d.length (bxsC d) ∧ ((TM.mk m0 m1 m2 m3 m4 m5 m6 m7 m8 m9 mA mB)).err = 0 ∧ ((⟨⟨((bxAt c v0_0.toNat).lo.x), ((bxAt c v0_0.toNat).lo.y), ((bxAt c v0_0.toNat).lo.z)⟩, ⟨((bxAt c v0_0.toNat).hi.x), ((bxAt c v0_0.toNat).hi.y), ((bxAt c v0_0.toNat).hi.z)⟩⟩ : TB)).err = 0 ∧ ql (qa l.length qc (qi l)) = 0) ∧ (cond (!q0i (TM.mk m0 m1 m2 m3 m4 m5 m6 m7 m8 m9 mA mB) (qa l.length qc (qi l)) K (⟨⟨((bxAt c v0_0.toNat).lo.x), ((bxAt c v0_0.toNat).lo.y), ((bxAt c v0_0.toNat).lo.z)⟩, ⟨((bxAt c v0_0.toNat).hi.x), ((bxAt c v0_0.toNat).hi.y), ((bxAt c v0_0.toNat).hi.z)⟩⟩ : TB)) (post (.t (.c (.v (.int .i64 v0_0))))) (lt (IntKind.i64.wrap (v0_0 + (1 : Int))) fun x1 => J 0 (nn0 :: []) (qI c m0 m1 m2 m3 m4 m5 m6 m7 m8 m9 mA mB b0 b1 b2 b3 b4 b5 l d K x1))))) (post (.t (.c (.v (.int .i64 (-1))))))
theorem q0E (J : Inv) (post : DV → Prop) : AllG J (qz Tryz.prog tab Sli99 qy J Tryz.f72 post) = (((∀ F s, ¬ J 0 (0 :: F) s) ∧ ∀ n F s, J 0 ((n + 1) :: F) s → round Tryz.prog tab Sli99 qy J Tryz.f72 post 0 (n :: F) s) ∧ True) := by kernel_rfl
def qu (c : List TB) (m0 m1 m2 m3 m4 m5 m6 m7 m8 m9 mA mB b0 b1 b2 b3 b4 b5 : Int) (l : List TH) (d : List TB) (K : Int) : Inv := fun b F s => match b, F with
 | 0, [nn0] => ∃ (v0_0 : Int), s = qI c m0 m1 m2 m3 m4 m5 m6 m7 m8 m9 mA mB b0 b1 b2 b3 b4 b5 l d K v0_0 ∧ (c.length ≤ 1000000 ∧ 0 ≤ v0_0 ∧ v0_0 ≤ c.length ∧ (nn0 : Int) + v0_0 = c.length + 1 ∧ ∀ j : Nat, (j : Int) < v0_0 → (fun a : TB => !q0i (TM.mk m0 m1 m2 m3 m4 m5 m6 m7 m8 m9 mA mB) l K a) (bxAt c j) = false)
 | _, _ => False
theorem q0r (c : List TB) (m0 m1 m2 m3 m4 m5 m6 m7 m8 m9 mA mB b0 b1 b2 b3 b4 b5 : Int) (l : List TH) (d : List TB) (K v0_0 : Int) (nn0 : Nat) (hp : (c).length ≤ 1000000 ∧ ((TM.mk m0 m1 m2 m3 m4 m5 m6 m7 m8 m9 mA mB)).err = 0 ∧ ql l = 0 ∧ ∀ i, i < (c).length → (bxAt c i).err = 0) (hi : c.length ≤ 1000000 ∧ 0 ≤ v0_0 ∧ v0_0 ≤ c.length ∧ ((nn0 + 1) : Int) + v0_0 = c.length + 1 ∧ ∀ j : Nat, (j : Int) < v0_0 → (fun a : TB => !q0i (TM.mk m0 m1 m2 m3 m4 m5 m6 m7 m8 m9 mA mB) l K a) (bxAt c j) = false) : qU (qu c m0 m1 m2 m3 m4 m5 m6 m7 m8 m9 mA mB b0 b1 b2 b3 b4 b5 l d K) c m0 m1 m2 m3 m4 m5 m6 m7 m8 m9 mA mB b0 b1 b2 b3 b4 b5 l d K v0_0 nn0 (fun r => LeD r (.t (.c (.v (.int .i64 (idxP (fun a => !q0i (TM.mk m0 m1 m2 m3 m4 m5 m6 m7 m8 m9 mA mB) l K a) c)))))) := by
 obtain ⟨i0, i1, i2, i3, i4⟩ := hi
 obtain ⟨k, rfl⟩ : ∃ k : Nat, v0_0 = k := ⟨v0_0.toNat, by omega⟩
 have hk : (k : Int).toNat = k := rfl
 unfold qU
 rw [hk]
 simp only [qP]
 refine qg (fun h => ?_) (fun h => leI ?_)
 ·have hlt : k < c.length := by have := of_decide_eq_true h; omega
  refine ⟨by omega, ⟨rfl, rfl, rfl, qA l, rfl, rfl, q5y d, hp.2.1, hp.2.2.2 k hlt, hp.2.2.1⟩, qg (fun e => leI ?_) (fun e => lt_i fun x hx => ?_)⟩
  ·exact (qhv (d := (TB.mk (.mk 0 0 0) (.mk 0 0 0))) hlt (fun j hj => i4 j (by omega)) e).symm
  ·rw [IntWalk.i64_in _ (by omega)] at hx
   subst hx
   exact ⟨_, rfl, i0, by omega, by omega, by omega, fun j hj => by
    by_cases q : j = k
    ·rw [q]; exact e
    ·exact i4 j (by omega)⟩
 ·have hge : k = c.length := by have := of_decide_eq_false h; omega
  exact (q9n (d := (TB.mk (.mk 0 0 0) (.mk 0 0 0))) fun j hj => i4 j (by omega)).symm
theorem q0v (c : List TB) (m0 m1 m2 m3 m4 m5 m6 m7 m8 m9 mA mB b0 b1 b2 b3 b4 b5 : Int) (l : List TH) (d : List TB) (K : Int) (hp : (c).length ≤ 1000000 ∧ ((TM.mk m0 m1 m2 m3 m4 m5 m6 m7 m8 m9 mA mB)).err = 0 ∧ ql l = 0 ∧ ∀ i, i < (c).length → (bxAt c i).err = 0) : qX (qu c m0 m1 m2 m3 m4 m5 m6 m7 m8 m9 mA mB b0 b1 b2 b3 b4 b5 l d K) c m0 m1 m2 m3 m4 m5 m6 m7 m8 m9 mA mB b0 b1 b2 b3 b4 b5 l d K (fun r => LeD r (.t (.c (.v (.int .i64 (idxP (fun a => !q0i (TM.mk m0 m1 m2 m3 m4 m5 m6 m7 m8 m9 mA mB) l K a) c)))))) := by
 unfold qX
 exact ⟨c.length + 1, 0, rfl, hp.1, by omega, by omega, by omega, fun j hj => by omega⟩
theorem q0A (c : List TB) (m0 m1 m2 m3 m4 m5 m6 m7 m8 m9 mA mB b0 b1 b2 b3 b4 b5 : Int) (l : List TH) (d : List TB) (K : Int) (hp : (c).length ≤ 1000000 ∧ ((TM.mk m0 m1 m2 m3 m4 m5 m6 m7 m8 m9 mA mB)).err = 0 ∧ ql l = 0 ∧ ∀ i, i < (c).length → (bxAt c i).err = 0) : AllG (qu c m0 m1 m2 m3 m4 m5 m6 m7 m8 m9 mA mB b0 b1 b2 b3 b4 b5 l d K) (qz Tryz.prog tab Sli99 qy (qu c m0 m1 m2 m3 m4 m5 m6 m7 m8 m9 mA mB b0 b1 b2 b3 b4 b5 l d K) Tryz.f72 (fun r => LeD r (.t (.c (.v (.int .i64 (idxP (fun a => !q0i (TM.mk m0 m1 m2 m3 m4 m5 m6 m7 m8 m9 mA mB) l K a) c))))))) := by
 rw [q0E]
 refine ⟨⟨?_, ?_⟩, trivial⟩
 ·intro F s h
  obtain _ | ⟨g, F⟩ := F
  case cons => exact h.elim
  obtain ⟨w0, rfl, hi⟩ := h
  omega
 ·intro n F s h
  obtain _ | ⟨g, F⟩ := F
  case cons => exact h.elim
  obtain ⟨w0, rfl, hi⟩ := h
  exact cast (by kernel_rfl) (q0r c m0 m1 m2 m3 m4 m5 m6 m7 m8 m9 mA mB b0 b1 b2 b3 b4 b5 l d K _ _ hp hi)
def qK : Con := fun args => match args with
 | [.t (.c (.sl 6 n_c c_c)), .t (.fn 73 [.px 12 0 c_pm, .px 7 0 c_ps, .px 2 0 c_pc])] => some (.t (.c (.v (.int .i64 (idxP (fun a => !q0i (⟨(qb (c_pm 0)), (qb (c_pm 1)), (qb (c_pm 2)), (qb (c_pm 3)), (qb (c_pm 4)), (qb (c_pm 5)), (qb (c_pm 6)), (qb (c_pm 7)), (qb (c_pm 8)), (qb (c_pm 9)), (qb (c_pm 10)), (qb (c_pm 11))⟩ : TM) (qa (q1U (c_ps 6)) qc (q0G (c_ps 6))) (qb (c_pc 1)) a) (qa n_c mkBx c_c))))), some (qj 6 n_c c_c ∧ qQ [0, 1, 2, 3, 4, 5, 6, 7, 8, 9, 10, 11] c_pm = true ∧ qQ [0, 1, 2, 3, 4, 5] c_ps = true ∧ slP 5 (c_ps 6) ∧ qj 5 (q1U (c_ps 6)) (q0G (c_ps 6)) ∧ qQ [1] c_pc = true ∧ slP 6 (c_pc 0) ∧ qj 6 (q1U (c_pc 0)) (q0G (c_pc 0)) ∧ ((qa n_c mkBx c_c)).length ≤ 1000000 ∧ ((⟨(qb (c_pm 0)), (qb (c_pm 1)), (qb (c_pm 2)), (qb (c_pm 3)), (qb (c_pm 4)), (qb (c_pm 5)), (qb (c_pm 6)), (qb (c_pm 7)), (qb (c_pm 8)), (qb (c_pm 9)), (qb (c_pm 10)), (qb (c_pm 11))⟩ : TM)).err = 0 ∧ ql (qa (q1U (c_ps 6)) qc (q0G (c_ps 6))) = 0 ∧ ∀ i, i < ((qa n_c mkBx c_c)).length → (bxAt (qa n_c mkBx c_c) i).err = 0), false)
 | _ => none
theorem q0F : Ok Tryz.prog 72 qK := by
 refine Ok.fn (ann := qy) mixed qo VSli99 VIkv64 (fn := Tryz.f72) (by kernel_rfl) (by kernel_rfl) (by kernel_rfl) fun args r pre fresh h hp => ?_
 unfold qK at h
 split at h
 ·rename_i n_c c_c c_pm c_ps c_pc
  cases h
  obtain ⟨hp0, hp1, hp2, hp3, hp4, hp5, hp6, hp7, hp⟩ := hp
  refine ⟨rfl, qu (qa n_c mkBx c_c) (qb (c_pm 0)) (qb (c_pm 1)) (qb (c_pm 2)) (qb (c_pm 3)) (qb (c_pm 4)) (qb (c_pm 5)) (qb (c_pm 6)) (qb (c_pm 7)) (qb (c_pm 8)) (qb (c_pm 9)) (qb (c_pm 10)) (qb (c_pm 11)) (qb (c_ps 0)) (qb (c_ps 1)) (qb (c_ps 2)) (qb (c_ps 3)) (qb (c_ps 4)) (qb (c_ps 5)) (qa (q1U (c_ps 6)) qc (q0G (c_ps 6))) (qa (q1U (c_pc 0)) mkBx (q0G (c_pc 0))) (qb (c_pc 1)), _, (qk (leT_c ((q6S hp0))) (qk (leT_f (LeCs.cons (leC_p (LeCs.cons (leC_i (qh hp1 0 (by decide))) (LeCs.cons (leC_i (qh hp1 1 (by decide))) (LeCs.cons (leC_i (qh hp1 2 (by decide))) (LeCs.cons (leC_i (qh hp1 3 (by decide))) (LeCs.cons (leC_i (qh hp1 4 (by decide))) (LeCs.cons (leC_i (qh hp1 5 (by decide))) (LeCs.cons (leC_i (qh hp1 6 (by decide))) (LeCs.cons (leC_i (qh hp1 7 (by decide))) (LeCs.cons (leC_i (qh hp1 8 (by decide))) (LeCs.cons (leC_i (qh hp1 9 (by decide))) (LeCs.cons (leC_i (qh hp1 10 (by decide))) (LeCs.cons (leC_i (qh hp1 11 (by decide))) LeCs.nil))))))))))))) (LeCs.cons (leC_p (LeCs.cons (leC_i (qh hp2 0 (by decide))) (LeCs.cons (leC_i (qh hp2 1 (by decide))) (LeCs.cons (leC_i (qh hp2 2 (by decide))) (LeCs.cons (leC_i (qh hp2 3 (by decide))) (LeCs.cons (leC_i (qh hp2 4 (by decide))) (LeCs.cons (leC_i (qh hp2 5 (by decide))) (LeCs.cons (leC_s hp3 (qY hp4)) LeCs.nil)))))))) (LeCs.cons (leC_p (LeCs.cons (leC_s hp6 (q6S hp7)) (LeCs.cons (leC_i (qh hp5 1 (by decide))) LeCs.nil))) LeCs.nil)))) qM)), Nat.le_of_ble_eq_true (by kernel_rfl), ?_, ?_⟩
  ·exact cast (by kernel_rfl) (q0v (qa n_c mkBx c_c) (qb (c_pm 0)) (qb (c_pm 1)) (qb (c_pm 2)) (qb (c_pm 3)) (qb (c_pm 4)) (qb (c_pm 5)) (qb (c_pm 6)) (qb (c_pm 7)) (qb (c_pm 8)) (qb (c_pm 9)) (qb (c_pm 10)) (qb (c_pm 11)) (qb (c_ps 0)) (qb (c_ps 1)) (qb (c_ps 2)) (qb (c_ps 3)) (qb (c_ps 4)) (qb (c_ps 5)) (qa (q1U (c_ps 6)) qc (q0G (c_ps 6))) (qa (q1U (c_pc 0)) mkBx (q0G (c_pc 0))) (qb (c_pc 1)) hp)
  ·exact q0A (qa n_c mkBx c_c) (qb (c_pm 0)) (qb (c_pm 1)) (qb (c_pm 2)) (qb (c_pm 3)) (qb (c_pm 4)) (qb (c_pm 5)) (qb (c_pm 6)) (qb (c_pm 7)) (qb (c_pm 8)) (qb (c_pm 9)) (qb (c_pm 10)) (qb (c_pm 11)) (qb (c_ps 0)) (qb (c_ps 1)) (qb (c_ps 2)) (qb (c_ps 3)) (qb (c_ps 4)) (qb (c_ps 5)) (qa (q1U (c_ps 6)) qc (q0G (c_ps 6))) (qa (q1U (c_pc 0)) mkBx (q0G (c_pc 0))) (qb (c_pc 1)) hp
 ·cases h
def Sli100 : Sum := addF Sli99 72 qK
theorem VSli100 : Valid Tryz.prog Sli100 := Valid.addF VSli99 q0F
def q2K (m0 m1 m2 m3 m4 m5 m6 m7 m8 m9 mA mB b0 b1 b2 b3 b4 b5 : Int) (l : List TH) (c : List TB) (K v0_0 v0_1 : Int) : DS := ⟨[none, none, none, none, some (.t (.c (.p 4 0))), some (.t (.c (.p 5 0))), none, none, some (.t (.c (.p 8 0))), none, some (.t (.c (.v (.int .i64 v0_0)))), none, none, none, none, none, none, none, none, none, none, none, none, none, none, none, none, none, none, none, none, none, none, none, none, none, none, none, some (.t (.c (.sl 6 c.length (bxsC c)))), some (.t (.c (.v (.int .i64 ((c.length : Nat) : Int))))), some (.t (.c (.v (.int .i64 v0_1)))), none, none, none, none, none, none, none, none, none, none, none, none, none, none, none, none, none, none, none, none, none, none, none, none, none, none, none, none, none, none, none, none, none, none, none, none, none, none, none, none, none, none, none, none, none, none, none], [none, none, none, none, some (.box 59 [.v (.int .i64 b0), .v (.int .i64 b1), .v (.int .i64 b2), .v (.int .i64 b3), .v (.int .i64 b4), .v (.int .i64 b5), .sl 5 l.length (qi l)]), some (.box 74 [.sl 6 c.length (bxsC c), .v (.int .i64 K)]), none, none, some (.box 106 [.v (.int .i64 m0), .v (.int .i64 m1), .v (.int .i64 m2), .v (.int .i64 m3), .v (.int .i64 m4), .v (.int .i64 m5), .v (.int .i64 m6), .v (.int .i64 m7), .v (.int .i64 m8), .v (.int .i64 m9), .v (.int .i64 mA), .v (.int .i64 mB)]), none, none, none, none, none, none, none, none, none, none, none, none, none, none, none, none, none, none, none, none, none, none, none, none, none, none, none, none, none, none, none, none, none, none, none, none, none, none, none, none, none, none, none, none, none, none, none, none, none, none, none, none, none, none, none, none, none, none, none, none, none, none, none, none, none, none, none, none, none, none, none, none, none, none, none, none, none, none, none]⟩
def q6y (J : Inv) (m0 m1 m2 m3 m4 m5 m6 m7 m8 m9 mA mB b0 b1 b2 b3 b4 b5 : Int) (l : List TH) (c : List TB) (K : Int) (post : DV → Prop) : Prop := (fun (Z1 : TM) (Z2 : TB) (Z3 : List TH) => (qj 5 l.length (qi l)) ∧ ((qj 1 2 (genC [[.v (.int .i64 (qd [qd [(Z1).err, (Z2).err], ql Z3]))], [.v (.int .i64 (unl (decide (((c.length : Nat) : Int) ≤ (700 : Int))) (8 : Int)))]]) ∧ (([(qd [qd [(Z1).err, (Z2).err], ql Z3]), (unl (decide (((c.length : Nat) : Int) ≤ (700 : Int))) (8 : Int))] : List Int)).length ≤ 100) ∧ (cond ((qd ([(qd [qd [(Z1).err, (Z2).err], ql Z3]), (unl (decide (((c.length : Nat) : Int) ≤ (700 : Int))) (8 : Int))] : List Int)) != (0 : Int)) (post (.tu [.c (.v (.int .i64 0)), .c (.v (.int .i64 (qd ([(qd [qd [(Z1).err, (Z2).err], ql Z3]), (unl (decide (((c.length : Nat) : Int) ≤ (700 : Int))) (8 : Int))] : List Int))))])) (∃ n, J 0 (n :: []) (q2K m0 m1 m2 m3 m4 m5 m6 m7 m8 m9 mA mB b0 b1 b2 b3 b4 b5 l c K 0 0))))) (TM.mk m0 m1 m2 m3 m4 m5 m6 m7 m8 m9 mA mB) (TB.mk (.mk b0 b1 b2) (.mk b3 b4 b5)) (qa l.length qc (qi l))
def q1C : Ann := ⟨fun r => qr r [(13, ([[], [], [1], [0, 1, 2], [0, 1, 2, 3], [], [5], [], [5, 6, 7], [], [0, 1, 2, 3, 4, 5, 6, 7, 8, 9], [0, 1, 2, 3, 4, 5, 6, 7, 8, 9, 10], [0, 1, 2, 3, 4, 5, 6, 7, 8, 9, 10, 11], [0, 1, 2, 3, 4, 5, 6, 7, 8, 9, 10, 11, 12], [0, 1, 2, 3, 4, 5, 6, 7, 8, 9, 10, 11, 12, 13], [0, 1, 2, 3, 4, 5, 6, 7, 8, 9, 10, 11, 12, 13, 14]], [[55, 56, 62, 64, 65, 66], [55, 56, 62, 64, 65, 66], [55, 56, 62, 64, 65, 66], [56, 62, 64, 65, 66], [62, 64, 65, 66], [55, 56, 62, 64, 65, 66], [55, 56, 62, 64, 65, 66], [55, 56, 62, 64, 65, 66], [55, 56, 62, 64, 65, 66], [55, 56, 62, 64, 65, 66], [64, 65, 66], [64, 65, 66], [65, 66], [66], [], []]))], fun b => qr b [(0, (none, some ⟨[4, 5, 8, 10, 38, 39, 40], [4, 5, 8], []⟩))], fun _ => [], Ikv64, false, fun _ => none, fun _ => none⟩
def q5C (J : Inv) (m0 m1 m2 m3 m4 m5 m6 m7 m8 m9 mA mB b0 b1 b2 b3 b4 b5 : Int) (l : List TH) (c : List TB) (K v0_0 v0_1 : Int) (nn0 : Nat) (post : DV → Prop) : Prop := (fun (Z1 : TM) (Z2 : TB) (Z3 : List TB) => cond (decide (v0_1 < ((c.length : Nat) : Int))) ((0 ≤ v0_1 ∧ v0_1 < ((c.length : Nat) : Int)) ∧ (cond ((((⟨⟨((bxAt c v0_1.toNat).lo.x), ((bxAt c v0_1.toNat).lo.y), ((bxAt c v0_1.toNat).lo.z)⟩, ⟨((bxAt c v0_1.toNat).hi.x), ((bxAt c v0_1.toNat).hi.y), ((bxAt c v0_1.toNat).hi.z)⟩⟩ : TB)).err) != (0 : Int)) (post (.tu [.c (.v (.int .i64 v0_1)), .c (.v (.int .i64 (((⟨⟨((bxAt c v0_1.toNat).lo.x), ((bxAt c v0_1.toNat).lo.y), ((bxAt c v0_1.toNat).lo.z)⟩, ⟨((bxAt c v0_1.toNat).hi.x), ((bxAt c v0_1.toNat).hi.y), ((bxAt c v0_1.toNat).hi.z)⟩⟩ : TB)).err)))])) ((0 ≤ (0 : Int) ∧ (0 : Int) ≤ v0_1 ∧ v0_1 ≤ ((c.length : Nat) : Int)) ∧ ((qj 6 ((v0_1 - (0 : Int)).toNat) (fun i j => (bxsC c) (((0 : Int)).toNat + i) j) ∧ qQ [0, 1, 2, 3, 4, 5] (boxC [.v (.int .i64 ((bxAt c v0_1.toNat).lo.x)), .v (.int .i64 ((bxAt c v0_1.toNat).lo.y)), .v (.int .i64 ((bxAt c v0_1.toNat).lo.z)), .v (.int .i64 ((bxAt c v0_1.toNat).hi.x)), .v (.int .i64 ((bxAt c v0_1.toNat).hi.y)), .v (.int .i64 ((bxAt c v0_1.toNat).hi.z))]) = true ∧ ((qa ((v0_1 - (0 : Int)).toNat) mkBx (fun i j => (bxsC c) (((0 : Int)).toNat + i) j))).length ≤ 1000000) ∧ ((qj 1 2 (genC [[.v (.int .i64 (unl (decide (((⟨⟨((bxAt c v0_1.toNat).lo.x), ((bxAt c v0_1.toNat).lo.y), ((bxAt c v0_1.toNat).lo.z)⟩, ⟨((bxAt c v0_1.toNat).hi.x), ((bxAt c v0_1.toNat).hi.y), ((bxAt c v0_1.toNat).hi.z)⟩⟩ : TB)).sub Z2)) (6 : Int)))], [.v (.int .i64 (unl (!(((qa ((v0_1 - (0 : Int)).toNat) mkBx (fun i j => (bxsC c) (((0 : Int)).toNat + i) j))).any (fun a => decide (¬ a.apart (⟨⟨((bxAt c v0_1.toNat).lo.x), ((bxAt c v0_1.toNat).lo.y), ((bxAt c v0_1.toNat).lo.z)⟩, ⟨((bxAt c v0_1.toNat).hi.x), ((bxAt c v0_1.toNat).hi.y), ((bxAt c v0_1.toNat).hi.z)⟩⟩ : TB))))) (23 : Int)))]]) ∧ (([(unl (decide (((⟨⟨((bxAt c v0_1.toNat).lo.x), ((bxAt c v0_1.toNat).lo.y), ((bxAt c v0_1.toNat).lo.z)⟩, ⟨((bxAt c v0_1.toNat).hi.x), ((bxAt c v0_1.toNat).hi.y), ((bxAt c v0_1.toNat).hi.z)⟩⟩ : TB)).sub Z2)) (6 : Int)), (unl (!(((qa ((v0_1 - (0 : Int)).toNat) mkBx (fun i j => (bxsC c) (((0 : Int)).toNat + i) j))).any (fun a => decide (¬ a.apart (⟨⟨((bxAt c v0_1.toNat).lo.x), ((bxAt c v0_1.toNat).lo.y), ((bxAt c v0_1.toNat).lo.z)⟩, ⟨((bxAt c v0_1.toNat).hi.x), ((bxAt c v0_1.toNat).hi.y), ((bxAt c v0_1.toNat).hi.z)⟩⟩ : TB))))) (23 : Int))] : List Int)).length ≤ 100) ∧ (cond ((qd ([(unl (decide (((⟨⟨((bxAt c v0_1.toNat).lo.x), ((bxAt c v0_1.toNat).lo.y), ((bxAt c v0_1.toNat).lo.z)⟩, ⟨((bxAt c v0_1.toNat).hi.x), ((bxAt c v0_1.toNat).hi.y), ((bxAt c v0_1.toNat).hi.z)⟩⟩ : TB)).sub Z2)) (6 : Int)), (unl (!(((qa ((v0_1 - (0 : Int)).toNat) mkBx (fun i j => (bxsC c) (((0 : Int)).toNat + i) j))).any (fun a => decide (¬ a.apart (⟨⟨((bxAt c v0_1.toNat).lo.x), ((bxAt c v0_1.toNat).lo.y), ((bxAt c v0_1.toNat).lo.z)⟩, ⟨((bxAt c v0_1.toNat).hi.x), ((bxAt c v0_1.toNat).hi.y), ((bxAt c v0_1.toNat).hi.z)⟩⟩ : TB))))) (23 : Int))] : List Int)) != (0 : Int)) (post (.tu [.c (.v (.int .i64 v0_1)), .c (.v (.int .i64 (qd ([(unl (decide (((⟨⟨((bxAt c v0_1.toNat).lo.x), ((bxAt c v0_1.toNat).lo.y), ((bxAt c v0_1.toNat).lo.z)⟩, ⟨((bxAt c v0_1.toNat).hi.x), ((bxAt c v0_1.toNat).hi.y), ((bxAt c v0_1.toNat).hi.z)⟩⟩ : TB)).sub Z2)) (6 : Int)), (unl (!(((qa ((v0_1 - (0 : Int)).toNat) mkBx (fun i j => (bxsC c) (((0 : Int)).toNat + i) j))).any (fun a => decide (¬ a.apart (⟨⟨((bxAt c v0_1.toNat).lo.x), ((bxAt c v0_1.toNat).lo.y), ((bxAt c v0_1.toNat).lo.z)⟩, ⟨((bxAt c v0_1.toNat).hi.x), ((bxAt c v0_1.toNat).hi.y), ((bxAt c v0_1.toNat).hi.z)⟩⟩ : TB))))) (23 : Int))] : List Int))))])) ((((⟨⟨((bxAt c v0_1.toNat).lo.x), ((bxAt c v0_1.toNat).lo.y), ((bxAt c v0_1.toNat).lo.z)⟩, ⟨((bxAt c v0_1.toNat).hi.x), ((bxAt c v0_1.toNat).hi.y), ((bxAt c v0_1.toNat).hi.z)⟩⟩ : TB)).lo.inS 20 = true ∧ ((⟨⟨((bxAt c v0_1.toNat).lo.x), ((bxAt c v0_1.toNat).lo.y), ((bxAt c v0_1.toNat).lo.z)⟩, ⟨((bxAt c v0_1.toNat).hi.x), ((bxAt c v0_1.toNat).hi.y), ((bxAt c v0_1.toNat).hi.z)⟩⟩ : TB)).hi.inS 20 = true ∧ ((⟨⟨((bxAt c v0_1.toNat).lo.x), ((bxAt c v0_1.toNat).lo.y), ((bxAt c v0_1.toNat).lo.z)⟩, ⟨((bxAt c v0_1.toNat).hi.x), ((bxAt c v0_1.toNat).hi.y), ((bxAt c v0_1.toNat).hi.z)⟩⟩ : TB)).ok) ∧ (lt (IntKind.i64.wrap (v0_0 + (((⟨⟨((bxAt c v0_1.toNat).lo.x), ((bxAt c v0_1.toNat).lo.y), ((bxAt c v0_1.toNat).lo.z)⟩, ⟨((bxAt c v0_1.toNat).hi.x), ((bxAt c v0_1.toNat).hi.y), ((bxAt c v0_1.toNat).hi.z)⟩⟩ : TB)).count))) fun x1 => lt (IntKind.i64.wrap (v0_1 + (1 : Int))) fun x2 => J 0 (nn0 :: []) (q2K m0 m1 m2 m3 m4 m5 m6 m7 m8 m9 mA mB b0 b1 b2 b3 b4 b5 l c K x1 x2))))))))) (((Z2).lo.inS 20 = true ∧ (Z2).hi.inS 20 = true ∧ (Z2).ok) ∧ (cond (decide (v0_0 < ((Z2).count))) (post (.tu [.c (.v (.int .i64 0)), .c (.v (.int .i64 14))])) ((qj 6 c.length (bxsC c) ∧ qQ [0, 1, 2, 3, 4, 5, 6, 7, 8, 9, 10, 11] (boxC [.v (.int .i64 m0), .v (.int .i64 m1), .v (.int .i64 m2), .v (.int .i64 m3), .v (.int .i64 m4), .v (.int .i64 m5), .v (.int .i64 m6), .v (.int .i64 m7), .v (.int .i64 m8), .v (.int .i64 m9), .v (.int .i64 mA), .v (.int .i64 mB)]) = true ∧ qQ [0, 1, 2, 3, 4, 5] (boxC [.v (.int .i64 b0), .v (.int .i64 b1), .v (.int .i64 b2), .v (.int .i64 b3), .v (.int .i64 b4), .v (.int .i64 b5), .sl 5 l.length (qi l)]) = true ∧ slP 5 ((boxC [.v (.int .i64 b0), .v (.int .i64 b1), .v (.int .i64 b2), .v (.int .i64 b3), .v (.int .i64 b4), .v (.int .i64 b5), .sl 5 l.length (qi l)]) 6) ∧ qj 5 l.length (qi l) ∧ qQ [1] (boxC [.sl 6 c.length (bxsC c), .v (.int .i64 K)]) = true ∧ slP 6 ((boxC [.sl 6 c.length (bxsC c), .v (.int .i64 K)]) 0) ∧ qj 6 c.length (bxsC c) ∧ (Z3).length ≤ 1000000 ∧ (Z1).err = 0 ∧ ql (qa l.length qc (qi l)) = 0 ∧ ∀ i, i < (Z3).length → (bxAt Z3 i).err = 0) ∧ (cond (decide ((idxP (fun a => !q0i Z1 (qa l.length qc (qi l)) K a) Z3) ≥ (0 : Int))) (post (.tu [.c (.v (.int .i64 (idxP (fun a => !q0i Z1 (qa l.length qc (qi l)) K a) Z3))), .c (.v (.int .i64 19))])) (post (.tu [.c (.v (.int .i64 0)), .c (.v (.int .i64 0))]))))))) (TM.mk m0 m1 m2 m3 m4 m5 m6 m7 m8 m9 mA mB) (TB.mk (.mk b0 b1 b2) (.mk b3 b4 b5)) (qa c.length mkBx (bxsC c))
theorem qcx (J : Inv) (post : DV → Prop) : AllG J (qz Tryz.prog tab Sli100 q1C J Tryz.f31 post) = (((∀ F s, ¬ J 0 (0 :: F) s) ∧ ∀ n F s, J 0 ((n + 1) :: F) s → round Tryz.prog tab Sli100 q1C J Tryz.f31 post 0 (n :: F) s) ∧ True) := by kernel_rfl
def q1l (m0 m1 m2 m3 m4 m5 m6 m7 m8 m9 mA mB b0 b1 b2 b3 b4 b5 : Int) (l : List TH) (c : List TB) (K : Int) : Inv := fun b F s => match b, F with
 | 0, [nn0] => ∃ (v0_0 : Int) (v0_1 : Int), s = q2K m0 m1 m2 m3 m4 m5 m6 m7 m8 m9 mA mB b0 b1 b2 b3 b4 b5 l c K v0_0 v0_1 ∧ (0 ≤ v0_1 ∧ v0_1 ≤ c.length ∧ (nn0 : Int) + v0_1 = c.length + 1 ∧ cvE0 (TM.mk m0 m1 m2 m3 m4 m5 m6 m7 m8 m9 mA mB) (TB.mk (.mk b0 b1 b2) (.mk b3 b4 b5)) l c = 0 ∧ (∀ j : Nat, (j : Int) < v0_1 → bxE (TB.mk (.mk b0 b1 b2) (.mk b3 b4 b5)) c j = 0) ∧ v0_0 = sumC (c.take v0_1.toNat))
 | _, _ => False
set_option maxHeartbeats 8000000 in
theorem qa8 (m0 m1 m2 m3 m4 m5 m6 m7 m8 m9 mA mB b0 b1 b2 b3 b4 b5 : Int) (l : List TH) (c : List TB) (K v0_0 v0_1 : Int) (nn0 : Nat) (hi : 0 ≤ v0_1 ∧ v0_1 ≤ c.length ∧ ((nn0 + 1) : Int) + v0_1 = c.length + 1 ∧ cvE0 (TM.mk m0 m1 m2 m3 m4 m5 m6 m7 m8 m9 mA mB) (TB.mk (.mk b0 b1 b2) (.mk b3 b4 b5)) l c = 0 ∧ (∀ j : Nat, (j : Int) < v0_1 → bxE (TB.mk (.mk b0 b1 b2) (.mk b3 b4 b5)) c j = 0) ∧ v0_0 = sumC (c.take v0_1.toNat)) : q5C (q1l m0 m1 m2 m3 m4 m5 m6 m7 m8 m9 mA mB b0 b1 b2 b3 b4 b5 l c K) m0 m1 m2 m3 m4 m5 m6 m7 m8 m9 mA mB b0 b1 b2 b3 b4 b5 l c K v0_0 v0_1 nn0 (fun r => LeD r (.tu [.c (.v (.int .i64 ((cvR (TM.mk m0 m1 m2 m3 m4 m5 m6 m7 m8 m9 mA mB) (TB.mk (.mk b0 b1 b2) (.mk b3 b4 b5)) l c K).1))), .c (.v (.int .i64 ((cvR (TM.mk m0 m1 m2 m3 m4 m5 m6 m7 m8 m9 mA mB) (TB.mk (.mk b0 b1 b2) (.mk b3 b4 b5)) l c K).2)))])) := by
 obtain ⟨i1, i2, i3, i4, i5, i6⟩ := hi
 obtain ⟨k, rfl⟩ : ∃ k : Nat, v0_1 = k := ⟨v0_1.toNat, by omega⟩
 have hk : (k : Int).toNat = k := rfl
 rw [hk] at i6
 obtain ⟨hm, hb, hh, hlen⟩ := cvE0_ok i4
 have hin := q0Z hb
 have hz : ∀ j, j < k → bxE (TB.mk (.mk b0 b1 b2) (.mk b3 b4 b5)) c j = 0 := fun j hj => i5 j (by omega)
 have hCV : cvR (TM.mk m0 m1 m2 m3 m4 m5 m6 m7 m8 m9 mA mB) (TB.mk (.mk b0 b1 b2) (.mk b3 b4 b5)) l c K = if scan (bxE (TB.mk (.mk b0 b1 b2) (.mk b3 b4 b5)) c) c.length ≠ 0 then (qc3 (bxE (TB.mk (.mk b0 b1 b2) (.mk b3 b4 b5)) c) c.length, scan (bxE (TB.mk (.mk b0 b1 b2) (.mk b3 b4 b5)) c) c.length) else if sumC c < (TB.mk (.mk b0 b1 b2) (.mk b3 b4 b5)).count then (0, 14) else if 0 ≤ idxP (fun a => !q0i (TM.mk m0 m1 m2 m3 m4 m5 m6 m7 m8 m9 mA mB) l K a) c then (idxP (fun a => !q0i (TM.mk m0 m1 m2 m3 m4 m5 m6 m7 m8 m9 mA mB) l K a) c, 19) else (0, 0) := if_neg (by rw [i4]; simp)
 unfold q5C
 rw [hk]
 simp only [qP, qiP]
 refine qg (fun h => ?_) (fun h => ?_)
 ·have hlt : k < c.length := by have := of_decide_eq_true h; omega
  have hat : ∀ x, x ≠ 0 → bxE (TB.mk (.mk b0 b1 b2) (.mk b3 b4 b5)) c k = x → cvR (TM.mk m0 m1 m2 m3 m4 m5 m6 m7 m8 m9 mA mB) (TB.mk (.mk b0 b1 b2) (.mk b3 b4 b5)) l c K = ((k : Int), x) := by
   intro x hx e
   have e1 := q8d hz hlt (by rw [e]; exact hx)
   have e2 := qf6 hz hlt (by rw [e]; exact hx)
   rw [hCV, if_pos (by rw [e1, e]; exact hx), e1, e2, e]
  have hpart : qa (((k : Int) - (0 : Int)).toNat) mkBx (fun i j => (bxsC c) (((0 : Int)).toNat + i) j) = c.take k := by
   rw [bxs_part c (lo := (0 : Int).toNat) (n := ((k : Int) - 0).toNat) (by simp; omega)]; simp
  have hE : bxE (TB.mk (.mk b0 b1 b2) (.mk b3 b4 b5)) c k = if (bxAt c k).err ≠ 0 then (bxAt c k).err else qd [unl (decide ((bxAt c k).sub (TB.mk (.mk b0 b1 b2) (.mk b3 b4 b5)))) 6, unl (!((c.take k).any (fun a => decide (¬ a.apart (bxAt c k))))) 23] := rfl
  rw [hpart]
  have eb : ∀ q : TB, (TB.mk (.mk q.lo.x q.lo.y q.lo.z) (.mk q.hi.x q.hi.y q.hi.z)) = q := fun q => rfl
  simp only [eb]
  refine ⟨by omega, qg (fun e => ?_) (fun e => ⟨by omega, ⟨qkp c (by simp; omega), rfl, by simp; omega⟩, ⟨q0n [_, _], Nat.le_of_ble_eq_true rfl⟩, qg (fun e2 => ?_) (fun e2 => ⟨?_, lt_i fun x1 h1 => lt_i fun x2 h2 => ?_⟩)⟩)⟩
  ·have e : (bxAt c k).err ≠ 0 := by simpa using e
   rw [hat _ e (by rw [hE, if_pos e])]; exact LeD.refl _
  ·have e : (bxAt c k).err = 0 := by simpa using e
   have e2 : qd [unl (decide ((bxAt c k).sub (TB.mk (.mk b0 b1 b2) (.mk b3 b4 b5)))) 6, unl (!((c.take k).any (fun a => decide (¬ a.apart (bxAt c k))))) 23] ≠ 0 := by simpa using e2
   rw [hat _ e2 (by rw [hE, if_neg (by rw [e]; simp)])]; exact LeD.refl _
  ·have e : (bxAt c k).err = 0 := by simpa using e
   exact ⟨(q0Z e).1, (q0Z e).2, q0c e⟩
  ·have e : (bxAt c k).err = 0 := by simpa using e
   have e2 : qd [unl (decide ((bxAt c k).sub (TB.mk (.mk b0 b1 b2) (.mk b3 b4 b5)))) 6, unl (!((c.take k).any (fun a => decide (¬ a.apart (bxAt c k))))) 23] = 0 := by simpa using e2
   have hnew : ∀ j : Nat, (j : Int) < k + 1 → bxE (TB.mk (.mk b0 b1 b2) (.mk b3 b4 b5)) c j = 0 := fun j hj => by
    by_cases q : j = k
    ·rw [q, hE, if_neg (by rw [e]; simp), e2]
    ·exact hz j (by omega)
   have b1 := sumC_bd (b := (TB.mk (.mk b0 b1 b2) (.mk b3 b4 b5))) c (k := k) hz
   have b2 := q0Y e
   rw [IntWalk.i64_in _ (by omega)] at h1
   rw [IntWalk.i64_in _ (by omega)] at h2
   subst h1; subst h2
   refine ⟨_, _, rfl, by omega, by omega, by omega, i4, hnew, ?_⟩
   rw [show ((k : Int) + 1).toNat = k + 1 by omega, qiQ hlt, qfb, i6]
   simp [sumC]
 ·have hge : k = c.length := by have := of_decide_eq_false h; omega
  subst hge
  rw [List.take_length] at i6
  have e0 : scan (bxE (TB.mk (.mk b0 b1 b2) (.mk b3 b4 b5)) c) c.length = 0 := q3T hz
  rw [if_neg (by rw [e0]; simp)] at hCV
  refine ⟨⟨hin.1, hin.2, q0c hb⟩, qg (fun e => ?_) (fun e => ⟨⟨q5y c, rfl, rfl, rfl, qA l, rfl, rfl, q5y c, by omega, hm, hh, fun i hi => bxE_err (hz i hi)⟩, qg (fun e2 => ?_) (fun e2 => ?_)⟩)⟩
  ·have e := of_decide_eq_true e
   rw [i6] at e
   rw [hCV, if_pos e]; exact LeD.refl _
  ·have e := of_decide_eq_false e
   rw [i6] at e
   have e2 := of_decide_eq_true e2
   rw [hCV, if_neg e, if_pos e2]; exact LeD.refl _
  ·have e := of_decide_eq_false e
   rw [i6] at e
   have e2 := of_decide_eq_false e2
   rw [hCV, if_neg e, if_neg e2]; exact LeD.refl _
set_option maxHeartbeats 8000000 in
theorem qaY (m0 m1 m2 m3 m4 m5 m6 m7 m8 m9 mA mB b0 b1 b2 b3 b4 b5 : Int) (l : List TH) (c : List TB) (K : Int) : q6y (q1l m0 m1 m2 m3 m4 m5 m6 m7 m8 m9 mA mB b0 b1 b2 b3 b4 b5 l c K) m0 m1 m2 m3 m4 m5 m6 m7 m8 m9 mA mB b0 b1 b2 b3 b4 b5 l c K (fun r => LeD r (.tu [.c (.v (.int .i64 ((cvR (TM.mk m0 m1 m2 m3 m4 m5 m6 m7 m8 m9 mA mB) (TB.mk (.mk b0 b1 b2) (.mk b3 b4 b5)) l c K).1))), .c (.v (.int .i64 ((cvR (TM.mk m0 m1 m2 m3 m4 m5 m6 m7 m8 m9 mA mB) (TB.mk (.mk b0 b1 b2) (.mk b3 b4 b5)) l c K).2)))])) := by
 unfold q6y
 simp only [qP]
 refine ⟨qA l, ⟨q0n [_, _], Nat.le_of_ble_eq_true rfl⟩, qg (fun h => ?_) (fun h => ?_)⟩
 ·have h : cvE0 (TM.mk m0 m1 m2 m3 m4 m5 m6 m7 m8 m9 mA mB) (TB.mk (.mk b0 b1 b2) (.mk b3 b4 b5)) l c ≠ 0 := by unfold cvE0; simpa using h
  rw [show cvR (TM.mk m0 m1 m2 m3 m4 m5 m6 m7 m8 m9 mA mB) (TB.mk (.mk b0 b1 b2) (.mk b3 b4 b5)) l c K = (0, cvE0 (TM.mk m0 m1 m2 m3 m4 m5 m6 m7 m8 m9 mA mB) (TB.mk (.mk b0 b1 b2) (.mk b3 b4 b5)) l c) from if_pos h]
  exact LeD.refl _
 ·have h : cvE0 (TM.mk m0 m1 m2 m3 m4 m5 m6 m7 m8 m9 mA mB) (TB.mk (.mk b0 b1 b2) (.mk b3 b4 b5)) l c = 0 := by unfold cvE0; simpa using h
  exact ⟨c.length + 1, 0, 0, rfl, by omega, by omega, by omega, h, fun j hj => by omega, by simp [sumC]⟩
theorem qbV (m0 m1 m2 m3 m4 m5 m6 m7 m8 m9 mA mB b0 b1 b2 b3 b4 b5 : Int) (l : List TH) (c : List TB) (K : Int) : AllG (q1l m0 m1 m2 m3 m4 m5 m6 m7 m8 m9 mA mB b0 b1 b2 b3 b4 b5 l c K) (qz Tryz.prog tab Sli100 q1C (q1l m0 m1 m2 m3 m4 m5 m6 m7 m8 m9 mA mB b0 b1 b2 b3 b4 b5 l c K) Tryz.f31 (fun r => LeD r (.tu [.c (.v (.int .i64 ((cvR (TM.mk m0 m1 m2 m3 m4 m5 m6 m7 m8 m9 mA mB) (TB.mk (.mk b0 b1 b2) (.mk b3 b4 b5)) l c K).1))), .c (.v (.int .i64 ((cvR (TM.mk m0 m1 m2 m3 m4 m5 m6 m7 m8 m9 mA mB) (TB.mk (.mk b0 b1 b2) (.mk b3 b4 b5)) l c K).2)))]))) := by
 rw [qcx]
 refine ⟨⟨?_, ?_⟩, trivial⟩
 ·intro F s h
  obtain _ | ⟨g, F⟩ := F
  case cons => exact h.elim
  obtain ⟨w0, w1, rfl, hi⟩ := h
  omega
 ·intro n F s h
  obtain _ | ⟨g, F⟩ := F
  case cons => exact h.elim
  obtain ⟨w0, w1, rfl, hi⟩ := h
  exact cast (by kernel_rfl) (qa8 m0 m1 m2 m3 m4 m5 m6 m7 m8 m9 mA mB b0 b1 b2 b3 b4 b5 l c K _ _ _ hi)
def q3m : Con := fun args => match args with
 | [.t (.a [.v (.int .i64 m0), .v (.int .i64 m1), .v (.int .i64 m2), .v (.int .i64 m3), .v (.int .i64 m4), .v (.int .i64 m5), .v (.int .i64 m6), .v (.int .i64 m7), .v (.int .i64 m8), .v (.int .i64 m9), .v (.int .i64 mA), .v (.int .i64 mB)]), .t (.a [.v (.int .i64 b0), .v (.int .i64 b1), .v (.int .i64 b2), .v (.int .i64 b3), .v (.int .i64 b4), .v (.int .i64 b5), .sl 5 n_l c_l]), .t (.a [.sl 6 n_c c_c, .v (.int .i64 K)])] => some (.tu [.c (.v (.int .i64 ((cvR (TM.mk m0 m1 m2 m3 m4 m5 m6 m7 m8 m9 mA mB) (TB.mk (.mk b0 b1 b2) (.mk b3 b4 b5)) (qa n_l qc c_l) (qa n_c mkBx c_c) K).1))), .c (.v (.int .i64 ((cvR (TM.mk m0 m1 m2 m3 m4 m5 m6 m7 m8 m9 mA mB) (TB.mk (.mk b0 b1 b2) (.mk b3 b4 b5)) (qa n_l qc c_l) (qa n_c mkBx c_c) K).2)))], some (qj 5 n_l c_l ∧ qj 6 n_c c_c), false)
 | _ => none
theorem qcy : Ok Tryz.prog 31 q3m := by
 refine Ok.fn (ann := q1C) mixed qo VSli100 VIkv64 (fn := Tryz.f31) (by kernel_rfl) (by kernel_rfl) (by kernel_rfl) fun args r pre fresh h hp => ?_
 unfold q3m at h
 split at h
 ·rename_i m0 m1 m2 m3 m4 m5 m6 m7 m8 m9 mA mB b0 b1 b2 b3 b4 b5 n_l c_l n_c c_c K
  cases h
  obtain ⟨hp0, hp1⟩ := hp
  refine ⟨rfl, q1l m0 m1 m2 m3 m4 m5 m6 m7 m8 m9 mA mB b0 b1 b2 b3 b4 b5 (qa n_l qc c_l) (qa n_c mkBx c_c) K, _, (qk (LeD.refl _) (qk (leT_a (LeCs.cons (LeC1.refl _) (LeCs.cons (LeC1.refl _) (LeCs.cons (LeC1.refl _) (LeCs.cons (LeC1.refl _) (LeCs.cons (LeC1.refl _) (LeCs.cons (LeC1.refl _) (LeCs.cons ((qY hp0)) LeCs.nil)))))))) (qk (leT_a (LeCs.cons ((q6S hp1)) (LeCs.cons (LeC1.refl _) LeCs.nil))) qM))), Nat.le_of_ble_eq_true (by kernel_rfl), ?_, ?_⟩
  ·exact cast (by kernel_rfl) (qaY m0 m1 m2 m3 m4 m5 m6 m7 m8 m9 mA mB b0 b1 b2 b3 b4 b5 (qa n_l qc c_l) (qa n_c mkBx c_c) K)
  ·exact qbV m0 m1 m2 m3 m4 m5 m6 m7 m8 m9 mA mB b0 b1 b2 b3 b4 b5 (qa n_l qc c_l) (qa n_c mkBx c_c) K
 ·cases h
def Sli101 : Sum := addS Sli100 31 q3m
theorem VSli101 : Valid Tryz.prog Sli101 := Valid.add VSli100 qcy
def q3n (m0 m1 m2 m3 m4 m5 m6 m7 m8 m9 mA mB s0 s1 s2 : Int) (l : List V3) (v0_0 : List (List CV)) (v0_1 : Int) : DS := ⟨[none, none, none, none, none, none, none, none, some (.t (.c (.p 8 0))), some (.t (.c (.p 9 0))), none, some (.t (.c (.os 11))), none, none, none, none, none, none, none, none, none, none, none, none, none, none, none, none, none, none, none, none, none, none, some (.t (.c (.sl 3 l.length (plsC l)))), some (.t (.c (.v (.int .i64 ((l.length : Nat) : Int))))), some (.t (.c (.v (.int .i64 v0_1)))), none, none, none, none, none, none, none, none, none, none, none, none, none, none, none, none, none, none, none, none, none, none, none, none, none, none, none, none, none, none], [none, none, none, none, none, none, none, none, some (.box 106 [.v (.int .i64 m0), .v (.int .i64 m1), .v (.int .i64 m2), .v (.int .i64 m3), .v (.int .i64 m4), .v (.int .i64 m5), .v (.int .i64 m6), .v (.int .i64 m7), .v (.int .i64 m8), .v (.int .i64 m9), .v (.int .i64 mA), .v (.int .i64 mB)]), some (.box 107 [.v (.int .i64 s0), .v (.int .i64 s1), .v (.int .i64 s2)]), none, some (.gen 57 5 v0_0), none, none, none, none, none, none, none, none, none, none, none, none, none, none, none, none, none, none, none, none, none, none, none, none, none, none, none, none, none, none, none, none, none, none, none, none, none, none, none, none, none, none, none, none, none, none, none, none, none, none, none, none, none, none, none]⟩
def q7t (J : Inv) (m0 m1 m2 m3 m4 m5 m6 m7 m8 m9 mA mB s0 s1 s2 : Int) (l : List V3) (post : DV → Prop) : Prop := (fun (Z1 : TM) => (qj 1 2 (genC [[.v (.int .i64 ((Z1).both (V3.mk s0 s1 s2)))], [.v (.int .i64 (unl (decide (((l.length : Nat) : Int) ≤ (12 : Int))) (8 : Int)))]]) ∧ (([((Z1).both (V3.mk s0 s1 s2)), (unl (decide (((l.length : Nat) : Int) ≤ (12 : Int))) (8 : Int))] : List Int)).length ≤ 100) ∧ (cond ((qd ([((Z1).both (V3.mk s0 s1 s2)), (unl (decide (((l.length : Nat) : Int) ≤ (12 : Int))) (8 : Int))] : List Int)) != (0 : Int)) (post (.tu [.c (.v (.slice none 0 0)), .c (.v (.int .i64 (qd ([((Z1).both (V3.mk s0 s1 s2)), (unl (decide (((l.length : Nat) : Int) ≤ (12 : Int))) (8 : Int))] : List Int))))])) (∃ n, J 0 (n :: []) (q3n m0 m1 m2 m3 m4 m5 m6 m7 m8 m9 mA mB s0 s1 s2 l ([]) 0)))) (TM.mk m0 m1 m2 m3 m4 m5 m6 m7 m8 m9 mA mB)
def q1T : Ann := ⟨fun _ => none, fun b => qr b [(0, (none, some ⟨[8, 9, 34, 35, 36], [8, 9], [(11, .gen 57 5 [])]⟩))], fun _ => [], Ikv64, true, fun _ => none, fun _ => none⟩
def q6j (J : Inv) (m0 m1 m2 m3 m4 m5 m6 m7 m8 m9 mA mB s0 s1 s2 : Int) (l : List V3) (v0_0 : List (List CV)) (v0_1 : Int) (nn0 : Nat) (post : DV → Prop) : Prop := (fun (Z1 : TM) (Z2 : V3) => cond (decide (v0_1 < ((l.length : Nat) : Int))) ((0 ≤ v0_1 ∧ v0_1 < ((l.length : Nat) : Int)) ∧ (cond ((plE (plAt l v0_1.toNat)) != (0 : Int)) (post (.tu [.c (.v (.slice none 0 0)), .c (.v (.int .i64 (plE (plAt l v0_1.toNat))))])) (((Z1).Ok ∧ (Z2 : V3).inS 20 = true ∧ (Z1).permit Z2 ∧ ((plAt l v0_1.toNat) : V3).inS 1000 = true) ∧ (cond (!(inB ((Z1).first Z2 (plAt l v0_1.toNat)) (-1000000) 1000000)) ((true = true) ∧ (post (.tu [.c (.v (.slice none 0 0)), .c (.v (.int .i64 22))]))) (cond ((tmE ((Z1).first Z2 (plAt l v0_1.toNat))) != (0 : Int)) (post (.tu [.c (.v (.slice none 0 0)), .c (.v (.int .i64 22))])) ((q0k 40 (v0_0.length + ([[.v (.int .i64 ((plAt l v0_1.toNat).x)), .v (.int .i64 ((plAt l v0_1.toNat).y)), .v (.int .i64 ((plAt l v0_1.toNat).z)), .v (.int .i64 ((Z1).first Z2 (plAt l v0_1.toNat))), .v (.int .i64 1)]] : List (List CV)).length)) ∧ (lt (IntKind.i64.wrap (v0_1 + (1 : Int))) fun x1 => J 0 (nn0 :: []) (q3n m0 m1 m2 m3 m4 m5 m6 m7 m8 m9 mA mB s0 s1 s2 l (v0_0 ++ ([[.v (.int .i64 ((plAt l v0_1.toNat).x)), .v (.int .i64 ((plAt l v0_1.toNat).y)), .v (.int .i64 ((plAt l v0_1.toNat).z)), .v (.int .i64 ((Z1).first Z2 (plAt l v0_1.toNat))), .v (.int .i64 1)]] : List (List CV))) x1)))))))) (post (.tu [.c (.sl 5 v0_0.length (genC v0_0)), .c (.v (.int .i64 0))]))) (TM.mk m0 m1 m2 m3 m4 m5 m6 m7 m8 m9 mA mB) (V3.mk s0 s1 s2)
theorem qdu (J : Inv) (post : DV → Prop) : AllG J (qz Tryz.prog tab Sli101 q1T J Tryz.f24 post) = (((∀ F s, ¬ J 0 (0 :: F) s) ∧ ∀ n F s, J 0 ((n + 1) :: F) s → round Tryz.prog tab Sli101 q1T J Tryz.f24 post 0 (n :: F) s) ∧ True) := by kernel_rfl
def q1w (m0 m1 m2 m3 m4 m5 m6 m7 m8 m9 mA mB s0 s1 s2 : Int) (l : List V3) : Inv := fun b F s => match b, F with
 | 0, [nn0] => ∃ (v0_0 : List (List CV)) (v0_1 : Int), s = q3n m0 m1 m2 m3 m4 m5 m6 m7 m8 m9 mA mB s0 s1 s2 l v0_0 v0_1 ∧ (0 ≤ v0_1 ∧ v0_1 ≤ l.length ∧ (nn0 : Int) + v0_1 = l.length + 1 ∧ qd [(TM.mk m0 m1 m2 m3 m4 m5 m6 m7 m8 m9 mA mB).both (V3.mk s0 s1 s2), unl (decide (((l.length : Nat) : Int) ≤ (12 : Int))) (8 : Int)] = 0 ∧ (∀ j : Nat, (j : Int) < v0_1 → q1f (TM.mk m0 m1 m2 m3 m4 m5 m6 m7 m8 m9 mA mB) (V3.mk s0 s1 s2) (plAt l j) = 0) ∧ v0_0 = ((l.take v0_1.toNat).map (q3u (TM.mk m0 m1 m2 m3 m4 m5 m6 m7 m8 m9 mA mB) (V3.mk s0 s1 s2))).map qf)
 | _, _ => False
set_option maxHeartbeats 8000000 in
theorem qaZ (m0 m1 m2 m3 m4 m5 m6 m7 m8 m9 mA mB s0 s1 s2 : Int) (l : List V3) (v0_0 : List (List CV)) (v0_1 : Int) (nn0 : Nat) (hi : 0 ≤ v0_1 ∧ v0_1 ≤ l.length ∧ ((nn0 + 1) : Int) + v0_1 = l.length + 1 ∧ qd [(TM.mk m0 m1 m2 m3 m4 m5 m6 m7 m8 m9 mA mB).both (V3.mk s0 s1 s2), unl (decide (((l.length : Nat) : Int) ≤ (12 : Int))) (8 : Int)] = 0 ∧ (∀ j : Nat, (j : Int) < v0_1 → q1f (TM.mk m0 m1 m2 m3 m4 m5 m6 m7 m8 m9 mA mB) (V3.mk s0 s1 s2) (plAt l j) = 0) ∧ v0_0 = ((l.take v0_1.toNat).map (q3u (TM.mk m0 m1 m2 m3 m4 m5 m6 m7 m8 m9 mA mB) (V3.mk s0 s1 s2))).map qf) : q6j (q1w m0 m1 m2 m3 m4 m5 m6 m7 m8 m9 mA mB s0 s1 s2 l) m0 m1 m2 m3 m4 m5 m6 m7 m8 m9 mA mB s0 s1 s2 l v0_0 v0_1 nn0 (fun r => LeD r (.tu [.c (.sl 5 ((simL (TM.mk m0 m1 m2 m3 m4 m5 m6 m7 m8 m9 mA mB) (V3.mk s0 s1 s2) l).length) (qi (simL (TM.mk m0 m1 m2 m3 m4 m5 m6 m7 m8 m9 mA mB) (V3.mk s0 s1 s2) l))), .c (.v (.int .i64 (simE (TM.mk m0 m1 m2 m3 m4 m5 m6 m7 m8 m9 mA mB) (V3.mk s0 s1 s2) l)))])) := by
 obtain ⟨i1, i2, i3, i4, i5, i6⟩ := hi
 obtain ⟨k, rfl⟩ : ∃ k : Nat, v0_1 = k := ⟨v0_1.toNat, by omega⟩
 have hk : (k : Int).toNat = k := rfl
 rw [hk] at i6
 have hz : ∀ j, j < k → q1f (TM.mk m0 m1 m2 m3 m4 m5 m6 m7 m8 m9 mA mB) (V3.mk s0 s1 s2) (plAt l j) = 0 := fun j hj => i5 j (by omega)
 obtain ⟨f1, f2⟩ := fn2 i4
 obtain ⟨f3, f4⟩ := fn2 f1
 rw [unl_0 (by decide)] at f2
 have hlen : l.length ≤ 12 := by have := of_decide_eq_true f2; omega
 have hE : simE (TM.mk m0 m1 m2 m3 m4 m5 m6 m7 m8 m9 mA mB) (V3.mk s0 s1 s2) l = scan (fun i => q1f (TM.mk m0 m1 m2 m3 m4 m5 m6 m7 m8 m9 mA mB) (V3.mk s0 s1 s2) (plAt l i)) l.length := if_neg (by rw [i4]; simp)
 unfold q6j
 rw [hk]
 refine qg (fun h => ?_) (fun h => ?_)
 ·have hlt : k < l.length := by have := of_decide_eq_true h; omega
  have hat : ∀ c, c ≠ 0 → q1f (TM.mk m0 m1 m2 m3 m4 m5 m6 m7 m8 m9 mA mB) (V3.mk s0 s1 s2) (plAt l k) = c → LeD (.tu [.c (.v (.slice none 0 0)), .c (.v (.int .i64 c))]) (.tu [.c (.sl 5 (simL (TM.mk m0 m1 m2 m3 m4 m5 m6 m7 m8 m9 mA mB) (V3.mk s0 s1 s2) l).length (qi (simL (TM.mk m0 m1 m2 m3 m4 m5 m6 m7 m8 m9 mA mB) (V3.mk s0 s1 s2) l))), .c (.v (.int .i64 (simE (TM.mk m0 m1 m2 m3 m4 m5 m6 m7 m8 m9 mA mB) (V3.mk s0 s1 s2) l)))]) := by
   intro c hc e
   have e2 : simE (TM.mk m0 m1 m2 m3 m4 m5 m6 m7 m8 m9 mA mB) (V3.mk s0 s1 s2) l = c := by rw [hE, q8d hz hlt (by rw [e]; exact hc)]; exact e
   rw [show simL (TM.mk m0 m1 m2 m3 m4 m5 m6 m7 m8 m9 mA mB) (V3.mk s0 s1 s2) l = [] from if_pos (by rw [e2]; exact hc), e2]
   exact le_tu q3V (LeD.refl _)
  refine ⟨by omega, qg (fun e => ?_) (fun e => ⟨?_, ?_⟩)⟩
  ·have e : plE (plAt l k) ≠ 0 := by simpa using e
   exact hat _ e (if_pos e)
  ·have e : plE (plAt l k) = 0 := by simpa using e
   have ok := st_ok f4
   refine ⟨q1g f3, ok.1, ok.2, ?_⟩
   unfold plE at e
   rw [unl_0 (by decide)] at e
   exact e
  ·have e : plE (plAt l k) = 0 := by simpa using e
   have es : q1f (TM.mk m0 m1 m2 m3 m4 m5 m6 m7 m8 m9 mA mB) (V3.mk s0 s1 s2) (plAt l k) = if inB ((TM.mk m0 m1 m2 m3 m4 m5 m6 m7 m8 m9 mA mB).first (V3.mk s0 s1 s2) (plAt l k)) (-1000000) 1000000 = true ∧ tmE ((TM.mk m0 m1 m2 m3 m4 m5 m6 m7 m8 m9 mA mB).first (V3.mk s0 s1 s2) (plAt l k)) = 0 then 0 else 22 := if_neg (by rw [e]; simp)
   refine qg (fun q => ⟨rfl, ?_⟩) (fun q => qg (fun q2 => ?_) (fun q2 => ⟨?_, lt_i fun x hx => ?_⟩))
   ·have q : inB ((TM.mk m0 m1 m2 m3 m4 m5 m6 m7 m8 m9 mA mB).first (V3.mk s0 s1 s2) (plAt l k)) (-1000000) 1000000 = false := by simpa using q
    exact hat 22 (by decide) (by rw [es, q]; simp)
   ·have q2 : tmE ((TM.mk m0 m1 m2 m3 m4 m5 m6 m7 m8 m9 mA mB).first (V3.mk s0 s1 s2) (plAt l k)) ≠ 0 := by simpa using q2
    exact hat 22 (by decide) (by rw [es]; simp [q2])
   ·rw [i6]; unfold q0k maxLen; simp; omega
   ·have q : inB ((TM.mk m0 m1 m2 m3 m4 m5 m6 m7 m8 m9 mA mB).first (V3.mk s0 s1 s2) (plAt l k)) (-1000000) 1000000 = true := by simpa using q
    have q2 : tmE ((TM.mk m0 m1 m2 m3 m4 m5 m6 m7 m8 m9 mA mB).first (V3.mk s0 s1 s2) (plAt l k)) = 0 := by simpa using q2
    rw [IntWalk.i64_in _ (by omega)] at hx
    subst hx
    refine ⟨_, _, rfl, by omega, by omega, by omega, i4, fun j hj => ?_, ?_⟩
    ·by_cases e3 : j = k
     ·rw [e3, es]; simp [q, q2]
     ·exact hz j (by omega)
    ·rw [show ((k : Int) + 1).toNat = k + 1 by omega, i6, q7o hlt, List.map_append, List.map_append]; rfl
 ·have hge : k = l.length := by have := of_decide_eq_false h; omega
  subst hge
  have e2 : simE (TM.mk m0 m1 m2 m3 m4 m5 m6 m7 m8 m9 mA mB) (V3.mk s0 s1 s2) l = 0 := by rw [hE]; exact q3T hz
  rw [show simL (TM.mk m0 m1 m2 m3 m4 m5 m6 m7 m8 m9 mA mB) (V3.mk s0 s1 s2) l = l.map (q3u (TM.mk m0 m1 m2 m3 m4 m5 m6 m7 m8 m9 mA mB) (V3.mk s0 s1 s2)) from if_neg (by rw [e2]; simp), e2, i6, List.take_length]
  exact le_tu (qai _) (LeD.refl _)
set_option maxHeartbeats 8000000 in
theorem qbW (m0 m1 m2 m3 m4 m5 m6 m7 m8 m9 mA mB s0 s1 s2 : Int) (l : List V3) : q7t (q1w m0 m1 m2 m3 m4 m5 m6 m7 m8 m9 mA mB s0 s1 s2 l) m0 m1 m2 m3 m4 m5 m6 m7 m8 m9 mA mB s0 s1 s2 l (fun r => LeD r (.tu [.c (.sl 5 ((simL (TM.mk m0 m1 m2 m3 m4 m5 m6 m7 m8 m9 mA mB) (V3.mk s0 s1 s2) l).length) (qi (simL (TM.mk m0 m1 m2 m3 m4 m5 m6 m7 m8 m9 mA mB) (V3.mk s0 s1 s2) l))), .c (.v (.int .i64 (simE (TM.mk m0 m1 m2 m3 m4 m5 m6 m7 m8 m9 mA mB) (V3.mk s0 s1 s2) l)))])) := by
 unfold q7t
 refine ⟨⟨q0n [_, _], Nat.le_of_ble_eq_true rfl⟩, qg (fun h => ?_) (fun h => ?_)⟩
 ·have h : qd [(TM.mk m0 m1 m2 m3 m4 m5 m6 m7 m8 m9 mA mB).both (V3.mk s0 s1 s2), unl (decide (((l.length : Nat) : Int) ≤ (12 : Int))) (8 : Int)] ≠ 0 := by simpa using h
  have e : simE (TM.mk m0 m1 m2 m3 m4 m5 m6 m7 m8 m9 mA mB) (V3.mk s0 s1 s2) l = qd [(TM.mk m0 m1 m2 m3 m4 m5 m6 m7 m8 m9 mA mB).both (V3.mk s0 s1 s2), unl (decide (((l.length : Nat) : Int) ≤ (12 : Int))) (8 : Int)] := if_pos h
  rw [show simL (TM.mk m0 m1 m2 m3 m4 m5 m6 m7 m8 m9 mA mB) (V3.mk s0 s1 s2) l = [] from if_pos (by rw [e]; exact h), e]
  exact le_tu q3V (LeD.refl _)
 ·have h : qd [(TM.mk m0 m1 m2 m3 m4 m5 m6 m7 m8 m9 mA mB).both (V3.mk s0 s1 s2), unl (decide (((l.length : Nat) : Int) ≤ (12 : Int))) (8 : Int)] = 0 := by simpa using h
  exact ⟨l.length + 1, [], 0, rfl, by omega, by omega, by omega, h, fun j hj => by omega, rfl⟩
theorem qcz (m0 m1 m2 m3 m4 m5 m6 m7 m8 m9 mA mB s0 s1 s2 : Int) (l : List V3) : AllG (q1w m0 m1 m2 m3 m4 m5 m6 m7 m8 m9 mA mB s0 s1 s2 l) (qz Tryz.prog tab Sli101 q1T (q1w m0 m1 m2 m3 m4 m5 m6 m7 m8 m9 mA mB s0 s1 s2 l) Tryz.f24 (fun r => LeD r (.tu [.c (.sl 5 ((simL (TM.mk m0 m1 m2 m3 m4 m5 m6 m7 m8 m9 mA mB) (V3.mk s0 s1 s2) l).length) (qi (simL (TM.mk m0 m1 m2 m3 m4 m5 m6 m7 m8 m9 mA mB) (V3.mk s0 s1 s2) l))), .c (.v (.int .i64 (simE (TM.mk m0 m1 m2 m3 m4 m5 m6 m7 m8 m9 mA mB) (V3.mk s0 s1 s2) l)))]))) := by
 rw [qdu]
 refine ⟨⟨?_, ?_⟩, trivial⟩
 ·intro F s h
  obtain _ | ⟨g, F⟩ := F
  case cons => exact h.elim
  obtain ⟨w0, w1, rfl, hi⟩ := h
  omega
 ·intro n F s h
  obtain _ | ⟨g, F⟩ := F
  case cons => exact h.elim
  obtain ⟨w0, w1, rfl, hi⟩ := h
  exact cast (by kernel_rfl) (qaZ m0 m1 m2 m3 m4 m5 m6 m7 m8 m9 mA mB s0 s1 s2 l _ _ _ hi)
def q3F : Con := fun args => match args with
 | [.t (.a [.v (.int .i64 m0), .v (.int .i64 m1), .v (.int .i64 m2), .v (.int .i64 m3), .v (.int .i64 m4), .v (.int .i64 m5), .v (.int .i64 m6), .v (.int .i64 m7), .v (.int .i64 m8), .v (.int .i64 m9), .v (.int .i64 mA), .v (.int .i64 mB)]), .t (.a [.v (.int .i64 s0), .v (.int .i64 s1), .v (.int .i64 s2)]), .t (.c (.sl 3 n_l c_l))] => some (.tu [.c (.sl 5 ((simL (TM.mk m0 m1 m2 m3 m4 m5 m6 m7 m8 m9 mA mB) (V3.mk s0 s1 s2) (qa n_l mkPl c_l)).length) (qi (simL (TM.mk m0 m1 m2 m3 m4 m5 m6 m7 m8 m9 mA mB) (V3.mk s0 s1 s2) (qa n_l mkPl c_l)))), .c (.v (.int .i64 (simE (TM.mk m0 m1 m2 m3 m4 m5 m6 m7 m8 m9 mA mB) (V3.mk s0 s1 s2) (qa n_l mkPl c_l))))], some (qj 3 n_l c_l), true)
 | _ => none
theorem qdv : Ok Tryz.prog 24 q3F := by
 refine Ok.fnFr (ann := q1T) mixed qo VSli101 VIkv64 rfl (fn := Tryz.f24) (by kernel_rfl) (by kernel_rfl) (by kernel_rfl) fun args r pre fresh h hp => ?_
 unfold q3F at h
 split at h
 ·rename_i m0 m1 m2 m3 m4 m5 m6 m7 m8 m9 mA mB s0 s1 s2 n_l c_l
  cases h
  have hp0 := hp
  refine ⟨rfl, (by intro x hx; simp only [List.mem_cons, List.not_mem_nil, or_false] at hx; rcases hx with rfl | rfl; exact (fun i j _ hj => qbu _ i j); exact trivial), q1w m0 m1 m2 m3 m4 m5 m6 m7 m8 m9 mA mB s0 s1 s2 (qa n_l mkPl c_l), _, (qk (LeD.refl _) (qk (LeD.refl _) (qk (leT_c ((leL_V3 hp0))) qM))), Nat.le_of_ble_eq_true (by kernel_rfl), ?_, ?_⟩
  ·exact cast (by kernel_rfl) (qbW m0 m1 m2 m3 m4 m5 m6 m7 m8 m9 mA mB s0 s1 s2 (qa n_l mkPl c_l))
  ·exact qcz m0 m1 m2 m3 m4 m5 m6 m7 m8 m9 mA mB s0 s1 s2 (qa n_l mkPl c_l)
 ·cases h
def Slj102 : Sum := addS Sli101 24 q3F
theorem VSlj102 : Valid Tryz.prog Slj102 := Valid.add VSli101 qdv
def mdF (a c : Int) : Int := if Int.tmod a c < 0 then IntKind.i64.wrap (Int.tmod a c + c) else Int.tmod a c
def qeV (a c : Int) (post : DV → Prop) : Prop := lt (Int.tmod a c) fun x1 => (IntKind.i64 = IntKind.i64 ∧ c ≠ 0) ∧ (cond (decide (x1 < (0 : Int))) (lt (IntKind.i64.wrap (x1 + c)) fun x2 => post (.t (.c (.v (.int .i64 x2))))) (post (.t (.c (.v (.int .i64 x1))))))
def qkv : Ann := ⟨fun _ => none, fun _ => none, fun _ => [], Ikv64, false, fun _ => none, fun _ => none⟩
theorem qj6 (a c : Int) (hp : (c) ≠ 0) : qeV a c (fun r => LeD r (.t (.c (.v (.int .i64 (mdF a c)))))) := by
 unfold qeV mdF
 refine lt_i fun x1 h1 => ⟨⟨rfl, hp⟩, ?_⟩
 rw [h1]
 refine qg (fun h => lt_i fun x2 h2 => leI ?_) (fun h => leI ?_)
 ·rw [if_pos (of_decide_eq_true h)]; exact h2.symm
 ·rw [if_neg (of_decide_eq_false h)]
def q8R : Con := fun args => match args with
 | [.t (.c (.v (.int .i64 a))), .t (.c (.v (.int .i64 c)))] => some (.t (.c (.v (.int .i64 (mdF a c)))), some ((c) ≠ 0), false)
 | _ => none
theorem qkZ : Ok Tryz.prog 23 q8R := by
 refine Ok.fn (ann := qkv) mixed qo VSlj102 VIkv64 (fn := Tryz.f23) (by kernel_rfl) (by kernel_rfl) (by kernel_rfl) fun args r pre fresh h hp => ?_
 unfold q8R at h
 split at h
 ·rename_i a c
  cases h
  refine ⟨rfl, fun _ _ _ => False, _, LeA.refl _, Nat.le_of_ble_eq_true (by kernel_rfl), ?_, ?_⟩
  ·exact cast (by kernel_rfl) (qj6 a c hp)
  ·exact cast (by kernel_rfl) trivial
 ·cases h
def Slt103 : Sum := addS Slj102 23 q8R
theorem VSlt103 : Valid Tryz.prog Slt103 := Valid.add VSlj102 qkZ
def q9C (l : List TH) (post : DV → Row → Prop) : Prop := (q0k 40 (([] : List (List CV)).length + ((List.range l.length).map fun i => fwd ((qi l) i) 0 5).length)) ∧ (post (.t (.c (.os 0))) (.gen 57 5 (([] : List (List CV)) ++ ((List.range l.length).map fun i => fwd ((qi l) i) 0 5))))
def qfO : Ann := ⟨fun _ => none, fun _ => none, fun _ => [], Ikv64, false, fun _ => none, fun _ => none⟩
theorem qeB (l : List TH) (hp : (l).length ≤ 1000) : q9C l (fun r' R' => r' = (.t (.c (.os 0))) ∧ R' = (.gen 57 5 (l.map qf))) := by
 unfold q9C
 rw [qk8, List.nil_append]
 refine ⟨?_, rfl, rfl⟩
 unfold q0k maxLen
 simp
 omega
def q5n : Con := fun args => match args with
 | [.t (.c (.sl 5 n_l c_l))] => some (.t (.c (.os 0)), some (qj 5 n_l c_l ∧ ((qa n_l qc c_l)).length ≤ 1000), .own (.gen 57 5 ((qa n_l qc c_l).map qf)))
 | _ => none
theorem qh0 : Ok Tryz.prog 8 q5n := by
 refine Ok.fnO (ann := qfO) mixed qo VSlt103 VIkv64 (fn := Tryz.f8) (by kernel_rfl) (by kernel_rfl) (by kernel_rfl) fun args r pre fresh h hp => ?_
 unfold q5n at h
 split at h
 ·rename_i n_l c_l
  cases h
  obtain ⟨hp0, hp⟩ := hp
  refine ⟨_, rfl, qkW _ _, fun _ _ _ => False, _, (qk (leT_c ((qY hp0))) qM), Nat.le_of_ble_eq_true (by kernel_rfl), ?_, ?_⟩
  ·exact cast (by kernel_rfl) (qeB (qa n_l qc c_l) hp)
  ·exact cast (by kernel_rfl) trivial
 ·cases h
def Slt104 : Sum := addF Slt103 8 q5n
theorem VSlt104 : Valid Tryz.prog Slt104 := Valid.addF VSlt103 qh0
def q3G : Con := fun args => match args with
 | [.t (.a [.v (.int .i64 m0), .v (.int .i64 m1), .v (.int .i64 m2), .v (.int .i64 m3), .v (.int .i64 m4), .v (.int .i64 m5), .v (.int .i64 m6), .v (.int .i64 m7), .v (.int .i64 m8), .v (.int .i64 m9), .v (.int .i64 mA), .v (.int .i64 mB)]), .t (.a [.v (.int .i64 s0), .v (.int .i64 s1), .v (.int .i64 s2)]), .t (.a [.v (.int .i64 p0), .v (.int .i64 p1), .v (.int .i64 p2)])] => some (.tu [.c (.v (.int .i64 4)), .c (.v (.int .i64 0))], some (((TM.mk m0 m1 m2 m3 m4 m5 m6 m7 m8 m9 mA mB)).fE (V3.mk s0 s1 s2) (V3.mk p0 p1 p2) = 0 ∧ ((TM.mk m0 m1 m2 m3 m4 m5 m6 m7 m8 m9 mA mB)).fV (V3.mk s0 s1 s2) (V3.mk p0 p1 p2) = 4), false)
 | _ => none
theorem qdw : Ok Tryz.prog 32 q3G := by
 refine Ok.over q8z fun args r pre fresh h hp => ?_
 unfold q3G at h
 split at h
 ·rename_i m0 m1 m2 m3 m4 m5 m6 m7 m8 m9 mA mB s0 s1 s2 p0 p1 p2
  cases h
  have hq := hp
  (try simp only [okP] at hq)
  refine ⟨_, _, rfl, trivial, ?_⟩
  simp_all
 ·cases h
def Slt105 : Sum := addS Slt104 32 q3G
theorem VSlt105 : Valid Tryz.prog Slt105 := Valid.add VSlt104 qdw
def q3H : Con := fun args => match args with
 | [.t (.a [.v (.int .i64 m0), .v (.int .i64 m1), .v (.int .i64 m2), .v (.int .i64 m3), .v (.int .i64 m4), .v (.int .i64 m5), .v (.int .i64 m6), .v (.int .i64 m7), .v (.int .i64 m8), .v (.int .i64 m9), .v (.int .i64 mA), .v (.int .i64 mB)]), .t (.a [.v (.int .i64 s0), .v (.int .i64 s1), .v (.int .i64 s2)]), .t (.c (.sl 5 n_l c_l))] => some (.tu [.c (.v (.int .i64 6)), .c (.v (.int .i64 0))], some (qj 5 n_l c_l ∧ ((TM.mk m0 m1 m2 m3 m4 m5 m6 m7 m8 m9 mA mB)).sE (V3.mk s0 s1 s2) (qa n_l qc c_l) = 0 ∧ ((TM.mk m0 m1 m2 m3 m4 m5 m6 m7 m8 m9 mA mB)).sV (V3.mk s0 s1 s2) (qa n_l qc c_l) = 6), false)
 | _ => none
theorem qdx : Ok Tryz.prog 25 q3H := by
 refine Ok.over q8D fun args r pre fresh h hp => ?_
 unfold q3H at h
 split at h
 ·rename_i m0 m1 m2 m3 m4 m5 m6 m7 m8 m9 mA mB s0 s1 s2 n_l c_l
  cases h
  have hq := hp.2
  (try simp only [okP] at hq)
  refine ⟨_, _, rfl, hp.1, ?_⟩
  simp_all
 ·cases h
def Slt106 : Sum := addS Slt105 25 q3H
theorem VSlt106 : Valid Tryz.prog Slt106 := Valid.add VSlt105 qdx
def q7P  (post : DV → Prop) : Prop := (((⟨(0 : Int), (0 : Int), (0 : Int), (0 : Int), (1 : Int), (25 : Int), (50 : Int), (9 : Int), (0 : Int), (0 : Int), (1 : Int), (2 : Int)⟩ : TM)).fE (⟨(5 : Int), (0 : Int), (0 : Int)⟩ : V3) (⟨(0 : Int), (12 : Int), (0 : Int)⟩ : V3) = 0 ∧ ((⟨(0 : Int), (0 : Int), (0 : Int), (0 : Int), (1 : Int), (25 : Int), (50 : Int), (9 : Int), (0 : Int), (0 : Int), (1 : Int), (2 : Int)⟩ : TM)).fV (⟨(5 : Int), (0 : Int), (0 : Int)⟩ : V3) (⟨(0 : Int), (12 : Int), (0 : Int)⟩ : V3) = 4) ∧ ((qj 5 exH.length (qi exH) ∧ ((⟨(0 : Int), (0 : Int), (0 : Int), (0 : Int), (1 : Int), (25 : Int), (50 : Int), (9 : Int), (0 : Int), (0 : Int), (1 : Int), (2 : Int)⟩ : TM)).sE (⟨(5 : Int), (0 : Int), (0 : Int)⟩ : V3) (qa exH.length qc (qi exH)) = 0 ∧ ((⟨(0 : Int), (0 : Int), (0 : Int), (0 : Int), (1 : Int), (25 : Int), (50 : Int), (9 : Int), (0 : Int), (0 : Int), (1 : Int), (2 : Int)⟩ : TM)).sV (⟨(5 : Int), (0 : Int), (0 : Int)⟩ : V3) (qa exH.length qc (qi exH)) = 6) ∧ (post (.t (.c (.v (.bool true))))))
def qdy : Ann := ⟨fun _ => none, fun _ => none, fun _ => [], Ikv64, false, fun _ => none, fun _ => none⟩
set_option maxHeartbeats 8000000 in
theorem qcA  : q7P  (fun r => LeD r (.t (.c (.v (.bool true))))) := by
 unfold q7P
 simp only [qP]
 obtain ⟨a1, a2, a3, a4, a5, a6, a7, a8, a9, a10⟩ := ex_all
 exact ⟨⟨a1, a2⟩, ⟨qA _, a6, a7⟩, LeD.refl _⟩
def q4l : Con := fun args => match args with
 | [] => some (.t (.c (.v (.bool true))), none, false)
 | _ => none
theorem qeC : Ok Tryz.prog 19 q4l := by
 refine Ok.fn (ann := qdy) mixed qo VSlt106 VIkv64 (fn := Tryz.f19) (by kernel_rfl) (by kernel_rfl) (by kernel_rfl) fun args r pre fresh h hp => ?_
 unfold q4l at h
 split at h
 ·cases h
  refine ⟨rfl, fun _ _ _ => False, _, LeA.refl _, Nat.le_of_ble_eq_true (by kernel_rfl), ?_, ?_⟩
  ·exact cast (by kernel_rfl) (qcA)
  ·exact cast (by kernel_rfl) trivial
 ·cases h
def Slt108 : Sum := addS Slt104 19 q4l
theorem VSlt108 : Valid Tryz.prog Slt108 := Valid.add VSlt104 qeC
end Go.Proofs.YtfadkjcfjkmalaaGreatDoor
