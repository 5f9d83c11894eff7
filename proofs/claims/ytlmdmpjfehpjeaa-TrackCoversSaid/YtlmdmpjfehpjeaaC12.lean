/- Texts of this claim, together. -/
import Derived.Test.YtlmdmpjfehpjeaaC11
import Derived.Test.YtlmdmpjfehpjeaaC5
import Derived.Test.YtlmdmpjfehpjeaaC10

set_option linter.unusedVariables false
set_option linter.unusedSimpArgs false
namespace Go.Proofs.Ytlmdmpjfehpjeaa
open Go.RowKit Ev
def idxP {α : Type} (p : α → Bool) (l : List α) : Int := if l.findIdx p < l.length then l.findIdx p else -1
theorem idxP_at {α : Type} {p : α → Bool} {l : List α} {d : α} {k : Nat} (hk : k < l.length) (hz : ∀ j, j < k → p (l.getD j d) = false) (h : p (l.getD k d) = true) : idxP p l = k := by
 have e : l.findIdx p = k := by
  rw [List.findIdx_eq hk]
  refine ⟨by simpa [List.getD, hk] using h, fun j hj => ?_⟩
  simpa [List.getD, show j < l.length by omega] using hz j hj
 unfold idxP
 rw [e, if_pos hk]
theorem idxP_none {α : Type} {p : α → Bool} {l : List α} {d : α} (hz : ∀ j, j < l.length → p (l.getD j d) = false) : idxP p l = -1 := by
 unfold idxP
 rw [if_neg]
 intro h
 have := List.findIdx_getElem (w := h)
 have h2 := hz _ h
 simp only [List.getD, List.getElem?_eq_getElem h, Option.getD_some] at h2
 rw [this] at h2
 cases h2
theorem idxP_any {α : Type} {p : α → Bool} {l : List α} : l.any p = decide (0 ≤ idxP p l) := by
 unfold idxP
 by_cases h : l.findIdx p < l.length
 ·rw [if_pos h]
  have := List.findIdx_getElem (w := h)
  rw [decide_eq_true (by omega), List.any_eq_true]
  exact ⟨_, List.getElem_mem h, this⟩
 ·rw [if_neg h, decide_eq_false (by omega), List.any_eq_false]
  intro x hx hp
  exact h (List.findIdx_lt_length_of_exists ⟨x, hx, hp⟩)
instance (a b : TBox) : Decidable (a.sub b) := by unfold TBox.sub TBox.rx TBox.ry TBox.rz Rg.sub; infer_instance
instance (a b : TBox) : Decidable (a.apart b) := by unfold TBox.apart; infer_instance
theorem leBt {P : Prop} [Decidable P] (h : P) : LeD (.t (.c (.v (.bool true)))) (.t (.c (.v (.bool (decide P))))) := leB (decide_eq_true h).symm
theorem leBf {P : Prop} [Decidable P] (h : ¬ P) : LeD (.t (.c (.v (.bool false)))) (.t (.c (.v (.bool (decide P))))) := leB (decide_eq_false h).symm
theorem inB_no {n lo hi : Int} : inB n lo hi = false ↔ ¬ (lo ≤ n ∧ n ≤ hi) := by rw [← Bool.not_eq_true, inB_true]
def provB (m : TMod) (l : List THit) (K : Int) (b : TBox) : Bool := !canW m b || decide ((m.scores b l).lo ≥ K)
def bxAt (l : List TBox) (i : Nat) : TBox := l.getD i ⟨⟨0, 0, 0⟩, ⟨0, 0, 0⟩⟩
def bxsC (l : List TBox) : Nat → Nat → CV := fun i j => match j with
 | 0 => .v (.int .i64 (bxAt l i).lo.x)
 | 1 => .v (.int .i64 (bxAt l i).lo.y)
 | 2 => .v (.int .i64 (bxAt l i).lo.z)
 | 3 => .v (.int .i64 (bxAt l i).hi.x)
 | 4 => .v (.int .i64 (bxAt l i).hi.y)
 | _ => .v (.int .i64 (bxAt l i).hi.z)
def mkBx (g : Nat → Int) : TBox := ⟨⟨g 0, g 1, g 2⟩, ⟨g 3, g 4, g 5⟩⟩
def bxCv (x : TBox) : List CV := [.v (.int .i64 x.lo.x), .v (.int .i64 x.lo.y), .v (.int .i64 x.lo.z), .v (.int .i64 x.hi.x), .v (.int .i64 x.hi.y), .v (.int .i64 x.hi.z)]
theorem bxAt_C {n : Nat} {c : Nat → Nat → CV} {i : Nat} (hi : i < n) : bxAt (listC n mkBx c) i = mkBx fun j => cvInt (c i j) := listC_get hi
theorem leL_TBox {n : Nat} {c : Nat → Nat → CV} (hp : numsP 6 n c) : LeD (.t (.c (.sl 6 n c))) (.t (.c (.sl 6 (listC n mkBx c).length (bxsC (listC n mkBx c))))) := by
 refine leL hp fun i j hi hj => ?_
 unfold bxsC
 rw [bxAt_C hi]
 rcases (by omega : j = 0 ∨ j = 1 ∨ j = 2 ∨ j = 3 ∨ j = 4 ∨ j = 5) with rfl | rfl | rfl | rfl | rfl | rfl <;> rfl
theorem numsP_bxs (l : List TBox) : numsP 6 l.length (bxsC l) := by
 intro i j hi hj
 rcases (by omega : j = 0 ∨ j = 1 ∨ j = 2 ∨ j = 3 ∨ j = 4 ∨ j = 5) with rfl | rfl | rfl | rfl | rfl | rfl <;> rfl
theorem bxs_listC (l : List TBox) : listC l.length mkBx (bxsC l) = l := listC_id ⟨⟨0, 0, 0⟩, ⟨0, 0, 0⟩⟩ fun i hi => rfl
theorem plain_TBox (l : List TBox) (i j : Nat) : ∃ y, bxsC l i j = .v y := by unfold bxsC; split <;> exact ⟨_, rfl⟩
theorem le_bxs (l : List TBox) : LeD (.t (.c (.sl 6 (l.map bxCv).length (genC (l.map bxCv))))) (.t (.c (.sl 6 l.length (bxsC l)))) := by
 rw [List.length_map]
 refine leSl fun i j hi hj => ?_
 unfold genC bxsC bxAt
 simp only [List.getD_eq_getElem?_getD, List.getElem?_map, List.getElem?_eq_getElem hi, Option.map_some, Option.getD_some]
 rcases (by omega : j = 0 ∨ j = 1 ∨ j = 2 ∨ j = 3 ∨ j = 4 ∨ j = 5) with rfl | rfl | rfl | rfl | rfl | rfl <;> rfl
theorem bxAt_take {l : List TBox} {k : Nat} (h : k < l.length) : l.take (k + 1) = l.take k ++ [bxAt l k] := by
 rw [List.take_succ_eq_append_getElem h]; simp [bxAt, List.getD, h]
theorem bxAt_in {l : List TBox} {k : Nat} (h : k < l.length) : bxAt l k ∈ l := by
 rw [show bxAt l k = l[k] by simp [bxAt, List.getD, h]]; exact List.getElem_mem h
theorem bxs_all {l : List TBox} {P : TBox → Prop} (h : ∀ k, k < l.length → P (bxAt l k)) : ∀ x ∈ l, P x := by
 intro x hx
 obtain ⟨i, hi, e⟩ := List.getElem_of_mem hx
 have := h i hi
 rwa [show bxAt l i = x by simp [bxAt, List.getD, hi, e]] at this
theorem bx_ext {a b : TBox} : a = b ↔ a.lo.x = b.lo.x ∧ a.lo.y = b.lo.y ∧ a.lo.z = b.lo.z ∧ a.hi.x = b.hi.x ∧ a.hi.y = b.hi.y ∧ a.hi.z = b.hi.z := by
 obtain ⟨⟨_, _, _⟩, ⟨_, _, _⟩⟩ := a
 obtain ⟨⟨_, _, _⟩, ⟨_, _, _⟩⟩ := b
 simp [and_assoc]
instance : DecidableEq TBox := fun a b => decidable_of_iff _ bx_ext.symm
theorem bxs_fwd (l : List TBox) : ((List.range l.length).map fun i => fwd ((bxsC l) i) 0 6) = l.map bxCv := by
 apply List.ext_getElem?
 intro i
 by_cases hi : i < l.length
 ·simp only [List.getElem?_map, List.getElem?_range hi, List.getElem?_eq_getElem hi, Option.map_some]
  have e : bxAt l i = l[i] := by simp [bxAt, List.getD, hi]
  rw [← e]; rfl
 ·rw [List.getElem?_eq_none (by simpa using hi), List.getElem?_eq_none (by simpa using hi)]
theorem numsP_bxpart (l : List TBox) {lo n : Nat} (h : lo + n ≤ l.length) : numsP 6 n (fun i j => bxsC l (lo + i) j) := fun i j hi hj => numsP_bxs l (lo + i) j (by omega) hj
theorem bxs_part (l : List TBox) {lo n : Nat} (h : lo + n ≤ l.length) : listC n mkBx (fun i j => bxsC l (lo + i) j) = (l.drop lo).take n := by
 apply List.ext_getElem?
 intro i
 by_cases hi : i < n
 ·rw [listC, List.getElem?_map, List.getElem?_range hi, Option.map_some, List.getElem?_take, if_pos hi, List.getElem?_drop, List.getElem?_eq_getElem (by omega)]
  have e : bxAt l (lo + i) = l[lo + i]'(by omega) := by simp [bxAt, List.getD, show lo + i < l.length by omega]
  rw [← e]; rfl
 ·rw [List.getElem?_eq_none (by simp [listC]; omega), List.getElem?_eq_none (by simp; omega)]
def vc_track_inside (a0 a1 a2 a3 a4 a5 : Int) (b0 b1 b2 b3 b4 b5 : Int) (post : DV → Prop) : Prop := (0 ≤ (0 : Int) ∧ (0 : Int) < ((3 : Nat) : Int)) ∧ ((0 ≤ (0 : Int) ∧ (0 : Int) < ((3 : Nat) : Int)) ∧ (cond (decide (a0 < b0)) ((true = true) ∧ (post (.t (.c (.v (.bool false)))))) ((0 ≤ (0 : Int) ∧ (0 : Int) < ((3 : Nat) : Int)) ∧ ((0 ≤ (0 : Int) ∧ (0 : Int) < ((3 : Nat) : Int)) ∧ (cond (decide (a3 > b3)) (post (.t (.c (.v (.bool false))))) ((0 ≤ (1 : Int) ∧ (1 : Int) < ((3 : Nat) : Int)) ∧ ((0 ≤ (1 : Int) ∧ (1 : Int) < ((3 : Nat) : Int)) ∧ (cond (decide (a1 < b1)) ((true = true) ∧ (post (.t (.c (.v (.bool false)))))) ((0 ≤ (1 : Int) ∧ (1 : Int) < ((3 : Nat) : Int)) ∧ ((0 ≤ (1 : Int) ∧ (1 : Int) < ((3 : Nat) : Int)) ∧ (cond (decide (a4 > b4)) (post (.t (.c (.v (.bool false))))) ((0 ≤ (2 : Int) ∧ (2 : Int) < ((3 : Nat) : Int)) ∧ ((0 ≤ (2 : Int) ∧ (2 : Int) < ((3 : Nat) : Int)) ∧ (cond (decide (a2 < b2)) ((true = true) ∧ (post (.t (.c (.v (.bool false)))))) ((0 ≤ (2 : Int) ∧ (2 : Int) < ((3 : Nat) : Int)) ∧ ((0 ≤ (2 : Int) ∧ (2 : Int) < ((3 : Nat) : Int)) ∧ (cond (decide (a5 > b5)) (post (.t (.c (.v (.bool false))))) (post (.t (.c (.v (.bool true))))))))))))))))))))))
def ann_track_inside : Ann := ⟨fun r => lookA r [(4, ([[], [], [0, 1], [0, 1, 2], [], [], [4, 5], [4, 5, 6], [0, 1, 2, 3, 4, 5, 6, 7], [0, 1, 2, 3, 4, 5, 6, 7, 8], [0, 1, 2, 3, 4, 5, 6, 7, 8, 9], [0, 1, 2, 3, 4, 5, 6, 7, 8, 9], [0, 1, 2, 3, 4, 5, 6, 7, 8, 9, 10, 11], [0, 1, 2, 3, 4, 5, 6, 7, 8, 9, 10, 11, 12], [0, 1, 2, 3, 4, 5, 6, 7, 8, 9], [0, 1, 2, 3, 4, 5, 6, 7, 8, 9], [0, 1, 2, 3, 4, 5, 6, 7, 8, 9, 14, 15], [0, 1, 2, 3, 4, 5, 6, 7, 8, 9, 14, 15, 16], [0, 1, 2, 3, 4, 5, 6, 7, 8, 9, 10, 11, 12, 13, 14, 15, 16, 17], [0, 1, 2, 3, 4, 5, 6, 7, 8, 9, 10, 11, 12, 13, 14, 15, 16, 17, 18]], [[], [], [], [], [], [], [], [], [], [], [], [], [], [], [], [], [], [], [], []]))], fun b => lookA b [(0, (some 4, some ⟨[2, 3, 6], [2, 3], []⟩))], fun _ => [], I49, false, fun _ => none, fun _ => none⟩
theorem ev_track_inside (J : Inv) (a0 a1 a2 a3 a4 a5 : Int) (b0 b1 b2 b3 b4 b5 : Int) (post : DV → Prop) : evFn Try.prog tab S60 ann_track_inside J Try.f110 [.t (.a [.v (.int .i64 a0), .v (.int .i64 a1), .v (.int .i64 a2), .v (.int .i64 a3), .v (.int .i64 a4), .v (.int .i64 a5)]), .t (.a [.v (.int .i64 b0), .v (.int .i64 b1), .v (.int .i64 b2), .v (.int .i64 b3), .v (.int .i64 b4), .v (.int .i64 b5)])] post = vc_track_inside a0 a1 a2 a3 a4 a5 b0 b1 b2 b3 b4 b5 post := by kernel_rfl
theorem fit_track_inside : okFn ann_track_inside Try.f110 = true := by kernel_rfl
theorem lp_track_inside (J : Inv) (post : DV → Prop) : AllG J (loopsFn Try.prog tab S60 ann_track_inside J Try.f110 post) = (True) := by kernel_rfl
theorem spec_track_inside (a0 a1 a2 a3 a4 a5 : Int) (b0 b1 b2 b3 b4 b5 : Int) : vc_track_inside a0 a1 a2 a3 a4 a5 b0 b1 b2 b3 b4 b5 (fun r => LeD r (.t (.c (.v (.bool (decide (((⟨⟨a0, a1, a2⟩, ⟨a3, a4, a5⟩⟩ : TBox)).sub (⟨⟨b0, b1, b2⟩, ⟨b3, b4, b5⟩⟩ : TBox)))))))) := by
 unfold vc_track_inside
 (repeat' first | (refine And.intro (by decide) ?_) | (refine And.intro rfl ?_) | (refine cond_i ?_ ?_ <;> intro _) | (refine leBt ?_) | (refine leBf ?_))
 all_goals ((try simp only [decide_eq_true_eq, decide_eq_false_iff_not, inB_true, inB_no, Classical.not_not] at *); (try simp only [TBox.sub, TBox.rx, TBox.ry, TBox.rz, Rg.sub, Rg.has] at *); omega)
def con_track_inside : Con := fun args => match args with
 | [.t (.a [.v (.int .i64 a0), .v (.int .i64 a1), .v (.int .i64 a2), .v (.int .i64 a3), .v (.int .i64 a4), .v (.int .i64 a5)]), .t (.a [.v (.int .i64 b0), .v (.int .i64 b1), .v (.int .i64 b2), .v (.int .i64 b3), .v (.int .i64 b4), .v (.int .i64 b5)])] => some (.t (.c (.v (.bool (decide (((⟨⟨a0, a1, a2⟩, ⟨a3, a4, a5⟩⟩ : TBox)).sub (⟨⟨b0, b1, b2⟩, ⟨b3, b4, b5⟩⟩ : TBox)))))), none, false)
 | _ => none
theorem ok_track_inside : Ok Try.prog 110 con_track_inside := by
 refine Ok.fn (ann := ann_track_inside) mixed tabOK VS60 VI49 (fn := Try.f110) (by kernel_rfl) (by kernel_rfl) fit_track_inside fun args r pre fresh h hp => ?_
 unfold con_track_inside at h
 split at h
 ·rename_i a0 a1 a2 a3 a4 a5 b0 b1 b2 b3 b4 b5
  cases h
  refine ⟨rfl, fun _ _ _ => False, _, LeA.refl _, Nat.le_of_ble_eq_true (by kernel_rfl), ?_, ?_⟩
  ·rw [ev_track_inside]; exact spec_track_inside a0 a1 a2 a3 a4 a5 b0 b1 b2 b3 b4 b5
  ·rw [lp_track_inside]; trivial
 ·cases h
def S61 : Sum := addS S60 110 con_track_inside
theorem VS61 : Valid Try.prog S61 := Valid.add VS60 ok_track_inside
def vc_track_apart (a0 a1 a2 a3 a4 a5 : Int) (b0 b1 b2 b3 b4 b5 : Int) (post : DV → Prop) : Prop := (0 ≤ (0 : Int) ∧ (0 : Int) < ((3 : Nat) : Int)) ∧ ((0 ≤ (0 : Int) ∧ (0 : Int) < ((3 : Nat) : Int)) ∧ (cond (decide (a3 < b0)) ((true = true) ∧ (post (.t (.c (.v (.bool true)))))) ((0 ≤ (0 : Int) ∧ (0 : Int) < ((3 : Nat) : Int)) ∧ ((0 ≤ (0 : Int) ∧ (0 : Int) < ((3 : Nat) : Int)) ∧ (cond (decide (b3 < a0)) (post (.t (.c (.v (.bool true))))) ((0 ≤ (1 : Int) ∧ (1 : Int) < ((3 : Nat) : Int)) ∧ ((0 ≤ (1 : Int) ∧ (1 : Int) < ((3 : Nat) : Int)) ∧ (cond (decide (a4 < b1)) ((true = true) ∧ (post (.t (.c (.v (.bool true)))))) ((0 ≤ (1 : Int) ∧ (1 : Int) < ((3 : Nat) : Int)) ∧ ((0 ≤ (1 : Int) ∧ (1 : Int) < ((3 : Nat) : Int)) ∧ (cond (decide (b4 < a1)) (post (.t (.c (.v (.bool true))))) ((0 ≤ (2 : Int) ∧ (2 : Int) < ((3 : Nat) : Int)) ∧ ((0 ≤ (2 : Int) ∧ (2 : Int) < ((3 : Nat) : Int)) ∧ (cond (decide (a5 < b2)) ((true = true) ∧ (post (.t (.c (.v (.bool true)))))) ((0 ≤ (2 : Int) ∧ (2 : Int) < ((3 : Nat) : Int)) ∧ ((0 ≤ (2 : Int) ∧ (2 : Int) < ((3 : Nat) : Int)) ∧ (cond (decide (b5 < a2)) (post (.t (.c (.v (.bool true))))) (post (.t (.c (.v (.bool false))))))))))))))))))))))
def ann_track_apart : Ann := ⟨fun r => lookA r [(4, ([[], [], [0, 1], [0, 1, 2], [], [], [4, 5], [4, 5, 6], [0, 1, 2, 3, 4, 5, 6, 7], [0, 1, 2, 3, 4, 5, 6, 7, 8], [0, 1, 2, 3, 4, 5, 6, 7, 8, 9], [0, 1, 2, 3, 4, 5, 6, 7, 8, 9], [0, 1, 2, 3, 4, 5, 6, 7, 8, 9, 10, 11], [0, 1, 2, 3, 4, 5, 6, 7, 8, 9, 10, 11, 12], [0, 1, 2, 3, 4, 5, 6, 7, 8, 9], [0, 1, 2, 3, 4, 5, 6, 7, 8, 9], [0, 1, 2, 3, 4, 5, 6, 7, 8, 9, 14, 15], [0, 1, 2, 3, 4, 5, 6, 7, 8, 9, 14, 15, 16], [0, 1, 2, 3, 4, 5, 6, 7, 8, 9, 10, 11, 12, 13, 14, 15, 16, 17], [0, 1, 2, 3, 4, 5, 6, 7, 8, 9, 10, 11, 12, 13, 14, 15, 16, 17, 18]], [[], [], [], [], [], [], [], [], [], [], [], [], [], [], [], [], [], [], [], []]))], fun b => lookA b [(0, (some 4, some ⟨[2, 3, 6], [2, 3], []⟩))], fun _ => [], I49, false, fun _ => none, fun _ => none⟩
theorem ev_track_apart (J : Inv) (a0 a1 a2 a3 a4 a5 : Int) (b0 b1 b2 b3 b4 b5 : Int) (post : DV → Prop) : evFn Try.prog tab S61 ann_track_apart J Try.f109 [.t (.a [.v (.int .i64 a0), .v (.int .i64 a1), .v (.int .i64 a2), .v (.int .i64 a3), .v (.int .i64 a4), .v (.int .i64 a5)]), .t (.a [.v (.int .i64 b0), .v (.int .i64 b1), .v (.int .i64 b2), .v (.int .i64 b3), .v (.int .i64 b4), .v (.int .i64 b5)])] post = vc_track_apart a0 a1 a2 a3 a4 a5 b0 b1 b2 b3 b4 b5 post := by kernel_rfl
theorem fit_track_apart : okFn ann_track_apart Try.f109 = true := by kernel_rfl
theorem lp_track_apart (J : Inv) (post : DV → Prop) : AllG J (loopsFn Try.prog tab S61 ann_track_apart J Try.f109 post) = (True) := by kernel_rfl
theorem spec_track_apart (a0 a1 a2 a3 a4 a5 : Int) (b0 b1 b2 b3 b4 b5 : Int) : vc_track_apart a0 a1 a2 a3 a4 a5 b0 b1 b2 b3 b4 b5 (fun r => LeD r (.t (.c (.v (.bool (decide (((⟨⟨a0, a1, a2⟩, ⟨a3, a4, a5⟩⟩ : TBox)).apart (⟨⟨b0, b1, b2⟩, ⟨b3, b4, b5⟩⟩ : TBox)))))))) := by
 unfold vc_track_apart
 (repeat' first | (refine And.intro (by decide) ?_) | (refine And.intro rfl ?_) | (refine cond_i ?_ ?_ <;> intro _) | (refine leBt ?_) | (refine leBf ?_))
 all_goals ((try simp only [decide_eq_true_eq, decide_eq_false_iff_not, inB_true, inB_no, Classical.not_not] at *); (try simp only [TBox.apart, TBox.rx, TBox.ry, TBox.rz, Rg.sub, Rg.has] at *); omega)
def con_track_apart : Con := fun args => match args with
 | [.t (.a [.v (.int .i64 a0), .v (.int .i64 a1), .v (.int .i64 a2), .v (.int .i64 a3), .v (.int .i64 a4), .v (.int .i64 a5)]), .t (.a [.v (.int .i64 b0), .v (.int .i64 b1), .v (.int .i64 b2), .v (.int .i64 b3), .v (.int .i64 b4), .v (.int .i64 b5)])] => some (.t (.c (.v (.bool (decide (((⟨⟨a0, a1, a2⟩, ⟨a3, a4, a5⟩⟩ : TBox)).apart (⟨⟨b0, b1, b2⟩, ⟨b3, b4, b5⟩⟩ : TBox)))))), none, false)
 | _ => none
theorem ok_track_apart : Ok Try.prog 109 con_track_apart := by
 refine Ok.fn (ann := ann_track_apart) mixed tabOK VS61 VI49 (fn := Try.f109) (by kernel_rfl) (by kernel_rfl) fit_track_apart fun args r pre fresh h hp => ?_
 unfold con_track_apart at h
 split at h
 ·rename_i a0 a1 a2 a3 a4 a5 b0 b1 b2 b3 b4 b5
  cases h
  refine ⟨rfl, fun _ _ _ => False, _, LeA.refl _, Nat.le_of_ble_eq_true (by kernel_rfl), ?_, ?_⟩
  ·rw [ev_track_apart]; exact spec_track_apart a0 a1 a2 a3 a4 a5 b0 b1 b2 b3 b4 b5
  ·rw [lp_track_apart]; trivial
 ·cases h
def S62 : Sum := addS S61 109 con_track_apart
theorem VS62 : Valid Try.prog S62 := Valid.add VS61 ok_track_apart
def vc_ref05_touch (a0 a1 a2 a3 a4 a5 : Int) (b0 b1 b2 b3 b4 b5 : Int) (post : DV → Prop) : Prop := (0 ≤ (0 : Int) ∧ (0 : Int) < ((3 : Nat) : Int)) ∧ ((0 ≤ (0 : Int) ∧ (0 : Int) < ((3 : Nat) : Int)) ∧ (cond (decide (a3 < b0)) ((true = true) ∧ (post (.t (.c (.v (.bool false)))))) ((0 ≤ (0 : Int) ∧ (0 : Int) < ((3 : Nat) : Int)) ∧ ((0 ≤ (0 : Int) ∧ (0 : Int) < ((3 : Nat) : Int)) ∧ (cond (decide (b3 < a0)) (post (.t (.c (.v (.bool false))))) ((0 ≤ (1 : Int) ∧ (1 : Int) < ((3 : Nat) : Int)) ∧ ((0 ≤ (1 : Int) ∧ (1 : Int) < ((3 : Nat) : Int)) ∧ (cond (decide (a4 < b1)) ((true = true) ∧ (post (.t (.c (.v (.bool false)))))) ((0 ≤ (1 : Int) ∧ (1 : Int) < ((3 : Nat) : Int)) ∧ ((0 ≤ (1 : Int) ∧ (1 : Int) < ((3 : Nat) : Int)) ∧ (cond (decide (b4 < a1)) (post (.t (.c (.v (.bool false))))) ((0 ≤ (2 : Int) ∧ (2 : Int) < ((3 : Nat) : Int)) ∧ ((0 ≤ (2 : Int) ∧ (2 : Int) < ((3 : Nat) : Int)) ∧ (cond (decide (a5 < b2)) ((true = true) ∧ (post (.t (.c (.v (.bool false)))))) ((0 ≤ (2 : Int) ∧ (2 : Int) < ((3 : Nat) : Int)) ∧ ((0 ≤ (2 : Int) ∧ (2 : Int) < ((3 : Nat) : Int)) ∧ (cond (decide (b5 < a2)) (post (.t (.c (.v (.bool false))))) (post (.t (.c (.v (.bool true))))))))))))))))))))))
def ann_ref05_touch : Ann := ⟨fun r => lookA r [(4, ([[], [], [0, 1], [0, 1, 2], [], [], [4, 5], [4, 5, 6], [0, 1, 2, 3, 4, 5, 6, 7], [0, 1, 2, 3, 4, 5, 6, 7, 8], [0, 1, 2, 3, 4, 5, 6, 7, 8, 9], [0, 1, 2, 3, 4, 5, 6, 7, 8, 9], [0, 1, 2, 3, 4, 5, 6, 7, 8, 9, 10, 11], [0, 1, 2, 3, 4, 5, 6, 7, 8, 9, 10, 11, 12], [0, 1, 2, 3, 4, 5, 6, 7, 8, 9], [0, 1, 2, 3, 4, 5, 6, 7, 8, 9], [0, 1, 2, 3, 4, 5, 6, 7, 8, 9, 14, 15], [0, 1, 2, 3, 4, 5, 6, 7, 8, 9, 14, 15, 16], [0, 1, 2, 3, 4, 5, 6, 7, 8, 9, 10, 11, 12, 13, 14, 15, 16, 17], [0, 1, 2, 3, 4, 5, 6, 7, 8, 9, 10, 11, 12, 13, 14, 15, 16, 17, 18]], [[], [], [], [], [], [], [], [], [], [], [], [], [], [], [], [], [], [], [], []]))], fun b => lookA b [(0, (some 4, some ⟨[2, 3, 5], [2, 3], []⟩))], fun _ => [], I49, false, fun _ => none, fun _ => none⟩
theorem ev_ref05_touch (J : Inv) (a0 a1 a2 a3 a4 a5 : Int) (b0 b1 b2 b3 b4 b5 : Int) (post : DV → Prop) : evFn Try.prog tab S62 ann_ref05_touch J Try.f117 [.t (.a [.v (.int .i64 a0), .v (.int .i64 a1), .v (.int .i64 a2), .v (.int .i64 a3), .v (.int .i64 a4), .v (.int .i64 a5)]), .t (.a [.v (.int .i64 b0), .v (.int .i64 b1), .v (.int .i64 b2), .v (.int .i64 b3), .v (.int .i64 b4), .v (.int .i64 b5)])] post = vc_ref05_touch a0 a1 a2 a3 a4 a5 b0 b1 b2 b3 b4 b5 post := by kernel_rfl
theorem fit_ref05_touch : okFn ann_ref05_touch Try.f117 = true := by kernel_rfl
theorem lp_ref05_touch (J : Inv) (post : DV → Prop) : AllG J (loopsFn Try.prog tab S62 ann_ref05_touch J Try.f117 post) = (True) := by kernel_rfl
theorem spec_ref05_touch (a0 a1 a2 a3 a4 a5 : Int) (b0 b1 b2 b3 b4 b5 : Int) : vc_ref05_touch a0 a1 a2 a3 a4 a5 b0 b1 b2 b3 b4 b5 (fun r => LeD r (.t (.c (.v (.bool (decide (¬ ((⟨⟨a0, a1, a2⟩, ⟨a3, a4, a5⟩⟩ : TBox)).apart (⟨⟨b0, b1, b2⟩, ⟨b3, b4, b5⟩⟩ : TBox)))))))) := by
 unfold vc_ref05_touch
 (repeat' first | (refine And.intro (by decide) ?_) | (refine And.intro rfl ?_) | (refine cond_i ?_ ?_ <;> intro _) | (refine leBt ?_) | (refine leBf ?_))
 all_goals ((try simp only [decide_eq_true_eq, decide_eq_false_iff_not, inB_true, inB_no, Classical.not_not] at *); (try simp only [TBox.apart, TBox.rx, TBox.ry, TBox.rz, Rg.sub, Rg.has] at *); omega)
def con_ref05_touch : Con := fun args => match args with
 | [.t (.a [.v (.int .i64 a0), .v (.int .i64 a1), .v (.int .i64 a2), .v (.int .i64 a3), .v (.int .i64 a4), .v (.int .i64 a5)]), .t (.a [.v (.int .i64 b0), .v (.int .i64 b1), .v (.int .i64 b2), .v (.int .i64 b3), .v (.int .i64 b4), .v (.int .i64 b5)])] => some (.t (.c (.v (.bool (decide (¬ ((⟨⟨a0, a1, a2⟩, ⟨a3, a4, a5⟩⟩ : TBox)).apart (⟨⟨b0, b1, b2⟩, ⟨b3, b4, b5⟩⟩ : TBox)))))), none, false)
 | _ => none
theorem ok_ref05_touch : Ok Try.prog 117 con_ref05_touch := by
 refine Ok.fn (ann := ann_ref05_touch) mixed tabOK VS62 VI49 (fn := Try.f117) (by kernel_rfl) (by kernel_rfl) fit_ref05_touch fun args r pre fresh h hp => ?_
 unfold con_ref05_touch at h
 split at h
 ·rename_i a0 a1 a2 a3 a4 a5 b0 b1 b2 b3 b4 b5
  cases h
  refine ⟨rfl, fun _ _ _ => False, _, LeA.refl _, Nat.le_of_ble_eq_true (by kernel_rfl), ?_, ?_⟩
  ·rw [ev_ref05_touch]; exact spec_ref05_touch a0 a1 a2 a3 a4 a5 b0 b1 b2 b3 b4 b5
  ·rw [lp_ref05_touch]; trivial
 ·cases h
def S63 : Sum := addS S62 117 con_ref05_touch
theorem VS63 : Valid Try.prog S63 := Valid.add VS62 ok_ref05_touch
def vc_track_CheckCover_1 (a0 a1 a2 a3 a4 a5 : Int) (b0 b1 b2 b3 b4 b5 : Int) (post : DV → Prop) : Prop := post (.t (.c (.v (.bool (!(decide (((⟨⟨a0, a1, a2⟩, ⟨a3, a4, a5⟩⟩ : TBox)).apart (⟨⟨b0, b1, b2⟩, ⟨b3, b4, b5⟩⟩ : TBox))))))))
def ann_track_CheckCover_1 : Ann := ⟨fun _ => none, fun _ => none, fun _ => [], I49, false, fun _ => none, fun _ => none⟩
theorem ev_track_CheckCover_1 (J : Inv) (a0 a1 a2 a3 a4 a5 : Int) (b0 b1 b2 b3 b4 b5 : Int) (post : DV → Prop) : evFn Try.prog tab S63 ann_track_CheckCover_1 J Try.f108 [.t (.a [.v (.int .i64 a0), .v (.int .i64 a1), .v (.int .i64 a2), .v (.int .i64 a3), .v (.int .i64 a4), .v (.int .i64 a5)]), .t (.c (.px 6 0 (boxC [.v (.int .i64 b0), .v (.int .i64 b1), .v (.int .i64 b2), .v (.int .i64 b3), .v (.int .i64 b4), .v (.int .i64 b5)])))] post = vc_track_CheckCover_1 a0 a1 a2 a3 a4 a5 b0 b1 b2 b3 b4 b5 post := by kernel_rfl
theorem fit_track_CheckCover_1 : okFn ann_track_CheckCover_1 Try.f108 = true := by kernel_rfl
theorem lp_track_CheckCover_1 (J : Inv) (post : DV → Prop) : AllG J (loopsFn Try.prog tab S63 ann_track_CheckCover_1 J Try.f108 post) = (True) := by kernel_rfl
theorem spec_track_CheckCover_1 (a0 a1 a2 a3 a4 a5 : Int) (b0 b1 b2 b3 b4 b5 : Int) : vc_track_CheckCover_1 a0 a1 a2 a3 a4 a5 b0 b1 b2 b3 b4 b5 (fun r => LeD r (.t (.c (.v (.bool (decide (¬ ((⟨⟨a0, a1, a2⟩, ⟨a3, a4, a5⟩⟩ : TBox)).apart (⟨⟨b0, b1, b2⟩, ⟨b3, b4, b5⟩⟩ : TBox)))))))) := by
 unfold vc_track_CheckCover_1
 exact leB (by simp)
def con_track_CheckCover_1 : Con := fun args => match args with
 | [.t (.a [.v (.int .i64 a0), .v (.int .i64 a1), .v (.int .i64 a2), .v (.int .i64 a3), .v (.int .i64 a4), .v (.int .i64 a5)]), .t (.c (.px 6 0 c_pb))] => some (.t (.c (.v (.bool (decide (¬ ((⟨⟨a0, a1, a2⟩, ⟨a3, a4, a5⟩⟩ : TBox)).apart (⟨⟨(cvInt (c_pb 0)), (cvInt (c_pb 1)), (cvInt (c_pb 2))⟩, ⟨(cvInt (c_pb 3)), (cvInt (c_pb 4)), (cvInt (c_pb 5))⟩⟩ : TBox)))))), some (intsB [0, 1, 2, 3, 4, 5] c_pb = true), false)
 | _ => none
theorem ok_track_CheckCover_1 : Ok Try.prog 108 con_track_CheckCover_1 := by
 refine Ok.fn (ann := ann_track_CheckCover_1) mixed tabOK VS63 VI49 (fn := Try.f108) (by kernel_rfl) (by kernel_rfl) fit_track_CheckCover_1 fun args r pre fresh h hp => ?_
 unfold con_track_CheckCover_1 at h
 split at h
 ·rename_i a0 a1 a2 a3 a4 a5 c_pb
  cases h
  have hp0 := hp
  refine ⟨rfl, fun _ _ _ => False, [.t (.a [.v (.int .i64 a0), .v (.int .i64 a1), .v (.int .i64 a2), .v (.int .i64 a3), .v (.int .i64 a4), .v (.int .i64 a5)]), .t (.c (.px 6 0 (boxC [.v (.int .i64 (cvInt (c_pb 0))), .v (.int .i64 (cvInt (c_pb 1))), .v (.int .i64 (cvInt (c_pb 2))), .v (.int .i64 (cvInt (c_pb 3))), .v (.int .i64 (cvInt (c_pb 4))), .v (.int .i64 (cvInt (c_pb 5)))])))], ?_, Nat.le_of_ble_eq_true (by kernel_rfl), ?_, ?_⟩
  ·exact (LeA_cons (LeD.refl _) (LeA_cons (leT_c (leC_p (LeCs.cons (leC_i (intsB_get hp0 0 (by decide))) (LeCs.cons (leC_i (intsB_get hp0 1 (by decide))) (LeCs.cons (leC_i (intsB_get hp0 2 (by decide))) (LeCs.cons (leC_i (intsB_get hp0 3 (by decide))) (LeCs.cons (leC_i (intsB_get hp0 4 (by decide))) (LeCs.cons (leC_i (intsB_get hp0 5 (by decide))) LeCs.nil)))))))) LeA_nil))
  ·rw [ev_track_CheckCover_1]; exact spec_track_CheckCover_1 a0 a1 a2 a3 a4 a5 (cvInt (c_pb 0)) (cvInt (c_pb 1)) (cvInt (c_pb 2)) (cvInt (c_pb 3)) (cvInt (c_pb 4)) (cvInt (c_pb 5))
  ·rw [lp_track_CheckCover_1]; trivial
 ·cases h
def S64 : Sum := addS S63 108 con_track_CheckCover_1
theorem VS64 : Valid Try.prog S64 := Valid.add VS63 ok_track_CheckCover_1
def mk_slices_IndexFunc_cherenkov_api_TrackBox_cherenkov_api_TrackBox_a_0 (c : List TBox) (b0 b1 b2 b3 b4 b5 : Int) (v0_0 : Int) : DS := ⟨[some (.t (.c (.sl 6 c.length (bxsC c)))), some (.t (.fn 108 [.px 6 0 (boxC [.v (.int .i64 b0), .v (.int .i64 b1), .v (.int .i64 b2), .v (.int .i64 b3), .v (.int .i64 b4), .v (.int .i64 b5)])])), none, none, none, none, none, some (.t (.c (.v (.int .i64 ((c.length : Nat) : Int))))), some (.t (.c (.v (.int .i64 v0_0)))), none, none, none, none, none, none, none, none, none, none], [none, none, none, none, none, none, none, none, none, none, none, none, none, none, none, none, none, none, none]⟩
def vc_slices_IndexFunc_cherenkov_api_TrackBox_cherenkov_api_TrackBox_a (J : Inv) (c : List TBox) (b0 b1 b2 b3 b4 b5 : Int) (post : DV → Prop) : Prop := ∃ n, J 0 (n :: []) (mk_slices_IndexFunc_cherenkov_api_TrackBox_cherenkov_api_TrackBox_a_0 c b0 b1 b2 b3 b4 b5 0)
def ann_slices_IndexFunc_cherenkov_api_TrackBox_cherenkov_api_TrackBox_a : Ann := ⟨fun _ => none, fun b => lookA b [(0, (none, some ⟨[0, 1, 7, 8], [], []⟩))], fun _ => [], I49, false, fun _ => none, fun _ => none⟩
theorem ev_slices_IndexFunc_cherenkov_api_TrackBox_cherenkov_api_TrackBox_a (J : Inv) (c : List TBox) (b0 b1 b2 b3 b4 b5 : Int) (post : DV → Prop) : evFn Try.prog tab S64 ann_slices_IndexFunc_cherenkov_api_TrackBox_cherenkov_api_TrackBox_a J Try.f112 [.t (.c (.sl 6 c.length (bxsC c))), .t (.fn 108 [.px 6 0 (boxC [.v (.int .i64 b0), .v (.int .i64 b1), .v (.int .i64 b2), .v (.int .i64 b3), .v (.int .i64 b4), .v (.int .i64 b5)])])] post = vc_slices_IndexFunc_cherenkov_api_TrackBox_cherenkov_api_TrackBox_a J c b0 b1 b2 b3 b4 b5 post := by kernel_rfl
theorem fit_slices_IndexFunc_cherenkov_api_TrackBox_cherenkov_api_TrackBox_a : okFn ann_slices_IndexFunc_cherenkov_api_TrackBox_cherenkov_api_TrackBox_a Try.f112 = true := by kernel_rfl
def rd_slices_IndexFunc_cherenkov_api_TrackBox_cherenkov_api_TrackBox_a_0 (J : Inv) (c : List TBox) (b0 b1 b2 b3 b4 b5 : Int) (v0_0 : Int) (nn0 : Nat) (post : DV → Prop) : Prop := cond (decide (v0_0 < ((c.length : Nat) : Int))) ((0 ≤ v0_0 ∧ v0_0 < ((c.length : Nat) : Int)) ∧ ((intsB [0, 1, 2, 3, 4, 5] (boxC [.v (.int .i64 b0), .v (.int .i64 b1), .v (.int .i64 b2), .v (.int .i64 b3), .v (.int .i64 b4), .v (.int .i64 b5)]) = true) ∧ (cond (decide (¬ ((bxAt c v0_0.toNat)).apart (⟨⟨b0, b1, b2⟩, ⟨b3, b4, b5⟩⟩ : TBox))) (post (.t (.c (.v (.int .i64 v0_0))))) (lt (IntKind.i64.wrap (v0_0 + (1 : Int))) fun x1 => J 0 (nn0 :: []) (mk_slices_IndexFunc_cherenkov_api_TrackBox_cherenkov_api_TrackBox_a_0 c b0 b1 b2 b3 b4 b5 x1))))) (post (.t (.c (.v (.int .i64 (-1))))))
theorem er_slices_IndexFunc_cherenkov_api_TrackBox_cherenkov_api_TrackBox_a_0 (J : Inv) (c : List TBox) (b0 b1 b2 b3 b4 b5 : Int) (v0_0 : Int) (nn0 : Nat) (post : DV → Prop) : round Try.prog tab S64 ann_slices_IndexFunc_cherenkov_api_TrackBox_cherenkov_api_TrackBox_a J Try.f112 post 0 (nn0 :: []) (mk_slices_IndexFunc_cherenkov_api_TrackBox_cherenkov_api_TrackBox_a_0 c b0 b1 b2 b3 b4 b5 v0_0) = rd_slices_IndexFunc_cherenkov_api_TrackBox_cherenkov_api_TrackBox_a_0 J c b0 b1 b2 b3 b4 b5 v0_0 nn0 post := by kernel_rfl
theorem lp_slices_IndexFunc_cherenkov_api_TrackBox_cherenkov_api_TrackBox_a (J : Inv) (post : DV → Prop) : AllG J (loopsFn Try.prog tab S64 ann_slices_IndexFunc_cherenkov_api_TrackBox_cherenkov_api_TrackBox_a J Try.f112 post) = (((∀ F s, ¬ J 0 (0 :: F) s) ∧ ∀ n F s, J 0 ((n + 1) :: F) s → round Try.prog tab S64 ann_slices_IndexFunc_cherenkov_api_TrackBox_cherenkov_api_TrackBox_a J Try.f112 post 0 (n :: F) s) ∧ True) := by kernel_rfl
def J_slices_IndexFunc_cherenkov_api_TrackBox_cherenkov_api_TrackBox_a (c : List TBox) (b0 b1 b2 b3 b4 b5 : Int) : Inv := fun b F s => match b, F with
 | 0, [nn0] => ∃ (v0_0 : Int), s = mk_slices_IndexFunc_cherenkov_api_TrackBox_cherenkov_api_TrackBox_a_0 c b0 b1 b2 b3 b4 b5 v0_0 ∧ (c.length ≤ 1000000 ∧ 0 ≤ v0_0 ∧ v0_0 ≤ c.length ∧ (nn0 : Int) + v0_0 = c.length + 1 ∧ ∀ j : Nat, (j : Int) < v0_0 → (fun a : TBox => decide (¬ a.apart (⟨⟨b0, b1, b2⟩, ⟨b3, b4, b5⟩⟩ : TBox))) (bxAt c j) = false)
 | _, _ => False
theorem rnd_slices_IndexFunc_cherenkov_api_TrackBox_cherenkov_api_TrackBox_a_0 (c : List TBox) (b0 b1 b2 b3 b4 b5 : Int) (v0_0 : Int) (nn0 : Nat) (hp : (c).length ≤ 1000000) (hi : c.length ≤ 1000000 ∧ 0 ≤ v0_0 ∧ v0_0 ≤ c.length ∧ ((nn0 + 1) : Int) + v0_0 = c.length + 1 ∧ ∀ j : Nat, (j : Int) < v0_0 → (fun a : TBox => decide (¬ a.apart (⟨⟨b0, b1, b2⟩, ⟨b3, b4, b5⟩⟩ : TBox))) (bxAt c j) = false) : rd_slices_IndexFunc_cherenkov_api_TrackBox_cherenkov_api_TrackBox_a_0 (J_slices_IndexFunc_cherenkov_api_TrackBox_cherenkov_api_TrackBox_a c b0 b1 b2 b3 b4 b5) c b0 b1 b2 b3 b4 b5 v0_0 nn0 (fun r => LeD r (.t (.c (.v (.int .i64 (idxP (fun a => decide (¬ a.apart (⟨⟨b0, b1, b2⟩, ⟨b3, b4, b5⟩⟩ : TBox))) c)))))) := by
 obtain ⟨i0, i1, i2, i3, i4⟩ := hi
 obtain ⟨k, rfl⟩ : ∃ k : Nat, v0_0 = k := ⟨v0_0.toNat, by omega⟩
 have hk : (k : Int).toNat = k := rfl
 unfold rd_slices_IndexFunc_cherenkov_api_TrackBox_cherenkov_api_TrackBox_a_0
 rw [hk]
 refine cond_i (fun h => ?_) (fun h => leI ?_)
 ·have hlt : k < c.length := by have := of_decide_eq_true h; omega
  refine ⟨by omega, rfl, cond_i (fun e => leI ?_) (fun e => lt_i fun x hx => ?_)⟩
  ·exact (idxP_at (d := (⟨⟨0, 0, 0⟩, ⟨0, 0, 0⟩⟩ : TBox)) hlt (fun j hj => i4 j (by omega)) e).symm
  ·rw [IntWalk.i64_in _ (by omega)] at hx
   subst hx
   exact ⟨_, rfl, i0, by omega, by omega, by omega, fun j hj => by
    by_cases q : j = k
    ·rw [q]; exact e
    ·exact i4 j (by omega)⟩
 ·have hge : k = c.length := by have := of_decide_eq_false h; omega
  exact (idxP_none (d := (⟨⟨0, 0, 0⟩, ⟨0, 0, 0⟩⟩ : TBox)) fun j hj => i4 j (by omega)).symm
theorem zero_slices_IndexFunc_cherenkov_api_TrackBox_cherenkov_api_TrackBox_a_0 (c : List TBox) (b0 b1 b2 b3 b4 b5 : Int) (v0_0 : Int)  (hi : c.length ≤ 1000000 ∧ 0 ≤ v0_0 ∧ v0_0 ≤ c.length ∧ (0 : Int) + v0_0 = c.length + 1 ∧ ∀ j : Nat, (j : Int) < v0_0 → (fun a : TBox => decide (¬ a.apart (⟨⟨b0, b1, b2⟩, ⟨b3, b4, b5⟩⟩ : TBox))) (bxAt c j) = false) : False := by
 omega
theorem spec_slices_IndexFunc_cherenkov_api_TrackBox_cherenkov_api_TrackBox_a (c : List TBox) (b0 b1 b2 b3 b4 b5 : Int) (hp : (c).length ≤ 1000000) : vc_slices_IndexFunc_cherenkov_api_TrackBox_cherenkov_api_TrackBox_a (J_slices_IndexFunc_cherenkov_api_TrackBox_cherenkov_api_TrackBox_a c b0 b1 b2 b3 b4 b5) c b0 b1 b2 b3 b4 b5 (fun r => LeD r (.t (.c (.v (.int .i64 (idxP (fun a => decide (¬ a.apart (⟨⟨b0, b1, b2⟩, ⟨b3, b4, b5⟩⟩ : TBox))) c)))))) := by
 unfold vc_slices_IndexFunc_cherenkov_api_TrackBox_cherenkov_api_TrackBox_a
 exact ⟨c.length + 1, 0, rfl, hp, by omega, by omega, by omega, fun j hj => by omega⟩
theorem all_slices_IndexFunc_cherenkov_api_TrackBox_cherenkov_api_TrackBox_a (c : List TBox) (b0 b1 b2 b3 b4 b5 : Int) (hp : (c).length ≤ 1000000) : AllG (J_slices_IndexFunc_cherenkov_api_TrackBox_cherenkov_api_TrackBox_a c b0 b1 b2 b3 b4 b5) (loopsFn Try.prog tab S64 ann_slices_IndexFunc_cherenkov_api_TrackBox_cherenkov_api_TrackBox_a (J_slices_IndexFunc_cherenkov_api_TrackBox_cherenkov_api_TrackBox_a c b0 b1 b2 b3 b4 b5) Try.f112 (fun r => LeD r (.t (.c (.v (.int .i64 (idxP (fun a => decide (¬ a.apart (⟨⟨b0, b1, b2⟩, ⟨b3, b4, b5⟩⟩ : TBox))) c))))))) := by
 rw [lp_slices_IndexFunc_cherenkov_api_TrackBox_cherenkov_api_TrackBox_a]
 refine ⟨⟨?_, ?_⟩, trivial⟩
 ·intro F s h
  obtain _ | ⟨g, F⟩ := F
  case cons => exact h.elim
  obtain ⟨w0, rfl, hi⟩ := h
  exact zero_slices_IndexFunc_cherenkov_api_TrackBox_cherenkov_api_TrackBox_a_0 c b0 b1 b2 b3 b4 b5 _ hi
 ·intro n F s h
  obtain _ | ⟨g, F⟩ := F
  case cons => exact h.elim
  obtain ⟨w0, rfl, hi⟩ := h
  rw [er_slices_IndexFunc_cherenkov_api_TrackBox_cherenkov_api_TrackBox_a_0]
  exact rnd_slices_IndexFunc_cherenkov_api_TrackBox_cherenkov_api_TrackBox_a_0 c b0 b1 b2 b3 b4 b5 _ _ hp hi
def con_slices_IndexFunc_cherenkov_api_TrackBox_cherenkov_api_TrackBox_a : Con := fun args => match args with
 | [.t (.c (.sl 6 n_c c_c)), .t (.fn 108 [.px 6 0 c_pb])] => some (.t (.c (.v (.int .i64 (idxP (fun a => decide (¬ a.apart (⟨⟨(cvInt (c_pb 0)), (cvInt (c_pb 1)), (cvInt (c_pb 2))⟩, ⟨(cvInt (c_pb 3)), (cvInt (c_pb 4)), (cvInt (c_pb 5))⟩⟩ : TBox))) (listC n_c mkBx c_c))))), some (numsP 6 n_c c_c ∧ intsB [0, 1, 2, 3, 4, 5] c_pb = true ∧ ((listC n_c mkBx c_c)).length ≤ 1000000), false)
 | _ => none
theorem ok_slices_IndexFunc_cherenkov_api_TrackBox_cherenkov_api_TrackBox_a : Ok Try.prog 112 con_slices_IndexFunc_cherenkov_api_TrackBox_cherenkov_api_TrackBox_a := by
 refine Ok.fn (ann := ann_slices_IndexFunc_cherenkov_api_TrackBox_cherenkov_api_TrackBox_a) mixed tabOK VS64 VI49 (fn := Try.f112) (by kernel_rfl) (by kernel_rfl) fit_slices_IndexFunc_cherenkov_api_TrackBox_cherenkov_api_TrackBox_a fun args r pre fresh h hp => ?_
 unfold con_slices_IndexFunc_cherenkov_api_TrackBox_cherenkov_api_TrackBox_a at h
 split at h
 ·rename_i n_c c_c c_pb
  cases h
  obtain ⟨hp0, hp1, hp⟩ := hp
  refine ⟨rfl, J_slices_IndexFunc_cherenkov_api_TrackBox_cherenkov_api_TrackBox_a (listC n_c mkBx c_c) (cvInt (c_pb 0)) (cvInt (c_pb 1)) (cvInt (c_pb 2)) (cvInt (c_pb 3)) (cvInt (c_pb 4)) (cvInt (c_pb 5)), [.t (.c (.sl 6 ((listC n_c mkBx c_c).length) (bxsC (listC n_c mkBx c_c)))), .t (.fn 108 [.px 6 0 (boxC [.v (.int .i64 (cvInt (c_pb 0))), .v (.int .i64 (cvInt (c_pb 1))), .v (.int .i64 (cvInt (c_pb 2))), .v (.int .i64 (cvInt (c_pb 3))), .v (.int .i64 (cvInt (c_pb 4))), .v (.int .i64 (cvInt (c_pb 5)))])])], ?_, Nat.le_of_ble_eq_true (by kernel_rfl), ?_, ?_⟩
  ·exact (LeA_cons (leT_c ((leL_TBox hp0))) (LeA_cons (leT_f (LeCs.cons (leC_p (LeCs.cons (leC_i (intsB_get hp1 0 (by decide))) (LeCs.cons (leC_i (intsB_get hp1 1 (by decide))) (LeCs.cons (leC_i (intsB_get hp1 2 (by decide))) (LeCs.cons (leC_i (intsB_get hp1 3 (by decide))) (LeCs.cons (leC_i (intsB_get hp1 4 (by decide))) (LeCs.cons (leC_i (intsB_get hp1 5 (by decide))) LeCs.nil))))))) LeCs.nil)) LeA_nil))
  ·rw [ev_slices_IndexFunc_cherenkov_api_TrackBox_cherenkov_api_TrackBox_a]; exact spec_slices_IndexFunc_cherenkov_api_TrackBox_cherenkov_api_TrackBox_a (listC n_c mkBx c_c) (cvInt (c_pb 0)) (cvInt (c_pb 1)) (cvInt (c_pb 2)) (cvInt (c_pb 3)) (cvInt (c_pb 4)) (cvInt (c_pb 5)) hp
  ·exact all_slices_IndexFunc_cherenkov_api_TrackBox_cherenkov_api_TrackBox_a (listC n_c mkBx c_c) (cvInt (c_pb 0)) (cvInt (c_pb 1)) (cvInt (c_pb 2)) (cvInt (c_pb 3)) (cvInt (c_pb 4)) (cvInt (c_pb 5)) hp
 ·cases h
def S65 : Sum := addF S64 112 con_slices_IndexFunc_cherenkov_api_TrackBox_cherenkov_api_TrackBox_a
theorem VS65 : Valid Try.prog S65 := Valid.addF VS64 ok_slices_IndexFunc_cherenkov_api_TrackBox_cherenkov_api_TrackBox_a
def vc_slices_ContainsFunc_cherenkov_api_TrackBox_cherenkov_api_TrackBox (c : List TBox) (b0 b1 b2 b3 b4 b5 : Int) (post : DV → Prop) : Prop := (numsP 6 c.length (bxsC c) ∧ intsB [0, 1, 2, 3, 4, 5] (boxC [.v (.int .i64 b0), .v (.int .i64 b1), .v (.int .i64 b2), .v (.int .i64 b3), .v (.int .i64 b4), .v (.int .i64 b5)]) = true ∧ ((listC c.length mkBx (bxsC c))).length ≤ 1000000) ∧ (post (.t (.c (.v (.bool (decide ((idxP (fun a => decide (¬ a.apart (⟨⟨b0, b1, b2⟩, ⟨b3, b4, b5⟩⟩ : TBox))) (listC c.length mkBx (bxsC c))) ≥ (0 : Int))))))))
def ann_slices_ContainsFunc_cherenkov_api_TrackBox_cherenkov_api_TrackBox : Ann := ⟨fun _ => none, fun _ => none, fun _ => [], I49, false, fun _ => none, fun _ => none⟩
theorem ev_slices_ContainsFunc_cherenkov_api_TrackBox_cherenkov_api_TrackBox (J : Inv) (c : List TBox) (b0 b1 b2 b3 b4 b5 : Int) (post : DV → Prop) : evFn Try.prog tab S65 ann_slices_ContainsFunc_cherenkov_api_TrackBox_cherenkov_api_TrackBox J Try.f111 [.t (.c (.sl 6 c.length (bxsC c))), .t (.fn 108 [.px 6 0 (boxC [.v (.int .i64 b0), .v (.int .i64 b1), .v (.int .i64 b2), .v (.int .i64 b3), .v (.int .i64 b4), .v (.int .i64 b5)])])] post = vc_slices_ContainsFunc_cherenkov_api_TrackBox_cherenkov_api_TrackBox c b0 b1 b2 b3 b4 b5 post := by kernel_rfl
theorem fit_slices_ContainsFunc_cherenkov_api_TrackBox_cherenkov_api_TrackBox : okFn ann_slices_ContainsFunc_cherenkov_api_TrackBox_cherenkov_api_TrackBox Try.f111 = true := by kernel_rfl
theorem lp_slices_ContainsFunc_cherenkov_api_TrackBox_cherenkov_api_TrackBox (J : Inv) (post : DV → Prop) : AllG J (loopsFn Try.prog tab S65 ann_slices_ContainsFunc_cherenkov_api_TrackBox_cherenkov_api_TrackBox J Try.f111 post) = (True) := by kernel_rfl
theorem spec_slices_ContainsFunc_cherenkov_api_TrackBox_cherenkov_api_TrackBox (c : List TBox) (b0 b1 b2 b3 b4 b5 : Int) (hp : (c).length ≤ 1000000) : vc_slices_ContainsFunc_cherenkov_api_TrackBox_cherenkov_api_TrackBox c b0 b1 b2 b3 b4 b5 (fun r => LeD r (.t (.c (.v (.bool ((c).any (fun a => decide (¬ a.apart (⟨⟨b0, b1, b2⟩, ⟨b3, b4, b5⟩⟩ : TBox))))))))) := by
 unfold vc_slices_ContainsFunc_cherenkov_api_TrackBox_cherenkov_api_TrackBox
 rw [bxs_listC]
 refine ⟨⟨numsP_bxs c, rfl, hp⟩, leB ?_⟩
 rw [idxP_any]
def con_slices_ContainsFunc_cherenkov_api_TrackBox_cherenkov_api_TrackBox : Con := fun args => match args with
 | [.t (.c (.sl 6 n_c c_c)), .t (.fn 108 [.px 6 0 c_pb])] => some (.t (.c (.v (.bool (((listC n_c mkBx c_c)).any (fun a => decide (¬ a.apart (⟨⟨(cvInt (c_pb 0)), (cvInt (c_pb 1)), (cvInt (c_pb 2))⟩, ⟨(cvInt (c_pb 3)), (cvInt (c_pb 4)), (cvInt (c_pb 5))⟩⟩ : TBox))))))), some (numsP 6 n_c c_c ∧ intsB [0, 1, 2, 3, 4, 5] c_pb = true ∧ ((listC n_c mkBx c_c)).length ≤ 1000000), false)
 | _ => none
theorem ok_slices_ContainsFunc_cherenkov_api_TrackBox_cherenkov_api_TrackBox : Ok Try.prog 111 con_slices_ContainsFunc_cherenkov_api_TrackBox_cherenkov_api_TrackBox := by
 refine Ok.fn (ann := ann_slices_ContainsFunc_cherenkov_api_TrackBox_cherenkov_api_TrackBox) mixed tabOK VS65 VI49 (fn := Try.f111) (by kernel_rfl) (by kernel_rfl) fit_slices_ContainsFunc_cherenkov_api_TrackBox_cherenkov_api_TrackBox fun args r pre fresh h hp => ?_
 unfold con_slices_ContainsFunc_cherenkov_api_TrackBox_cherenkov_api_TrackBox at h
 split at h
 ·rename_i n_c c_c c_pb
  cases h
  obtain ⟨hp0, hp1, hp⟩ := hp
  refine ⟨rfl, fun _ _ _ => False, [.t (.c (.sl 6 ((listC n_c mkBx c_c).length) (bxsC (listC n_c mkBx c_c)))), .t (.fn 108 [.px 6 0 (boxC [.v (.int .i64 (cvInt (c_pb 0))), .v (.int .i64 (cvInt (c_pb 1))), .v (.int .i64 (cvInt (c_pb 2))), .v (.int .i64 (cvInt (c_pb 3))), .v (.int .i64 (cvInt (c_pb 4))), .v (.int .i64 (cvInt (c_pb 5)))])])], ?_, Nat.le_of_ble_eq_true (by kernel_rfl), ?_, ?_⟩
  ·exact (LeA_cons (leT_c ((leL_TBox hp0))) (LeA_cons (leT_f (LeCs.cons (leC_p (LeCs.cons (leC_i (intsB_get hp1 0 (by decide))) (LeCs.cons (leC_i (intsB_get hp1 1 (by decide))) (LeCs.cons (leC_i (intsB_get hp1 2 (by decide))) (LeCs.cons (leC_i (intsB_get hp1 3 (by decide))) (LeCs.cons (leC_i (intsB_get hp1 4 (by decide))) (LeCs.cons (leC_i (intsB_get hp1 5 (by decide))) LeCs.nil))))))) LeCs.nil)) LeA_nil))
  ·rw [ev_slices_ContainsFunc_cherenkov_api_TrackBox_cherenkov_api_TrackBox]; exact spec_slices_ContainsFunc_cherenkov_api_TrackBox_cherenkov_api_TrackBox (listC n_c mkBx c_c) (cvInt (c_pb 0)) (cvInt (c_pb 1)) (cvInt (c_pb 2)) (cvInt (c_pb 3)) (cvInt (c_pb 4)) (cvInt (c_pb 5)) hp
  ·rw [lp_slices_ContainsFunc_cherenkov_api_TrackBox_cherenkov_api_TrackBox]; trivial
 ·cases h
def S66 : Sum := addS S65 111 con_slices_ContainsFunc_cherenkov_api_TrackBox_cherenkov_api_TrackBox
theorem VS66 : Valid Try.prog S66 := Valid.add VS65 ok_slices_ContainsFunc_cherenkov_api_TrackBox_cherenkov_api_TrackBox
def vc_track_model_proved (m0 m1 m2 m3 m4 m5 m6 m7 m8 m9 m10 m11 : Int) (b0 b1 b2 b3 b4 b5 : Int) (l : List THit) (K : Int) (post : DV → Prop) : Prop := (fun (Z1 : TBox) (Z2 : TMod) (Z3 : List THit) => lt ((sqsW Z1).lo) fun x1 => lt ((sqsW Z1).hi) fun x2 => lt (canW Z2 Z1) fun x3 => cond (!x3) ((true = true) ∧ (post (.t (.c (.v (.bool true)))))) ((numsP 5 l.length (hitsC l) ∧ (Z2).Ok ∧ (Z1).lo.inS 20 = true ∧ (Z1).hi.inS 20 = true ∧ (Z2).canBe Z1 ∧ (Z3).length ≤ 12 ∧ ∀ i, i < (Z3).length → (hitAt Z3 i).Ok) ∧ (post (.t (.c (.v (.bool (decide ((((Z2).scores Z1 Z3).lo) ≥ K))))))))) (⟨⟨b0, b1, b2⟩, ⟨b3, b4, b5⟩⟩ : TBox) (⟨m0, m1, m2, m3, m4, m5, m6, m7, m8, m9, m10, m11⟩ : TMod) (listC l.length mkHit (hitsC l))
def ann_track_model_proved : Ann := ⟨fun _ => none, fun _ => none, fun _ => [], I49, false, fun _ => none, fun _ => none⟩
theorem ev_track_model_proved (J : Inv) (m0 m1 m2 m3 m4 m5 m6 m7 m8 m9 m10 m11 : Int) (b0 b1 b2 b3 b4 b5 : Int) (l : List THit) (K : Int) (post : DV → Prop) : evFn Try.prog tab S66 ann_track_model_proved J Try.f114 [.t (.a [.v (.int .i64 m0), .v (.int .i64 m1), .v (.int .i64 m2), .v (.int .i64 m3), .v (.int .i64 m4), .v (.int .i64 m5), .v (.int .i64 m6), .v (.int .i64 m7), .v (.int .i64 m8), .v (.int .i64 m9), .v (.int .i64 m10), .v (.int .i64 m11)]), .t (.a [.v (.int .i64 b0), .v (.int .i64 b1), .v (.int .i64 b2), .v (.int .i64 b3), .v (.int .i64 b4), .v (.int .i64 b5)]), .t (.c (.sl 5 l.length (hitsC l))), .t (.c (.v (.int .i64 K)))] post = vc_track_model_proved m0 m1 m2 m3 m4 m5 m6 m7 m8 m9 m10 m11 b0 b1 b2 b3 b4 b5 l K post := by kernel_rfl
theorem fit_track_model_proved : okFn ann_track_model_proved Try.f114 = true := by kernel_rfl
theorem lp_track_model_proved (J : Inv) (post : DV → Prop) : AllG J (loopsFn Try.prog tab S66 ann_track_model_proved J Try.f114 post) = (True) := by kernel_rfl
theorem spec_track_model_proved (m0 m1 m2 m3 m4 m5 m6 m7 m8 m9 m10 m11 : Int) (b0 b1 b2 b3 b4 b5 : Int) (l : List THit) (K : Int) (hp : ((⟨m0, m1, m2, m3, m4, m5, m6, m7, m8, m9, m10, m11⟩ : TMod)).err = 0 ∧ ((⟨⟨b0, b1, b2⟩, ⟨b3, b4, b5⟩⟩ : TBox)).err = 0 ∧ hitsE l = 0) : vc_track_model_proved m0 m1 m2 m3 m4 m5 m6 m7 m8 m9 m10 m11 b0 b1 b2 b3 b4 b5 l K (fun r => LeD r (.t (.c (.v (.bool (provB (⟨m0, m1, m2, m3, m4, m5, m6, m7, m8, m9, m10, m11⟩ : TMod) l K (⟨⟨b0, b1, b2⟩, ⟨b3, b4, b5⟩⟩ : TBox))))))) := by
 obtain ⟨p1, p2, p3⟩ := hp
 have hb := box_in p2
 obtain ⟨q6, q7⟩ := hitsE_ok p3
 have hc := canW_eq (m := (⟨m0, m1, m2, m3, m4, m5, m6, m7, m8, m9, m10, m11⟩ : TMod)) hb.1 hb.2
 unfold vc_track_model_proved
 rw [hits_listC]
 refine lt_i fun _ _ => lt_i fun _ _ => lt_i fun x h => cond_i (fun e => ⟨rfl, leB ?_⟩) (fun e => ?_)
 ·have e : x = false := by simpa using e
  unfold provB
  rw [h, e]; rfl
 ·have e : x = true := by simpa using e
  refine ⟨⟨numsP_hits l, err_ok p1, hb.1, hb.2, canB_iff.1 (by rw [← hc, h]; exact e), q6, q7⟩, leB ?_⟩
  unfold provB
  rw [h, e]; rfl
def con_track_model_proved : Con := fun args => match args with
 | [.t (.a [.v (.int .i64 m0), .v (.int .i64 m1), .v (.int .i64 m2), .v (.int .i64 m3), .v (.int .i64 m4), .v (.int .i64 m5), .v (.int .i64 m6), .v (.int .i64 m7), .v (.int .i64 m8), .v (.int .i64 m9), .v (.int .i64 m10), .v (.int .i64 m11)]), .t (.a [.v (.int .i64 b0), .v (.int .i64 b1), .v (.int .i64 b2), .v (.int .i64 b3), .v (.int .i64 b4), .v (.int .i64 b5)]), .t (.c (.sl 5 n_l c_l)), .t (.c (.v (.int .i64 K)))] => some (.t (.c (.v (.bool (provB (⟨m0, m1, m2, m3, m4, m5, m6, m7, m8, m9, m10, m11⟩ : TMod) (listC n_l mkHit c_l) K (⟨⟨b0, b1, b2⟩, ⟨b3, b4, b5⟩⟩ : TBox))))), some (numsP 5 n_l c_l ∧ ((⟨m0, m1, m2, m3, m4, m5, m6, m7, m8, m9, m10, m11⟩ : TMod)).err = 0 ∧ ((⟨⟨b0, b1, b2⟩, ⟨b3, b4, b5⟩⟩ : TBox)).err = 0 ∧ hitsE (listC n_l mkHit c_l) = 0), false)
 | _ => none
theorem ok_track_model_proved : Ok Try.prog 114 con_track_model_proved := by
 refine Ok.fn (ann := ann_track_model_proved) mixed tabOK VS66 VI49 (fn := Try.f114) (by kernel_rfl) (by kernel_rfl) fit_track_model_proved fun args r pre fresh h hp => ?_
 unfold con_track_model_proved at h
 split at h
 ·rename_i m0 m1 m2 m3 m4 m5 m6 m7 m8 m9 m10 m11 b0 b1 b2 b3 b4 b5 n_l c_l K
  cases h
  obtain ⟨hp0, hp⟩ := hp
  refine ⟨rfl, fun _ _ _ => False, [.t (.a [.v (.int .i64 m0), .v (.int .i64 m1), .v (.int .i64 m2), .v (.int .i64 m3), .v (.int .i64 m4), .v (.int .i64 m5), .v (.int .i64 m6), .v (.int .i64 m7), .v (.int .i64 m8), .v (.int .i64 m9), .v (.int .i64 m10), .v (.int .i64 m11)]), .t (.a [.v (.int .i64 b0), .v (.int .i64 b1), .v (.int .i64 b2), .v (.int .i64 b3), .v (.int .i64 b4), .v (.int .i64 b5)]), .t (.c (.sl 5 ((listC n_l mkHit c_l).length) (hitsC (listC n_l mkHit c_l)))), .t (.c (.v (.int .i64 K)))], ?_, Nat.le_of_ble_eq_true (by kernel_rfl), ?_, ?_⟩
  ·exact (LeA_cons (LeD.refl _) (LeA_cons (LeD.refl _) (LeA_cons (leT_c ((leL_THit hp0))) (LeA_cons (LeD.refl _) LeA_nil))))
  ·rw [ev_track_model_proved]; exact spec_track_model_proved m0 m1 m2 m3 m4 m5 m6 m7 m8 m9 m10 m11 b0 b1 b2 b3 b4 b5 (listC n_l mkHit c_l) K hp
  ·rw [lp_track_model_proved]; trivial
 ·cases h
def S67 : Sum := addS S66 114 con_track_model_proved
theorem VS67 : Valid Try.prog S67 := Valid.add VS66 ok_track_model_proved
end Go.Proofs.Ytlmdmpjfehpjeaa