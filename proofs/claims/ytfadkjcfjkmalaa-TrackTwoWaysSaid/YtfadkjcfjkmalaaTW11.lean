/- Texts of this claim, together. -/
import Derived.Test.YtfadkjcfjkmalaaTW10

set_option linter.unusedVariables false
set_option linter.unusedSimpArgs false
namespace Go.Proofs.Ytfadkjcfjkmalaa
open Go.RowKit Ev
theorem le_sl {sz n : Nat} {c c' : Nat → Nat → CV} (h : ∀ i j, i < n → j < sz → c i j = c' i j) : LeD (.t (.c (.sl sz n c))) (.t (.c (.sl sz n c'))) := fun w N v g => RelF.sl g h
def plAt (l : List V3) (i : Nat) : V3 := l.getD i ⟨0, 0, 0⟩
def plsC (l : List V3) : Nat → Nat → CV := fun i j => match j with
 | 0 => .v (.int .i64 (plAt l i).x)
 | 1 => .v (.int .i64 (plAt l i).y)
 | _ => .v (.int .i64 (plAt l i).z)
theorem plAt_take {l : List V3} {k : Nat} (h : k < l.length) : l.take (k + 1) = l.take k ++ [plAt l k] := by
 rw [List.take_succ_eq_append_getElem h]; simp [plAt, List.getD, h]
theorem upto_cons {lo hi : Int} (h : lo ≤ hi) : upto lo hi = lo :: upto (lo + 1) hi := by
 unfold upto
 rw [show (hi - lo + 1).toNat = (hi - (lo + 1) + 1).toNat + 1 by omega, List.range_succ_eq_map, List.map_cons, List.map_map]
 congr 1
 ·simp
 ·apply List.map_congr_left
  intro k _
  simp only [Function.comp_def, Nat.succ_eq_add_one]
  omega
theorem upto_nil {lo hi : Int} (h : hi < lo) : upto lo hi = [] := by
 unfold upto
 rw [show (hi - lo + 1).toNat = 0 by omega]; rfl
def restZ (b : TBox) (x y z : Int) : List V3 := (upto z b.hi.z).map fun z => ⟨x, y, z⟩
def restY (b : TBox) (x y : Int) : List V3 := (upto y b.hi.y).flatMap fun y => restZ b x y b.lo.z
def restX (b : TBox) (x : Int) : List V3 := (upto x b.hi.x).flatMap fun x => restY b x b.lo.y
theorem restX_cons {b : TBox} {x : Int} (h : x ≤ b.hi.x) : restX b x = restY b x b.lo.y ++ restX b (x + 1) := by unfold restX; rw [upto_cons h]; rfl
theorem restX_nil {b : TBox} {x : Int} (h : b.hi.x < x) : restX b x = [] := by unfold restX; rw [upto_nil h]; rfl
theorem restY_cons {b : TBox} {x y : Int} (h : y ≤ b.hi.y) : restY b x y = restZ b x y b.lo.z ++ restY b x (y + 1) := by unfold restY; rw [upto_cons h]; rfl
theorem restY_nil {b : TBox} {x y : Int} (h : b.hi.y < y) : restY b x y = [] := by unfold restY; rw [upto_nil h]; rfl
theorem restZ_cons {b : TBox} {x y z : Int} (h : z ≤ b.hi.z) : restZ b x y z = ⟨x, y, z⟩ :: restZ b x y (z + 1) := by unfold restZ; rw [upto_cons h]; rfl
theorem restZ_nil {b : TBox} {x y z : Int} (h : b.hi.z < z) : restZ b x y z = [] := by unfold restZ; rw [upto_nil h]; rfl
def v3Cv (s : V3) : List CV := [.v (.int .i64 s.x), .v (.int .i64 s.y), .v (.int .i64 s.z)]
theorem le_v3 (l : List V3) : LeD (.t (.c (.sl 3 (l.map v3Cv).length (genC (l.map v3Cv))))) (.t (.c (.sl 3 l.length (plsC l)))) := by
 rw [List.length_map]
 refine le_sl fun i j hi hj => ?_
 unfold genC plsC plAt
 simp only [List.getD_eq_getElem?_getD, List.getElem?_map, List.getElem?_eq_getElem hi, Option.map_some, Option.getD_some]
 rcases (by omega : j = 0 ∨ j = 1 ∨ j = 2) with rfl | rfl | rfl <;> rfl
theorem v3_ext {a b : V3} : a = b ↔ a.x = b.x ∧ a.y = b.y ∧ a.z = b.z := by
 obtain ⟨_, _, _⟩ := a
 obtain ⟨_, _, _⟩ := b
 simp
instance : DecidableEq V3 := fun a b => decidable_of_iff _ v3_ext.symm
theorem drop_cons {l : List V3} {k : Nat} {s : V3} {r : List V3} (h : l.drop k = s :: r) : k < l.length ∧ plAt l k = s ∧ l.drop (k + 1) = r := by
 have hl : k < l.length := by
  rcases Nat.lt_or_ge k l.length with h1 | h1
  ·exact h1
  ·rw [List.drop_eq_nil_of_le h1] at h; cases h
 rw [List.drop_eq_getElem_cons hl] at h
 injection h with h1 h2
 exact ⟨hl, by simp [plAt, List.getD, hl, h1], h2⟩
theorem sm_in {s : V3} (hx : -20 ≤ s.x ∧ s.x ≤ 20) (hy : -20 ≤ s.y ∧ s.y ≤ 20) (hz : -20 ≤ s.z ∧ s.z ≤ 20) : s.sm s := by
 have h1 := mul_rg (C := 400) hx hx (by decide)
 have h2 := mul_rg (C := 400) hy hy (by decide)
 have h3 := mul_rg (C := 400) hz hz (by decide)
 unfold V3.sm
 omega
theorem plAt_in {l : List V3} {k : Nat} (h : k < l.length) : plAt l k ∈ l := by simp [plAt, List.getD, h]
theorem len_68921 {b : TBox} (hl : b.lo.inS 20 = true) (hh : b.hi.inS 20 = true) (ho : b.ok) : b.all.length ≤ 68921 := by
 have h := len_all ho
 obtain ⟨a1, a2, a3⟩ := inS_iff.1 hl
 obtain ⟨c1, c2, c3⟩ := inS_iff.1 hh
 obtain ⟨o1, o2, o3⟩ := ho
 unfold TBox.rx TBox.ry TBox.rz Rg.ok at *
 simp only at *
 unfold TBox.count at h
 have m1 := mul_rg (x := b.hi.x - b.lo.x + 1) (y := b.hi.y - b.lo.y + 1) (A := 41) (B := 41) (C := 1681) (by omega) (by omega) (by decide)
 have m2 := mul_rg (y := b.hi.z - b.lo.z + 1) (A := 1681) (B := 41) (C := 68921) m1 (by omega) (by decide)
 omega
theorem box_ok {b : TBox} (h : b.err = 0) : b.ok := by
 unfold TBox.err at h
 obtain ⟨_, h1, _⟩ := (by simpa only [firstNZ_cons] using h : _ ∧ _ ∧ _)
 rw [unl_0 (by decide)] at h1
 simp only [Bool.and_eq_true, decide_eq_true_eq] at h1
 exact ⟨h1.1.1, h1.1.2, h1.2⟩
def stepsL (m : TMod) (b : TBox) : List V3 := if firstNZ [m.err, b.err] ≠ 0 then [] else m.steps b
def divE (b : TBox) : Int := if b.err ≠ 0 then b.err else if b.count = 1 then 12 else 0
def n_it_track_model_steps_1 (b0 b1 b2 b3 b4 b5 : Int) (m0 m1 m2 m3 m4 m5 m6 m7 m8 m9 m10 m11 : Int) : Nat := (((⟨m0, m1, m2, m3, m4, m5, m6, m7, m8, m9, m10, m11⟩ : TMod)).steps (⟨⟨b0, b1, b2⟩, ⟨b3, b4, b5⟩⟩ : TBox)).length
def y_it_track_model_steps_1 (b0 b1 b2 b3 b4 b5 : Int) (m0 m1 m2 m3 m4 m5 m6 m7 m8 m9 m10 m11 : Int) (i : Nat) : List TV := [.a (v3Cv (plAt (((⟨m0, m1, m2, m3, m4, m5, m6, m7, m8, m9, m10, m11⟩ : TMod)).steps (⟨⟨b0, b1, b2⟩, ⟨b3, b4, b5⟩⟩ : TBox)) i))]
def mk_it_track_model_steps_1_0 (l0 : Nat) (b0 b1 b2 b3 b4 b5 : Int) (m0 m1 m2 m3 m4 m5 m6 m7 m8 m9 m10 m11 : Int) (v0_0 : Int) : DS := ⟨[some (.t (.c (.v (.func (.yield l0) #[] #[])))), some (.t (.c (.px 6 0 (boxC [.v (.int .i64 b0), .v (.int .i64 b1), .v (.int .i64 b2), .v (.int .i64 b3), .v (.int .i64 b4), .v (.int .i64 b5)])))), some (.t (.c (.px 12 0 (boxC [.v (.int .i64 m0), .v (.int .i64 m1), .v (.int .i64 m2), .v (.int .i64 m3), .v (.int .i64 m4), .v (.int .i64 m5), .v (.int .i64 m6), .v (.int .i64 m7), .v (.int .i64 m8), .v (.int .i64 m9), .v (.int .i64 m10), .v (.int .i64 m11)])))), none, some (.t (.c (.v (.int .i64 v0_0)))), none, none, none, none, none, none, none, none, none, none, none, none, none, none, none, none, none, none, none, none, none, none, none, none, none, none, none, none, none, none, none, none, none, none, none, none, none, none, none, none, none, none, none, none, none, none], [none, none, none, none, none, none, none, none, none, none, none, none, none, none, none, none, none, none, none, none, none, none, none, none, none, none, none, none, none, none, none, none, none, none, none, none, none, none, none, none, none, none, none, none, none, none, none, none, none, none, none]⟩
def mk_it_track_model_steps_1_2 (l0 : Nat) (b0 b1 b2 b3 b4 b5 : Int) (m0 m1 m2 m3 m4 m5 m6 m7 m8 m9 m10 m11 : Int) (v2_0 : Int) (v2_1 : Int) : DS := ⟨[some (.t (.c (.v (.func (.yield l0) #[] #[])))), some (.t (.c (.px 6 0 (boxC [.v (.int .i64 b0), .v (.int .i64 b1), .v (.int .i64 b2), .v (.int .i64 b3), .v (.int .i64 b4), .v (.int .i64 b5)])))), some (.t (.c (.px 12 0 (boxC [.v (.int .i64 m0), .v (.int .i64 m1), .v (.int .i64 m2), .v (.int .i64 m3), .v (.int .i64 m4), .v (.int .i64 m5), .v (.int .i64 m6), .v (.int .i64 m7), .v (.int .i64 m8), .v (.int .i64 m9), .v (.int .i64 m10), .v (.int .i64 m11)])))), none, some (.t (.c (.v (.int .i64 v2_0)))), some (.t (.c (.v (.int .i64 v2_1)))), none, none, none, none, none, none, none, none, none, none, none, none, none, none, none, none, none, none, none, none, none, none, none, none, none, none, none, none, none, none, none, none, none, none, none, none, none, none, none, none, none, none, none, none, none], [none, none, none, none, none, none, none, none, none, none, none, none, none, none, none, none, none, none, none, none, none, none, none, none, none, none, none, none, none, none, none, none, none, none, none, none, none, none, none, none, none, none, none, none, none, none, none, none, none, none, none]⟩
def mk_it_track_model_steps_1_4 (l0 : Nat) (b0 b1 b2 b3 b4 b5 : Int) (m0 m1 m2 m3 m4 m5 m6 m7 m8 m9 m10 m11 : Int) (v4_0 : Int) (v4_1 : Int) (v4_2 : Int) : DS := ⟨[some (.t (.c (.v (.func (.yield l0) #[] #[])))), some (.t (.c (.px 6 0 (boxC [.v (.int .i64 b0), .v (.int .i64 b1), .v (.int .i64 b2), .v (.int .i64 b3), .v (.int .i64 b4), .v (.int .i64 b5)])))), some (.t (.c (.px 12 0 (boxC [.v (.int .i64 m0), .v (.int .i64 m1), .v (.int .i64 m2), .v (.int .i64 m3), .v (.int .i64 m4), .v (.int .i64 m5), .v (.int .i64 m6), .v (.int .i64 m7), .v (.int .i64 m8), .v (.int .i64 m9), .v (.int .i64 m10), .v (.int .i64 m11)])))), none, some (.t (.c (.v (.int .i64 v4_0)))), some (.t (.c (.v (.int .i64 v4_1)))), some (.t (.c (.v (.int .i64 v4_2)))), none, none, none, none, none, none, none, none, none, none, none, none, none, none, none, none, none, none, none, none, none, none, none, none, none, none, none, none, none, none, none, none, none, none, none, none, none, none, none, none, none, none, none, none], [none, none, none, none, none, none, none, none, none, none, none, none, none, none, none, none, none, none, none, none, none, none, none, none, none, none, none, none, none, none, none, none, none, none, none, none, none, none, none, none, none, none, none, none, none, none, none, none, none, none, none]⟩
def vc_it_track_model_steps_1 (J : Inv) (l0 : Nat) (b0 b1 b2 b3 b4 b5 : Int) (m0 m1 m2 m3 m4 m5 m6 m7 m8 m9 m10 m11 : Int) : Prop := (0 ≤ (0 : Int) ∧ (0 : Int) < ((3 : Nat) : Int)) ∧ (∃ m, J 0 (0 :: m :: []) (mk_it_track_model_steps_1_0 l0 b0 b1 b2 b3 b4 b5 m0 m1 m2 m3 m4 m5 m6 m7 m8 m9 m10 m11 b0))
def ann_it_track_model_steps_1 : Ann := ⟨fun _ => none, fun b => lookA b [(0, (none, some ⟨[0, 1, 2, 4], [], []⟩)), (2, (none, some ⟨[0, 1, 2, 4, 5], [], []⟩)), (4, (none, some ⟨[0, 1, 2, 4, 5, 6], [], []⟩))], fun _ => [], noIt, false, fun _ => none, fun _ => none⟩
theorem ev_it_track_model_steps_1 (J : Inv) (l0 : Nat) (b0 b1 b2 b3 b4 b5 : Int) (m0 m1 m2 m3 m4 m5 m6 m7 m8 m9 m10 m11 : Int) : evIt Try.prog tab Sku50 ann_it_track_model_steps_1 J l0 (n_it_track_model_steps_1 b0 b1 b2 b3 b4 b5 m0 m1 m2 m3 m4 m5 m6 m7 m8 m9 m10 m11) (y_it_track_model_steps_1 b0 b1 b2 b3 b4 b5 m0 m1 m2 m3 m4 m5 m6 m7 m8 m9 m10 m11) (keepOf 1 [.px 6 0 (boxC [.v (.int .i64 b0), .v (.int .i64 b1), .v (.int .i64 b2), .v (.int .i64 b3), .v (.int .i64 b4), .v (.int .i64 b5)]), .px 12 0 (boxC [.v (.int .i64 m0), .v (.int .i64 m1), .v (.int .i64 m2), .v (.int .i64 m3), .v (.int .i64 m4), .v (.int .i64 m5), .v (.int .i64 m6), .v (.int .i64 m7), .v (.int .i64 m8), .v (.int .i64 m9), .v (.int .i64 m10), .v (.int .i64 m11)])]) Try.f67 ([.px 6 0 (boxC [.v (.int .i64 b0), .v (.int .i64 b1), .v (.int .i64 b2), .v (.int .i64 b3), .v (.int .i64 b4), .v (.int .i64 b5)]), .px 12 0 (boxC [.v (.int .i64 m0), .v (.int .i64 m1), .v (.int .i64 m2), .v (.int .i64 m3), .v (.int .i64 m4), .v (.int .i64 m5), .v (.int .i64 m6), .v (.int .i64 m7), .v (.int .i64 m8), .v (.int .i64 m9), .v (.int .i64 m10), .v (.int .i64 m11)])].map fun x => .t (.c x)) = vc_it_track_model_steps_1 J l0 b0 b1 b2 b3 b4 b5 m0 m1 m2 m3 m4 m5 m6 m7 m8 m9 m10 m11 := by kernel_rfl
theorem fit_it_track_model_steps_1 (b0 b1 b2 b3 b4 b5 : Int) (m0 m1 m2 m3 m4 m5 m6 m7 m8 m9 m10 m11 : Int) : okIt ann_it_track_model_steps_1 (keepOf 1 [.px 6 0 (boxC [.v (.int .i64 b0), .v (.int .i64 b1), .v (.int .i64 b2), .v (.int .i64 b3), .v (.int .i64 b4), .v (.int .i64 b5)]), .px 12 0 (boxC [.v (.int .i64 m0), .v (.int .i64 m1), .v (.int .i64 m2), .v (.int .i64 m3), .v (.int .i64 m4), .v (.int .i64 m5), .v (.int .i64 m6), .v (.int .i64 m7), .v (.int .i64 m8), .v (.int .i64 m9), .v (.int .i64 m10), .v (.int .i64 m11)])]) Try.f67 = true := by kernel_rfl
def rd_it_track_model_steps_1_0 (J : Inv) (l0 : Nat) (b0 b1 b2 b3 b4 b5 : Int) (m0 m1 m2 m3 m4 m5 m6 m7 m8 m9 m10 m11 : Int) (v0_0 : Int) (cc nn0 : Nat) : Prop := (0 ≤ (0 : Int) ∧ (0 : Int) < ((3 : Nat) : Int)) ∧ (cond (decide (v0_0 ≤ b3)) ((0 ≤ (1 : Int) ∧ (1 : Int) < ((3 : Nat) : Int)) ∧ (∃ m, J 2 (cc :: m :: nn0 :: []) (mk_it_track_model_steps_1_2 l0 b0 b1 b2 b3 b4 b5 m0 m1 m2 m3 m4 m5 m6 m7 m8 m9 m10 m11 v0_0 b1))) (cc = (n_it_track_model_steps_1 b0 b1 b2 b3 b4 b5 m0 m1 m2 m3 m4 m5 m6 m7 m8 m9 m10 m11)))
theorem er_it_track_model_steps_1_0 (J : Inv) (l0 : Nat) (b0 b1 b2 b3 b4 b5 : Int) (m0 m1 m2 m3 m4 m5 m6 m7 m8 m9 m10 m11 : Int) (v0_0 : Int) (cc nn0 : Nat) : roundIt Try.prog tab Sku50 ann_it_track_model_steps_1 J l0 (n_it_track_model_steps_1 b0 b1 b2 b3 b4 b5 m0 m1 m2 m3 m4 m5 m6 m7 m8 m9 m10 m11) (y_it_track_model_steps_1 b0 b1 b2 b3 b4 b5 m0 m1 m2 m3 m4 m5 m6 m7 m8 m9 m10 m11) (keepOf 1 [.px 6 0 (boxC [.v (.int .i64 b0), .v (.int .i64 b1), .v (.int .i64 b2), .v (.int .i64 b3), .v (.int .i64 b4), .v (.int .i64 b5)]), .px 12 0 (boxC [.v (.int .i64 m0), .v (.int .i64 m1), .v (.int .i64 m2), .v (.int .i64 m3), .v (.int .i64 m4), .v (.int .i64 m5), .v (.int .i64 m6), .v (.int .i64 m7), .v (.int .i64 m8), .v (.int .i64 m9), .v (.int .i64 m10), .v (.int .i64 m11)])]) Try.f67 0 cc (nn0 :: []) (mk_it_track_model_steps_1_0 l0 b0 b1 b2 b3 b4 b5 m0 m1 m2 m3 m4 m5 m6 m7 m8 m9 m10 m11 v0_0) = rd_it_track_model_steps_1_0 J l0 b0 b1 b2 b3 b4 b5 m0 m1 m2 m3 m4 m5 m6 m7 m8 m9 m10 m11 v0_0 cc nn0 := by kernel_rfl
def rd_it_track_model_steps_1_2 (J : Inv) (l0 : Nat) (b0 b1 b2 b3 b4 b5 : Int) (m0 m1 m2 m3 m4 m5 m6 m7 m8 m9 m10 m11 : Int) (v2_0 : Int) (v2_1 : Int) (cc nn2 nn0 : Nat) : Prop := (0 ≤ (1 : Int) ∧ (1 : Int) < ((3 : Nat) : Int)) ∧ (cond (decide (v2_1 ≤ b4)) ((0 ≤ (2 : Int) ∧ (2 : Int) < ((3 : Nat) : Int)) ∧ (∃ m, J 4 (cc :: m :: nn2 :: nn0 :: []) (mk_it_track_model_steps_1_4 l0 b0 b1 b2 b3 b4 b5 m0 m1 m2 m3 m4 m5 m6 m7 m8 m9 m10 m11 v2_0 v2_1 b2))) (lt (IntKind.i64.wrap (v2_0 + (1 : Int))) fun x1 => J 0 (cc :: nn0 :: []) (mk_it_track_model_steps_1_0 l0 b0 b1 b2 b3 b4 b5 m0 m1 m2 m3 m4 m5 m6 m7 m8 m9 m10 m11 x1)))
theorem er_it_track_model_steps_1_2 (J : Inv) (l0 : Nat) (b0 b1 b2 b3 b4 b5 : Int) (m0 m1 m2 m3 m4 m5 m6 m7 m8 m9 m10 m11 : Int) (v2_0 : Int) (v2_1 : Int) (cc nn2 nn0 : Nat) : roundIt Try.prog tab Sku50 ann_it_track_model_steps_1 J l0 (n_it_track_model_steps_1 b0 b1 b2 b3 b4 b5 m0 m1 m2 m3 m4 m5 m6 m7 m8 m9 m10 m11) (y_it_track_model_steps_1 b0 b1 b2 b3 b4 b5 m0 m1 m2 m3 m4 m5 m6 m7 m8 m9 m10 m11) (keepOf 1 [.px 6 0 (boxC [.v (.int .i64 b0), .v (.int .i64 b1), .v (.int .i64 b2), .v (.int .i64 b3), .v (.int .i64 b4), .v (.int .i64 b5)]), .px 12 0 (boxC [.v (.int .i64 m0), .v (.int .i64 m1), .v (.int .i64 m2), .v (.int .i64 m3), .v (.int .i64 m4), .v (.int .i64 m5), .v (.int .i64 m6), .v (.int .i64 m7), .v (.int .i64 m8), .v (.int .i64 m9), .v (.int .i64 m10), .v (.int .i64 m11)])]) Try.f67 1 cc (nn2 :: nn0 :: []) (mk_it_track_model_steps_1_2 l0 b0 b1 b2 b3 b4 b5 m0 m1 m2 m3 m4 m5 m6 m7 m8 m9 m10 m11 v2_0 v2_1) = rd_it_track_model_steps_1_2 J l0 b0 b1 b2 b3 b4 b5 m0 m1 m2 m3 m4 m5 m6 m7 m8 m9 m10 m11 v2_0 v2_1 cc nn2 nn0 := by kernel_rfl
def rd_it_track_model_steps_1_4 (J : Inv) (l0 : Nat) (b0 b1 b2 b3 b4 b5 : Int) (m0 m1 m2 m3 m4 m5 m6 m7 m8 m9 m10 m11 : Int) (v4_0 : Int) (v4_1 : Int) (v4_2 : Int) (cc nn4 nn2 nn0 : Nat) : Prop := (0 ≤ (2 : Int) ∧ (2 : Int) < ((3 : Nat) : Int)) ∧ (cond (decide (v4_2 ≤ b5)) ((((⟨v4_0, v4_1, v4_2⟩ : V3)).sm (⟨v4_0, v4_1, v4_2⟩ : V3)) ∧ (cond (((⟨m0, m1, m2, m3, m4, m5, m6, m7, m8, m9, m10, m11⟩ : TMod)).permB (⟨v4_0, v4_1, v4_2⟩ : V3)) ((l0 = l0 ∧ cc < (n_it_track_model_steps_1 b0 b1 b2 b3 b4 b5 m0 m1 m2 m3 m4 m5 m6 m7 m8 m9 m10 m11) ∧ ([.a [.v (.int .i64 v4_0), .v (.int .i64 v4_1), .v (.int .i64 v4_2)]] : List TV) = (y_it_track_model_steps_1 b0 b1 b2 b3 b4 b5 m0 m1 m2 m3 m4 m5 m6 m7 m8 m9 m10 m11) cc) ∧ (lt (IntKind.i64.wrap (v4_2 + (1 : Int))) fun x1 => J 4 ((cc + 1) :: nn4 :: nn2 :: nn0 :: []) (mk_it_track_model_steps_1_4 l0 b0 b1 b2 b3 b4 b5 m0 m1 m2 m3 m4 m5 m6 m7 m8 m9 m10 m11 v4_0 v4_1 x1)) ∧ (True)) ((false = false) ∧ (lt (IntKind.i64.wrap (v4_2 + (1 : Int))) fun x2 => J 4 (cc :: nn4 :: nn2 :: nn0 :: []) (mk_it_track_model_steps_1_4 l0 b0 b1 b2 b3 b4 b5 m0 m1 m2 m3 m4 m5 m6 m7 m8 m9 m10 m11 v4_0 v4_1 x2))))) (lt (IntKind.i64.wrap (v4_1 + (1 : Int))) fun x3 => J 2 (cc :: nn2 :: nn0 :: []) (mk_it_track_model_steps_1_2 l0 b0 b1 b2 b3 b4 b5 m0 m1 m2 m3 m4 m5 m6 m7 m8 m9 m10 m11 v4_0 x3)))
theorem er_it_track_model_steps_1_4 (J : Inv) (l0 : Nat) (b0 b1 b2 b3 b4 b5 : Int) (m0 m1 m2 m3 m4 m5 m6 m7 m8 m9 m10 m11 : Int) (v4_0 : Int) (v4_1 : Int) (v4_2 : Int) (cc nn4 nn2 nn0 : Nat) : roundIt Try.prog tab Sku50 ann_it_track_model_steps_1 J l0 (n_it_track_model_steps_1 b0 b1 b2 b3 b4 b5 m0 m1 m2 m3 m4 m5 m6 m7 m8 m9 m10 m11) (y_it_track_model_steps_1 b0 b1 b2 b3 b4 b5 m0 m1 m2 m3 m4 m5 m6 m7 m8 m9 m10 m11) (keepOf 1 [.px 6 0 (boxC [.v (.int .i64 b0), .v (.int .i64 b1), .v (.int .i64 b2), .v (.int .i64 b3), .v (.int .i64 b4), .v (.int .i64 b5)]), .px 12 0 (boxC [.v (.int .i64 m0), .v (.int .i64 m1), .v (.int .i64 m2), .v (.int .i64 m3), .v (.int .i64 m4), .v (.int .i64 m5), .v (.int .i64 m6), .v (.int .i64 m7), .v (.int .i64 m8), .v (.int .i64 m9), .v (.int .i64 m10), .v (.int .i64 m11)])]) Try.f67 2 cc (nn4 :: nn2 :: nn0 :: []) (mk_it_track_model_steps_1_4 l0 b0 b1 b2 b3 b4 b5 m0 m1 m2 m3 m4 m5 m6 m7 m8 m9 m10 m11 v4_0 v4_1 v4_2) = rd_it_track_model_steps_1_4 J l0 b0 b1 b2 b3 b4 b5 m0 m1 m2 m3 m4 m5 m6 m7 m8 m9 m10 m11 v4_0 v4_1 v4_2 cc nn4 nn2 nn0 := by kernel_rfl
theorem lp_it_track_model_steps_1 (J : Inv) (l0 : Nat) (b0 b1 b2 b3 b4 b5 : Int) (m0 m1 m2 m3 m4 m5 m6 m7 m8 m9 m10 m11 : Int) : AllY J (loopsIt Try.prog tab Sku50 ann_it_track_model_steps_1 J l0 (n_it_track_model_steps_1 b0 b1 b2 b3 b4 b5 m0 m1 m2 m3 m4 m5 m6 m7 m8 m9 m10 m11) (y_it_track_model_steps_1 b0 b1 b2 b3 b4 b5 m0 m1 m2 m3 m4 m5 m6 m7 m8 m9 m10 m11) (keepOf 1 [.px 6 0 (boxC [.v (.int .i64 b0), .v (.int .i64 b1), .v (.int .i64 b2), .v (.int .i64 b3), .v (.int .i64 b4), .v (.int .i64 b5)]), .px 12 0 (boxC [.v (.int .i64 m0), .v (.int .i64 m1), .v (.int .i64 m2), .v (.int .i64 m3), .v (.int .i64 m4), .v (.int .i64 m5), .v (.int .i64 m6), .v (.int .i64 m7), .v (.int .i64 m8), .v (.int .i64 m9), .v (.int .i64 m10), .v (.int .i64 m11)])]) Try.f67) = (((∀ c F s, ¬ J 0 (c :: 0 :: F) s) ∧ ∀ c m F s, J 0 (c :: (m + 1) :: F) s → roundIt Try.prog tab Sku50 ann_it_track_model_steps_1 J l0 (n_it_track_model_steps_1 b0 b1 b2 b3 b4 b5 m0 m1 m2 m3 m4 m5 m6 m7 m8 m9 m10 m11) (y_it_track_model_steps_1 b0 b1 b2 b3 b4 b5 m0 m1 m2 m3 m4 m5 m6 m7 m8 m9 m10 m11) (keepOf 1 [.px 6 0 (boxC [.v (.int .i64 b0), .v (.int .i64 b1), .v (.int .i64 b2), .v (.int .i64 b3), .v (.int .i64 b4), .v (.int .i64 b5)]), .px 12 0 (boxC [.v (.int .i64 m0), .v (.int .i64 m1), .v (.int .i64 m2), .v (.int .i64 m3), .v (.int .i64 m4), .v (.int .i64 m5), .v (.int .i64 m6), .v (.int .i64 m7), .v (.int .i64 m8), .v (.int .i64 m9), .v (.int .i64 m10), .v (.int .i64 m11)])]) Try.f67 0 c (m :: F) s) ∧ ((∀ c F s, ¬ J 2 (c :: 0 :: F) s) ∧ ∀ c m F s, J 2 (c :: (m + 1) :: F) s → roundIt Try.prog tab Sku50 ann_it_track_model_steps_1 J l0 (n_it_track_model_steps_1 b0 b1 b2 b3 b4 b5 m0 m1 m2 m3 m4 m5 m6 m7 m8 m9 m10 m11) (y_it_track_model_steps_1 b0 b1 b2 b3 b4 b5 m0 m1 m2 m3 m4 m5 m6 m7 m8 m9 m10 m11) (keepOf 1 [.px 6 0 (boxC [.v (.int .i64 b0), .v (.int .i64 b1), .v (.int .i64 b2), .v (.int .i64 b3), .v (.int .i64 b4), .v (.int .i64 b5)]), .px 12 0 (boxC [.v (.int .i64 m0), .v (.int .i64 m1), .v (.int .i64 m2), .v (.int .i64 m3), .v (.int .i64 m4), .v (.int .i64 m5), .v (.int .i64 m6), .v (.int .i64 m7), .v (.int .i64 m8), .v (.int .i64 m9), .v (.int .i64 m10), .v (.int .i64 m11)])]) Try.f67 1 c (m :: F) s) ∧ ((∀ c F s, ¬ J 4 (c :: 0 :: F) s) ∧ ∀ c m F s, J 4 (c :: (m + 1) :: F) s → roundIt Try.prog tab Sku50 ann_it_track_model_steps_1 J l0 (n_it_track_model_steps_1 b0 b1 b2 b3 b4 b5 m0 m1 m2 m3 m4 m5 m6 m7 m8 m9 m10 m11) (y_it_track_model_steps_1 b0 b1 b2 b3 b4 b5 m0 m1 m2 m3 m4 m5 m6 m7 m8 m9 m10 m11) (keepOf 1 [.px 6 0 (boxC [.v (.int .i64 b0), .v (.int .i64 b1), .v (.int .i64 b2), .v (.int .i64 b3), .v (.int .i64 b4), .v (.int .i64 b5)]), .px 12 0 (boxC [.v (.int .i64 m0), .v (.int .i64 m1), .v (.int .i64 m2), .v (.int .i64 m3), .v (.int .i64 m4), .v (.int .i64 m5), .v (.int .i64 m6), .v (.int .i64 m7), .v (.int .i64 m8), .v (.int .i64 m9), .v (.int .i64 m10), .v (.int .i64 m11)])]) Try.f67 2 c (m :: F) s) ∧ True) := by kernel_rfl
def J_it_track_model_steps_1 (l0 : Nat) (b0 b1 b2 b3 b4 b5 : Int) (m0 m1 m2 m3 m4 m5 m6 m7 m8 m9 m10 m11 : Int) : Inv := fun b F s => match b, F with
 | 0, [cc, nn0] => ∃ (v0_0 : Int), s = mk_it_track_model_steps_1_0 l0 b0 b1 b2 b3 b4 b5 m0 m1 m2 m3 m4 m5 m6 m7 m8 m9 m10 m11 v0_0 ∧ (cc ≤ ((⟨m0, m1, m2, m3, m4, m5, m6, m7, m8, m9, m10, m11⟩ : TMod).steps (⟨⟨b0, b1, b2⟩, ⟨b3, b4, b5⟩⟩ : TBox)).length ∧ ((⟨m0, m1, m2, m3, m4, m5, m6, m7, m8, m9, m10, m11⟩ : TMod).steps (⟨⟨b0, b1, b2⟩, ⟨b3, b4, b5⟩⟩ : TBox)).drop cc = (restX (⟨⟨b0, b1, b2⟩, ⟨b3, b4, b5⟩⟩ : TBox) v0_0).filter (⟨m0, m1, m2, m3, m4, m5, m6, m7, m8, m9, m10, m11⟩ : TMod).permB ∧ b0 ≤ v0_0 ∧ v0_0 ≤ b3 + 1 ∧ (nn0 : Int) + v0_0 = b3 + 2)
 | 2, [cc, nn2, nn0] => ∃ (v2_0 : Int) (v2_1 : Int), s = mk_it_track_model_steps_1_2 l0 b0 b1 b2 b3 b4 b5 m0 m1 m2 m3 m4 m5 m6 m7 m8 m9 m10 m11 v2_0 v2_1 ∧ (cc ≤ ((⟨m0, m1, m2, m3, m4, m5, m6, m7, m8, m9, m10, m11⟩ : TMod).steps (⟨⟨b0, b1, b2⟩, ⟨b3, b4, b5⟩⟩ : TBox)).length ∧ ((⟨m0, m1, m2, m3, m4, m5, m6, m7, m8, m9, m10, m11⟩ : TMod).steps (⟨⟨b0, b1, b2⟩, ⟨b3, b4, b5⟩⟩ : TBox)).drop cc = (restY (⟨⟨b0, b1, b2⟩, ⟨b3, b4, b5⟩⟩ : TBox) v2_0 v2_1 ++ restX (⟨⟨b0, b1, b2⟩, ⟨b3, b4, b5⟩⟩ : TBox) (v2_0 + 1)).filter (⟨m0, m1, m2, m3, m4, m5, m6, m7, m8, m9, m10, m11⟩ : TMod).permB ∧ (b0 ≤ v2_0 ∧ v2_0 ≤ b3 ∧ (nn0 : Int) + v2_0 = b3 + 1) ∧ b1 ≤ v2_1 ∧ v2_1 ≤ b4 + 1 ∧ (nn2 : Int) + v2_1 = b4 + 2)
 | 4, [cc, nn4, nn2, nn0] => ∃ (v4_0 : Int) (v4_1 : Int) (v4_2 : Int), s = mk_it_track_model_steps_1_4 l0 b0 b1 b2 b3 b4 b5 m0 m1 m2 m3 m4 m5 m6 m7 m8 m9 m10 m11 v4_0 v4_1 v4_2 ∧ (cc ≤ ((⟨m0, m1, m2, m3, m4, m5, m6, m7, m8, m9, m10, m11⟩ : TMod).steps (⟨⟨b0, b1, b2⟩, ⟨b3, b4, b5⟩⟩ : TBox)).length ∧ ((⟨m0, m1, m2, m3, m4, m5, m6, m7, m8, m9, m10, m11⟩ : TMod).steps (⟨⟨b0, b1, b2⟩, ⟨b3, b4, b5⟩⟩ : TBox)).drop cc = (restZ (⟨⟨b0, b1, b2⟩, ⟨b3, b4, b5⟩⟩ : TBox) v4_0 v4_1 v4_2 ++ (restY (⟨⟨b0, b1, b2⟩, ⟨b3, b4, b5⟩⟩ : TBox) v4_0 (v4_1 + 1) ++ restX (⟨⟨b0, b1, b2⟩, ⟨b3, b4, b5⟩⟩ : TBox) (v4_0 + 1))).filter (⟨m0, m1, m2, m3, m4, m5, m6, m7, m8, m9, m10, m11⟩ : TMod).permB ∧ (b0 ≤ v4_0 ∧ v4_0 ≤ b3 ∧ (nn0 : Int) + v4_0 = b3 + 1) ∧ (b1 ≤ v4_1 ∧ v4_1 ≤ b4 ∧ (nn2 : Int) + v4_1 = b4 + 1) ∧ b2 ≤ v4_2 ∧ v4_2 ≤ b5 + 1 ∧ (nn4 : Int) + v4_2 = b5 + 2)
 | _, _ => False
set_option maxHeartbeats 8000000 in
set_option maxRecDepth 100000 in
theorem rnd_it_track_model_steps_1_0 (l0 : Nat) (b0 b1 b2 b3 b4 b5 : Int) (m0 m1 m2 m3 m4 m5 m6 m7 m8 m9 m10 m11 : Int) (v0_0 : Int) (cc nn0 : Nat) (hp : ((⟨⟨b0, b1, b2⟩, ⟨b3, b4, b5⟩⟩ : TBox)).lo.inS 20 = true ∧ ((⟨⟨b0, b1, b2⟩, ⟨b3, b4, b5⟩⟩ : TBox)).hi.inS 20 = true ∧ ((⟨⟨b0, b1, b2⟩, ⟨b3, b4, b5⟩⟩ : TBox)).ok) (hi : cc ≤ ((⟨m0, m1, m2, m3, m4, m5, m6, m7, m8, m9, m10, m11⟩ : TMod).steps (⟨⟨b0, b1, b2⟩, ⟨b3, b4, b5⟩⟩ : TBox)).length ∧ ((⟨m0, m1, m2, m3, m4, m5, m6, m7, m8, m9, m10, m11⟩ : TMod).steps (⟨⟨b0, b1, b2⟩, ⟨b3, b4, b5⟩⟩ : TBox)).drop cc = (restX (⟨⟨b0, b1, b2⟩, ⟨b3, b4, b5⟩⟩ : TBox) v0_0).filter (⟨m0, m1, m2, m3, m4, m5, m6, m7, m8, m9, m10, m11⟩ : TMod).permB ∧ b0 ≤ v0_0 ∧ v0_0 ≤ b3 + 1 ∧ ((nn0 + 1) : Int) + v0_0 = b3 + 2) : rd_it_track_model_steps_1_0 (J_it_track_model_steps_1 l0 b0 b1 b2 b3 b4 b5 m0 m1 m2 m3 m4 m5 m6 m7 m8 m9 m10 m11) l0 b0 b1 b2 b3 b4 b5 m0 m1 m2 m3 m4 m5 m6 m7 m8 m9 m10 m11 v0_0 cc nn0 := by
 obtain ⟨q1, q2, q3⟩ := hp
 obtain ⟨a1, a2, a3⟩ := inS_iff.1 q1
 obtain ⟨c1, c2, c3⟩ := inS_iff.1 q2
 obtain ⟨o1, o2, o3⟩ := q3
 simp only [TBox.rx, TBox.ry, TBox.rz, Rg.ok] at a1 a2 a3 c1 c2 c3 o1 o2 o3
 obtain ⟨i1, i2, i3, i4⟩ := hi
 unfold rd_it_track_model_steps_1_0
 refine ⟨by omega, cond_i (fun h => ⟨by omega, (b4 + 2 - b1).toNat, v0_0, b1, rfl, i1, ?_, ?_, by omega, by omega, by omega⟩) (fun h => ?_)⟩
 ·have h := of_decide_eq_true h
  rw [i2, restX_cons (b := (⟨⟨b0, b1, b2⟩, ⟨b3, b4, b5⟩⟩ : TBox)) (by simpa using h)]
 ·have h := of_decide_eq_true h
  omega
 ·have h := of_decide_eq_false h
  rw [restX_nil (b := (⟨⟨b0, b1, b2⟩, ⟨b3, b4, b5⟩⟩ : TBox)) (by simp only; omega)] at i2
  unfold n_it_track_model_steps_1
  have := congrArg List.length i2
  simp at this
  omega
theorem zero_it_track_model_steps_1_0 (b0 b1 b2 b3 b4 b5 : Int) (m0 m1 m2 m3 m4 m5 m6 m7 m8 m9 m10 m11 : Int) (v0_0 : Int) (cc : Nat) (hi : cc ≤ ((⟨m0, m1, m2, m3, m4, m5, m6, m7, m8, m9, m10, m11⟩ : TMod).steps (⟨⟨b0, b1, b2⟩, ⟨b3, b4, b5⟩⟩ : TBox)).length ∧ ((⟨m0, m1, m2, m3, m4, m5, m6, m7, m8, m9, m10, m11⟩ : TMod).steps (⟨⟨b0, b1, b2⟩, ⟨b3, b4, b5⟩⟩ : TBox)).drop cc = (restX (⟨⟨b0, b1, b2⟩, ⟨b3, b4, b5⟩⟩ : TBox) v0_0).filter (⟨m0, m1, m2, m3, m4, m5, m6, m7, m8, m9, m10, m11⟩ : TMod).permB ∧ b0 ≤ v0_0 ∧ v0_0 ≤ b3 + 1 ∧ (0 : Int) + v0_0 = b3 + 2) : False := by
 omega
set_option maxHeartbeats 8000000 in
set_option maxRecDepth 100000 in
theorem rnd_it_track_model_steps_1_2 (l0 : Nat) (b0 b1 b2 b3 b4 b5 : Int) (m0 m1 m2 m3 m4 m5 m6 m7 m8 m9 m10 m11 : Int) (v2_0 : Int) (v2_1 : Int) (cc nn2 nn0 : Nat) (hp : ((⟨⟨b0, b1, b2⟩, ⟨b3, b4, b5⟩⟩ : TBox)).lo.inS 20 = true ∧ ((⟨⟨b0, b1, b2⟩, ⟨b3, b4, b5⟩⟩ : TBox)).hi.inS 20 = true ∧ ((⟨⟨b0, b1, b2⟩, ⟨b3, b4, b5⟩⟩ : TBox)).ok) (hi : cc ≤ ((⟨m0, m1, m2, m3, m4, m5, m6, m7, m8, m9, m10, m11⟩ : TMod).steps (⟨⟨b0, b1, b2⟩, ⟨b3, b4, b5⟩⟩ : TBox)).length ∧ ((⟨m0, m1, m2, m3, m4, m5, m6, m7, m8, m9, m10, m11⟩ : TMod).steps (⟨⟨b0, b1, b2⟩, ⟨b3, b4, b5⟩⟩ : TBox)).drop cc = (restY (⟨⟨b0, b1, b2⟩, ⟨b3, b4, b5⟩⟩ : TBox) v2_0 v2_1 ++ restX (⟨⟨b0, b1, b2⟩, ⟨b3, b4, b5⟩⟩ : TBox) (v2_0 + 1)).filter (⟨m0, m1, m2, m3, m4, m5, m6, m7, m8, m9, m10, m11⟩ : TMod).permB ∧ (b0 ≤ v2_0 ∧ v2_0 ≤ b3 ∧ (nn0 : Int) + v2_0 = b3 + 1) ∧ b1 ≤ v2_1 ∧ v2_1 ≤ b4 + 1 ∧ ((nn2 + 1) : Int) + v2_1 = b4 + 2) : rd_it_track_model_steps_1_2 (J_it_track_model_steps_1 l0 b0 b1 b2 b3 b4 b5 m0 m1 m2 m3 m4 m5 m6 m7 m8 m9 m10 m11) l0 b0 b1 b2 b3 b4 b5 m0 m1 m2 m3 m4 m5 m6 m7 m8 m9 m10 m11 v2_0 v2_1 cc nn2 nn0 := by
 obtain ⟨q1, q2, q3⟩ := hp
 obtain ⟨a1, a2, a3⟩ := inS_iff.1 q1
 obtain ⟨c1, c2, c3⟩ := inS_iff.1 q2
 obtain ⟨o1, o2, o3⟩ := q3
 simp only [TBox.rx, TBox.ry, TBox.rz, Rg.ok] at a1 a2 a3 c1 c2 c3 o1 o2 o3
 obtain ⟨i1, i2, i3, i4, i5⟩ := hi
 unfold rd_it_track_model_steps_1_2
 refine ⟨by omega, cond_i (fun h => ⟨by omega, (b5 + 2 - b2).toNat, v2_0, v2_1, b2, rfl, i1, ?_, by omega, ?_, by omega, by omega, by omega⟩) (fun h => lt_i fun x hx => ?_)⟩
 ·have h := of_decide_eq_true h
  rw [i2, restY_cons (b := (⟨⟨b0, b1, b2⟩, ⟨b3, b4, b5⟩⟩ : TBox)) (by simpa using h), List.append_assoc]
 ·have h := of_decide_eq_true h
  omega
 ·have h := of_decide_eq_false h
  rw [IntWalk.i64_in _ (by omega)] at hx
  subst hx
  refine ⟨v2_0 + 1, rfl, i1, ?_, by omega, by omega, by omega⟩
  rw [i2, restY_nil (b := (⟨⟨b0, b1, b2⟩, ⟨b3, b4, b5⟩⟩ : TBox)) (by simp only; omega), List.nil_append]
theorem zero_it_track_model_steps_1_2 (b0 b1 b2 b3 b4 b5 : Int) (m0 m1 m2 m3 m4 m5 m6 m7 m8 m9 m10 m11 : Int) (v2_0 : Int) (v2_1 : Int) (cc nn0 : Nat) (hi : cc ≤ ((⟨m0, m1, m2, m3, m4, m5, m6, m7, m8, m9, m10, m11⟩ : TMod).steps (⟨⟨b0, b1, b2⟩, ⟨b3, b4, b5⟩⟩ : TBox)).length ∧ ((⟨m0, m1, m2, m3, m4, m5, m6, m7, m8, m9, m10, m11⟩ : TMod).steps (⟨⟨b0, b1, b2⟩, ⟨b3, b4, b5⟩⟩ : TBox)).drop cc = (restY (⟨⟨b0, b1, b2⟩, ⟨b3, b4, b5⟩⟩ : TBox) v2_0 v2_1 ++ restX (⟨⟨b0, b1, b2⟩, ⟨b3, b4, b5⟩⟩ : TBox) (v2_0 + 1)).filter (⟨m0, m1, m2, m3, m4, m5, m6, m7, m8, m9, m10, m11⟩ : TMod).permB ∧ (b0 ≤ v2_0 ∧ v2_0 ≤ b3 ∧ (nn0 : Int) + v2_0 = b3 + 1) ∧ b1 ≤ v2_1 ∧ v2_1 ≤ b4 + 1 ∧ (0 : Int) + v2_1 = b4 + 2) : False := by
 omega
set_option maxHeartbeats 8000000 in
set_option maxRecDepth 100000 in
theorem rnd_it_track_model_steps_1_4 (l0 : Nat) (b0 b1 b2 b3 b4 b5 : Int) (m0 m1 m2 m3 m4 m5 m6 m7 m8 m9 m10 m11 : Int) (v4_0 : Int) (v4_1 : Int) (v4_2 : Int) (cc nn4 nn2 nn0 : Nat) (hp : ((⟨⟨b0, b1, b2⟩, ⟨b3, b4, b5⟩⟩ : TBox)).lo.inS 20 = true ∧ ((⟨⟨b0, b1, b2⟩, ⟨b3, b4, b5⟩⟩ : TBox)).hi.inS 20 = true ∧ ((⟨⟨b0, b1, b2⟩, ⟨b3, b4, b5⟩⟩ : TBox)).ok) (hi : cc ≤ ((⟨m0, m1, m2, m3, m4, m5, m6, m7, m8, m9, m10, m11⟩ : TMod).steps (⟨⟨b0, b1, b2⟩, ⟨b3, b4, b5⟩⟩ : TBox)).length ∧ ((⟨m0, m1, m2, m3, m4, m5, m6, m7, m8, m9, m10, m11⟩ : TMod).steps (⟨⟨b0, b1, b2⟩, ⟨b3, b4, b5⟩⟩ : TBox)).drop cc = (restZ (⟨⟨b0, b1, b2⟩, ⟨b3, b4, b5⟩⟩ : TBox) v4_0 v4_1 v4_2 ++ (restY (⟨⟨b0, b1, b2⟩, ⟨b3, b4, b5⟩⟩ : TBox) v4_0 (v4_1 + 1) ++ restX (⟨⟨b0, b1, b2⟩, ⟨b3, b4, b5⟩⟩ : TBox) (v4_0 + 1))).filter (⟨m0, m1, m2, m3, m4, m5, m6, m7, m8, m9, m10, m11⟩ : TMod).permB ∧ (b0 ≤ v4_0 ∧ v4_0 ≤ b3 ∧ (nn0 : Int) + v4_0 = b3 + 1) ∧ (b1 ≤ v4_1 ∧ v4_1 ≤ b4 ∧ (nn2 : Int) + v4_1 = b4 + 1) ∧ b2 ≤ v4_2 ∧ v4_2 ≤ b5 + 1 ∧ ((nn4 + 1) : Int) + v4_2 = b5 + 2) : rd_it_track_model_steps_1_4 (J_it_track_model_steps_1 l0 b0 b1 b2 b3 b4 b5 m0 m1 m2 m3 m4 m5 m6 m7 m8 m9 m10 m11) l0 b0 b1 b2 b3 b4 b5 m0 m1 m2 m3 m4 m5 m6 m7 m8 m9 m10 m11 v4_0 v4_1 v4_2 cc nn4 nn2 nn0 := by
 obtain ⟨q1, q2, q3⟩ := hp
 obtain ⟨a1, a2, a3⟩ := inS_iff.1 q1
 obtain ⟨c1, c2, c3⟩ := inS_iff.1 q2
 obtain ⟨o1, o2, o3⟩ := q3
 simp only [TBox.rx, TBox.ry, TBox.rz, Rg.ok] at a1 a2 a3 c1 c2 c3 o1 o2 o3
 obtain ⟨i1, i2, i3, i4, i5⟩ := hi
 unfold rd_it_track_model_steps_1_4
 refine ⟨by omega, cond_i (fun h => ?_) (fun h => lt_i fun x hx => ?_)⟩
 ·have h := of_decide_eq_true h
  refine ⟨sm_in (by simp only; omega) (by simp only; omega) (by simp only; omega), ?_⟩
  rw [restZ_cons (b := (⟨⟨b0, b1, b2⟩, ⟨b3, b4, b5⟩⟩ : TBox)) (by simpa using h), List.cons_append, List.filter_cons] at i2
  refine cond_i (fun e => ⟨⟨rfl, ?_, ?_⟩, lt_i fun x hx => ?_, trivial⟩) (fun e => ⟨rfl, lt_i fun x hx => ?_⟩)
  ·rw [if_pos e] at i2
   exact (drop_cons i2).1
  ·rw [if_pos e] at i2
   have e2 := (drop_cons i2).2.1
   unfold y_it_track_model_steps_1
   rw [show plAt ((⟨m0, m1, m2, m3, m4, m5, m6, m7, m8, m9, m10, m11⟩ : TMod).steps (⟨⟨b0, b1, b2⟩, ⟨b3, b4, b5⟩⟩ : TBox)) cc = _ from e2]; rfl
  ·rw [if_pos e] at i2
   rw [IntWalk.i64_in _ (by omega)] at hx
   subst hx
   exact ⟨_, _, _, rfl, (drop_cons i2).1, (drop_cons i2).2.2, i3, i4, by omega, by omega, by omega⟩
  ·rw [if_neg (by rw [e]; simp)] at i2
   rw [IntWalk.i64_in _ (by omega)] at hx
   subst hx
   exact ⟨_, _, _, rfl, i1, i2, i3, i4, by omega, by omega, by omega⟩
 ·have h := of_decide_eq_false h
  rw [IntWalk.i64_in _ (by omega)] at hx
  subst hx
  refine ⟨v4_0, v4_1 + 1, rfl, i1, ?_, i3, by omega, by omega, by omega⟩
  rw [i2, restZ_nil (b := (⟨⟨b0, b1, b2⟩, ⟨b3, b4, b5⟩⟩ : TBox)) (by simp only; omega), List.nil_append]
theorem zero_it_track_model_steps_1_4 (b0 b1 b2 b3 b4 b5 : Int) (m0 m1 m2 m3 m4 m5 m6 m7 m8 m9 m10 m11 : Int) (v4_0 : Int) (v4_1 : Int) (v4_2 : Int) (cc nn2 nn0 : Nat) (hi : cc ≤ ((⟨m0, m1, m2, m3, m4, m5, m6, m7, m8, m9, m10, m11⟩ : TMod).steps (⟨⟨b0, b1, b2⟩, ⟨b3, b4, b5⟩⟩ : TBox)).length ∧ ((⟨m0, m1, m2, m3, m4, m5, m6, m7, m8, m9, m10, m11⟩ : TMod).steps (⟨⟨b0, b1, b2⟩, ⟨b3, b4, b5⟩⟩ : TBox)).drop cc = (restZ (⟨⟨b0, b1, b2⟩, ⟨b3, b4, b5⟩⟩ : TBox) v4_0 v4_1 v4_2 ++ (restY (⟨⟨b0, b1, b2⟩, ⟨b3, b4, b5⟩⟩ : TBox) v4_0 (v4_1 + 1) ++ restX (⟨⟨b0, b1, b2⟩, ⟨b3, b4, b5⟩⟩ : TBox) (v4_0 + 1))).filter (⟨m0, m1, m2, m3, m4, m5, m6, m7, m8, m9, m10, m11⟩ : TMod).permB ∧ (b0 ≤ v4_0 ∧ v4_0 ≤ b3 ∧ (nn0 : Int) + v4_0 = b3 + 1) ∧ (b1 ≤ v4_1 ∧ v4_1 ≤ b4 ∧ (nn2 : Int) + v4_1 = b4 + 1) ∧ b2 ≤ v4_2 ∧ v4_2 ≤ b5 + 1 ∧ (0 : Int) + v4_2 = b5 + 2) : False := by
 omega
set_option maxHeartbeats 8000000 in
set_option maxRecDepth 100000 in
theorem spec_it_track_model_steps_1 (l0 : Nat) (b0 b1 b2 b3 b4 b5 : Int) (m0 m1 m2 m3 m4 m5 m6 m7 m8 m9 m10 m11 : Int) (hp : ((⟨⟨b0, b1, b2⟩, ⟨b3, b4, b5⟩⟩ : TBox)).lo.inS 20 = true ∧ ((⟨⟨b0, b1, b2⟩, ⟨b3, b4, b5⟩⟩ : TBox)).hi.inS 20 = true ∧ ((⟨⟨b0, b1, b2⟩, ⟨b3, b4, b5⟩⟩ : TBox)).ok) : vc_it_track_model_steps_1 (J_it_track_model_steps_1 l0 b0 b1 b2 b3 b4 b5 m0 m1 m2 m3 m4 m5 m6 m7 m8 m9 m10 m11) l0 b0 b1 b2 b3 b4 b5 m0 m1 m2 m3 m4 m5 m6 m7 m8 m9 m10 m11 := by
 obtain ⟨q1, q2, q3⟩ := hp
 obtain ⟨a1, a2, a3⟩ := inS_iff.1 q1
 obtain ⟨c1, c2, c3⟩ := inS_iff.1 q2
 obtain ⟨o1, o2, o3⟩ := q3
 simp only [TBox.rx, TBox.ry, TBox.rz, Rg.ok] at a1 a2 a3 c1 c2 c3 o1 o2 o3
 unfold vc_it_track_model_steps_1
 refine ⟨by omega, (b3 + 2 - b0).toNat, b0, rfl, by omega, ?_, by omega, by omega, by omega⟩
 rw [List.drop_zero]; rfl
theorem all_it_track_model_steps_1 (l0 : Nat) (b0 b1 b2 b3 b4 b5 : Int) (m0 m1 m2 m3 m4 m5 m6 m7 m8 m9 m10 m11 : Int) (hp : ((⟨⟨b0, b1, b2⟩, ⟨b3, b4, b5⟩⟩ : TBox)).lo.inS 20 = true ∧ ((⟨⟨b0, b1, b2⟩, ⟨b3, b4, b5⟩⟩ : TBox)).hi.inS 20 = true ∧ ((⟨⟨b0, b1, b2⟩, ⟨b3, b4, b5⟩⟩ : TBox)).ok) : AllY (J_it_track_model_steps_1 l0 b0 b1 b2 b3 b4 b5 m0 m1 m2 m3 m4 m5 m6 m7 m8 m9 m10 m11) (loopsIt Try.prog tab Sku50 ann_it_track_model_steps_1 (J_it_track_model_steps_1 l0 b0 b1 b2 b3 b4 b5 m0 m1 m2 m3 m4 m5 m6 m7 m8 m9 m10 m11) l0 (n_it_track_model_steps_1 b0 b1 b2 b3 b4 b5 m0 m1 m2 m3 m4 m5 m6 m7 m8 m9 m10 m11) (y_it_track_model_steps_1 b0 b1 b2 b3 b4 b5 m0 m1 m2 m3 m4 m5 m6 m7 m8 m9 m10 m11) (keepOf 1 [.px 6 0 (boxC [.v (.int .i64 b0), .v (.int .i64 b1), .v (.int .i64 b2), .v (.int .i64 b3), .v (.int .i64 b4), .v (.int .i64 b5)]), .px 12 0 (boxC [.v (.int .i64 m0), .v (.int .i64 m1), .v (.int .i64 m2), .v (.int .i64 m3), .v (.int .i64 m4), .v (.int .i64 m5), .v (.int .i64 m6), .v (.int .i64 m7), .v (.int .i64 m8), .v (.int .i64 m9), .v (.int .i64 m10), .v (.int .i64 m11)])]) Try.f67) := by
 rw [lp_it_track_model_steps_1]
 refine ⟨⟨?_, ?_⟩, ⟨?_, ?_⟩, ⟨?_, ?_⟩, trivial⟩
 ·intro c F s h
  obtain _ | ⟨g, F⟩ := F
  case cons => exact h.elim
  obtain ⟨w0, rfl, hi⟩ := h
  exact zero_it_track_model_steps_1_0 _ _ _ _ _ _ _ _ _ _ _ _ _ _ _ _ _ _ _ _ hi
 ·intro c n F s h
  obtain _ | ⟨g, F⟩ := F
  case cons => exact h.elim
  obtain ⟨w0, rfl, hi⟩ := h
  rw [er_it_track_model_steps_1_0]
  exact rnd_it_track_model_steps_1_0 l0 _ _ _ _ _ _ _ _ _ _ _ _ _ _ _ _ _ _ _ _ _ hp hi
 ·intro c F s h
  obtain _ | ⟨f0, F⟩ := F
  ·exact h.elim
  obtain _ | ⟨g, F⟩ := F
  case cons => exact h.elim
  obtain ⟨w0, w1, rfl, hi⟩ := h
  exact zero_it_track_model_steps_1_2 _ _ _ _ _ _ _ _ _ _ _ _ _ _ _ _ _ _ _ _ _ _ hi
 ·intro c n F s h
  obtain _ | ⟨f0, F⟩ := F
  ·exact h.elim
  obtain _ | ⟨g, F⟩ := F
  case cons => exact h.elim
  obtain ⟨w0, w1, rfl, hi⟩ := h
  rw [er_it_track_model_steps_1_2]
  exact rnd_it_track_model_steps_1_2 l0 _ _ _ _ _ _ _ _ _ _ _ _ _ _ _ _ _ _ _ _ _ _ _ hp hi
 ·intro c F s h
  obtain _ | ⟨f0, F⟩ := F
  ·exact h.elim
  obtain _ | ⟨f1, F⟩ := F
  ·exact h.elim
  obtain _ | ⟨g, F⟩ := F
  case cons => exact h.elim
  obtain ⟨w0, w1, w2, rfl, hi⟩ := h
  exact zero_it_track_model_steps_1_4 _ _ _ _ _ _ _ _ _ _ _ _ _ _ _ _ _ _ _ _ _ _ _ _ hi
 ·intro c n F s h
  obtain _ | ⟨f0, F⟩ := F
  ·exact h.elim
  obtain _ | ⟨f1, F⟩ := F
  ·exact h.elim
  obtain _ | ⟨g, F⟩ := F
  case cons => exact h.elim
  obtain ⟨w0, w1, w2, rfl, hi⟩ := h
  rw [er_it_track_model_steps_1_4]
  exact rnd_it_track_model_steps_1_4 l0 _ _ _ _ _ _ _ _ _ _ _ _ _ _ _ _ _ _ _ _ _ _ _ _ _ hp hi
def con_it_track_model_steps_1 : ItC := fun l => match l with
 | [.px 6 0 c_b, .px 12 0 c_m] => some ⟨n_it_track_model_steps_1 (cvInt (c_b 0)) (cvInt (c_b 1)) (cvInt (c_b 2)) (cvInt (c_b 3)) (cvInt (c_b 4)) (cvInt (c_b 5)) (cvInt (c_m 0)) (cvInt (c_m 1)) (cvInt (c_m 2)) (cvInt (c_m 3)) (cvInt (c_m 4)) (cvInt (c_m 5)) (cvInt (c_m 6)) (cvInt (c_m 7)) (cvInt (c_m 8)) (cvInt (c_m 9)) (cvInt (c_m 10)) (cvInt (c_m 11)), 1, y_it_track_model_steps_1 (cvInt (c_b 0)) (cvInt (c_b 1)) (cvInt (c_b 2)) (cvInt (c_b 3)) (cvInt (c_b 4)) (cvInt (c_b 5)) (cvInt (c_m 0)) (cvInt (c_m 1)) (cvInt (c_m 2)) (cvInt (c_m 3)) (cvInt (c_m 4)) (cvInt (c_m 5)) (cvInt (c_m 6)) (cvInt (c_m 7)) (cvInt (c_m 8)) (cvInt (c_m 9)) (cvInt (c_m 10)) (cvInt (c_m 11)), some (numsB 6 c_b = true ∧ numsB 12 c_m = true ∧ ((⟨⟨(cvInt (c_b 0)), (cvInt (c_b 1)), (cvInt (c_b 2))⟩, ⟨(cvInt (c_b 3)), (cvInt (c_b 4)), (cvInt (c_b 5))⟩⟩ : TBox)).lo.inS 20 = true ∧ ((⟨⟨(cvInt (c_b 0)), (cvInt (c_b 1)), (cvInt (c_b 2))⟩, ⟨(cvInt (c_b 3)), (cvInt (c_b 4)), (cvInt (c_b 5))⟩⟩ : TBox)).hi.inS 20 = true ∧ ((⟨⟨(cvInt (c_b 0)), (cvInt (c_b 1)), (cvInt (c_b 2))⟩, ⟨(cvInt (c_b 3)), (cvInt (c_b 4)), (cvInt (c_b 5))⟩⟩ : TBox)).ok), false, none, none⟩
 | _ => none
theorem ok_it_track_model_steps_1 : OkIt Try.prog 67 con_it_track_model_steps_1 := by
 refine OkIt.it (ann := ann_it_track_model_steps_1) tabOK VSku50 (fn := Try.f67) (by kernel_rfl) (by kernel_rfl) fun l R h hp => ?_
 unfold con_it_track_model_steps_1 at h
 split at h
 ·rename_i c_b c_m
  cases h
  obtain ⟨hq0, hq1, hp⟩ := hp
  refine ⟨[.px 6 0 (boxC (pxL 6 c_b)), .px 12 0 (boxC (pxL 12 c_m))], rfl, (leC_cons (leC_px hq0) (leC_cons (leC_px hq1) (LeC.refl []))), ?_, Nat.le_of_ble_eq_true (by kernel_rfl), fun i => ⟨rfl, rfl⟩, fun l0 => ⟨J_it_track_model_steps_1 l0 (cvInt (c_b 0)) (cvInt (c_b 1)) (cvInt (c_b 2)) (cvInt (c_b 3)) (cvInt (c_b 4)) (cvInt (c_b 5)) (cvInt (c_m 0)) (cvInt (c_m 1)) (cvInt (c_m 2)) (cvInt (c_m 3)) (cvInt (c_m 4)) (cvInt (c_m 5)) (cvInt (c_m 6)) (cvInt (c_m 7)) (cvInt (c_m 8)) (cvInt (c_m 9)) (cvInt (c_m 10)) (cvInt (c_m 11)), ?_, ?_⟩⟩
  ·exact fit_it_track_model_steps_1 (cvInt (c_b 0)) (cvInt (c_b 1)) (cvInt (c_b 2)) (cvInt (c_b 3)) (cvInt (c_b 4)) (cvInt (c_b 5)) (cvInt (c_m 0)) (cvInt (c_m 1)) (cvInt (c_m 2)) (cvInt (c_m 3)) (cvInt (c_m 4)) (cvInt (c_m 5)) (cvInt (c_m 6)) (cvInt (c_m 7)) (cvInt (c_m 8)) (cvInt (c_m 9)) (cvInt (c_m 10)) (cvInt (c_m 11))
  ·exact (ev_it_track_model_steps_1 _ l0 (cvInt (c_b 0)) (cvInt (c_b 1)) (cvInt (c_b 2)) (cvInt (c_b 3)) (cvInt (c_b 4)) (cvInt (c_b 5)) (cvInt (c_m 0)) (cvInt (c_m 1)) (cvInt (c_m 2)) (cvInt (c_m 3)) (cvInt (c_m 4)) (cvInt (c_m 5)) (cvInt (c_m 6)) (cvInt (c_m 7)) (cvInt (c_m 8)) (cvInt (c_m 9)) (cvInt (c_m 10)) (cvInt (c_m 11))).mpr (spec_it_track_model_steps_1 l0 (cvInt (c_b 0)) (cvInt (c_b 1)) (cvInt (c_b 2)) (cvInt (c_b 3)) (cvInt (c_b 4)) (cvInt (c_b 5)) (cvInt (c_m 0)) (cvInt (c_m 1)) (cvInt (c_m 2)) (cvInt (c_m 3)) (cvInt (c_m 4)) (cvInt (c_m 5)) (cvInt (c_m 6)) (cvInt (c_m 7)) (cvInt (c_m 8)) (cvInt (c_m 9)) (cvInt (c_m 10)) (cvInt (c_m 11)) hp)
  ·exact all_it_track_model_steps_1 l0 (cvInt (c_b 0)) (cvInt (c_b 1)) (cvInt (c_b 2)) (cvInt (c_b 3)) (cvInt (c_b 4)) (cvInt (c_b 5)) (cvInt (c_m 0)) (cvInt (c_m 1)) (cvInt (c_m 2)) (cvInt (c_m 3)) (cvInt (c_m 4)) (cvInt (c_m 5)) (cvInt (c_m 6)) (cvInt (c_m 7)) (cvInt (c_m 8)) (cvInt (c_m 9)) (cvInt (c_m 10)) (cvInt (c_m 11)) hp
 ·cases h
def Ikv51 : It := addI noIt 67 con_it_track_model_steps_1
theorem VIkv51 : ValidIt Try.prog Ikv51 := ValidIt.add ValidIt.no ok_it_track_model_steps_1
def vc_track_halves (b0 b1 b2 b3 b4 b5 : Int) (post : DV → Prop) : Prop := (0 ≤ (0 : Int) ∧ (0 : Int) < ((3 : Nat) : Int)) ∧ ((0 ≤ (0 : Int) ∧ (0 : Int) < ((3 : Nat) : Int)) ∧ (lt (IntKind.i64.wrap (b3 - b0)) fun x1 => (0 ≤ (0 : Int) ∧ (0 : Int) < ((3 : Nat) : Int)) ∧ ((0 ≤ (0 : Int) ∧ (0 : Int) < ((3 : Nat) : Int)) ∧ (lt (IntKind.i64.wrap (b3 - b0)) fun x2 => cond (decide (x1 > x2)) ((0 ≤ (1 : Int) ∧ (1 : Int) < ((3 : Nat) : Int)) ∧ ((0 ≤ (1 : Int) ∧ (1 : Int) < ((3 : Nat) : Int)) ∧ (lt (IntKind.i64.wrap (b4 - b1)) fun x3 => (0 ≤ (0 : Int) ∧ (0 : Int) < ((3 : Nat) : Int)) ∧ ((0 ≤ (0 : Int) ∧ (0 : Int) < ((3 : Nat) : Int)) ∧ (lt (IntKind.i64.wrap (b3 - b0)) fun x4 => cond (decide (x3 > x4)) ((0 ≤ (2 : Int) ∧ (2 : Int) < ((3 : Nat) : Int)) ∧ ((0 ≤ (2 : Int) ∧ (2 : Int) < ((3 : Nat) : Int)) ∧ (lt (IntKind.i64.wrap (b5 - b2)) fun x5 => (0 ≤ (1 : Int) ∧ (1 : Int) < ((3 : Nat) : Int)) ∧ ((0 ≤ (1 : Int) ∧ (1 : Int) < ((3 : Nat) : Int)) ∧ (lt (IntKind.i64.wrap (b4 - b1)) fun x6 => cond (decide (x5 > x6)) ((0 ≤ (2 : Int) ∧ (2 : Int) < ((3 : Nat) : Int)) ∧ ((0 ≤ (2 : Int) ∧ (2 : Int) < ((3 : Nat) : Int)) ∧ ((0 ≤ (2 : Int) ∧ (2 : Int) < ((3 : Nat) : Int)) ∧ (lt (IntKind.i64.wrap (b5 - b2)) fun x7 => lt (IntKind.i64.wrap (Int.tdiv x7 (2 : Int))) fun x8 => (IntKind.i64 = IntKind.i64 ∧ (2 : Int) ≠ 0) ∧ (lt (IntKind.i64.wrap (b2 + x8)) fun x9 => lt (IntKind.i64.wrap (x9 + (1 : Int))) fun x10 => (0 ≤ (2 : Int) ∧ (2 : Int) < ((3 : Nat) : Int)) ∧ ((0 ≤ (2 : Int) ∧ (2 : Int) < ((3 : Nat) : Int)) ∧ (post (.t (.a [.v (.int .i64 b0), .v (.int .i64 b1), .v (.int .i64 b2), .v (.int .i64 b3), .v (.int .i64 b4), .v (.int .i64 x9), .v (.int .i64 b0), .v (.int .i64 b1), .v (.int .i64 x10), .v (.int .i64 b3), .v (.int .i64 b4), .v (.int .i64 b5)]))))))))) ((0 ≤ (1 : Int) ∧ (1 : Int) < ((3 : Nat) : Int)) ∧ ((0 ≤ (1 : Int) ∧ (1 : Int) < ((3 : Nat) : Int)) ∧ ((0 ≤ (1 : Int) ∧ (1 : Int) < ((3 : Nat) : Int)) ∧ (lt (IntKind.i64.wrap (b4 - b1)) fun x11 => lt (IntKind.i64.wrap (Int.tdiv x11 (2 : Int))) fun x12 => (IntKind.i64 = IntKind.i64 ∧ (2 : Int) ≠ 0) ∧ (lt (IntKind.i64.wrap (b1 + x12)) fun x13 => lt (IntKind.i64.wrap (x13 + (1 : Int))) fun x14 => (0 ≤ (1 : Int) ∧ (1 : Int) < ((3 : Nat) : Int)) ∧ ((0 ≤ (1 : Int) ∧ (1 : Int) < ((3 : Nat) : Int)) ∧ (post (.t (.a [.v (.int .i64 b0), .v (.int .i64 b1), .v (.int .i64 b2), .v (.int .i64 b3), .v (.int .i64 x13), .v (.int .i64 b5), .v (.int .i64 b0), .v (.int .i64 x14), .v (.int .i64 b2), .v (.int .i64 b3), .v (.int .i64 b4), .v (.int .i64 b5)])))))))))))))) ((0 ≤ (2 : Int) ∧ (2 : Int) < ((3 : Nat) : Int)) ∧ ((0 ≤ (2 : Int) ∧ (2 : Int) < ((3 : Nat) : Int)) ∧ (lt (IntKind.i64.wrap (b5 - b2)) fun x15 => (0 ≤ (0 : Int) ∧ (0 : Int) < ((3 : Nat) : Int)) ∧ ((0 ≤ (0 : Int) ∧ (0 : Int) < ((3 : Nat) : Int)) ∧ (lt (IntKind.i64.wrap (b3 - b0)) fun x16 => cond (decide (x15 > x16)) ((0 ≤ (2 : Int) ∧ (2 : Int) < ((3 : Nat) : Int)) ∧ ((0 ≤ (2 : Int) ∧ (2 : Int) < ((3 : Nat) : Int)) ∧ ((0 ≤ (2 : Int) ∧ (2 : Int) < ((3 : Nat) : Int)) ∧ (lt (IntKind.i64.wrap (b5 - b2)) fun x17 => lt (IntKind.i64.wrap (Int.tdiv x17 (2 : Int))) fun x18 => (IntKind.i64 = IntKind.i64 ∧ (2 : Int) ≠ 0) ∧ (lt (IntKind.i64.wrap (b2 + x18)) fun x19 => lt (IntKind.i64.wrap (x19 + (1 : Int))) fun x20 => (0 ≤ (2 : Int) ∧ (2 : Int) < ((3 : Nat) : Int)) ∧ ((0 ≤ (2 : Int) ∧ (2 : Int) < ((3 : Nat) : Int)) ∧ (post (.t (.a [.v (.int .i64 b0), .v (.int .i64 b1), .v (.int .i64 b2), .v (.int .i64 b3), .v (.int .i64 b4), .v (.int .i64 x19), .v (.int .i64 b0), .v (.int .i64 b1), .v (.int .i64 x20), .v (.int .i64 b3), .v (.int .i64 b4), .v (.int .i64 b5)]))))))))) ((0 ≤ (0 : Int) ∧ (0 : Int) < ((3 : Nat) : Int)) ∧ ((0 ≤ (0 : Int) ∧ (0 : Int) < ((3 : Nat) : Int)) ∧ ((0 ≤ (0 : Int) ∧ (0 : Int) < ((3 : Nat) : Int)) ∧ (lt (IntKind.i64.wrap (b3 - b0)) fun x21 => lt (IntKind.i64.wrap (Int.tdiv x21 (2 : Int))) fun x22 => (IntKind.i64 = IntKind.i64 ∧ (2 : Int) ≠ 0) ∧ (lt (IntKind.i64.wrap (b0 + x22)) fun x23 => lt (IntKind.i64.wrap (x23 + (1 : Int))) fun x24 => (0 ≤ (0 : Int) ∧ (0 : Int) < ((3 : Nat) : Int)) ∧ ((0 ≤ (0 : Int) ∧ (0 : Int) < ((3 : Nat) : Int)) ∧ (post (.t (.a [.v (.int .i64 b0), .v (.int .i64 b1), .v (.int .i64 b2), .v (.int .i64 x23), .v (.int .i64 b4), .v (.int .i64 b5), .v (.int .i64 x24), .v (.int .i64 b1), .v (.int .i64 b2), .v (.int .i64 b3), .v (.int .i64 b4), .v (.int .i64 b5)]))))))))))))))))))) ((0 ≤ (1 : Int) ∧ (1 : Int) < ((3 : Nat) : Int)) ∧ ((0 ≤ (1 : Int) ∧ (1 : Int) < ((3 : Nat) : Int)) ∧ (lt (IntKind.i64.wrap (b4 - b1)) fun x25 => (0 ≤ (0 : Int) ∧ (0 : Int) < ((3 : Nat) : Int)) ∧ ((0 ≤ (0 : Int) ∧ (0 : Int) < ((3 : Nat) : Int)) ∧ (lt (IntKind.i64.wrap (b3 - b0)) fun x26 => cond (decide (x25 > x26)) ((0 ≤ (2 : Int) ∧ (2 : Int) < ((3 : Nat) : Int)) ∧ ((0 ≤ (2 : Int) ∧ (2 : Int) < ((3 : Nat) : Int)) ∧ (lt (IntKind.i64.wrap (b5 - b2)) fun x27 => (0 ≤ (1 : Int) ∧ (1 : Int) < ((3 : Nat) : Int)) ∧ ((0 ≤ (1 : Int) ∧ (1 : Int) < ((3 : Nat) : Int)) ∧ (lt (IntKind.i64.wrap (b4 - b1)) fun x28 => cond (decide (x27 > x28)) ((0 ≤ (2 : Int) ∧ (2 : Int) < ((3 : Nat) : Int)) ∧ ((0 ≤ (2 : Int) ∧ (2 : Int) < ((3 : Nat) : Int)) ∧ ((0 ≤ (2 : Int) ∧ (2 : Int) < ((3 : Nat) : Int)) ∧ (lt (IntKind.i64.wrap (b5 - b2)) fun x29 => lt (IntKind.i64.wrap (Int.tdiv x29 (2 : Int))) fun x30 => (IntKind.i64 = IntKind.i64 ∧ (2 : Int) ≠ 0) ∧ (lt (IntKind.i64.wrap (b2 + x30)) fun x31 => lt (IntKind.i64.wrap (x31 + (1 : Int))) fun x32 => (0 ≤ (2 : Int) ∧ (2 : Int) < ((3 : Nat) : Int)) ∧ ((0 ≤ (2 : Int) ∧ (2 : Int) < ((3 : Nat) : Int)) ∧ (post (.t (.a [.v (.int .i64 b0), .v (.int .i64 b1), .v (.int .i64 b2), .v (.int .i64 b3), .v (.int .i64 b4), .v (.int .i64 x31), .v (.int .i64 b0), .v (.int .i64 b1), .v (.int .i64 x32), .v (.int .i64 b3), .v (.int .i64 b4), .v (.int .i64 b5)]))))))))) ((0 ≤ (1 : Int) ∧ (1 : Int) < ((3 : Nat) : Int)) ∧ ((0 ≤ (1 : Int) ∧ (1 : Int) < ((3 : Nat) : Int)) ∧ ((0 ≤ (1 : Int) ∧ (1 : Int) < ((3 : Nat) : Int)) ∧ (lt (IntKind.i64.wrap (b4 - b1)) fun x33 => lt (IntKind.i64.wrap (Int.tdiv x33 (2 : Int))) fun x34 => (IntKind.i64 = IntKind.i64 ∧ (2 : Int) ≠ 0) ∧ (lt (IntKind.i64.wrap (b1 + x34)) fun x35 => lt (IntKind.i64.wrap (x35 + (1 : Int))) fun x36 => (0 ≤ (1 : Int) ∧ (1 : Int) < ((3 : Nat) : Int)) ∧ ((0 ≤ (1 : Int) ∧ (1 : Int) < ((3 : Nat) : Int)) ∧ (post (.t (.a [.v (.int .i64 b0), .v (.int .i64 b1), .v (.int .i64 b2), .v (.int .i64 b3), .v (.int .i64 x35), .v (.int .i64 b5), .v (.int .i64 b0), .v (.int .i64 x36), .v (.int .i64 b2), .v (.int .i64 b3), .v (.int .i64 b4), .v (.int .i64 b5)])))))))))))))) ((0 ≤ (2 : Int) ∧ (2 : Int) < ((3 : Nat) : Int)) ∧ ((0 ≤ (2 : Int) ∧ (2 : Int) < ((3 : Nat) : Int)) ∧ (lt (IntKind.i64.wrap (b5 - b2)) fun x37 => (0 ≤ (0 : Int) ∧ (0 : Int) < ((3 : Nat) : Int)) ∧ ((0 ≤ (0 : Int) ∧ (0 : Int) < ((3 : Nat) : Int)) ∧ (lt (IntKind.i64.wrap (b3 - b0)) fun x38 => cond (decide (x37 > x38)) ((0 ≤ (2 : Int) ∧ (2 : Int) < ((3 : Nat) : Int)) ∧ ((0 ≤ (2 : Int) ∧ (2 : Int) < ((3 : Nat) : Int)) ∧ ((0 ≤ (2 : Int) ∧ (2 : Int) < ((3 : Nat) : Int)) ∧ (lt (IntKind.i64.wrap (b5 - b2)) fun x39 => lt (IntKind.i64.wrap (Int.tdiv x39 (2 : Int))) fun x40 => (IntKind.i64 = IntKind.i64 ∧ (2 : Int) ≠ 0) ∧ (lt (IntKind.i64.wrap (b2 + x40)) fun x41 => lt (IntKind.i64.wrap (x41 + (1 : Int))) fun x42 => (0 ≤ (2 : Int) ∧ (2 : Int) < ((3 : Nat) : Int)) ∧ ((0 ≤ (2 : Int) ∧ (2 : Int) < ((3 : Nat) : Int)) ∧ (post (.t (.a [.v (.int .i64 b0), .v (.int .i64 b1), .v (.int .i64 b2), .v (.int .i64 b3), .v (.int .i64 b4), .v (.int .i64 x41), .v (.int .i64 b0), .v (.int .i64 b1), .v (.int .i64 x42), .v (.int .i64 b3), .v (.int .i64 b4), .v (.int .i64 b5)]))))))))) ((0 ≤ (0 : Int) ∧ (0 : Int) < ((3 : Nat) : Int)) ∧ ((0 ≤ (0 : Int) ∧ (0 : Int) < ((3 : Nat) : Int)) ∧ ((0 ≤ (0 : Int) ∧ (0 : Int) < ((3 : Nat) : Int)) ∧ (lt (IntKind.i64.wrap (b3 - b0)) fun x43 => lt (IntKind.i64.wrap (Int.tdiv x43 (2 : Int))) fun x44 => (IntKind.i64 = IntKind.i64 ∧ (2 : Int) ≠ 0) ∧ (lt (IntKind.i64.wrap (b0 + x44)) fun x45 => lt (IntKind.i64.wrap (x45 + (1 : Int))) fun x46 => (0 ≤ (0 : Int) ∧ (0 : Int) < ((3 : Nat) : Int)) ∧ ((0 ≤ (0 : Int) ∧ (0 : Int) < ((3 : Nat) : Int)) ∧ (post (.t (.a [.v (.int .i64 b0), .v (.int .i64 b1), .v (.int .i64 b2), .v (.int .i64 x45), .v (.int .i64 b4), .v (.int .i64 b5), .v (.int .i64 x46), .v (.int .i64 b1), .v (.int .i64 b2), .v (.int .i64 b3), .v (.int .i64 b4), .v (.int .i64 b5)])))))))))))))))))))))))
def ann_track_halves : Ann := ⟨fun r => lookA r [(5, ([[], [], [0, 1], [0, 1, 2], [], [], [4, 5], [4, 5, 6], [0, 1, 2, 3, 4, 5, 6, 7], [], [], [9, 10], [9, 10, 11], [], [], [13, 14], [13, 14, 15], [9, 10, 11, 12, 13, 14, 15, 16], [0, 1, 2, 3, 4, 5, 6, 7, 8, 9, 10, 11, 12, 13, 14, 15, 16, 17]], [[], [], [], [], [], [], [], [], [], [], [], [], [], [], [], [], [], [], []])), (8, ([[], [], [0, 1], [0, 1, 2], [], [], [4, 5], [4, 5, 6], [], [], [8, 9], [8, 9, 10], [4, 5, 6, 7, 8, 9, 10, 11], [4, 5, 6, 7, 8, 9, 10, 11, 12], [0, 1, 2, 3, 4, 5, 6, 7, 8, 9, 10, 11, 12, 13], [0, 1, 2, 3, 4, 5, 6, 7, 8, 9, 10, 11, 12, 13, 14]], [[], [], [], [], [], [], [], [], [], [], [], [], [], [], [], []])), (9, ([[], [], [], [], [0, 2, 3], [0, 1, 2, 3, 4]], [[6, 7], [6, 7], [7], [6], [9999, 6], []]))], fun b => lookA b [(0, (some 4, some ⟨[1, 2, 3, 8], [1, 2], []⟩))], fun _ => [], Ikv51, false, fun _ => none, fun _ => none⟩
theorem ev_track_halves (J : Inv) (b0 b1 b2 b3 b4 b5 : Int) (post : DV → Prop) : evFn Try.prog tab Sku50 ann_track_halves J Try.f65 [.t (.a [.v (.int .i64 b0), .v (.int .i64 b1), .v (.int .i64 b2), .v (.int .i64 b3), .v (.int .i64 b4), .v (.int .i64 b5)])] post = vc_track_halves b0 b1 b2 b3 b4 b5 post := by kernel_rfl
theorem fit_track_halves : okFn ann_track_halves Try.f65 = true := by kernel_rfl
theorem lp_track_halves (J : Inv) (post : DV → Prop) : AllG J (loopsFn Try.prog tab Sku50 ann_track_halves J Try.f65 post) = (True) := by kernel_rfl
set_option maxHeartbeats 8000000 in
set_option maxRecDepth 100000 in
theorem spec_track_halves (b0 b1 b2 b3 b4 b5 : Int) (hp : ((⟨⟨b0, b1, b2⟩, ⟨b3, b4, b5⟩⟩ : TBox)).lo.inS 20 = true ∧ ((⟨⟨b0, b1, b2⟩, ⟨b3, b4, b5⟩⟩ : TBox)).hi.inS 20 = true ∧ ((⟨⟨b0, b1, b2⟩, ⟨b3, b4, b5⟩⟩ : TBox)).ok) : vc_track_halves b0 b1 b2 b3 b4 b5 (fun r => LeD r (.t (.a [.v (.int .i64 (((⟨⟨b0, b1, b2⟩, ⟨b3, b4, b5⟩⟩ : TBox)).half1.lo.x)), .v (.int .i64 (((⟨⟨b0, b1, b2⟩, ⟨b3, b4, b5⟩⟩ : TBox)).half1.lo.y)), .v (.int .i64 (((⟨⟨b0, b1, b2⟩, ⟨b3, b4, b5⟩⟩ : TBox)).half1.lo.z)), .v (.int .i64 (((⟨⟨b0, b1, b2⟩, ⟨b3, b4, b5⟩⟩ : TBox)).half1.hi.x)), .v (.int .i64 (((⟨⟨b0, b1, b2⟩, ⟨b3, b4, b5⟩⟩ : TBox)).half1.hi.y)), .v (.int .i64 (((⟨⟨b0, b1, b2⟩, ⟨b3, b4, b5⟩⟩ : TBox)).half1.hi.z)), .v (.int .i64 (((⟨⟨b0, b1, b2⟩, ⟨b3, b4, b5⟩⟩ : TBox)).half2.lo.x)), .v (.int .i64 (((⟨⟨b0, b1, b2⟩, ⟨b3, b4, b5⟩⟩ : TBox)).half2.lo.y)), .v (.int .i64 (((⟨⟨b0, b1, b2⟩, ⟨b3, b4, b5⟩⟩ : TBox)).half2.lo.z)), .v (.int .i64 (((⟨⟨b0, b1, b2⟩, ⟨b3, b4, b5⟩⟩ : TBox)).half2.hi.x)), .v (.int .i64 (((⟨⟨b0, b1, b2⟩, ⟨b3, b4, b5⟩⟩ : TBox)).half2.hi.y)), .v (.int .i64 (((⟨⟨b0, b1, b2⟩, ⟨b3, b4, b5⟩⟩ : TBox)).half2.hi.z))]))) := by
 obtain ⟨q1, q2, q3⟩ := hp
 obtain ⟨a1, a2, a3⟩ := inS_iff.1 q1
 obtain ⟨c1, c2, c3⟩ := inS_iff.1 q2
 obtain ⟨o1, o2, o3⟩ := q3
 simp only [TBox.rx, TBox.ry, TBox.rz, Rg.ok] at a1 a2 a3 c1 c2 c3 o1 o2 o3
 have w0 : IntKind.i64.wrap (b3 - b0) = b3 - b0 := IntWalk.i64_in _ (by omega)
 have w1 : IntKind.i64.wrap (b4 - b1) = b4 - b1 := IntWalk.i64_in _ (by omega)
 have w2 : IntKind.i64.wrap (b5 - b2) = b5 - b2 := IntWalk.i64_in _ (by omega)
 have t0 : IntKind.i64.wrap (Int.tdiv (b3 - b0) (2 : Int)) = (b3 - b0) / 2 := by rw [Int.tdiv_eq_ediv_of_nonneg (by omega)]; exact IntWalk.i64_in _ (by omega)
 have t1 : IntKind.i64.wrap (Int.tdiv (b4 - b1) (2 : Int)) = (b4 - b1) / 2 := by rw [Int.tdiv_eq_ediv_of_nonneg (by omega)]; exact IntWalk.i64_in _ (by omega)
 have t2 : IntKind.i64.wrap (Int.tdiv (b5 - b2) (2 : Int)) = (b5 - b2) / 2 := by rw [Int.tdiv_eq_ediv_of_nonneg (by omega)]; exact IntWalk.i64_in _ (by omega)
 have v0 : IntKind.i64.wrap (b0 + (b3 - b0) / 2) = b0 + (b3 - b0) / 2 := IntWalk.i64_in _ (by omega)
 have v1 : IntKind.i64.wrap (b1 + (b4 - b1) / 2) = b1 + (b4 - b1) / 2 := IntWalk.i64_in _ (by omega)
 have v2 : IntKind.i64.wrap (b2 + (b5 - b2) / 2) = b2 + (b5 - b2) / 2 := IntWalk.i64_in _ (by omega)
 have u0 : IntKind.i64.wrap (b0 + (b3 - b0) / 2 + 1) = b0 + (b3 - b0) / 2 + 1 := IntWalk.i64_in _ (by omega)
 have u1 : IntKind.i64.wrap (b1 + (b4 - b1) / 2 + 1) = b1 + (b4 - b1) / 2 + 1 := IntWalk.i64_in _ (by omega)
 have u2 : IntKind.i64.wrap (b2 + (b5 - b2) / 2 + 1) = b2 + (b5 - b2) / 2 + 1 := IntWalk.i64_in _ (by omega)
 have hs := side_cases (⟨⟨b0, b1, b2⟩, ⟨b3, b4, b5⟩⟩ : TBox)
 unfold vc_track_halves
 simp only at hs
 (repeat' with_reducible first | (refine lt_i ?_; intro _ hx; subst hx) | (refine cond_i ?_ ?_ <;> intro _) | (refine And.intro ?_ ?_))
 all_goals first | decide | skip
 all_goals
  simp only [w0, w1, w2, t0, t1, t2, v0, v1, v2, u0, u1, u2, decide_eq_true_eq, decide_eq_false_iff_not] at *
  unfold TBox.half1 TBox.half2
  rcases hs with ⟨h, h1, h2⟩ | ⟨h, h1, h2⟩ | ⟨h, h1, h2⟩ <;> first | omega | (rw [h]; exact LeD.refl _)
def con_track_halves : Con := fun args => match args with
 | [.t (.a [.v (.int .i64 b0), .v (.int .i64 b1), .v (.int .i64 b2), .v (.int .i64 b3), .v (.int .i64 b4), .v (.int .i64 b5)])] => some (.t (.a [.v (.int .i64 (((⟨⟨b0, b1, b2⟩, ⟨b3, b4, b5⟩⟩ : TBox)).half1.lo.x)), .v (.int .i64 (((⟨⟨b0, b1, b2⟩, ⟨b3, b4, b5⟩⟩ : TBox)).half1.lo.y)), .v (.int .i64 (((⟨⟨b0, b1, b2⟩, ⟨b3, b4, b5⟩⟩ : TBox)).half1.lo.z)), .v (.int .i64 (((⟨⟨b0, b1, b2⟩, ⟨b3, b4, b5⟩⟩ : TBox)).half1.hi.x)), .v (.int .i64 (((⟨⟨b0, b1, b2⟩, ⟨b3, b4, b5⟩⟩ : TBox)).half1.hi.y)), .v (.int .i64 (((⟨⟨b0, b1, b2⟩, ⟨b3, b4, b5⟩⟩ : TBox)).half1.hi.z)), .v (.int .i64 (((⟨⟨b0, b1, b2⟩, ⟨b3, b4, b5⟩⟩ : TBox)).half2.lo.x)), .v (.int .i64 (((⟨⟨b0, b1, b2⟩, ⟨b3, b4, b5⟩⟩ : TBox)).half2.lo.y)), .v (.int .i64 (((⟨⟨b0, b1, b2⟩, ⟨b3, b4, b5⟩⟩ : TBox)).half2.lo.z)), .v (.int .i64 (((⟨⟨b0, b1, b2⟩, ⟨b3, b4, b5⟩⟩ : TBox)).half2.hi.x)), .v (.int .i64 (((⟨⟨b0, b1, b2⟩, ⟨b3, b4, b5⟩⟩ : TBox)).half2.hi.y)), .v (.int .i64 (((⟨⟨b0, b1, b2⟩, ⟨b3, b4, b5⟩⟩ : TBox)).half2.hi.z))]), some (((⟨⟨b0, b1, b2⟩, ⟨b3, b4, b5⟩⟩ : TBox)).lo.inS 20 = true ∧ ((⟨⟨b0, b1, b2⟩, ⟨b3, b4, b5⟩⟩ : TBox)).hi.inS 20 = true ∧ ((⟨⟨b0, b1, b2⟩, ⟨b3, b4, b5⟩⟩ : TBox)).ok), false)
 | _ => none
theorem ok_track_halves : Ok Try.prog 65 con_track_halves := by
 refine Ok.fn (ann := ann_track_halves) mixed tabOK VSku50 VIkv51 (fn := Try.f65) (by kernel_rfl) (by kernel_rfl) fit_track_halves fun args r pre fresh h hp => ?_
 unfold con_track_halves at h
 split at h
 ·rename_i b0 b1 b2 b3 b4 b5
  cases h
  refine ⟨rfl, fun _ _ _ => False, _, LeA.refl _, Nat.le_of_ble_eq_true (by kernel_rfl), ?_, ?_⟩
  ·rw [ev_track_halves]; exact spec_track_halves b0 b1 b2 b3 b4 b5 hp
  ·rw [lp_track_halves]; trivial
 ·cases h
def Skv52 : Sum := addS Sku50 65 con_track_halves
theorem VSkv52 : Valid Try.prog Skv52 := Valid.add VSku50 ok_track_halves
end Go.Proofs.Ytfadkjcfjkmalaa
set_option linter.unusedVariables false
set_option linter.unusedSimpArgs false
namespace Go.Proofs.Ytfadkjcfjkmalaa
open Go.RowKit Ev
def cmpI (a c : Int) : Int := if a < c then -1 else if a > c then 1 else 0
def cmpL : List Int → List Int → Int
 | [], [] => 0
 | [], _ :: _ => -1
 | _ :: _, [] => 1
 | a :: l, b :: m => if cmpI a b ≠ 0 then cmpI a b else cmpL l m
theorem cmpL_cons {a b : Int} {l m : List Int} : cmpL (a :: l) (b :: m) = if cmpI a b ≠ 0 then cmpI a b else cmpL l m := rfl
def smallB (b : TBox) : Bool := decide (b.err ≠ 0) || decide (b.count ≤ 120)
theorem stE_of {m : TMod} {b : TBox} {s : V3} (h : s ∈ m.steps b) (hl : b.lo.inS 20 = true) (hh : b.hi.inS 20 = true) : m.stE s = 0 := by
 obtain ⟨h1, h2⟩ := mem_steps.1 h
 obtain ⟨a1, a2, a3⟩ := inS_iff.1 hl
 obtain ⟨c1, c2, c3⟩ := inS_iff.1 hh
 unfold TBox.has TBox.rx TBox.ry TBox.rz Rg.has at h1
 simp only at h1
 have e1 : s.inS 20 = true := inS_iff.2 (by omega)
 unfold TMod.stE
 rw [e1, permB_iff.2 h2]; rfl
theorem half_err {b : TBox} (h : b.err = 0) (hc : b.count ≠ 1) : b.half1.err = 0 ∧ b.half2.err = 0 ∧ b.half1.sub b ∧ b.half2.sub b := by
 have ho := box_ok h
 have hin := box_in h
 have hne : b.lo.x < b.hi.x ∨ b.lo.y < b.hi.y ∨ b.lo.z < b.hi.z := by
  have h1 := count_one ho
  obtain ⟨o1, o2, o3⟩ := ho
  simp only [TBox.rx, TBox.ry, TBox.rz, Rg.ok] at o1 o2 o3
  have h2 : ¬ (b.lo.x = b.hi.x ∧ b.lo.y = b.hi.y ∧ b.lo.z = b.hi.z) := fun q => hc (h1.2 (v3_ext.2 q))
  omega
 obtain ⟨s1, o1, s2, o2⟩ := halves_sub ho hne
 have key : ∀ c : TBox, c.sub b → c.ok → c.err = 0 := by
  intro c hs hk
  have hcm := count_mono hs hk
  obtain ⟨a1, a2, a3⟩ := inS_iff.1 hin.1
  obtain ⟨c1, c2, c3⟩ := inS_iff.1 hin.2
  have hs' := hs
  have hk' := hk
  unfold TBox.sub TBox.rx TBox.ry TBox.rz Rg.sub at hs'
  unfold TBox.ok TBox.rx TBox.ry TBox.rz Rg.ok at hk'
  simp only at hs' hk'
  have e1 : c.lo.inS 20 = true := inS_iff.2 (by omega)
  have e2 : c.hi.inS 20 = true := inS_iff.2 (by omega)
  have hb := h
  unfold TBox.err at hb ⊢
  rw [firstNZ_cons, firstNZ_cons, firstNZ_cons] at hb ⊢
  obtain ⟨_, _, h3, h4⟩ := hb
  rw [unl_0 (by decide), decide_eq_true_eq] at h3
  refine ⟨by rw [e1, e2]; rfl, ?_, ?_, h4⟩
  ·rw [unl_0 (by decide)]; simp only [Bool.and_eq_true, decide_eq_true_eq]; exact ⟨⟨hk'.1, hk'.2.1⟩, hk'.2.2⟩
  ·rw [unl_0 (by decide), decide_eq_true_eq]; omega
 exact ⟨key _ s1 o1, key _ s2 o2, s1, s2⟩
structure ExH (m : TMod) (b : TBox) (l : List THit) (p : V3) (t : Int) : Prop where
 hm : m.err = 0
 hb : b.err = 0
 hh : hitsE l = 0
 hq : momE p t = 0
theorem ExH.w {m : TMod} {b : TBox} {l : List THit} {p : V3} {t : Int} (h : ExH m b l p t) : ∀ x ∈ l, 0 ≤ x.w := by
 intro x hx
 obtain ⟨i, hi, e⟩ := List.getElem_of_mem hx
 have := (hitsE_ok h.hh).2 i hi
 rw [show hitAt l i = x by simp [hitAt, List.getD, hi, e]] at this
 exact this.w.1
theorem ExH.ans {m : TMod} {b : TBox} {l : List THit} {p : V3} {t : Int} (h : ExH m b l p t) : firstNZ [firstNZ [m.err, b.err], momE p t, unl (canW m b) 12] = unl (canW m b) 12 := by
 rw [h.hm, h.hb, h.hq]; cases canW m b <;> rfl
theorem ExH.can {m : TMod} {b : TBox} {l : List THit} {p : V3} {t : Int} (h : ExH m b l p t) : canW m b = true ↔ m.canBe b := by
 have hb := box_in h.hb
 rw [canW_eq hb.1 hb.2]; exact canB_iff
theorem ExH.steps {m : TMod} {b : TBox} {l : List THit} {p : V3} {t : Int} (h : ExH m b l p t) : stepsL m b = m.steps b ∧ firstNZ [m.err, b.err] = 0 := by
 have e : firstNZ [m.err, b.err] = 0 := by rw [h.hm, h.hb]; rfl
 exact ⟨if_neg (by rw [e]; simp), e⟩
theorem ExH.len {m : TMod} {b : TBox} {l : List THit} {p : V3} {t : Int} (h : ExH m b l p t) : ((m.steps b).length : Int) ≤ b.count := by
 have h1 := List.length_filter_le m.permB b.all
 have h2 := len_all (box_ok h.hb)
 unfold TMod.steps
 omega
theorem ExH.none {m : TMod} {b : TBox} {l : List THit} {p : V3} {t : Int} (h : ExH m b l p t) (hc : canW m b = false) : m.steps b = [] := by
 rw [List.eq_nil_iff_forall_not_mem]
 intro s hs
 obtain ⟨h1, h2⟩ := mem_steps.1 hs
 rw [h.can.2 (canBe_of h1 h2)] at hc
 cases hc
theorem ExH.step {m : TMod} {b : TBox} {l : List THit} {p : V3} {t : Int} (h : ExH m b l p t) {s : V3} (hs : s ∈ m.steps b) : m.stE s = 0 ∧ m.both s = 0 ∧ (m.ans b p t = 2 → m.reached s p t = true) ∧ (m.ans b p t = 0 → m.reached s p t = false) ∧ inB (m.score s l) (m.scores b l).lo (m.scores b l).hi = true := by
 have hin := box_in h.hb
 have h0 := stE_of hs hin.1 hin.2
 obtain ⟨h1, h2⟩ := mem_steps.1 hs
 have ho := err_ok h.hm
 have ha := ans_sure (p := p) (t := t) h1 h2 ho.slo
 refine ⟨h0, ?_, ha.1, ha.2, ?_⟩
 ·unfold TMod.both
  rw [h0, h.hm]; rfl
 ·have := score_has h1 h2 ho.slp ho.slo ⟨ho.ea.1, ho.la.1⟩ ⟨ho.mi.1, ho.no.1⟩ h.w
  rw [inB_true]; exact this
theorem ExH.part {m : TMod} {b c : TBox} {l : List THit} {p : V3} {t : Int} (h : ExH m b l p t) (hc : ExH m c l p t) (hs : c.sub b) (hb : canW m c = true) : (m.ans b p t = 2 → m.ans c p t = 2) ∧ (m.ans b p t = 0 → m.ans c p t = 0) ∧ (m.scores c l).hi ≤ (m.scores b l).hi ∧ (0 < (m.steps c).length → (m.scores b l).lo ≤ (m.scores c l).lo) := by
 have ho := err_ok h.hm
 have hk := box_ok hc.hb
 have h1 := ans_part (p := p) (t := t) hs hk (hc.can.1 hb) ho.ord ho.slo
 have h2 := scores_part (l := l) hs hk (hc.can.1 hb) ho.ord ho.slp ho.slo ⟨ho.ea.1, ho.la.1⟩ ⟨ho.mi.1, ho.no.1⟩ h.w
 refine ⟨h1.1, h1.2, h2.1, fun hl => h2.2 ?_⟩
 have hm := plAt_in hl
 exact ⟨_, mem_steps.1 hm⟩
theorem numsP3' {x y z u : Int} : numsP 1 3 (fun i j => boxC [.v (.int .i64 x), .v (.int .i64 y), .v (.int .i64 z), .v (.int .i64 u)] (0 + i * 1 + j)) := by
 intro i j hi hj
 obtain rfl : j = 0 := by omega
 rcases (by omega : i = 0 ∨ i = 1 ∨ i = 2) with rfl | rfl | rfl <;> rfl
theorem cells_intsB {n : Nat} {c : Nat → CV} (h : intsB (List.range n) c = true) : (List.range n).map c = (List.range n).map fun i => CV.v (.int .i64 (cvInt (c i))) := List.map_congr_left fun i hi => intsB_get h i hi
instance (a b : V3) : Decidable (lexB a b) := by unfold lexB; infer_instance
def z3 (s : V3) : Prop := s.x = 0 ∧ s.y = 0 ∧ s.z = 0
instance (s : V3) : Decidable (z3 s) := by unfold z3; infer_instance
def TMod.stp (m : TMod) (l : List THit) (b k : V3) (n : Int) : V3 × Int := if z3 k ∨ m.score b l < n ∨ (m.score b l = n ∧ lexB b k) then (b, m.score b l) else (k, n)
def bstF (m : TMod) (l : List THit) : Nat → TBox → V3 → Int → V3 × Int
 | 0, _, k, n => (k, n)
 | f + 1, b, k, n => if m.canB b = false then (k, n) else if ¬ z3 k ∧ n < (m.scores b l).lo then (k, n) else if b.count ≠ 1 then bstF m l f b.half2 (bstF m l f b.half1 k n).1 (bstF m l f b.half1 k n).2 else m.stp l b.lo k n
def bstR (m : TMod) (l : List THit) (b : TBox) (k : V3) (n : Int) : V3 × Int := bstF m l b.count.toNat b k n
theorem bstF_same {m : TMod} {l : List THit} : ∀ (f f' : Nat) (b : TBox) (k : V3) (n : Int), b.err = 0 → b.count ≤ f → b.count ≤ f' → bstF m l f b k n = bstF m l f' b k n
 | 0, _, b, _, _, h, h1, _ => by have := count_pos (box_ok h); omega
 | _ + 1, 0, b, _, _, h, _, h1 => by have := count_pos (box_ok h); omega
 | f + 1, f' + 1, b, k, n, h, h1, h2 => by
  unfold bstF
  by_cases e1 : m.canB b = false
  ·rw [if_pos e1, if_pos e1]
  ·rw [if_neg e1, if_neg e1]
   by_cases e3 : ¬ z3 k ∧ n < (m.scores b l).lo
   ·rw [if_pos e3, if_pos e3]
   ·rw [if_neg e3, if_neg e3]
    by_cases e2 : b.count ≠ 1
    ·rw [if_pos e2, if_pos e2]
     obtain ⟨f1, f2, _, _⟩ := half_err h e2
     have hc := halves_count b
     have p1 := count_pos (box_ok f1)
     have p2 := count_pos (box_ok f2)
     rw [bstF_same f f' b.half1 k n f1 (by omega) (by omega), bstF_same f f' b.half2 _ _ f2 (by omega) (by omega)]
    ·rw [if_neg e2, if_neg e2]
theorem bstR_eq {m : TMod} {l : List THit} {b : TBox} {k : V3} {n : Int} (h : b.err = 0) : bstR m l b k n = if m.canB b = false then (k, n) else if ¬ z3 k ∧ n < (m.scores b l).lo then (k, n) else if b.count ≠ 1 then bstR m l b.half2 (bstR m l b.half1 k n).1 (bstR m l b.half1 k n).2 else m.stp l b.lo k n := by
 have p := count_pos (box_ok h)
 obtain ⟨f, hf⟩ : ∃ f, b.count.toNat = f + 1 := ⟨b.count.toNat - 1, by omega⟩
 unfold bstR
 rw [hf, bstF]
 by_cases e2 : b.count ≠ 1
 ·obtain ⟨f1, f2, _, _⟩ := half_err h e2
  have hc := halves_count b
  have p1 := count_pos (box_ok f1)
  have p2 := count_pos (box_ok f2)
  rw [bstF_same f b.half1.count.toNat b.half1 k n f1 (by omega) (by omega), bstF_same f b.half2.count.toNat b.half2 _ _ f2 (by omega) (by omega)]
 ·rw [if_neg e2, if_neg e2]
theorem zB (x y z : Int) : (bif (x == (0 : Int)) then (bif (y == (0 : Int)) then (bif (z == (0 : Int)) then true else false) else false) else false) = decide (z3 ⟨x, y, z⟩) := by
 unfold z3
 by_cases h1 : x = 0 <;> by_cases h2 : y = 0 <;> by_cases h3 : z = 0 <;> simp [h1, h2, h3]
theorem cmp3 (a b c x y z : Int) : decide (cmpL ([a, b, c] : List Int) ([x, y, z] : List Int) < 0) = decide (lexB ⟨a, b, c⟩ ⟨x, y, z⟩) := by
 refine decide_eq_decide.2 ?_
 unfold lexB
 simp only [cmpL, cmpI]
 (repeat' split) <;> omega
def vc_cmp_isNaN_int (a : Int) (post : DV → Prop) : Prop := post (.t (.c (.v (.bool (a != a)))))
def ann_cmp_isNaN_int : Ann := ⟨fun _ => none, fun _ => none, fun _ => [], Ikv51, false, fun _ => none, fun _ => none⟩
theorem ev_cmp_isNaN_int (J : Inv) (a : Int) (post : DV → Prop) : evFn Try.prog tab Skv52 ann_cmp_isNaN_int J Try.f92 [.t (.c (.v (.int .i64 a)))] post = vc_cmp_isNaN_int a post := by kernel_rfl
theorem fit_cmp_isNaN_int : okFn ann_cmp_isNaN_int Try.f92 = true := by kernel_rfl
theorem lp_cmp_isNaN_int (J : Inv) (post : DV → Prop) : AllG J (loopsFn Try.prog tab Skv52 ann_cmp_isNaN_int J Try.f92 post) = (True) := by kernel_rfl
theorem spec_cmp_isNaN_int (a : Int) : vc_cmp_isNaN_int a (fun r => LeD r (.t (.c (.v (.bool false))))) := by
 exact leB (by simp)
def con_cmp_isNaN_int : Con := fun args => match args with
 | [.t (.c (.v (.int .i64 a)))] => some (.t (.c (.v (.bool false))), none, false)
 | _ => none
theorem ok_cmp_isNaN_int : Ok Try.prog 92 con_cmp_isNaN_int := by
 refine Ok.fn (ann := ann_cmp_isNaN_int) mixed tabOK VSkv52 VIkv51 (fn := Try.f92) (by kernel_rfl) (by kernel_rfl) fit_cmp_isNaN_int fun args r pre fresh h hp => ?_
 unfold con_cmp_isNaN_int at h
 split at h
 ·rename_i a
  cases h
  refine ⟨rfl, fun _ _ _ => False, _, LeA.refl _, Nat.le_of_ble_eq_true (by kernel_rfl), ?_, ?_⟩
  ·rw [ev_cmp_isNaN_int]; exact spec_cmp_isNaN_int a
  ·rw [lp_cmp_isNaN_int]; trivial
 ·cases h
def Skx53 : Sum := addS Skv52 92 con_cmp_isNaN_int
theorem VSkx53 : Valid Try.prog Skx53 := Valid.add VSkv52 ok_cmp_isNaN_int
def vc_cmp_Compare_int (a : Int) (c : Int) (post : DV → Prop) : Prop := cond (decide (a < c)) (post (.t (.c (.v (.int .i64 (-1)))))) (cond (decide (a > c)) (post (.t (.c (.v (.int .i64 1))))) (post (.t (.c (.v (.int .i64 0))))))
def ann_cmp_Compare_int : Ann := ⟨fun _ => none, fun _ => none, fun _ => [], Ikv51, false, fun _ => none, fun _ => none⟩
theorem ev_cmp_Compare_int (J : Inv) (a : Int) (c : Int) (post : DV → Prop) : evFn Try.prog tab Skx53 ann_cmp_Compare_int J Try.f84 [.t (.c (.v (.int .i64 a))), .t (.c (.v (.int .i64 c)))] post = vc_cmp_Compare_int a c post := by kernel_rfl
theorem fit_cmp_Compare_int : okFn ann_cmp_Compare_int Try.f84 = true := by kernel_rfl
theorem lp_cmp_Compare_int (J : Inv) (post : DV → Prop) : AllG J (loopsFn Try.prog tab Skx53 ann_cmp_Compare_int J Try.f84 post) = (True) := by kernel_rfl
theorem spec_cmp_Compare_int (a : Int) (c : Int) : vc_cmp_Compare_int a c (fun r => LeD r (.t (.c (.v (.int .i64 (cmpI a c)))))) := by
 unfold vc_cmp_Compare_int
 unfold cmpI
 refine cond_i (fun h => leI ?_) (fun h => cond_i (fun q => leI ?_) (fun q => leI ?_))
 ·rw [if_pos (of_decide_eq_true h)]
 ·rw [if_neg (of_decide_eq_false h), if_pos (of_decide_eq_true q)]
 ·rw [if_neg (of_decide_eq_false h), if_neg (of_decide_eq_false q)]
def con_cmp_Compare_int : Con := fun args => match args with
 | [.t (.c (.v (.int .i64 a))), .t (.c (.v (.int .i64 c)))] => some (.t (.c (.v (.int .i64 (cmpI a c)))), none, false)
 | _ => none
theorem ok_cmp_Compare_int : Ok Try.prog 84 con_cmp_Compare_int := by
 refine Ok.fn (ann := ann_cmp_Compare_int) mixed tabOK VSkx53 VIkv51 (fn := Try.f84) (by kernel_rfl) (by kernel_rfl) fit_cmp_Compare_int fun args r pre fresh h hp => ?_
 unfold con_cmp_Compare_int at h
 split at h
 ·rename_i a c
  cases h
  refine ⟨rfl, fun _ _ _ => False, _, LeA.refl _, Nat.le_of_ble_eq_true (by kernel_rfl), ?_, ?_⟩
  ·rw [ev_cmp_Compare_int]; exact spec_cmp_Compare_int a c
  ·rw [lp_cmp_Compare_int]; trivial
 ·cases h
def Skx54 : Sum := addS Skx53 84 con_cmp_Compare_int
theorem VSkx54 : Valid Try.prog Skx54 := Valid.add VSkx53 ok_cmp_Compare_int
def mk_slices_Compare_int_int_0 (l : List Int) (l2 : List Int) (v0_0 : Int) : DS := ⟨[some (.t (.c (.sl 1 l.length (intsC l)))), some (.t (.c (.sl 1 l2.length (intsC l2)))), none, none, none, none, none, none, none, some (.t (.c (.sl 1 l.length (intsC l)))), some (.t (.c (.v (.int .i64 ((l.length : Nat) : Int))))), some (.t (.c (.v (.int .i64 v0_0)))), none, none, none, none, none, none, none, none, none, none, none, none, none, none, none, none, none, none, none, none, none, none, none, none], [none, none, none, none, none, none, none, none, none, none, none, none, none, none, none, none, none, none, none, none, none, none, none, none, none, none, none, none, none, none, none, none, none, none, none, none]⟩
def vc_slices_Compare_int_int (J : Inv) (l : List Int) (l2 : List Int) (post : DV → Prop) : Prop := ∃ n, J 0 (n :: []) (mk_slices_Compare_int_int_0 l l2 0)
def ann_slices_Compare_int_int : Ann := ⟨fun _ => none, fun b => lookA b [(0, (none, some ⟨[0, 1, 9, 10, 11], [], []⟩))], fun _ => [], Ikv51, false, fun _ => none, fun _ => none⟩
theorem ev_slices_Compare_int_int (J : Inv) (l : List Int) (l2 : List Int) (post : DV → Prop) : evFn Try.prog tab Skx54 ann_slices_Compare_int_int J Try.f66 [.t (.c (.sl 1 l.length (intsC l))), .t (.c (.sl 1 l2.length (intsC l2)))] post = vc_slices_Compare_int_int J l l2 post := by kernel_rfl
theorem fit_slices_Compare_int_int : okFn ann_slices_Compare_int_int Try.f66 = true := by kernel_rfl
def rd_slices_Compare_int_int_0 (J : Inv) (l : List Int) (l2 : List Int) (v0_0 : Int) (nn0 : Nat) (post : DV → Prop) : Prop := cond (decide (v0_0 < ((l.length : Nat) : Int))) ((0 ≤ v0_0 ∧ v0_0 < ((l.length : Nat) : Int)) ∧ (cond (decide (v0_0 ≥ ((l2.length : Nat) : Int))) (post (.t (.c (.v (.int .i64 1))))) ((0 ≤ v0_0 ∧ v0_0 < ((l2.length : Nat) : Int)) ∧ (cond ((cmpI (l.getD v0_0.toNat 0) (l2.getD v0_0.toNat 0)) != (0 : Int)) (post (.t (.c (.v (.int .i64 (cmpI (l.getD v0_0.toNat 0) (l2.getD v0_0.toNat 0))))))) (lt (IntKind.i64.wrap (v0_0 + (1 : Int))) fun x1 => J 0 (nn0 :: []) (mk_slices_Compare_int_int_0 l l2 x1)))))) (cond (decide (((l.length : Nat) : Int) < ((l2.length : Nat) : Int))) (post (.t (.c (.v (.int .i64 (-1)))))) (post (.t (.c (.v (.int .i64 0))))))
theorem er_slices_Compare_int_int_0 (J : Inv) (l : List Int) (l2 : List Int) (v0_0 : Int) (nn0 : Nat) (post : DV → Prop) : round Try.prog tab Skx54 ann_slices_Compare_int_int J Try.f66 post 0 (nn0 :: []) (mk_slices_Compare_int_int_0 l l2 v0_0) = rd_slices_Compare_int_int_0 J l l2 v0_0 nn0 post := by kernel_rfl
theorem lp_slices_Compare_int_int (J : Inv) (post : DV → Prop) : AllG J (loopsFn Try.prog tab Skx54 ann_slices_Compare_int_int J Try.f66 post) = (((∀ F s, ¬ J 0 (0 :: F) s) ∧ ∀ n F s, J 0 ((n + 1) :: F) s → round Try.prog tab Skx54 ann_slices_Compare_int_int J Try.f66 post 0 (n :: F) s) ∧ True) := by kernel_rfl
def J_slices_Compare_int_int (l : List Int) (l2 : List Int) : Inv := fun b F s => match b, F with
 | 0, [nn0] => ∃ (v0_0 : Int), s = mk_slices_Compare_int_int_0 l l2 v0_0 ∧ (l.length ≤ 1000000 ∧ 0 ≤ v0_0 ∧ v0_0 ≤ l.length ∧ v0_0 ≤ l2.length ∧ (nn0 : Int) + v0_0 = l.length + 1 ∧ cmpL l l2 = cmpL (l.drop v0_0.toNat) (l2.drop v0_0.toNat))
 | _, _ => False
theorem rnd_slices_Compare_int_int_0 (l : List Int) (l2 : List Int) (v0_0 : Int) (nn0 : Nat) (hp : (l).length ≤ 1000000) (hi : l.length ≤ 1000000 ∧ 0 ≤ v0_0 ∧ v0_0 ≤ l.length ∧ v0_0 ≤ l2.length ∧ ((nn0 + 1) : Int) + v0_0 = l.length + 1 ∧ cmpL l l2 = cmpL (l.drop v0_0.toNat) (l2.drop v0_0.toNat)) : rd_slices_Compare_int_int_0 (J_slices_Compare_int_int l l2) l l2 v0_0 nn0 (fun r => LeD r (.t (.c (.v (.int .i64 (cmpL l l2)))))) := by
 obtain ⟨i0, i1, i2, i3, i4, i5⟩ := hi
 obtain ⟨k, rfl⟩ : ∃ k : Nat, v0_0 = k := ⟨v0_0.toNat, by omega⟩
 have hk : (k : Int).toNat = k := rfl
 rw [hk] at i5
 unfold rd_slices_Compare_int_int_0
 rw [hk]
 refine cond_i (fun h => ?_) (fun h => ?_)
 ·have hlt : k < l.length := by have := of_decide_eq_true h; omega
  have el : l.drop k = l.getD k 0 :: l.drop (k + 1) := by rw [List.drop_eq_getElem_cons hlt]; simp [List.getD, hlt]
  rw [el] at i5
  refine ⟨by omega, cond_i (fun q => leI ?_) (fun q => ?_)⟩
  ·have q := of_decide_eq_true q
   rw [i5, show l2.drop k = [] from List.drop_eq_nil_of_le (by omega)]; rfl
  ·have q := of_decide_eq_false q
   have hr : k < l2.length := by omega
   have er : l2.drop k = l2.getD k 0 :: l2.drop (k + 1) := by rw [List.drop_eq_getElem_cons hr]; simp [List.getD, hr]
   rw [er] at i5
   rw [cmpL_cons] at i5
   refine ⟨by omega, cond_i (fun q => leI ?_) (fun q => lt_i fun x hx => ?_)⟩
   ·rw [i5, if_pos (by simpa using q)]
   ·rw [if_neg (by simpa using q)] at i5
    rw [wi (by omega)] at hx
    subst hx
    exact ⟨_, rfl, i0, by omega, by omega, by omega, by omega, by rw [show ((k : Int) + 1).toNat = k + 1 by omega]; exact i5⟩
 ·have hge : k = l.length := by have := of_decide_eq_false h; omega
  rw [List.drop_eq_nil_of_le (show l.length ≤ k by omega)] at i5
  refine cond_i (fun q => leI ?_) (fun q => leI ?_)
  ·have q := of_decide_eq_true q
   have hr : k < l2.length := by omega
   rw [i5, List.drop_eq_getElem_cons hr]; rfl
  ·have q := of_decide_eq_false q
   rw [i5, show l2.drop k = [] from List.drop_eq_nil_of_le (by omega)]; rfl
theorem zero_slices_Compare_int_int_0 (l : List Int) (l2 : List Int) (v0_0 : Int)  (hi : l.length ≤ 1000000 ∧ 0 ≤ v0_0 ∧ v0_0 ≤ l.length ∧ v0_0 ≤ l2.length ∧ (0 : Int) + v0_0 = l.length + 1 ∧ cmpL l l2 = cmpL (l.drop v0_0.toNat) (l2.drop v0_0.toNat)) : False := by
 omega
theorem spec_slices_Compare_int_int (l : List Int) (l2 : List Int) (hp : (l).length ≤ 1000000) : vc_slices_Compare_int_int (J_slices_Compare_int_int l l2) l l2 (fun r => LeD r (.t (.c (.v (.int .i64 (cmpL l l2)))))) := by
 unfold vc_slices_Compare_int_int
 exact ⟨l.length + 1, 0, rfl, hp, by omega, by omega, by omega, by omega, rfl⟩
theorem all_slices_Compare_int_int (l : List Int) (l2 : List Int) (hp : (l).length ≤ 1000000) : AllG (J_slices_Compare_int_int l l2) (loopsFn Try.prog tab Skx54 ann_slices_Compare_int_int (J_slices_Compare_int_int l l2) Try.f66 (fun r => LeD r (.t (.c (.v (.int .i64 (cmpL l l2))))))) := by
 rw [lp_slices_Compare_int_int]
 refine ⟨⟨?_, ?_⟩, trivial⟩
 ·intro F s h
  obtain _ | ⟨g, F⟩ := F
  case cons => exact h.elim
  obtain ⟨w0, rfl, hi⟩ := h
  exact zero_slices_Compare_int_int_0 l l2 w0 hi
 ·intro n F s h
  obtain _ | ⟨g, F⟩ := F
  case cons => exact h.elim
  obtain ⟨w0, rfl, hi⟩ := h
  rw [er_slices_Compare_int_int_0]
  exact rnd_slices_Compare_int_int_0 l l2 _ _ hp hi
def con_slices_Compare_int_int : Con := fun args => match args with
 | [.t (.c (.sl 1 n_l c_l)), .t (.c (.sl 1 n_l2 c_l2))] => some (.t (.c (.v (.int .i64 (cmpL (listC n_l mkInt c_l) (listC n_l2 mkInt c_l2))))), some (numsP 1 n_l c_l ∧ numsP 1 n_l2 c_l2 ∧ ((listC n_l mkInt c_l)).length ≤ 1000000), false)
 | _ => none
theorem ok_slices_Compare_int_int : Ok Try.prog 66 con_slices_Compare_int_int := by
 refine Ok.fn (ann := ann_slices_Compare_int_int) mixed tabOK VSkx54 VIkv51 (fn := Try.f66) (by kernel_rfl) (by kernel_rfl) fit_slices_Compare_int_int fun args r pre fresh h hp => ?_
 unfold con_slices_Compare_int_int at h
 split at h
 ·rename_i n_l c_l n_l2 c_l2
  cases h
  obtain ⟨hp0, hp1, hp⟩ := hp
  refine ⟨rfl, J_slices_Compare_int_int (listC n_l mkInt c_l) (listC n_l2 mkInt c_l2), [.t (.c (.sl 1 ((listC n_l mkInt c_l).length) (intsC (listC n_l mkInt c_l)))), .t (.c (.sl 1 ((listC n_l2 mkInt c_l2).length) (intsC (listC n_l2 mkInt c_l2))))], ?_, Nat.le_of_ble_eq_true (by kernel_rfl), ?_, ?_⟩
  ·exact (LeA_cons (leT_c ((leL_int hp0))) (LeA_cons (leT_c ((leL_int hp1))) LeA_nil))
  ·rw [ev_slices_Compare_int_int]; exact spec_slices_Compare_int_int (listC n_l mkInt c_l) (listC n_l2 mkInt c_l2) hp
  ·exact all_slices_Compare_int_int (listC n_l mkInt c_l) (listC n_l2 mkInt c_l2) hp
 ·cases h
def Skx55 : Sum := addS Skx54 66 con_slices_Compare_int_int
theorem VSkx55 : Valid Try.prog Skx55 := Valid.add VSkx54 ok_slices_Compare_int_int
def conr_track_model_best (kk : Nat) : Con := fun args => match args with
 | [.t (.a [.v (.int .i64 m0), .v (.int .i64 m1), .v (.int .i64 m2), .v (.int .i64 m3), .v (.int .i64 m4), .v (.int .i64 m5), .v (.int .i64 m6), .v (.int .i64 m7), .v (.int .i64 m8), .v (.int .i64 m9), .v (.int .i64 m10), .v (.int .i64 m11)]), .t (.a [.v (.int .i64 b0), .v (.int .i64 b1), .v (.int .i64 b2), .v (.int .i64 b3), .v (.int .i64 b4), .v (.int .i64 b5)]), .t (.c (.sl 5 n_l c_l)), .t (.c (.px 4 0 c_pw))] => some (.tu [], some (numsP 5 n_l c_l ∧ intsB [0, 1, 2, 3] c_pw = true ∧ (((⟨m0, m1, m2, m3, m4, m5, m6, m7, m8, m9, m10, m11⟩ : TMod)).err = 0 ∧ ((⟨⟨b0, b1, b2⟩, ⟨b3, b4, b5⟩⟩ : TBox)).err = 0 ∧ hitsE (listC n_l mkHit c_l) = 0) ∧ (((⟨⟨b0, b1, b2⟩, ⟨b3, b4, b5⟩⟩ : TBox)).count.toNat) < kk), .wr 3 77 [.v (.int .i64 ((bstR (⟨m0, m1, m2, m3, m4, m5, m6, m7, m8, m9, m10, m11⟩ : TMod) (listC n_l mkHit c_l) (⟨⟨b0, b1, b2⟩, ⟨b3, b4, b5⟩⟩ : TBox) ⟨(cvInt (c_pw 0)), (cvInt (c_pw 1)), (cvInt (c_pw 2))⟩ (cvInt (c_pw 3))).1.x)), .v (.int .i64 ((bstR (⟨m0, m1, m2, m3, m4, m5, m6, m7, m8, m9, m10, m11⟩ : TMod) (listC n_l mkHit c_l) (⟨⟨b0, b1, b2⟩, ⟨b3, b4, b5⟩⟩ : TBox) ⟨(cvInt (c_pw 0)), (cvInt (c_pw 1)), (cvInt (c_pw 2))⟩ (cvInt (c_pw 3))).1.y)), .v (.int .i64 ((bstR (⟨m0, m1, m2, m3, m4, m5, m6, m7, m8, m9, m10, m11⟩ : TMod) (listC n_l mkHit c_l) (⟨⟨b0, b1, b2⟩, ⟨b3, b4, b5⟩⟩ : TBox) ⟨(cvInt (c_pw 0)), (cvInt (c_pw 1)), (cvInt (c_pw 2))⟩ (cvInt (c_pw 3))).1.z)), .v (.int .i64 ((bstR (⟨m0, m1, m2, m3, m4, m5, m6, m7, m8, m9, m10, m11⟩ : TMod) (listC n_l mkHit c_l) (⟨⟨b0, b1, b2⟩, ⟨b3, b4, b5⟩⟩ : TBox) ⟨(cvInt (c_pw 0)), (cvInt (c_pw 1)), (cvInt (c_pw 2))⟩ (cvInt (c_pw 3))).2))])
 | _ => none
def vc_track_model_best (kk : Nat) (m0 m1 m2 m3 m4 m5 m6 m7 m8 m9 m10 m11 : Int) (b0 b1 b2 b3 b4 b5 : Int) (l : List THit) (w0 w1 w2 w3 : Int) (post : DV → List CV → Prop) : Prop := lt ((sqsW (⟨⟨b0, b1, b2⟩, ⟨b3, b4, b5⟩⟩ : TBox)).lo) fun x1 => lt ((sqsW (⟨⟨b0, b1, b2⟩, ⟨b3, b4, b5⟩⟩ : TBox)).hi) fun x2 => lt (canW (⟨m0, m1, m2, m3, m4, m5, m6, m7, m8, m9, m10, m11⟩ : TMod) (⟨⟨b0, b1, b2⟩, ⟨b3, b4, b5⟩⟩ : TBox)) fun x3 => cond (!x3) (post (.tu []) [.v (.int .i64 w0), .v (.int .i64 w1), .v (.int .i64 w2), .v (.int .i64 w3)]) ((cond (!(bif (w0 == (0 : Int)) then (bif (w1 == (0 : Int)) then (bif (w2 == (0 : Int)) then true else false) else false) else false)) ((numsP 5 l.length (hitsC l) ∧ ((⟨m0, m1, m2, m3, m4, m5, m6, m7, m8, m9, m10, m11⟩ : TMod)).Ok ∧ ((⟨⟨b0, b1, b2⟩, ⟨b3, b4, b5⟩⟩ : TBox)).lo.inS 20 = true ∧ ((⟨⟨b0, b1, b2⟩, ⟨b3, b4, b5⟩⟩ : TBox)).hi.inS 20 = true ∧ ((⟨m0, m1, m2, m3, m4, m5, m6, m7, m8, m9, m10, m11⟩ : TMod)).canBe (⟨⟨b0, b1, b2⟩, ⟨b3, b4, b5⟩⟩ : TBox) ∧ ((listC l.length mkHit (hitsC l))).length ≤ 12 ∧ ∀ i, i < ((listC l.length mkHit (hitsC l))).length → (hitAt (listC l.length mkHit (hitsC l)) i).Ok) ∧ (True)) ((false = false) ∧ (True))) ∧ (lt ((bif (!(bif (w0 == (0 : Int)) then (bif (w1 == (0 : Int)) then (bif (w2 == (0 : Int)) then true else false) else false) else false)) then decide (((((⟨m0, m1, m2, m3, m4, m5, m6, m7, m8, m9, m10, m11⟩ : TMod)).scores (⟨⟨b0, b1, b2⟩, ⟨b3, b4, b5⟩⟩ : TBox) (listC l.length mkHit (hitsC l))).lo) > w3) else false)) fun x4 => cond x4 (post (.tu []) [.v (.int .i64 w0), .v (.int .i64 w1), .v (.int .i64 w2), .v (.int .i64 w3)]) ((((⟨⟨b0, b1, b2⟩, ⟨b3, b4, b5⟩⟩ : TBox)).lo.inS 20 = true ∧ ((⟨⟨b0, b1, b2⟩, ⟨b3, b4, b5⟩⟩ : TBox)).hi.inS 20 = true ∧ ((⟨⟨b0, b1, b2⟩, ⟨b3, b4, b5⟩⟩ : TBox)).ok) ∧ (cond (decide ((((⟨⟨b0, b1, b2⟩, ⟨b3, b4, b5⟩⟩ : TBox)).count) > (1 : Int))) ((((⟨⟨b0, b1, b2⟩, ⟨b3, b4, b5⟩⟩ : TBox)).lo.inS 20 = true ∧ ((⟨⟨b0, b1, b2⟩, ⟨b3, b4, b5⟩⟩ : TBox)).hi.inS 20 = true ∧ ((⟨⟨b0, b1, b2⟩, ⟨b3, b4, b5⟩⟩ : TBox)).ok) ∧ ((0 ≤ (0 : Int) ∧ (0 : Int) < ((2 : Nat) : Int)) ∧ (lt ((bstR (⟨m0, m1, m2, m3, m4, m5, m6, m7, m8, m9, m10, m11⟩ : TMod) (listC l.length mkHit (hitsC l)) (⟨⟨(((⟨⟨b0, b1, b2⟩, ⟨b3, b4, b5⟩⟩ : TBox)).half1.lo.x), (((⟨⟨b0, b1, b2⟩, ⟨b3, b4, b5⟩⟩ : TBox)).half1.lo.y), (((⟨⟨b0, b1, b2⟩, ⟨b3, b4, b5⟩⟩ : TBox)).half1.lo.z)⟩, ⟨(((⟨⟨b0, b1, b2⟩, ⟨b3, b4, b5⟩⟩ : TBox)).half1.hi.x), (((⟨⟨b0, b1, b2⟩, ⟨b3, b4, b5⟩⟩ : TBox)).half1.hi.y), (((⟨⟨b0, b1, b2⟩, ⟨b3, b4, b5⟩⟩ : TBox)).half1.hi.z)⟩⟩ : TBox) ⟨w0, w1, w2⟩ w3).1.x) fun x5 => lt ((bstR (⟨m0, m1, m2, m3, m4, m5, m6, m7, m8, m9, m10, m11⟩ : TMod) (listC l.length mkHit (hitsC l)) (⟨⟨(((⟨⟨b0, b1, b2⟩, ⟨b3, b4, b5⟩⟩ : TBox)).half1.lo.x), (((⟨⟨b0, b1, b2⟩, ⟨b3, b4, b5⟩⟩ : TBox)).half1.lo.y), (((⟨⟨b0, b1, b2⟩, ⟨b3, b4, b5⟩⟩ : TBox)).half1.lo.z)⟩, ⟨(((⟨⟨b0, b1, b2⟩, ⟨b3, b4, b5⟩⟩ : TBox)).half1.hi.x), (((⟨⟨b0, b1, b2⟩, ⟨b3, b4, b5⟩⟩ : TBox)).half1.hi.y), (((⟨⟨b0, b1, b2⟩, ⟨b3, b4, b5⟩⟩ : TBox)).half1.hi.z)⟩⟩ : TBox) ⟨w0, w1, w2⟩ w3).1.y) fun x6 => lt ((bstR (⟨m0, m1, m2, m3, m4, m5, m6, m7, m8, m9, m10, m11⟩ : TMod) (listC l.length mkHit (hitsC l)) (⟨⟨(((⟨⟨b0, b1, b2⟩, ⟨b3, b4, b5⟩⟩ : TBox)).half1.lo.x), (((⟨⟨b0, b1, b2⟩, ⟨b3, b4, b5⟩⟩ : TBox)).half1.lo.y), (((⟨⟨b0, b1, b2⟩, ⟨b3, b4, b5⟩⟩ : TBox)).half1.lo.z)⟩, ⟨(((⟨⟨b0, b1, b2⟩, ⟨b3, b4, b5⟩⟩ : TBox)).half1.hi.x), (((⟨⟨b0, b1, b2⟩, ⟨b3, b4, b5⟩⟩ : TBox)).half1.hi.y), (((⟨⟨b0, b1, b2⟩, ⟨b3, b4, b5⟩⟩ : TBox)).half1.hi.z)⟩⟩ : TBox) ⟨w0, w1, w2⟩ w3).1.z) fun x7 => lt ((bstR (⟨m0, m1, m2, m3, m4, m5, m6, m7, m8, m9, m10, m11⟩ : TMod) (listC l.length mkHit (hitsC l)) (⟨⟨(((⟨⟨b0, b1, b2⟩, ⟨b3, b4, b5⟩⟩ : TBox)).half1.lo.x), (((⟨⟨b0, b1, b2⟩, ⟨b3, b4, b5⟩⟩ : TBox)).half1.lo.y), (((⟨⟨b0, b1, b2⟩, ⟨b3, b4, b5⟩⟩ : TBox)).half1.lo.z)⟩, ⟨(((⟨⟨b0, b1, b2⟩, ⟨b3, b4, b5⟩⟩ : TBox)).half1.hi.x), (((⟨⟨b0, b1, b2⟩, ⟨b3, b4, b5⟩⟩ : TBox)).half1.hi.y), (((⟨⟨b0, b1, b2⟩, ⟨b3, b4, b5⟩⟩ : TBox)).half1.hi.z)⟩⟩ : TBox) ⟨w0, w1, w2⟩ w3).2) fun x8 => (numsP 5 l.length (hitsC l) ∧ intsB [0, 1, 2, 3] (boxC [.v (.int .i64 w0), .v (.int .i64 w1), .v (.int .i64 w2), .v (.int .i64 w3)]) = true ∧ (((⟨m0, m1, m2, m3, m4, m5, m6, m7, m8, m9, m10, m11⟩ : TMod)).err = 0 ∧ ((⟨⟨(((⟨⟨b0, b1, b2⟩, ⟨b3, b4, b5⟩⟩ : TBox)).half1.lo.x), (((⟨⟨b0, b1, b2⟩, ⟨b3, b4, b5⟩⟩ : TBox)).half1.lo.y), (((⟨⟨b0, b1, b2⟩, ⟨b3, b4, b5⟩⟩ : TBox)).half1.lo.z)⟩, ⟨(((⟨⟨b0, b1, b2⟩, ⟨b3, b4, b5⟩⟩ : TBox)).half1.hi.x), (((⟨⟨b0, b1, b2⟩, ⟨b3, b4, b5⟩⟩ : TBox)).half1.hi.y), (((⟨⟨b0, b1, b2⟩, ⟨b3, b4, b5⟩⟩ : TBox)).half1.hi.z)⟩⟩ : TBox)).err = 0 ∧ hitsE (listC l.length mkHit (hitsC l)) = 0) ∧ (((⟨⟨(((⟨⟨b0, b1, b2⟩, ⟨b3, b4, b5⟩⟩ : TBox)).half1.lo.x), (((⟨⟨b0, b1, b2⟩, ⟨b3, b4, b5⟩⟩ : TBox)).half1.lo.y), (((⟨⟨b0, b1, b2⟩, ⟨b3, b4, b5⟩⟩ : TBox)).half1.lo.z)⟩, ⟨(((⟨⟨b0, b1, b2⟩, ⟨b3, b4, b5⟩⟩ : TBox)).half1.hi.x), (((⟨⟨b0, b1, b2⟩, ⟨b3, b4, b5⟩⟩ : TBox)).half1.hi.y), (((⟨⟨b0, b1, b2⟩, ⟨b3, b4, b5⟩⟩ : TBox)).half1.hi.z)⟩⟩ : TBox)).count.toNat) < kk) ∧ ((0 ≤ (1 : Int) ∧ (1 : Int) < ((2 : Nat) : Int)) ∧ (lt ((bstR (⟨m0, m1, m2, m3, m4, m5, m6, m7, m8, m9, m10, m11⟩ : TMod) (listC l.length mkHit (hitsC l)) (⟨⟨(((⟨⟨b0, b1, b2⟩, ⟨b3, b4, b5⟩⟩ : TBox)).half2.lo.x), (((⟨⟨b0, b1, b2⟩, ⟨b3, b4, b5⟩⟩ : TBox)).half2.lo.y), (((⟨⟨b0, b1, b2⟩, ⟨b3, b4, b5⟩⟩ : TBox)).half2.lo.z)⟩, ⟨(((⟨⟨b0, b1, b2⟩, ⟨b3, b4, b5⟩⟩ : TBox)).half2.hi.x), (((⟨⟨b0, b1, b2⟩, ⟨b3, b4, b5⟩⟩ : TBox)).half2.hi.y), (((⟨⟨b0, b1, b2⟩, ⟨b3, b4, b5⟩⟩ : TBox)).half2.hi.z)⟩⟩ : TBox) ⟨x5, x6, x7⟩ x8).1.x) fun x9 => lt ((bstR (⟨m0, m1, m2, m3, m4, m5, m6, m7, m8, m9, m10, m11⟩ : TMod) (listC l.length mkHit (hitsC l)) (⟨⟨(((⟨⟨b0, b1, b2⟩, ⟨b3, b4, b5⟩⟩ : TBox)).half2.lo.x), (((⟨⟨b0, b1, b2⟩, ⟨b3, b4, b5⟩⟩ : TBox)).half2.lo.y), (((⟨⟨b0, b1, b2⟩, ⟨b3, b4, b5⟩⟩ : TBox)).half2.lo.z)⟩, ⟨(((⟨⟨b0, b1, b2⟩, ⟨b3, b4, b5⟩⟩ : TBox)).half2.hi.x), (((⟨⟨b0, b1, b2⟩, ⟨b3, b4, b5⟩⟩ : TBox)).half2.hi.y), (((⟨⟨b0, b1, b2⟩, ⟨b3, b4, b5⟩⟩ : TBox)).half2.hi.z)⟩⟩ : TBox) ⟨x5, x6, x7⟩ x8).1.y) fun x10 => lt ((bstR (⟨m0, m1, m2, m3, m4, m5, m6, m7, m8, m9, m10, m11⟩ : TMod) (listC l.length mkHit (hitsC l)) (⟨⟨(((⟨⟨b0, b1, b2⟩, ⟨b3, b4, b5⟩⟩ : TBox)).half2.lo.x), (((⟨⟨b0, b1, b2⟩, ⟨b3, b4, b5⟩⟩ : TBox)).half2.lo.y), (((⟨⟨b0, b1, b2⟩, ⟨b3, b4, b5⟩⟩ : TBox)).half2.lo.z)⟩, ⟨(((⟨⟨b0, b1, b2⟩, ⟨b3, b4, b5⟩⟩ : TBox)).half2.hi.x), (((⟨⟨b0, b1, b2⟩, ⟨b3, b4, b5⟩⟩ : TBox)).half2.hi.y), (((⟨⟨b0, b1, b2⟩, ⟨b3, b4, b5⟩⟩ : TBox)).half2.hi.z)⟩⟩ : TBox) ⟨x5, x6, x7⟩ x8).1.z) fun x11 => lt ((bstR (⟨m0, m1, m2, m3, m4, m5, m6, m7, m8, m9, m10, m11⟩ : TMod) (listC l.length mkHit (hitsC l)) (⟨⟨(((⟨⟨b0, b1, b2⟩, ⟨b3, b4, b5⟩⟩ : TBox)).half2.lo.x), (((⟨⟨b0, b1, b2⟩, ⟨b3, b4, b5⟩⟩ : TBox)).half2.lo.y), (((⟨⟨b0, b1, b2⟩, ⟨b3, b4, b5⟩⟩ : TBox)).half2.lo.z)⟩, ⟨(((⟨⟨b0, b1, b2⟩, ⟨b3, b4, b5⟩⟩ : TBox)).half2.hi.x), (((⟨⟨b0, b1, b2⟩, ⟨b3, b4, b5⟩⟩ : TBox)).half2.hi.y), (((⟨⟨b0, b1, b2⟩, ⟨b3, b4, b5⟩⟩ : TBox)).half2.hi.z)⟩⟩ : TBox) ⟨x5, x6, x7⟩ x8).2) fun x12 => (numsP 5 l.length (hitsC l) ∧ intsB [0, 1, 2, 3] (boxC [.v (.int .i64 x5), .v (.int .i64 x6), .v (.int .i64 x7), .v (.int .i64 x8)]) = true ∧ (((⟨m0, m1, m2, m3, m4, m5, m6, m7, m8, m9, m10, m11⟩ : TMod)).err = 0 ∧ ((⟨⟨(((⟨⟨b0, b1, b2⟩, ⟨b3, b4, b5⟩⟩ : TBox)).half2.lo.x), (((⟨⟨b0, b1, b2⟩, ⟨b3, b4, b5⟩⟩ : TBox)).half2.lo.y), (((⟨⟨b0, b1, b2⟩, ⟨b3, b4, b5⟩⟩ : TBox)).half2.lo.z)⟩, ⟨(((⟨⟨b0, b1, b2⟩, ⟨b3, b4, b5⟩⟩ : TBox)).half2.hi.x), (((⟨⟨b0, b1, b2⟩, ⟨b3, b4, b5⟩⟩ : TBox)).half2.hi.y), (((⟨⟨b0, b1, b2⟩, ⟨b3, b4, b5⟩⟩ : TBox)).half2.hi.z)⟩⟩ : TBox)).err = 0 ∧ hitsE (listC l.length mkHit (hitsC l)) = 0) ∧ (((⟨⟨(((⟨⟨b0, b1, b2⟩, ⟨b3, b4, b5⟩⟩ : TBox)).half2.lo.x), (((⟨⟨b0, b1, b2⟩, ⟨b3, b4, b5⟩⟩ : TBox)).half2.lo.y), (((⟨⟨b0, b1, b2⟩, ⟨b3, b4, b5⟩⟩ : TBox)).half2.lo.z)⟩, ⟨(((⟨⟨b0, b1, b2⟩, ⟨b3, b4, b5⟩⟩ : TBox)).half2.hi.x), (((⟨⟨b0, b1, b2⟩, ⟨b3, b4, b5⟩⟩ : TBox)).half2.hi.y), (((⟨⟨b0, b1, b2⟩, ⟨b3, b4, b5⟩⟩ : TBox)).half2.hi.z)⟩⟩ : TBox)).count.toNat) < kk) ∧ (post (.tu []) [.v (.int .i64 x9), .v (.int .i64 x10), .v (.int .i64 x11), .v (.int .i64 x12)])))))) ((numsP 5 l.length (hitsC l) ∧ ((⟨m0, m1, m2, m3, m4, m5, m6, m7, m8, m9, m10, m11⟩ : TMod)).Ok ∧ ((⟨b0, b1, b2⟩ : V3) : V3).inS 20 = true ∧ ((⟨m0, m1, m2, m3, m4, m5, m6, m7, m8, m9, m10, m11⟩ : TMod)).permit (⟨b0, b1, b2⟩ : V3) ∧ ((listC l.length mkHit (hitsC l))).length ≤ 12 ∧ ∀ i, i < ((listC l.length mkHit (hitsC l))).length → (hitAt (listC l.length mkHit (hitsC l)) i).Ok) ∧ ((cond (bif (w0 == (0 : Int)) then (bif (w1 == (0 : Int)) then (bif (w2 == (0 : Int)) then true else false) else false) else false) ((true = true) ∧ ((true = true) ∧ (True))) (cond (decide ((((⟨m0, m1, m2, m3, m4, m5, m6, m7, m8, m9, m10, m11⟩ : TMod)).score (⟨b0, b1, b2⟩ : V3) (listC l.length mkHit (hitsC l))) < w3)) ((true = true) ∧ (True)) (cond ((((⟨m0, m1, m2, m3, m4, m5, m6, m7, m8, m9, m10, m11⟩ : TMod)).score (⟨b0, b1, b2⟩ : V3) (listC l.length mkHit (hitsC l))) == w3) ((numsP 1 3 (fun i j => boxC [.v (.int .i64 b0), .v (.int .i64 b1), .v (.int .i64 b2)] (0 + i * 1 + j)) ∧ numsP 1 3 (fun i j => boxC [.v (.int .i64 w0), .v (.int .i64 w1), .v (.int .i64 w2), .v (.int .i64 w3)] (0 + i * 1 + j)) ∧ (([b0, b1, b2] : List Int)).length ≤ 1000000) ∧ (True)) ((false = false) ∧ (True))))) ∧ (lt ((bif (bif (w0 == (0 : Int)) then (bif (w1 == (0 : Int)) then (bif (w2 == (0 : Int)) then true else false) else false) else false) then true else (bif decide ((((⟨m0, m1, m2, m3, m4, m5, m6, m7, m8, m9, m10, m11⟩ : TMod)).score (⟨b0, b1, b2⟩ : V3) (listC l.length mkHit (hitsC l))) < w3) then true else (bif ((((⟨m0, m1, m2, m3, m4, m5, m6, m7, m8, m9, m10, m11⟩ : TMod)).score (⟨b0, b1, b2⟩ : V3) (listC l.length mkHit (hitsC l))) == w3) then decide ((cmpL ([b0, b1, b2] : List Int) ([w0, w1, w2] : List Int)) < (0 : Int)) else false)))) fun x13 => cond x13 (post (.tu []) [.v (.int .i64 b0), .v (.int .i64 b1), .v (.int .i64 b2), .v (.int .i64 (((⟨m0, m1, m2, m3, m4, m5, m6, m7, m8, m9, m10, m11⟩ : TMod)).score (⟨b0, b1, b2⟩ : V3) (listC l.length mkHit (hitsC l))))]) (post (.tu []) [.v (.int .i64 w0), .v (.int .i64 w1), .v (.int .i64 w2), .v (.int .i64 w3)]))))))))
def ann_track_model_best : Ann := ⟨fun r => lookA r [(3, ([[], [0], [0, 1], [0, 1, 2], [], [0, 1, 2, 3, 4], [0, 1, 2, 3, 4, 5], [0, 1, 2, 3, 4, 5, 6], [0, 1, 2, 3, 4, 5, 6], [0, 1, 2, 3, 4, 5, 6], [0, 1, 2, 3, 4, 5, 6, 7, 8, 9], [0, 1, 2, 3, 4, 5, 6, 7, 8, 9, 10], [0, 1, 2, 3, 4, 5, 6], [0, 1, 2, 3, 4, 5, 6, 12], [0, 1, 2, 3, 4, 5, 6, 12, 13], [0, 1, 2, 3, 4, 5, 6, 12, 13, 14], [0, 1, 2, 3, 4, 5, 6, 7, 8, 9, 10, 11, 12, 13, 14, 15], [0, 1, 2, 3, 4, 5, 6, 7, 8, 9, 10, 11, 12, 13, 14, 15, 16]], [[32], [32], [32], [32], [32], [32], [32], [32], [32], [32], [], [], [32], [32], [32], [32], [], []])), (12, ([[], [0], [0, 1], [0, 1, 2], [], [0, 1, 2, 3, 4], [0, 1, 2, 3, 4, 5], [0, 1, 2, 3, 4, 5, 6], [0, 1, 2, 3, 4, 5, 6], [0, 1, 2, 3, 4, 5, 6, 8], [0, 1, 2, 3, 4, 5, 6, 8, 9], [0, 1, 2, 3, 4, 5, 6, 8, 9, 10], [0, 1, 2, 3, 4, 5, 6, 7, 8, 9, 10, 11], [0, 1, 2, 3, 4, 5, 6, 7, 8, 9, 10, 11, 12], [0, 1, 2, 3, 4, 5, 6, 7, 8, 9, 10, 11, 12, 13], [0, 1, 2, 3, 4, 5, 6, 7, 8, 9, 10, 11, 12, 13, 14], [0, 1, 2, 3, 4, 5, 6, 7, 8, 9, 10, 11, 12, 13, 14], [0, 1, 2, 3, 4, 5, 6, 7, 8, 9, 10, 11, 12, 13, 14, 16], [0, 1, 2, 3, 4, 5, 6, 7, 8, 9, 10, 11, 12, 13, 14, 16, 17], [0, 1, 2, 3, 4, 5, 6, 7, 8, 9, 10, 11, 12, 13, 14, 16, 17, 18], [0, 1, 2, 3, 4, 5, 6, 7, 8, 9, 10, 11, 12, 13, 14, 15, 16, 17, 18, 19], [0, 1, 2, 3, 4, 5, 6, 7, 8, 9, 10, 11, 12, 13, 14, 15, 16, 17, 18, 19, 20], [0, 1, 2, 3, 4, 5, 6, 7, 8, 9, 10, 11, 12, 13, 14, 15, 16, 17, 18, 19, 20, 21], [0, 1, 2, 3, 4, 5, 6, 7, 8, 9, 10, 11, 12, 13, 14, 15, 16, 17, 18, 19, 20, 21], [0, 1, 2, 3, 4, 5, 6, 7, 8, 9, 10, 11, 12, 13, 14, 15, 16, 17, 18, 19, 20, 21, 23], [0, 1, 2, 3, 4, 5, 6, 7, 8, 9, 10, 11, 12, 13, 14, 15, 16, 17, 18, 19, 20, 21, 23, 24], [0, 1, 2, 3, 4, 5, 6, 7, 8, 9, 10, 11, 12, 13, 14, 15, 16, 17, 18, 19, 20, 21, 23, 24, 25], [0, 1, 2, 3, 4, 5, 6, 7, 8, 9, 10, 11, 12, 13, 14, 15, 16, 17, 18, 19, 20, 21, 22, 23, 24, 25, 26], [0, 1, 2, 3, 4, 5, 6, 7, 8, 9, 10, 11, 12, 13, 14, 15, 16, 17, 18, 19, 20, 21, 22, 23, 24, 25, 26, 27], [0, 1, 2, 3, 4, 5, 6, 7, 8, 9, 10, 11, 12, 13, 14, 15, 16, 17, 18, 19, 20, 21, 22, 23, 24, 25, 26, 27, 28], [0, 1, 2, 3, 4, 5, 6, 7, 8, 9, 10, 11, 12, 13, 14, 15, 16, 17, 18, 19, 20, 21, 22, 23, 24, 25, 26, 27, 28, 29]], [[87], [87], [87], [87], [87], [87], [87], [87], [87], [87], [87], [87], [87], [87], [87], [87], [87], [87], [87], [87], [87], [87], [87], [87], [87], [87], [87], [], [], [], []]))], fun b => lookA b [(0, (some 3, some ⟨[2, 3, 4, 44, 45], [3, 4], []⟩))], fun _ => [], Ikv51, false, fun r => lookA r [(3, (7, [39])), (12, (7, [90]))], fun _ => none⟩
theorem ev_track_model_best (kk : Nat) (J : Inv) (m0 m1 m2 m3 m4 m5 m6 m7 m8 m9 m10 m11 : Int) (b0 b1 b2 b3 b4 b5 : Int) (l : List THit) (w0 w1 w2 w3 : Int) (post : DV → List CV → Prop) : evFnW Try.prog tab (addS Skx55 31 (conr_track_model_best kk)) ann_track_model_best J Try.f31 [.t (.a [.v (.int .i64 m0), .v (.int .i64 m1), .v (.int .i64 m2), .v (.int .i64 m3), .v (.int .i64 m4), .v (.int .i64 m5), .v (.int .i64 m6), .v (.int .i64 m7), .v (.int .i64 m8), .v (.int .i64 m9), .v (.int .i64 m10), .v (.int .i64 m11)]), .t (.a [.v (.int .i64 b0), .v (.int .i64 b1), .v (.int .i64 b2), .v (.int .i64 b3), .v (.int .i64 b4), .v (.int .i64 b5)]), .t (.c (.sl 5 l.length (hitsC l))), .t (.c (.p 3 0))] 3 77 [.v (.int .i64 w0), .v (.int .i64 w1), .v (.int .i64 w2), .v (.int .i64 w3)] post = vc_track_model_best kk m0 m1 m2 m3 m4 m5 m6 m7 m8 m9 m10 m11 b0 b1 b2 b3 b4 b5 l w0 w1 w2 w3 post := by kernel_rfl
theorem fit_track_model_best : okFnW ann_track_model_best [3] Try.f31 = true := by kernel_rfl
set_option maxHeartbeats 8000000 in
set_option maxRecDepth 100000 in
theorem spec_track_model_best (kk : Nat) (m0 m1 m2 m3 m4 m5 m6 m7 m8 m9 m10 m11 : Int) (b0 b1 b2 b3 b4 b5 : Int) (l : List THit) (w0 w1 w2 w3 : Int) (hp : (((⟨m0, m1, m2, m3, m4, m5, m6, m7, m8, m9, m10, m11⟩ : TMod)).err = 0 ∧ ((⟨⟨b0, b1, b2⟩, ⟨b3, b4, b5⟩⟩ : TBox)).err = 0 ∧ hitsE l = 0) ∧ (((⟨⟨b0, b1, b2⟩, ⟨b3, b4, b5⟩⟩ : TBox)).count.toNat) < kk + 1) : vc_track_model_best kk m0 m1 m2 m3 m4 m5 m6 m7 m8 m9 m10 m11 b0 b1 b2 b3 b4 b5 l w0 w1 w2 w3 (fun r' cs => LeD r' (.tu []) ∧ cs = [.v (.int .i64 ((bstR (⟨m0, m1, m2, m3, m4, m5, m6, m7, m8, m9, m10, m11⟩ : TMod) l (⟨⟨b0, b1, b2⟩, ⟨b3, b4, b5⟩⟩ : TBox) ⟨w0, w1, w2⟩ w3).1.x)), .v (.int .i64 ((bstR (⟨m0, m1, m2, m3, m4, m5, m6, m7, m8, m9, m10, m11⟩ : TMod) l (⟨⟨b0, b1, b2⟩, ⟨b3, b4, b5⟩⟩ : TBox) ⟨w0, w1, w2⟩ w3).1.y)), .v (.int .i64 ((bstR (⟨m0, m1, m2, m3, m4, m5, m6, m7, m8, m9, m10, m11⟩ : TMod) l (⟨⟨b0, b1, b2⟩, ⟨b3, b4, b5⟩⟩ : TBox) ⟨w0, w1, w2⟩ w3).1.z)), .v (.int .i64 ((bstR (⟨m0, m1, m2, m3, m4, m5, m6, m7, m8, m9, m10, m11⟩ : TMod) l (⟨⟨b0, b1, b2⟩, ⟨b3, b4, b5⟩⟩ : TBox) ⟨w0, w1, w2⟩ w3).2))]) := by
 obtain ⟨⟨hm, hb, hh⟩, hk⟩ := hp
 have hin := box_in hb
 have ho := box_ok hb
 have hE := bstR_eq (m := (⟨m0, m1, m2, m3, m4, m5, m6, m7, m8, m9, m10, m11⟩ : TMod)) (l := l) (k := ⟨w0, w1, w2⟩) (n := w3) hb
 obtain ⟨hl12, hok⟩ := hitsE_ok hh
 have hmo := err_ok hm
 have hpos := count_pos ho
 have hc := canW_eq (m := (⟨m0, m1, m2, m3, m4, m5, m6, m7, m8, m9, m10, m11⟩ : TMod)) hin.1 hin.2
 unfold vc_track_model_best
 simp only [hits_listC, zB, cmp3]
 refine lt_i fun _ _ => lt_i fun _ _ => lt_i fun x3 h3 => cond_i (fun e => ?_) (fun e => ?_)
 ·have e : ((⟨m0, m1, m2, m3, m4, m5, m6, m7, m8, m9, m10, m11⟩ : TMod)).canB (⟨⟨b0, b1, b2⟩, ⟨b3, b4, b5⟩⟩ : TBox) = false := by rw [← hc, h3]; simpa using e
  rw [hE, if_pos e]
  exact ⟨LeD.refl _, rfl⟩
 have e : ((⟨m0, m1, m2, m3, m4, m5, m6, m7, m8, m9, m10, m11⟩ : TMod)).canB (⟨⟨b0, b1, b2⟩, ⟨b3, b4, b5⟩⟩ : TBox) = true := by rw [← hc, h3]; simpa using e
 have hcan : ((⟨m0, m1, m2, m3, m4, m5, m6, m7, m8, m9, m10, m11⟩ : TMod)).canBe (⟨⟨b0, b1, b2⟩, ⟨b3, b4, b5⟩⟩ : TBox) := canB_iff.1 e
 rw [if_neg (by rw [e]; simp)] at hE
 refine ⟨cond_i (fun _ => ⟨⟨numsP_hits l, hmo, hin.1, hin.2, hcan, hl12, hok⟩, trivial⟩) (fun _ => ⟨by trivial, trivial⟩), lt_i fun x4 h4 => cond_i (fun e4 => ?_) (fun e4 => ⟨⟨hin.1, hin.2, ho⟩, ?_⟩)⟩
 ·have e4 : ¬ z3 (⟨w0, w1, w2⟩ : V3) ∧ w3 < (((⟨m0, m1, m2, m3, m4, m5, m6, m7, m8, m9, m10, m11⟩ : TMod)).scores (⟨⟨b0, b1, b2⟩, ⟨b3, b4, b5⟩⟩ : TBox) l).lo := by
   rw [e4] at h4
   by_cases q : z3 (⟨w0, w1, w2⟩ : V3)
   ·rw [decide_eq_true q] at h4; cases h4
   ·rw [decide_eq_false q] at h4
    exact ⟨q, by simpa using h4⟩
  rw [hE, if_pos e4]
  exact ⟨LeD.refl _, rfl⟩
 have e4 : ¬ (¬ z3 (⟨w0, w1, w2⟩ : V3) ∧ w3 < (((⟨m0, m1, m2, m3, m4, m5, m6, m7, m8, m9, m10, m11⟩ : TMod)).scores (⟨⟨b0, b1, b2⟩, ⟨b3, b4, b5⟩⟩ : TBox) l).lo) := by
  rintro ⟨q, r⟩
  rw [e4, decide_eq_false q, decide_eq_true r] at h4
  cases h4
 rw [if_neg e4] at hE
 refine cond_i (fun e5 => ?_) (fun e5 => ?_)
 ·have e5 := of_decide_eq_true e5
  have hne : ((⟨⟨b0, b1, b2⟩, ⟨b3, b4, b5⟩⟩ : TBox)).count ≠ 1 := by omega
  obtain ⟨f1, f2, s1, s2⟩ := half_err hb hne
  have hcc := halves_count (⟨⟨b0, b1, b2⟩, ⟨b3, b4, b5⟩⟩ : TBox)
  have p1 := count_pos (box_ok f1)
  have p2 := count_pos (box_ok f2)
  rw [if_pos hne] at hE
  have r1 : ((⟨⟨b0, b1, b2⟩, ⟨b3, b4, b5⟩⟩ : TBox)).half1.count.toNat < kk := by omega
  have r2 : ((⟨⟨b0, b1, b2⟩, ⟨b3, b4, b5⟩⟩ : TBox)).half2.count.toNat < kk := by omega
  refine ⟨⟨hin.1, hin.2, ho⟩, by decide, lt_i fun y1 k1 => lt_i fun y2 k2 => lt_i fun y3 k3 => lt_i fun y4 k4 => ⟨⟨numsP_hits l, rfl, ⟨hm, f1, hh⟩, r1⟩, by decide, lt_i fun z1 k5 => lt_i fun z2 k6 => lt_i fun z3 k7 => lt_i fun z4 k8 => ⟨⟨numsP_hits l, rfl, ⟨hm, f2, hh⟩, r2⟩, ?_⟩⟩⟩
  subst k1 k2 k3 k4 k5 k6 k7 k8
  rw [hE]
  exact ⟨LeD.refl _, rfl⟩
 ·have e5 := of_decide_eq_false e5
  have hone : ((⟨⟨b0, b1, b2⟩, ⟨b3, b4, b5⟩⟩ : TBox)).count = 1 := by omega
  have hlh := (count_one ho).1 hone
  have hpm : ((⟨m0, m1, m2, m3, m4, m5, m6, m7, m8, m9, m10, m11⟩ : TMod)).permit ⟨b0, b1, b2⟩ := by
   have h9 := hcan
   rw [show ((⟨⟨b0, b1, b2⟩, ⟨b3, b4, b5⟩⟩ : TBox)) = (⟨⟨b0, b1, b2⟩, ⟨b0, b1, b2⟩⟩ : TBox) from by have h8 : (⟨b0, b1, b2⟩ : V3) = ⟨b3, b4, b5⟩ := hlh; rw [← h8]] at h9
   exact canBe_one h9
  rw [if_neg (by omega)] at hE
  unfold TMod.stp at hE
  refine ⟨⟨numsP_hits l, hmo, hin.1, hpm, hl12, hok⟩, cond_i (fun _ => ⟨by trivial, by trivial, trivial⟩) (fun _ => cond_i (fun _ => ⟨by trivial, trivial⟩) (fun _ => cond_i (fun _ => ⟨⟨numsP3 rfl rfl rfl, numsP3', Nat.le_of_ble_eq_true rfl⟩, trivial⟩) (fun _ => ⟨by trivial, trivial⟩))), lt_i fun x5 h5 => cond_i (fun g => ?_) (fun g => ?_)⟩
  ·rw [g] at h5
   rw [hE, if_pos ?_]
   ·exact ⟨LeD.refl _, rfl⟩
   ·by_cases q : z3 (⟨w0, w1, w2⟩ : V3)
    ·exact Or.inl q
    ·rw [decide_eq_false q] at h5
     by_cases r : ((⟨m0, m1, m2, m3, m4, m5, m6, m7, m8, m9, m10, m11⟩ : TMod)).score ⟨b0, b1, b2⟩ l < w3
     ·exact Or.inr (Or.inl r)
     ·rw [decide_eq_false r] at h5
      by_cases u : ((⟨m0, m1, m2, m3, m4, m5, m6, m7, m8, m9, m10, m11⟩ : TMod)).score ⟨b0, b1, b2⟩ l = w3
      ·refine Or.inr (Or.inr ⟨u, ?_⟩)
       rw [u, beq_self_eq_true] at h5
       exact of_decide_eq_true h5
      ·rw [show (((⟨m0, m1, m2, m3, m4, m5, m6, m7, m8, m9, m10, m11⟩ : TMod)).score ⟨b0, b1, b2⟩ l == w3) = false by simpa using u] at h5; cases h5
  ·rw [g] at h5
   rw [hE, if_neg ?_]
   ·exact ⟨LeD.refl _, rfl⟩
   ·rintro (q | q | ⟨q1, q2⟩)
    ·rw [decide_eq_true q] at h5; cases h5
    ·rw [decide_eq_true q] at h5
     revert h5
     cases decide (z3 (⟨w0, w1, w2⟩ : V3)) <;> intro h5 <;> cases h5
    ·rw [q1, beq_self_eq_true, decide_eq_true q2] at h5
     revert h5
     cases decide (z3 (⟨w0, w1, w2⟩ : V3)) <;> cases decide (w3 < w3) <;> intro h5 <;> cases h5
set_option maxRecDepth 100000 in
theorem okr_track_model_best : ∀ kk, Ok Try.prog 31 (conr_track_model_best kk) := by
 intro kk
 induction kk with
 | zero =>
  intro args r pre fresh h hp
  unfold conr_track_model_best at h
  split at h
  ·cases h
   exact absurd hp.2.2.2 (Nat.not_lt_zero _)
  ·cases h
 | succ kk ih =>
  refine Ok.fnW (ann := ann_track_model_best) mixed tabOK (Valid.add VSkx55 ih) VIkv51 (fn := Try.f31) (by kernel_rfl) (by kernel_rfl) (ks := [3]) fit_track_model_best fun args r pre fresh h hp => ?_
  unfold conr_track_model_best at h
  split at h
  ·rename_i m0 m1 m2 m3 m4 m5 m6 m7 m8 m9 m10 m11 b0 b1 b2 b3 b4 b5 n_l c_l c_pw
   cases h
   obtain ⟨hp0, hp1, hp⟩ := hp
   have e := cells_intsB (n := 4) hp1
   refine ⟨3, _, _, 4, c_pw, List.mem_singleton.2 rfl, rfl, rfl, by rw [e]; rfl, Nat.le_of_ble_eq_true (by kernel_rfl), rfl, fun _ _ _ => False, [.t (.a [.v (.int .i64 m0), .v (.int .i64 m1), .v (.int .i64 m2), .v (.int .i64 m3), .v (.int .i64 m4), .v (.int .i64 m5), .v (.int .i64 m6), .v (.int .i64 m7), .v (.int .i64 m8), .v (.int .i64 m9), .v (.int .i64 m10), .v (.int .i64 m11)]), .t (.a [.v (.int .i64 b0), .v (.int .i64 b1), .v (.int .i64 b2), .v (.int .i64 b3), .v (.int .i64 b4), .v (.int .i64 b5)]), .t (.c (.sl 5 ((listC n_l mkHit c_l).length) (hitsC (listC n_l mkHit c_l)))), .t (.c (.p 3 0))], rfl, rfl, ?_, Nat.le_of_ble_eq_true (by kernel_rfl), ?_⟩
   ·intro i x y hi hx hy w N v hr
    rcases (by have := (List.getElem?_eq_some_iff.1 hx).1; simp at this; omega : i = 0 ∨ i = 1 ∨ i = 2) with rfl | rfl | rfl
    ·cases hx; cases hy; exact hr
    ·cases hx; cases hy; exact hr
    ·cases hx; cases hy; exact leL_THit hp0 _ _ _ hr
   ·rw [e]
    exact (ev_track_model_best kk _ m0 m1 m2 m3 m4 m5 m6 m7 m8 m9 m10 m11 b0 b1 b2 b3 b4 b5 (listC n_l mkHit c_l) (cvInt (c_pw 0)) (cvInt (c_pw 1)) (cvInt (c_pw 2)) (cvInt (c_pw 3)) _).mpr (spec_track_model_best kk m0 m1 m2 m3 m4 m5 m6 m7 m8 m9 m10 m11 b0 b1 b2 b3 b4 b5 (listC n_l mkHit c_l) (cvInt (c_pw 0)) (cvInt (c_pw 1)) (cvInt (c_pw 2)) (cvInt (c_pw 3)) hp)
  ·cases h
def con_track_model_best : Con := fun args => match args with
 | [.t (.a [.v (.int .i64 m0), .v (.int .i64 m1), .v (.int .i64 m2), .v (.int .i64 m3), .v (.int .i64 m4), .v (.int .i64 m5), .v (.int .i64 m6), .v (.int .i64 m7), .v (.int .i64 m8), .v (.int .i64 m9), .v (.int .i64 m10), .v (.int .i64 m11)]), .t (.a [.v (.int .i64 b0), .v (.int .i64 b1), .v (.int .i64 b2), .v (.int .i64 b3), .v (.int .i64 b4), .v (.int .i64 b5)]), .t (.c (.sl 5 n_l c_l)), .t (.c (.px 4 0 c_pw))] => some (.tu [], some (numsP 5 n_l c_l ∧ intsB [0, 1, 2, 3] c_pw = true ∧ ((⟨m0, m1, m2, m3, m4, m5, m6, m7, m8, m9, m10, m11⟩ : TMod)).err = 0 ∧ ((⟨⟨b0, b1, b2⟩, ⟨b3, b4, b5⟩⟩ : TBox)).err = 0 ∧ hitsE (listC n_l mkHit c_l) = 0), .wr 3 77 [.v (.int .i64 ((bstR (⟨m0, m1, m2, m3, m4, m5, m6, m7, m8, m9, m10, m11⟩ : TMod) (listC n_l mkHit c_l) (⟨⟨b0, b1, b2⟩, ⟨b3, b4, b5⟩⟩ : TBox) ⟨(cvInt (c_pw 0)), (cvInt (c_pw 1)), (cvInt (c_pw 2))⟩ (cvInt (c_pw 3))).1.x)), .v (.int .i64 ((bstR (⟨m0, m1, m2, m3, m4, m5, m6, m7, m8, m9, m10, m11⟩ : TMod) (listC n_l mkHit c_l) (⟨⟨b0, b1, b2⟩, ⟨b3, b4, b5⟩⟩ : TBox) ⟨(cvInt (c_pw 0)), (cvInt (c_pw 1)), (cvInt (c_pw 2))⟩ (cvInt (c_pw 3))).1.y)), .v (.int .i64 ((bstR (⟨m0, m1, m2, m3, m4, m5, m6, m7, m8, m9, m10, m11⟩ : TMod) (listC n_l mkHit c_l) (⟨⟨b0, b1, b2⟩, ⟨b3, b4, b5⟩⟩ : TBox) ⟨(cvInt (c_pw 0)), (cvInt (c_pw 1)), (cvInt (c_pw 2))⟩ (cvInt (c_pw 3))).1.z)), .v (.int .i64 ((bstR (⟨m0, m1, m2, m3, m4, m5, m6, m7, m8, m9, m10, m11⟩ : TMod) (listC n_l mkHit c_l) (⟨⟨b0, b1, b2⟩, ⟨b3, b4, b5⟩⟩ : TBox) ⟨(cvInt (c_pw 0)), (cvInt (c_pw 1)), (cvInt (c_pw 2))⟩ (cvInt (c_pw 3))).2))])
 | _ => none
theorem ok_track_model_best : Ok Try.prog 31 con_track_model_best := by
 intro args r pre fresh h hp
 unfold con_track_model_best at h
 split at h
 ·rename_i m0 m1 m2 m3 m4 m5 m6 m7 m8 m9 m10 m11 b0 b1 b2 b3 b4 b5 n_l c_l c_pw
  cases h
  exact okr_track_model_best ((((⟨⟨b0, b1, b2⟩, ⟨b3, b4, b5⟩⟩ : TBox)).count.toNat) + 1) _ _ _ _ rfl ⟨hp.1, hp.2.1, hp.2.2, Nat.lt_succ_self _⟩
 ·cases h
def Skx56 : Sum := addS Skx55 31 con_track_model_best
theorem VSkx56 : Valid Try.prog Skx56 := Valid.add VSkx55 ok_track_model_best
end Go.Proofs.Ytfadkjcfjkmalaa