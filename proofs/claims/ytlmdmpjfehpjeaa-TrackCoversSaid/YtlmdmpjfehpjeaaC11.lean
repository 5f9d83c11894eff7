/- Texts of this claim, together. -/
import Derived.Test.YtlmdmpjfehpjeaaC10
import Derived.Test.YtlmdmpjfehpjeaaC5
import Derived.Test.YtlmdmpjfehpjeaaC6
import Derived.Test.YtlmdmpjfehpjeaaC7
import Derived.Test.YtlmdmpjfehpjeaaC9
import Derived.Test.YtlmdmpjfehpjeaaC8

set_option linter.unusedVariables false
set_option linter.unusedSimpArgs false
namespace Go.Proofs.Ytlmdmpjfehpjeaa
open Go.RowKit Ev
theorem upto_cons {lo hi : Int} (h : lo ≤ hi) : upto lo hi = lo :: upto (lo + 1) hi := by
 unfold upto
 rw [show (hi - lo + 1).toNat = (hi - (lo + 1) + 1).toNat + 1 by omega, List.range_succ_eq_map, List.map_cons, List.map_map]
 congr 1
 ·simp
 ·apply List.map_congr_left
  intro k _
  simp only [Function.comp_def, Nat.succ_eq_add_one]
  omega
theorem upto_nil {lo hi : Int} (h : hi < lo) : upto lo hi = [] := by
 unfold upto
 rw [show (hi - lo + 1).toNat = 0 by omega]; rfl
def restZ (b : TBox) (x y z : Int) : List V3 := (upto z b.hi.z).map fun z => ⟨x, y, z⟩
def restY (b : TBox) (x y : Int) : List V3 := (upto y b.hi.y).flatMap fun y => restZ b x y b.lo.z
def restX (b : TBox) (x : Int) : List V3 := (upto x b.hi.x).flatMap fun x => restY b x b.lo.y
theorem restX_cons {b : TBox} {x : Int} (h : x ≤ b.hi.x) : restX b x = restY b x b.lo.y ++ restX b (x + 1) := by unfold restX; rw [upto_cons h]; rfl
theorem restX_nil {b : TBox} {x : Int} (h : b.hi.x < x) : restX b x = [] := by unfold restX; rw [upto_nil h]; rfl
theorem restY_cons {b : TBox} {x y : Int} (h : y ≤ b.hi.y) : restY b x y = restZ b x y b.lo.z ++ restY b x (y + 1) := by unfold restY; rw [upto_cons h]; rfl
theorem restY_nil {b : TBox} {x y : Int} (h : b.hi.y < y) : restY b x y = [] := by unfold restY; rw [upto_nil h]; rfl
theorem restZ_cons {b : TBox} {x y z : Int} (h : z ≤ b.hi.z) : restZ b x y z = ⟨x, y, z⟩ :: restZ b x y (z + 1) := by unfold restZ; rw [upto_cons h]; rfl
theorem restZ_nil {b : TBox} {x y z : Int} (h : b.hi.z < z) : restZ b x y z = [] := by unfold restZ; rw [upto_nil h]; rfl
def v3Cv (s : V3) : List CV := [.v (.int .i64 s.x), .v (.int .i64 s.y), .v (.int .i64 s.z)]
theorem le_v3 (l : List V3) : LeD (.t (.c (.sl 3 (l.map v3Cv).length (genC (l.map v3Cv))))) (.t (.c (.sl 3 l.length (plsC l)))) := by
 rw [List.length_map]
 refine le_sl fun i j hi hj => ?_
 unfold genC plsC plAt
 simp only [List.getD_eq_getElem?_getD, List.getElem?_map, List.getElem?_eq_getElem hi, Option.map_some, Option.getD_some]
 rcases (by omega : j = 0 ∨ j = 1 ∨ j = 2) with rfl | rfl | rfl <;> rfl
theorem v3_ext {a b : V3} : a = b ↔ a.x = b.x ∧ a.y = b.y ∧ a.z = b.z := by
 obtain ⟨_, _, _⟩ := a
 obtain ⟨_, _, _⟩ := b
 simp
instance : DecidableEq V3 := fun a b => decidable_of_iff _ v3_ext.symm
theorem sm_in {s : V3} (hx : -20 ≤ s.x ∧ s.x ≤ 20) (hy : -20 ≤ s.y ∧ s.y ≤ 20) (hz : -20 ≤ s.z ∧ s.z ≤ 20) : s.sm s := by
 have h1 := mul_rg (C := 400) hx hx (by decide)
 have h2 := mul_rg (C := 400) hy hy (by decide)
 have h3 := mul_rg (C := 400) hz hz (by decide)
 unfold V3.sm
 omega
theorem sm_box {b : TBox} {s : V3} (h : b.has s) (hl : b.lo.inS 20 = true) (hh : b.hi.inS 20 = true) : s.sm s := by
 obtain ⟨a1, a2, a3⟩ := inS_iff.1 hl
 obtain ⟨c1, c2, c3⟩ := inS_iff.1 hh
 unfold TBox.has TBox.rx TBox.ry TBox.rz Rg.has at h
 simp only at h
 exact sm_in (by omega) (by omega) (by omega)
theorem plAt_in {l : List V3} {k : Nat} (h : k < l.length) : plAt l k ∈ l := by simp [plAt, List.getD, h]
theorem len_68921 {b : TBox} (hl : b.lo.inS 20 = true) (hh : b.hi.inS 20 = true) (ho : b.ok) : b.all.length ≤ 68921 := by
 have h := len_all ho
 obtain ⟨a1, a2, a3⟩ := inS_iff.1 hl
 obtain ⟨c1, c2, c3⟩ := inS_iff.1 hh
 obtain ⟨o1, o2, o3⟩ := ho
 unfold TBox.rx TBox.ry TBox.rz Rg.ok at *
 simp only at *
 unfold TBox.count at h
 have m1 := mul_rg (x := b.hi.x - b.lo.x + 1) (y := b.hi.y - b.lo.y + 1) (A := 41) (B := 41) (C := 1681) (by omega) (by omega) (by decide)
 have m2 := mul_rg (y := b.hi.z - b.lo.z + 1) (A := 1681) (B := 41) (C := 68921) m1 (by omega) (by decide)
 omega
theorem box_ok {b : TBox} (h : b.err = 0) : b.ok := by
 unfold TBox.err at h
 obtain ⟨_, h1, _⟩ := (by simpa only [firstNZ_cons] using h : _ ∧ _ ∧ _)
 rw [unl_0 (by decide)] at h1
 simp only [Bool.and_eq_true, decide_eq_true_eq] at h1
 exact ⟨h1.1.1, h1.1.2, h1.2⟩
def stepsL (m : TMod) (b : TBox) : List V3 := if firstNZ [m.err, b.err] ≠ 0 then [] else m.steps b
def S44 : Sum := S43
theorem VS44 : Valid Try.prog S44 := VS43
def con_track_CheckBox : Con := fun args => match args with
 | [.t (.a [.v (.int .i64 b0), .v (.int .i64 b1), .v (.int .i64 b2), .v (.int .i64 b3), .v (.int .i64 b4), .v (.int .i64 b5)])] => some (.t (.c (.v (.int .i64 (((⟨⟨b0, b1, b2⟩, ⟨b3, b4, b5⟩⟩ : TBox)).err)))), none, false)
 | _ => none
theorem ok_track_CheckBox : Ok Try.prog 47 con_track_CheckBox := by
 refine Ok.oldG (Enters.of (fn := Try.f47) (by kernel_rfl) (by kernel_rfl) (by kernel_rfl)) fun args r pre fresh h hp => ?_
 unfold con_track_CheckBox at h
 split at h
 ·rename_i b0 b1 b2 b3 b4 b5
  cases h
  refine ⟨rfl, _, rfl, fun W N vs hv => ?_⟩
  obtain ⟨u0, ws0, k0, g0, hv0⟩ := hv.cons_inv
  subst k0
  have e0 := plain_arg rfl g0
  subst e0
  have ev := hv0.nil_inv
  subst ev
  exact track_CheckBox (⟨⟨b0, b1, b2⟩, ⟨b3, b4, b5⟩⟩ : TBox) W
 ·cases h
def S45 : Sum := addS S44 47 con_track_CheckBox
theorem VS45 : Valid Try.prog S45 := Valid.add VS44 ok_track_CheckBox
def con_track_count : Con := fun args => match args with
 | [.t (.a [.v (.int .i64 b0), .v (.int .i64 b1), .v (.int .i64 b2), .v (.int .i64 b3), .v (.int .i64 b4), .v (.int .i64 b5)])] => some (.t (.c (.v (.int .i64 (((⟨⟨b0, b1, b2⟩, ⟨b3, b4, b5⟩⟩ : TBox)).count)))), some (((⟨⟨b0, b1, b2⟩, ⟨b3, b4, b5⟩⟩ : TBox)).lo.inS 20 = true ∧ ((⟨⟨b0, b1, b2⟩, ⟨b3, b4, b5⟩⟩ : TBox)).hi.inS 20 = true ∧ ((⟨⟨b0, b1, b2⟩, ⟨b3, b4, b5⟩⟩ : TBox)).ok), false)
 | _ => none
theorem ok_track_count : Ok Try.prog 103 con_track_count := by
 refine Ok.oldG (Enters.of (fn := Try.f103) (by kernel_rfl) (by kernel_rfl) (by kernel_rfl)) fun args r pre fresh h hp => ?_
 unfold con_track_count at h
 split at h
 ·rename_i b0 b1 b2 b3 b4 b5
  cases h
  refine ⟨rfl, _, rfl, fun W N vs hv => ?_⟩
  have hp := hp
  obtain ⟨u0, ws0, k0, g0, hv0⟩ := hv.cons_inv
  subst k0
  have e0 := plain_arg rfl g0
  subst e0
  have ev := hv0.nil_inv
  subst ev
  exact track_count (⟨⟨b0, b1, b2⟩, ⟨b3, b4, b5⟩⟩ : TBox) W hp.1 hp.2.1 hp.2.2
 ·cases h
def S46 : Sum := addS S45 103 con_track_count
theorem VS46 : Valid Try.prog S46 := Valid.add VS45 ok_track_count
def S47 : Sum := S46
theorem VS47 : Valid Try.prog S47 := VS46
def con_ref05_IsPermitted : Con := fun args => match args with
 | [.t (.a [.v (.int .i64 m0), .v (.int .i64 m1), .v (.int .i64 m2), .v (.int .i64 m3), .v (.int .i64 m4), .v (.int .i64 m5), .v (.int .i64 m6), .v (.int .i64 m7), .v (.int .i64 m8), .v (.int .i64 m9), .v (.int .i64 m10), .v (.int .i64 m11)]), .t (.a [.v (.int .i64 s0), .v (.int .i64 s1), .v (.int .i64 s2)])] => some (.t (.c (.v (.bool (((⟨m0, m1, m2, m3, m4, m5, m6, m7, m8, m9, m10, m11⟩ : TMod)).permB (⟨s0, s1, s2⟩ : V3))))), some (((⟨s0, s1, s2⟩ : V3)).sm (⟨s0, s1, s2⟩ : V3)), false)
 | _ => none
theorem ok_ref05_IsPermitted : Ok Try.prog 107 con_ref05_IsPermitted := by
 refine Ok.oldG (Enters.of (fn := Try.f107) (by kernel_rfl) (by kernel_rfl) (by kernel_rfl)) fun args r pre fresh h hp => ?_
 unfold con_ref05_IsPermitted at h
 split at h
 ·rename_i m0 m1 m2 m3 m4 m5 m6 m7 m8 m9 m10 m11 s0 s1 s2
  cases h
  refine ⟨rfl, _, rfl, fun W N vs hv => ?_⟩
  have hp := hp
  obtain ⟨u0, ws0, k0, g0, hv0⟩ := hv.cons_inv
  subst k0
  have e0 := plain_arg rfl g0
  subst e0
  obtain ⟨u1, ws1, k1, g1, hv1⟩ := hv0.cons_inv
  subst k1
  have e1 := plain_arg rfl g1
  subst e1
  have ev := hv1.nil_inv
  subst ev
  exact ref_IsPermitted (⟨m0, m1, m2, m3, m4, m5, m6, m7, m8, m9, m10, m11⟩ : TMod) (⟨s0, s1, s2⟩ : V3) W hp
 ·cases h
def S48 : Sum := addS S47 107 con_ref05_IsPermitted
theorem VS48 : Valid Try.prog S48 := Valid.add VS47 ok_ref05_IsPermitted
def I49 : It := noIt
theorem VI49 : ValidIt Try.prog I49 := ValidIt.no
def mk_ref05_All_0 (b0 b1 b2 b3 b4 b5 : Int) (v0_0 : List (List CV)) (v0_1 : Int) : DS := ⟨[none, some (.t (.c (.p 1 0))), none, some (.t (.c (.os 3))), some (.t (.c (.v (.int .i64 v0_1)))), none, none, none, none, none, none, none, none, none, none, none, none, none, none, none, none, none, none, none, none, none, none, none, none, none, none, none, none, none, none, none, none, none, none, none, none, none, none, none, none], [none, some (.box 75 [.v (.int .i64 b0), .v (.int .i64 b1), .v (.int .i64 b2), .v (.int .i64 b3), .v (.int .i64 b4), .v (.int .i64 b5)]), none, some (.gen 22 3 v0_0), none, none, none, none, none, none, none, none, none, none, none, none, none, none, none, none, none, none, none, none, none, none, none, none, none, none, none, none, none, none, none, none, none, none, none, none, none, none, none, none, none]⟩
def mk_ref05_All_2 (b0 b1 b2 b3 b4 b5 : Int) (v2_0 : List (List CV)) (v2_1 : Int) (v2_2 : Int) : DS := ⟨[none, some (.t (.c (.p 1 0))), none, some (.t (.c (.os 3))), some (.t (.c (.v (.int .i64 v2_1)))), some (.t (.c (.v (.int .i64 v2_2)))), none, none, none, none, none, none, none, none, none, none, none, none, none, none, none, none, none, none, none, none, none, none, none, none, none, none, none, none, none, none, none, none, none, none, none, none, none, none, none], [none, some (.box 75 [.v (.int .i64 b0), .v (.int .i64 b1), .v (.int .i64 b2), .v (.int .i64 b3), .v (.int .i64 b4), .v (.int .i64 b5)]), none, some (.gen 22 3 v2_0), none, none, none, none, none, none, none, none, none, none, none, none, none, none, none, none, none, none, none, none, none, none, none, none, none, none, none, none, none, none, none, none, none, none, none, none, none, none, none, none, none]⟩
def mk_ref05_All_4 (b0 b1 b2 b3 b4 b5 : Int) (v4_0 : List (List CV)) (v4_1 : Int) (v4_2 : Int) (v4_3 : Int) : DS := ⟨[none, some (.t (.c (.p 1 0))), none, some (.t (.c (.os 3))), some (.t (.c (.v (.int .i64 v4_1)))), some (.t (.c (.v (.int .i64 v4_2)))), some (.t (.c (.v (.int .i64 v4_3)))), none, none, none, none, none, none, none, none, none, none, none, none, none, none, none, none, none, none, none, none, none, none, none, none, none, none, none, none, none, none, none, none, none, none, none, none, none, none], [none, some (.box 75 [.v (.int .i64 b0), .v (.int .i64 b1), .v (.int .i64 b2), .v (.int .i64 b3), .v (.int .i64 b4), .v (.int .i64 b5)]), none, some (.gen 22 3 v4_0), none, none, none, none, none, none, none, none, none, none, none, none, none, none, none, none, none, none, none, none, none, none, none, none, none, none, none, none, none, none, none, none, none, none, none, none, none, none, none, none, none]⟩
def vc_ref05_All (J : Inv) (b0 b1 b2 b3 b4 b5 : Int) (post : DV → Prop) : Prop := (0 ≤ (0 : Int) ∧ (0 : Int) < ((3 : Nat) : Int)) ∧ (∃ n, J 0 (n :: []) (mk_ref05_All_0 b0 b1 b2 b3 b4 b5 ([]) b0))
def ann_ref05_All : Ann := ⟨fun _ => none, fun b => lookA b [(0, (none, some ⟨[1, 4], [1], [(3, .gen 22 3 [])]⟩)), (2, (none, some ⟨[1, 4, 5], [1], [(3, .gen 22 3 [])]⟩)), (4, (none, some ⟨[1, 4, 5, 6], [1], [(3, .gen 22 3 [])]⟩))], fun _ => [], I49, false, fun _ => none, fun _ => none⟩
theorem ev_ref05_All (J : Inv) (b0 b1 b2 b3 b4 b5 : Int) (post : DV → Prop) : evFn Try.prog tab S48 ann_ref05_All J Try.f106 [.t (.a [.v (.int .i64 b0), .v (.int .i64 b1), .v (.int .i64 b2), .v (.int .i64 b3), .v (.int .i64 b4), .v (.int .i64 b5)])] post = vc_ref05_All J b0 b1 b2 b3 b4 b5 post := by kernel_rfl
theorem fit_ref05_All : okFn ann_ref05_All Try.f106 = true := by kernel_rfl
def rd_ref05_All_0 (J : Inv) (b0 b1 b2 b3 b4 b5 : Int) (v0_0 : List (List CV)) (v0_1 : Int) (nn0 : Nat) (post : DV → Prop) : Prop := (0 ≤ (0 : Int) ∧ (0 : Int) < ((3 : Nat) : Int)) ∧ (cond (decide (v0_1 ≤ b3)) ((0 ≤ (1 : Int) ∧ (1 : Int) < ((3 : Nat) : Int)) ∧ (∃ n, J 2 (n :: nn0 :: []) (mk_ref05_All_2 b0 b1 b2 b3 b4 b5 v0_0 v0_1 b1))) (post (.t (.c (.sl 3 v0_0.length (genC v0_0))))))
theorem er_ref05_All_0 (J : Inv) (b0 b1 b2 b3 b4 b5 : Int) (v0_0 : List (List CV)) (v0_1 : Int) (nn0 : Nat) (post : DV → Prop) : round Try.prog tab S48 ann_ref05_All J Try.f106 post 0 (nn0 :: []) (mk_ref05_All_0 b0 b1 b2 b3 b4 b5 v0_0 v0_1) = rd_ref05_All_0 J b0 b1 b2 b3 b4 b5 v0_0 v0_1 nn0 post := by kernel_rfl
def rd_ref05_All_2 (J : Inv) (b0 b1 b2 b3 b4 b5 : Int) (v2_0 : List (List CV)) (v2_1 : Int) (v2_2 : Int) (nn2 nn0 : Nat) (post : DV → Prop) : Prop := (0 ≤ (1 : Int) ∧ (1 : Int) < ((3 : Nat) : Int)) ∧ (cond (decide (v2_2 ≤ b4)) ((0 ≤ (2 : Int) ∧ (2 : Int) < ((3 : Nat) : Int)) ∧ (∃ n, J 4 (n :: nn2 :: nn0 :: []) (mk_ref05_All_4 b0 b1 b2 b3 b4 b5 v2_0 v2_1 v2_2 b2))) (lt (IntKind.i64.wrap (v2_1 + (1 : Int))) fun x1 => J 0 (nn0 :: []) (mk_ref05_All_0 b0 b1 b2 b3 b4 b5 v2_0 x1)))
theorem er_ref05_All_2 (J : Inv) (b0 b1 b2 b3 b4 b5 : Int) (v2_0 : List (List CV)) (v2_1 : Int) (v2_2 : Int) (nn2 nn0 : Nat) (post : DV → Prop) : round Try.prog tab S48 ann_ref05_All J Try.f106 post 1 (nn2 :: nn0 :: []) (mk_ref05_All_2 b0 b1 b2 b3 b4 b5 v2_0 v2_1 v2_2) = rd_ref05_All_2 J b0 b1 b2 b3 b4 b5 v2_0 v2_1 v2_2 nn2 nn0 post := by kernel_rfl
def rd_ref05_All_4 (J : Inv) (b0 b1 b2 b3 b4 b5 : Int) (v4_0 : List (List CV)) (v4_1 : Int) (v4_2 : Int) (v4_3 : Int) (nn4 nn2 nn0 : Nat) (post : DV → Prop) : Prop := (0 ≤ (2 : Int) ∧ (2 : Int) < ((3 : Nat) : Int)) ∧ (cond (decide (v4_3 ≤ b5)) ((roomP 24 (v4_0.length + ([[.v (.int .i64 v4_1), .v (.int .i64 v4_2), .v (.int .i64 v4_3)]] : List (List CV)).length)) ∧ (lt (IntKind.i64.wrap (v4_3 + (1 : Int))) fun x1 => J 4 (nn4 :: nn2 :: nn0 :: []) (mk_ref05_All_4 b0 b1 b2 b3 b4 b5 (v4_0 ++ ([[.v (.int .i64 v4_1), .v (.int .i64 v4_2), .v (.int .i64 v4_3)]] : List (List CV))) v4_1 v4_2 x1))) (lt (IntKind.i64.wrap (v4_2 + (1 : Int))) fun x2 => J 2 (nn2 :: nn0 :: []) (mk_ref05_All_2 b0 b1 b2 b3 b4 b5 v4_0 v4_1 x2)))
theorem er_ref05_All_4 (J : Inv) (b0 b1 b2 b3 b4 b5 : Int) (v4_0 : List (List CV)) (v4_1 : Int) (v4_2 : Int) (v4_3 : Int) (nn4 nn2 nn0 : Nat) (post : DV → Prop) : round Try.prog tab S48 ann_ref05_All J Try.f106 post 2 (nn4 :: nn2 :: nn0 :: []) (mk_ref05_All_4 b0 b1 b2 b3 b4 b5 v4_0 v4_1 v4_2 v4_3) = rd_ref05_All_4 J b0 b1 b2 b3 b4 b5 v4_0 v4_1 v4_2 v4_3 nn4 nn2 nn0 post := by kernel_rfl
theorem lp_ref05_All (J : Inv) (post : DV → Prop) : AllG J (loopsFn Try.prog tab S48 ann_ref05_All J Try.f106 post) = (((∀ F s, ¬ J 0 (0 :: F) s) ∧ ∀ n F s, J 0 ((n + 1) :: F) s → round Try.prog tab S48 ann_ref05_All J Try.f106 post 0 (n :: F) s) ∧ ((∀ F s, ¬ J 2 (0 :: F) s) ∧ ∀ n F s, J 2 ((n + 1) :: F) s → round Try.prog tab S48 ann_ref05_All J Try.f106 post 1 (n :: F) s) ∧ ((∀ F s, ¬ J 4 (0 :: F) s) ∧ ∀ n F s, J 4 ((n + 1) :: F) s → round Try.prog tab S48 ann_ref05_All J Try.f106 post 2 (n :: F) s) ∧ True) := by kernel_rfl
def J_ref05_All (b0 b1 b2 b3 b4 b5 : Int) : Inv := fun b F s => match b, F with
 | 0, [nn0] => ∃ (v0_0 : List (List CV)) (v0_1 : Int), s = mk_ref05_All_0 b0 b1 b2 b3 b4 b5 v0_0 v0_1 ∧ (v0_0.length ≤ 68921 ∧ v0_0 ++ (restX (⟨⟨b0, b1, b2⟩, ⟨b3, b4, b5⟩⟩ : TBox) v0_1).map v3Cv = (⟨⟨b0, b1, b2⟩, ⟨b3, b4, b5⟩⟩ : TBox).all.map v3Cv ∧ b0 ≤ v0_1 ∧ v0_1 ≤ b3 + 1 ∧ (nn0 : Int) + v0_1 = b3 + 2)
 | 2, [nn2, nn0] => ∃ (v2_0 : List (List CV)) (v2_1 : Int) (v2_2 : Int), s = mk_ref05_All_2 b0 b1 b2 b3 b4 b5 v2_0 v2_1 v2_2 ∧ (v2_0.length ≤ 68921 ∧ v2_0 ++ (restY (⟨⟨b0, b1, b2⟩, ⟨b3, b4, b5⟩⟩ : TBox) v2_1 v2_2 ++ restX (⟨⟨b0, b1, b2⟩, ⟨b3, b4, b5⟩⟩ : TBox) (v2_1 + 1)).map v3Cv = (⟨⟨b0, b1, b2⟩, ⟨b3, b4, b5⟩⟩ : TBox).all.map v3Cv ∧ (b0 ≤ v2_1 ∧ v2_1 ≤ b3 ∧ (nn0 : Int) + v2_1 = b3 + 1) ∧ b1 ≤ v2_2 ∧ v2_2 ≤ b4 + 1 ∧ (nn2 : Int) + v2_2 = b4 + 2)
 | 4, [nn4, nn2, nn0] => ∃ (v4_0 : List (List CV)) (v4_1 : Int) (v4_2 : Int) (v4_3 : Int), s = mk_ref05_All_4 b0 b1 b2 b3 b4 b5 v4_0 v4_1 v4_2 v4_3 ∧ (v4_0.length ≤ 68921 ∧ v4_0 ++ (restZ (⟨⟨b0, b1, b2⟩, ⟨b3, b4, b5⟩⟩ : TBox) v4_1 v4_2 v4_3 ++ (restY (⟨⟨b0, b1, b2⟩, ⟨b3, b4, b5⟩⟩ : TBox) v4_1 (v4_2 + 1) ++ restX (⟨⟨b0, b1, b2⟩, ⟨b3, b4, b5⟩⟩ : TBox) (v4_1 + 1))).map v3Cv = (⟨⟨b0, b1, b2⟩, ⟨b3, b4, b5⟩⟩ : TBox).all.map v3Cv ∧ (b0 ≤ v4_1 ∧ v4_1 ≤ b3 ∧ (nn0 : Int) + v4_1 = b3 + 1) ∧ (b1 ≤ v4_2 ∧ v4_2 ≤ b4 ∧ (nn2 : Int) + v4_2 = b4 + 1) ∧ b2 ≤ v4_3 ∧ v4_3 ≤ b5 + 1 ∧ (nn4 : Int) + v4_3 = b5 + 2)
 | _, _ => False
set_option maxHeartbeats 8000000 in
set_option maxRecDepth 100000 in
theorem rnd_ref05_All_0 (b0 b1 b2 b3 b4 b5 : Int) (v0_0 : List (List CV)) (v0_1 : Int) (nn0 : Nat) (hp : ((⟨⟨b0, b1, b2⟩, ⟨b3, b4, b5⟩⟩ : TBox)).lo.inS 20 = true ∧ ((⟨⟨b0, b1, b2⟩, ⟨b3, b4, b5⟩⟩ : TBox)).hi.inS 20 = true ∧ ((⟨⟨b0, b1, b2⟩, ⟨b3, b4, b5⟩⟩ : TBox)).ok) (hi : v0_0.length ≤ 68921 ∧ v0_0 ++ (restX (⟨⟨b0, b1, b2⟩, ⟨b3, b4, b5⟩⟩ : TBox) v0_1).map v3Cv = (⟨⟨b0, b1, b2⟩, ⟨b3, b4, b5⟩⟩ : TBox).all.map v3Cv ∧ b0 ≤ v0_1 ∧ v0_1 ≤ b3 + 1 ∧ ((nn0 + 1) : Int) + v0_1 = b3 + 2) : rd_ref05_All_0 (J_ref05_All b0 b1 b2 b3 b4 b5) b0 b1 b2 b3 b4 b5 v0_0 v0_1 nn0 (fun r => LeD r (.t (.c (.sl 3 ((((⟨⟨b0, b1, b2⟩, ⟨b3, b4, b5⟩⟩ : TBox)).all).length) (plsC (((⟨⟨b0, b1, b2⟩, ⟨b3, b4, b5⟩⟩ : TBox)).all)))))) := by
 obtain ⟨q1, q2, q3⟩ := hp
 obtain ⟨a1, a2, a3⟩ := inS_iff.1 q1
 obtain ⟨c1, c2, c3⟩ := inS_iff.1 q2
 obtain ⟨o1, o2, o3⟩ := q3
 simp only [TBox.rx, TBox.ry, TBox.rz, Rg.ok] at a1 a2 a3 c1 c2 c3 o1 o2 o3
 obtain ⟨i1, i2, i3, i4⟩ := hi
 unfold rd_ref05_All_0
 refine ⟨by omega, cond_i (fun h => ⟨by omega, (b4 + 2 - b1).toNat, v0_0, v0_1, b1, rfl, i1, ?_, ?_, by omega, by omega, by omega⟩) (fun h => ?_)⟩
 ·have h := of_decide_eq_true h
  rw [← i2, restX_cons (b := (⟨⟨b0, b1, b2⟩, ⟨b3, b4, b5⟩⟩ : TBox)) (x := v0_1) (by simpa using h)]
 ·have h := of_decide_eq_true h
  omega
 ·have h := of_decide_eq_false h
  rw [restX_nil (b := (⟨⟨b0, b1, b2⟩, ⟨b3, b4, b5⟩⟩ : TBox)) (by simp only; omega), List.map_nil, List.append_nil] at i2
  rw [i2]
  exact le_v3 _
theorem zero_ref05_All_0 (b0 b1 b2 b3 b4 b5 : Int) (v0_0 : List (List CV)) (v0_1 : Int)  (hi : v0_0.length ≤ 68921 ∧ v0_0 ++ (restX (⟨⟨b0, b1, b2⟩, ⟨b3, b4, b5⟩⟩ : TBox) v0_1).map v3Cv = (⟨⟨b0, b1, b2⟩, ⟨b3, b4, b5⟩⟩ : TBox).all.map v3Cv ∧ b0 ≤ v0_1 ∧ v0_1 ≤ b3 + 1 ∧ (0 : Int) + v0_1 = b3 + 2) : False := by
 omega
set_option maxHeartbeats 8000000 in
set_option maxRecDepth 100000 in
theorem rnd_ref05_All_2 (b0 b1 b2 b3 b4 b5 : Int) (v2_0 : List (List CV)) (v2_1 : Int) (v2_2 : Int) (nn2 nn0 : Nat) (hp : ((⟨⟨b0, b1, b2⟩, ⟨b3, b4, b5⟩⟩ : TBox)).lo.inS 20 = true ∧ ((⟨⟨b0, b1, b2⟩, ⟨b3, b4, b5⟩⟩ : TBox)).hi.inS 20 = true ∧ ((⟨⟨b0, b1, b2⟩, ⟨b3, b4, b5⟩⟩ : TBox)).ok) (hi : v2_0.length ≤ 68921 ∧ v2_0 ++ (restY (⟨⟨b0, b1, b2⟩, ⟨b3, b4, b5⟩⟩ : TBox) v2_1 v2_2 ++ restX (⟨⟨b0, b1, b2⟩, ⟨b3, b4, b5⟩⟩ : TBox) (v2_1 + 1)).map v3Cv = (⟨⟨b0, b1, b2⟩, ⟨b3, b4, b5⟩⟩ : TBox).all.map v3Cv ∧ (b0 ≤ v2_1 ∧ v2_1 ≤ b3 ∧ (nn0 : Int) + v2_1 = b3 + 1) ∧ b1 ≤ v2_2 ∧ v2_2 ≤ b4 + 1 ∧ ((nn2 + 1) : Int) + v2_2 = b4 + 2) : rd_ref05_All_2 (J_ref05_All b0 b1 b2 b3 b4 b5) b0 b1 b2 b3 b4 b5 v2_0 v2_1 v2_2 nn2 nn0 (fun r => LeD r (.t (.c (.sl 3 ((((⟨⟨b0, b1, b2⟩, ⟨b3, b4, b5⟩⟩ : TBox)).all).length) (plsC (((⟨⟨b0, b1, b2⟩, ⟨b3, b4, b5⟩⟩ : TBox)).all)))))) := by
 obtain ⟨q1, q2, q3⟩ := hp
 obtain ⟨a1, a2, a3⟩ := inS_iff.1 q1
 obtain ⟨c1, c2, c3⟩ := inS_iff.1 q2
 obtain ⟨o1, o2, o3⟩ := q3
 simp only [TBox.rx, TBox.ry, TBox.rz, Rg.ok] at a1 a2 a3 c1 c2 c3 o1 o2 o3
 obtain ⟨i1, i2, i3, i4, i5⟩ := hi
 unfold rd_ref05_All_2
 refine ⟨by omega, cond_i (fun h => ⟨by omega, (b5 + 2 - b2).toNat, v2_0, v2_1, v2_2, b2, rfl, i1, ?_, by omega, ?_, by omega, by omega, by omega⟩) (fun h => lt_i fun x hx => ?_)⟩
 ·have h := of_decide_eq_true h
  rw [← i2, restY_cons (b := (⟨⟨b0, b1, b2⟩, ⟨b3, b4, b5⟩⟩ : TBox)) (y := v2_2) (by simpa using h), List.append_assoc]
 ·have h := of_decide_eq_true h
  omega
 ·have h := of_decide_eq_false h
  rw [IntWalk.i64_in _ (by omega)] at hx
  subst hx
  refine ⟨v2_0, v2_1 + 1, rfl, i1, ?_, by omega, by omega, by omega⟩
  rw [← i2, restY_nil (b := (⟨⟨b0, b1, b2⟩, ⟨b3, b4, b5⟩⟩ : TBox)) (by simp only; omega), List.nil_append]
theorem zero_ref05_All_2 (b0 b1 b2 b3 b4 b5 : Int) (v2_0 : List (List CV)) (v2_1 : Int) (v2_2 : Int) (nn0 : Nat) (hi : v2_0.length ≤ 68921 ∧ v2_0 ++ (restY (⟨⟨b0, b1, b2⟩, ⟨b3, b4, b5⟩⟩ : TBox) v2_1 v2_2 ++ restX (⟨⟨b0, b1, b2⟩, ⟨b3, b4, b5⟩⟩ : TBox) (v2_1 + 1)).map v3Cv = (⟨⟨b0, b1, b2⟩, ⟨b3, b4, b5⟩⟩ : TBox).all.map v3Cv ∧ (b0 ≤ v2_1 ∧ v2_1 ≤ b3 ∧ (nn0 : Int) + v2_1 = b3 + 1) ∧ b1 ≤ v2_2 ∧ v2_2 ≤ b4 + 1 ∧ (0 : Int) + v2_2 = b4 + 2) : False := by
 omega
set_option maxHeartbeats 8000000 in
set_option maxRecDepth 100000 in
theorem rnd_ref05_All_4 (b0 b1 b2 b3 b4 b5 : Int) (v4_0 : List (List CV)) (v4_1 : Int) (v4_2 : Int) (v4_3 : Int) (nn4 nn2 nn0 : Nat) (hp : ((⟨⟨b0, b1, b2⟩, ⟨b3, b4, b5⟩⟩ : TBox)).lo.inS 20 = true ∧ ((⟨⟨b0, b1, b2⟩, ⟨b3, b4, b5⟩⟩ : TBox)).hi.inS 20 = true ∧ ((⟨⟨b0, b1, b2⟩, ⟨b3, b4, b5⟩⟩ : TBox)).ok) (hi : v4_0.length ≤ 68921 ∧ v4_0 ++ (restZ (⟨⟨b0, b1, b2⟩, ⟨b3, b4, b5⟩⟩ : TBox) v4_1 v4_2 v4_3 ++ (restY (⟨⟨b0, b1, b2⟩, ⟨b3, b4, b5⟩⟩ : TBox) v4_1 (v4_2 + 1) ++ restX (⟨⟨b0, b1, b2⟩, ⟨b3, b4, b5⟩⟩ : TBox) (v4_1 + 1))).map v3Cv = (⟨⟨b0, b1, b2⟩, ⟨b3, b4, b5⟩⟩ : TBox).all.map v3Cv ∧ (b0 ≤ v4_1 ∧ v4_1 ≤ b3 ∧ (nn0 : Int) + v4_1 = b3 + 1) ∧ (b1 ≤ v4_2 ∧ v4_2 ≤ b4 ∧ (nn2 : Int) + v4_2 = b4 + 1) ∧ b2 ≤ v4_3 ∧ v4_3 ≤ b5 + 1 ∧ ((nn4 + 1) : Int) + v4_3 = b5 + 2) : rd_ref05_All_4 (J_ref05_All b0 b1 b2 b3 b4 b5) b0 b1 b2 b3 b4 b5 v4_0 v4_1 v4_2 v4_3 nn4 nn2 nn0 (fun r => LeD r (.t (.c (.sl 3 ((((⟨⟨b0, b1, b2⟩, ⟨b3, b4, b5⟩⟩ : TBox)).all).length) (plsC (((⟨⟨b0, b1, b2⟩, ⟨b3, b4, b5⟩⟩ : TBox)).all)))))) := by
 obtain ⟨q1, q2, q3⟩ := hp
 obtain ⟨a1, a2, a3⟩ := inS_iff.1 q1
 obtain ⟨c1, c2, c3⟩ := inS_iff.1 q2
 obtain ⟨o1, o2, o3⟩ := q3
 simp only [TBox.rx, TBox.ry, TBox.rz, Rg.ok] at a1 a2 a3 c1 c2 c3 o1 o2 o3
 obtain ⟨i1, i2, i3, i4, i5⟩ := hi
 have hn := congrArg List.length i2
 have hm := len_68921 (b := (⟨⟨b0, b1, b2⟩, ⟨b3, b4, b5⟩⟩ : TBox)) q1 q2 ⟨o1, o2, o3⟩
 unfold rd_ref05_All_4
 refine ⟨by omega, cond_i (fun h => ?_) (fun h => lt_i fun x hx => ?_)⟩
 ·have h := of_decide_eq_true h
  rw [restZ_cons (b := (⟨⟨b0, b1, b2⟩, ⟨b3, b4, b5⟩⟩ : TBox)) (by simpa using h), List.cons_append, List.map_cons] at i2 hn
  rw [List.length_append, List.length_cons, List.length_map, List.length_map] at hn
  refine ⟨?_, lt_i fun x hx => ?_⟩
  ·unfold roomP maxLen; simp; omega
  ·rw [IntWalk.i64_in _ (by omega)] at hx
   subst hx
   refine ⟨_, _, _, _, rfl, ?_, ?_, i3, i4, by omega, by omega, by omega⟩
   ·rw [List.length_append, List.length_singleton]; omega
   ·rw [← i2, List.append_assoc]; rfl
 ·have h := of_decide_eq_false h
  rw [IntWalk.i64_in _ (by omega)] at hx
  subst hx
  refine ⟨v4_0, v4_1, v4_2 + 1, rfl, i1, ?_, i3, by omega, by omega, by omega⟩
  rw [← i2, restZ_nil (b := (⟨⟨b0, b1, b2⟩, ⟨b3, b4, b5⟩⟩ : TBox)) (by simp only; omega), List.nil_append]
theorem zero_ref05_All_4 (b0 b1 b2 b3 b4 b5 : Int) (v4_0 : List (List CV)) (v4_1 : Int) (v4_2 : Int) (v4_3 : Int) (nn2 nn0 : Nat) (hi : v4_0.length ≤ 68921 ∧ v4_0 ++ (restZ (⟨⟨b0, b1, b2⟩, ⟨b3, b4, b5⟩⟩ : TBox) v4_1 v4_2 v4_3 ++ (restY (⟨⟨b0, b1, b2⟩, ⟨b3, b4, b5⟩⟩ : TBox) v4_1 (v4_2 + 1) ++ restX (⟨⟨b0, b1, b2⟩, ⟨b3, b4, b5⟩⟩ : TBox) (v4_1 + 1))).map v3Cv = (⟨⟨b0, b1, b2⟩, ⟨b3, b4, b5⟩⟩ : TBox).all.map v3Cv ∧ (b0 ≤ v4_1 ∧ v4_1 ≤ b3 ∧ (nn0 : Int) + v4_1 = b3 + 1) ∧ (b1 ≤ v4_2 ∧ v4_2 ≤ b4 ∧ (nn2 : Int) + v4_2 = b4 + 1) ∧ b2 ≤ v4_3 ∧ v4_3 ≤ b5 + 1 ∧ (0 : Int) + v4_3 = b5 + 2) : False := by
 omega
set_option maxHeartbeats 8000000 in
set_option maxRecDepth 100000 in
theorem spec_ref05_All (b0 b1 b2 b3 b4 b5 : Int) (hp : ((⟨⟨b0, b1, b2⟩, ⟨b3, b4, b5⟩⟩ : TBox)).lo.inS 20 = true ∧ ((⟨⟨b0, b1, b2⟩, ⟨b3, b4, b5⟩⟩ : TBox)).hi.inS 20 = true ∧ ((⟨⟨b0, b1, b2⟩, ⟨b3, b4, b5⟩⟩ : TBox)).ok) : vc_ref05_All (J_ref05_All b0 b1 b2 b3 b4 b5) b0 b1 b2 b3 b4 b5 (fun r => LeD r (.t (.c (.sl 3 ((((⟨⟨b0, b1, b2⟩, ⟨b3, b4, b5⟩⟩ : TBox)).all).length) (plsC (((⟨⟨b0, b1, b2⟩, ⟨b3, b4, b5⟩⟩ : TBox)).all)))))) := by
 obtain ⟨q1, q2, q3⟩ := hp
 obtain ⟨a1, a2, a3⟩ := inS_iff.1 q1
 obtain ⟨c1, c2, c3⟩ := inS_iff.1 q2
 obtain ⟨o1, o2, o3⟩ := q3
 simp only [TBox.rx, TBox.ry, TBox.rz, Rg.ok] at a1 a2 a3 c1 c2 c3 o1 o2 o3
 unfold vc_ref05_All
 exact ⟨by omega, (b3 + 2 - b0).toNat, [], b0, rfl, by simp, rfl, by omega, by omega, by omega⟩
theorem all_ref05_All (b0 b1 b2 b3 b4 b5 : Int) (hp : ((⟨⟨b0, b1, b2⟩, ⟨b3, b4, b5⟩⟩ : TBox)).lo.inS 20 = true ∧ ((⟨⟨b0, b1, b2⟩, ⟨b3, b4, b5⟩⟩ : TBox)).hi.inS 20 = true ∧ ((⟨⟨b0, b1, b2⟩, ⟨b3, b4, b5⟩⟩ : TBox)).ok) : AllG (J_ref05_All b0 b1 b2 b3 b4 b5) (loopsFn Try.prog tab S48 ann_ref05_All (J_ref05_All b0 b1 b2 b3 b4 b5) Try.f106 (fun r => LeD r (.t (.c (.sl 3 ((((⟨⟨b0, b1, b2⟩, ⟨b3, b4, b5⟩⟩ : TBox)).all).length) (plsC (((⟨⟨b0, b1, b2⟩, ⟨b3, b4, b5⟩⟩ : TBox)).all))))))) := by
 rw [lp_ref05_All]
 refine ⟨⟨?_, ?_⟩, ⟨?_, ?_⟩, ⟨?_, ?_⟩, trivial⟩
 ·intro F s h
  obtain _ | ⟨g, F⟩ := F
  case cons => exact h.elim
  obtain ⟨w0, w1, rfl, hi⟩ := h
  exact zero_ref05_All_0 b0 b1 b2 b3 b4 b5 _ _ hi
 ·intro n F s h
  obtain _ | ⟨g, F⟩ := F
  case cons => exact h.elim
  obtain ⟨w0, w1, rfl, hi⟩ := h
  rw [er_ref05_All_0]
  exact rnd_ref05_All_0 b0 b1 b2 b3 b4 b5 _ _ _ hp hi
 ·intro F s h
  obtain _ | ⟨f0, F⟩ := F
  ·exact h.elim
  obtain _ | ⟨g, F⟩ := F
  case cons => exact h.elim
  obtain ⟨w0, w1, w2, rfl, hi⟩ := h
  exact zero_ref05_All_2 b0 b1 b2 b3 b4 b5 _ _ _ _ hi
 ·intro n F s h
  obtain _ | ⟨f0, F⟩ := F
  ·exact h.elim
  obtain _ | ⟨g, F⟩ := F
  case cons => exact h.elim
  obtain ⟨w0, w1, w2, rfl, hi⟩ := h
  rw [er_ref05_All_2]
  exact rnd_ref05_All_2 b0 b1 b2 b3 b4 b5 _ _ _ _ _ hp hi
 ·intro F s h
  obtain _ | ⟨f0, F⟩ := F
  ·exact h.elim
  obtain _ | ⟨f1, F⟩ := F
  ·exact h.elim
  obtain _ | ⟨g, F⟩ := F
  case cons => exact h.elim
  obtain ⟨w0, w1, w2, w3, rfl, hi⟩ := h
  exact zero_ref05_All_4 b0 b1 b2 b3 b4 b5 _ _ _ _ _ _ hi
 ·intro n F s h
  obtain _ | ⟨f0, F⟩ := F
  ·exact h.elim
  obtain _ | ⟨f1, F⟩ := F
  ·exact h.elim
  obtain _ | ⟨g, F⟩ := F
  case cons => exact h.elim
  obtain ⟨w0, w1, w2, w3, rfl, hi⟩ := h
  rw [er_ref05_All_4]
  exact rnd_ref05_All_4 b0 b1 b2 b3 b4 b5 _ _ _ _ _ _ _ hp hi
def con_ref05_All : Con := fun args => match args with
 | [.t (.a [.v (.int .i64 b0), .v (.int .i64 b1), .v (.int .i64 b2), .v (.int .i64 b3), .v (.int .i64 b4), .v (.int .i64 b5)])] => some (.t (.c (.sl 3 ((((⟨⟨b0, b1, b2⟩, ⟨b3, b4, b5⟩⟩ : TBox)).all).length) (plsC (((⟨⟨b0, b1, b2⟩, ⟨b3, b4, b5⟩⟩ : TBox)).all)))), some (((⟨⟨b0, b1, b2⟩, ⟨b3, b4, b5⟩⟩ : TBox)).lo.inS 20 = true ∧ ((⟨⟨b0, b1, b2⟩, ⟨b3, b4, b5⟩⟩ : TBox)).hi.inS 20 = true ∧ ((⟨⟨b0, b1, b2⟩, ⟨b3, b4, b5⟩⟩ : TBox)).ok), false)
 | _ => none
theorem ok_ref05_All : Ok Try.prog 106 con_ref05_All := by
 refine Ok.fn (ann := ann_ref05_All) mixed tabOK VS48 VI49 (fn := Try.f106) (by kernel_rfl) (by kernel_rfl) fit_ref05_All fun args r pre fresh h hp => ?_
 unfold con_ref05_All at h
 split at h
 ·rename_i b0 b1 b2 b3 b4 b5
  cases h
  refine ⟨rfl, J_ref05_All b0 b1 b2 b3 b4 b5, _, LeA.refl _, Nat.le_of_ble_eq_true (by kernel_rfl), ?_, ?_⟩
  ·rw [ev_ref05_All]; exact spec_ref05_All b0 b1 b2 b3 b4 b5 hp
  ·exact all_ref05_All b0 b1 b2 b3 b4 b5 hp
 ·cases h
def S50 : Sum := addS S48 106 con_ref05_All
theorem VS50 : Valid Try.prog S50 := Valid.add VS48 ok_ref05_All
def mk_ref05_Steps_0 (m0 m1 m2 m3 m4 m5 m6 m7 m8 m9 m10 m11 : Int) (b0 b1 b2 b3 b4 b5 : Int) (v0_0 : List (List CV)) (v0_1 : Int) : DS := ⟨[none, none, some (.t (.c (.p 2 0))), none, none, some (.t (.c (.os 5))), some (.t (.c (.sl 3 ((((⟨⟨b0, b1, b2⟩, ⟨b3, b4, b5⟩⟩ : TBox)).all).length) (plsC (((⟨⟨b0, b1, b2⟩, ⟨b3, b4, b5⟩⟩ : TBox)).all))))), some (.t (.c (.v (.int .i64 v0_1)))), none, none, none, none, none, none, none, none, none, none, none, none, none, none, none, none, none, none, none, none, none, none], [none, none, some (.box 26 [.v (.int .i64 m0), .v (.int .i64 m1), .v (.int .i64 m2), .v (.int .i64 m3), .v (.int .i64 m4), .v (.int .i64 m5), .v (.int .i64 m6), .v (.int .i64 m7), .v (.int .i64 m8), .v (.int .i64 m9), .v (.int .i64 m10), .v (.int .i64 m11)]), none, none, some (.gen 22 3 v0_0), none, none, none, none, none, none, none, none, none, none, none, none, none, none, none, none, none, none, none, none, none, none, none, none]⟩
def vc_ref05_Steps (J : Inv) (m0 m1 m2 m3 m4 m5 m6 m7 m8 m9 m10 m11 : Int) (b0 b1 b2 b3 b4 b5 : Int) (post : DV → Prop) : Prop := (((⟨⟨b0, b1, b2⟩, ⟨b3, b4, b5⟩⟩ : TBox)).lo.inS 20 = true ∧ ((⟨⟨b0, b1, b2⟩, ⟨b3, b4, b5⟩⟩ : TBox)).hi.inS 20 = true ∧ ((⟨⟨b0, b1, b2⟩, ⟨b3, b4, b5⟩⟩ : TBox)).ok) ∧ (∃ n, J 0 (n :: []) (mk_ref05_Steps_0 m0 m1 m2 m3 m4 m5 m6 m7 m8 m9 m10 m11 b0 b1 b2 b3 b4 b5 ([]) 0))
def ann_ref05_Steps : Ann := ⟨fun r => lookA r [(6, ([[], [], [], [1, 2], [1, 2, 3], [0, 1, 2, 3, 4]], [[21], [21], [21], [21], [21], []]))], fun b => lookA b [(0, (none, some ⟨[2, 6, 7], [2], [(5, .gen 22 3 [])]⟩))], fun _ => [], I49, false, fun _ => none, fun _ => none⟩
theorem ev_ref05_Steps (J : Inv) (m0 m1 m2 m3 m4 m5 m6 m7 m8 m9 m10 m11 : Int) (b0 b1 b2 b3 b4 b5 : Int) (post : DV → Prop) : evFn Try.prog tab S50 ann_ref05_Steps J Try.f52 [.t (.a [.v (.int .i64 m0), .v (.int .i64 m1), .v (.int .i64 m2), .v (.int .i64 m3), .v (.int .i64 m4), .v (.int .i64 m5), .v (.int .i64 m6), .v (.int .i64 m7), .v (.int .i64 m8), .v (.int .i64 m9), .v (.int .i64 m10), .v (.int .i64 m11)]), .t (.a [.v (.int .i64 b0), .v (.int .i64 b1), .v (.int .i64 b2), .v (.int .i64 b3), .v (.int .i64 b4), .v (.int .i64 b5)])] post = vc_ref05_Steps J m0 m1 m2 m3 m4 m5 m6 m7 m8 m9 m10 m11 b0 b1 b2 b3 b4 b5 post := by kernel_rfl
theorem fit_ref05_Steps : okFn ann_ref05_Steps Try.f52 = true := by kernel_rfl
def rd_ref05_Steps_0 (J : Inv) (m0 m1 m2 m3 m4 m5 m6 m7 m8 m9 m10 m11 : Int) (b0 b1 b2 b3 b4 b5 : Int) (v0_0 : List (List CV)) (v0_1 : Int) (nn0 : Nat) (post : DV → Prop) : Prop := (fun (Z1 : TBox) => cond (decide (v0_1 < ((((Z1).all).length : Nat) : Int))) ((0 ≤ v0_1 ∧ v0_1 < ((((Z1).all).length : Nat) : Int)) ∧ ((((⟨((plAt ((Z1).all) v0_1.toNat).x), ((plAt ((Z1).all) v0_1.toNat).y), ((plAt ((Z1).all) v0_1.toNat).z)⟩ : V3)).sm (⟨((plAt ((Z1).all) v0_1.toNat).x), ((plAt ((Z1).all) v0_1.toNat).y), ((plAt ((Z1).all) v0_1.toNat).z)⟩ : V3)) ∧ (cond (((⟨m0, m1, m2, m3, m4, m5, m6, m7, m8, m9, m10, m11⟩ : TMod)).permB (⟨((plAt ((Z1).all) v0_1.toNat).x), ((plAt ((Z1).all) v0_1.toNat).y), ((plAt ((Z1).all) v0_1.toNat).z)⟩ : V3)) ((0 ≤ v0_1 ∧ v0_1 < ((((Z1).all).length : Nat) : Int)) ∧ ((roomP 24 (v0_0.length + ([[.v (.int .i64 ((plAt ((Z1).all) v0_1.toNat).x)), .v (.int .i64 ((plAt ((Z1).all) v0_1.toNat).y)), .v (.int .i64 ((plAt ((Z1).all) v0_1.toNat).z))]] : List (List CV)).length)) ∧ (lt (IntKind.i64.wrap (v0_1 + (1 : Int))) fun x1 => J 0 (nn0 :: []) (mk_ref05_Steps_0 m0 m1 m2 m3 m4 m5 m6 m7 m8 m9 m10 m11 b0 b1 b2 b3 b4 b5 (v0_0 ++ ([[.v (.int .i64 ((plAt ((Z1).all) v0_1.toNat).x)), .v (.int .i64 ((plAt ((Z1).all) v0_1.toNat).y)), .v (.int .i64 ((plAt ((Z1).all) v0_1.toNat).z))]] : List (List CV))) x1)))) (lt (IntKind.i64.wrap (v0_1 + (1 : Int))) fun x2 => J 0 (nn0 :: []) (mk_ref05_Steps_0 m0 m1 m2 m3 m4 m5 m6 m7 m8 m9 m10 m11 b0 b1 b2 b3 b4 b5 v0_0 x2))))) (post (.t (.c (.sl 3 v0_0.length (genC v0_0)))))) (⟨⟨b0, b1, b2⟩, ⟨b3, b4, b5⟩⟩ : TBox)
theorem er_ref05_Steps_0 (J : Inv) (m0 m1 m2 m3 m4 m5 m6 m7 m8 m9 m10 m11 : Int) (b0 b1 b2 b3 b4 b5 : Int) (v0_0 : List (List CV)) (v0_1 : Int) (nn0 : Nat) (post : DV → Prop) : round Try.prog tab S50 ann_ref05_Steps J Try.f52 post 0 (nn0 :: []) (mk_ref05_Steps_0 m0 m1 m2 m3 m4 m5 m6 m7 m8 m9 m10 m11 b0 b1 b2 b3 b4 b5 v0_0 v0_1) = rd_ref05_Steps_0 J m0 m1 m2 m3 m4 m5 m6 m7 m8 m9 m10 m11 b0 b1 b2 b3 b4 b5 v0_0 v0_1 nn0 post := by kernel_rfl
theorem lp_ref05_Steps (J : Inv) (post : DV → Prop) : AllG J (loopsFn Try.prog tab S50 ann_ref05_Steps J Try.f52 post) = (((∀ F s, ¬ J 0 (0 :: F) s) ∧ ∀ n F s, J 0 ((n + 1) :: F) s → round Try.prog tab S50 ann_ref05_Steps J Try.f52 post 0 (n :: F) s) ∧ True) := by kernel_rfl
def J_ref05_Steps (m0 m1 m2 m3 m4 m5 m6 m7 m8 m9 m10 m11 : Int) (b0 b1 b2 b3 b4 b5 : Int) : Inv := fun b F s => match b, F with
 | 0, [nn0] => ∃ (v0_0 : List (List CV)) (v0_1 : Int), s = mk_ref05_Steps_0 m0 m1 m2 m3 m4 m5 m6 m7 m8 m9 m10 m11 b0 b1 b2 b3 b4 b5 v0_0 v0_1 ∧ (0 ≤ v0_1 ∧ v0_1 ≤ (⟨⟨b0, b1, b2⟩, ⟨b3, b4, b5⟩⟩ : TBox).all.length ∧ (nn0 : Int) + v0_1 = (⟨⟨b0, b1, b2⟩, ⟨b3, b4, b5⟩⟩ : TBox).all.length + 1 ∧ v0_0 = (((⟨⟨b0, b1, b2⟩, ⟨b3, b4, b5⟩⟩ : TBox).all.take v0_1.toNat).filter (⟨m0, m1, m2, m3, m4, m5, m6, m7, m8, m9, m10, m11⟩ : TMod).permB).map v3Cv)
 | _, _ => False
set_option maxHeartbeats 8000000 in
set_option maxRecDepth 100000 in
theorem rnd_ref05_Steps_0 (m0 m1 m2 m3 m4 m5 m6 m7 m8 m9 m10 m11 : Int) (b0 b1 b2 b3 b4 b5 : Int) (v0_0 : List (List CV)) (v0_1 : Int) (nn0 : Nat) (hp : ((⟨⟨b0, b1, b2⟩, ⟨b3, b4, b5⟩⟩ : TBox)).lo.inS 20 = true ∧ ((⟨⟨b0, b1, b2⟩, ⟨b3, b4, b5⟩⟩ : TBox)).hi.inS 20 = true ∧ ((⟨⟨b0, b1, b2⟩, ⟨b3, b4, b5⟩⟩ : TBox)).ok) (hi : 0 ≤ v0_1 ∧ v0_1 ≤ (⟨⟨b0, b1, b2⟩, ⟨b3, b4, b5⟩⟩ : TBox).all.length ∧ ((nn0 + 1) : Int) + v0_1 = (⟨⟨b0, b1, b2⟩, ⟨b3, b4, b5⟩⟩ : TBox).all.length + 1 ∧ v0_0 = (((⟨⟨b0, b1, b2⟩, ⟨b3, b4, b5⟩⟩ : TBox).all.take v0_1.toNat).filter (⟨m0, m1, m2, m3, m4, m5, m6, m7, m8, m9, m10, m11⟩ : TMod).permB).map v3Cv) : rd_ref05_Steps_0 (J_ref05_Steps m0 m1 m2 m3 m4 m5 m6 m7 m8 m9 m10 m11 b0 b1 b2 b3 b4 b5) m0 m1 m2 m3 m4 m5 m6 m7 m8 m9 m10 m11 b0 b1 b2 b3 b4 b5 v0_0 v0_1 nn0 (fun r => LeD r (.t (.c (.sl 3 ((((⟨m0, m1, m2, m3, m4, m5, m6, m7, m8, m9, m10, m11⟩ : TMod)).steps (⟨⟨b0, b1, b2⟩, ⟨b3, b4, b5⟩⟩ : TBox)).length) (plsC (((⟨m0, m1, m2, m3, m4, m5, m6, m7, m8, m9, m10, m11⟩ : TMod)).steps (⟨⟨b0, b1, b2⟩, ⟨b3, b4, b5⟩⟩ : TBox))))))) := by
 obtain ⟨i1, i2, i3, i4⟩ := hi
 obtain ⟨k, rfl⟩ : ∃ k : Nat, v0_1 = k := ⟨v0_1.toNat, by omega⟩
 have hk : (k : Int).toNat = k := rfl
 rw [hk] at i4
 have hm := len_68921 (b := (⟨⟨b0, b1, b2⟩, ⟨b3, b4, b5⟩⟩ : TBox)) hp.1 hp.2.1 hp.2.2
 have hlen : v0_0.length ≤ 68921 := by
  rw [i4, List.length_map]
  have h1 := List.length_filter_le (⟨m0, m1, m2, m3, m4, m5, m6, m7, m8, m9, m10, m11⟩ : TMod).permB ((⟨⟨b0, b1, b2⟩, ⟨b3, b4, b5⟩⟩ : TBox).all.take k)
  rw [List.length_take] at h1
  omega
 unfold rd_ref05_Steps_0
 rw [hk]
 refine cond_i (fun h => ?_) (fun h => ?_)
 ·have hlt : k < (⟨⟨b0, b1, b2⟩, ⟨b3, b4, b5⟩⟩ : TBox).all.length := by have := of_decide_eq_true h; omega
  have hb := mem_all.1 (plAt_in hlt)
  obtain ⟨q1, q2, q3⟩ := hp
  have hsm := sm_box hb q1 q2
  have hnx : ∀ x, IntKind.i64.wrap ((k : Int) + 1) = x → x = (k : Int) + 1 := fun x hx => by rw [← hx]; exact IntWalk.i64_in _ (by omega)
  refine ⟨by omega, hsm, cond_i (fun e => ⟨by omega, ?_, lt_i fun x hx => ?_⟩) (fun e => lt_i fun x hx => ?_)⟩
  ·unfold roomP maxLen; simp; omega
  ·rw [hnx x hx]
   refine ⟨_, _, rfl, by omega, by omega, by omega, ?_⟩
   rw [show ((k : Int) + 1).toNat = k + 1 by omega, i4, plAt_take hlt, List.filter_append, List.filter_cons, if_pos e, List.map_append]; rfl
  ·rw [hnx x hx]
   refine ⟨_, _, rfl, by omega, by omega, by omega, ?_⟩
   rw [show ((k : Int) + 1).toNat = k + 1 by omega, i4, plAt_take hlt, List.filter_append, List.filter_cons, if_neg (by rw [e]; simp), List.filter_nil, List.append_nil]
 ·have hge : k = (⟨⟨b0, b1, b2⟩, ⟨b3, b4, b5⟩⟩ : TBox).all.length := by have := of_decide_eq_false h; omega
  rw [i4, hge, List.take_length]
  exact le_v3 _
theorem zero_ref05_Steps_0 (m0 m1 m2 m3 m4 m5 m6 m7 m8 m9 m10 m11 : Int) (b0 b1 b2 b3 b4 b5 : Int) (v0_0 : List (List CV)) (v0_1 : Int)  (hi : 0 ≤ v0_1 ∧ v0_1 ≤ (⟨⟨b0, b1, b2⟩, ⟨b3, b4, b5⟩⟩ : TBox).all.length ∧ (0 : Int) + v0_1 = (⟨⟨b0, b1, b2⟩, ⟨b3, b4, b5⟩⟩ : TBox).all.length + 1 ∧ v0_0 = (((⟨⟨b0, b1, b2⟩, ⟨b3, b4, b5⟩⟩ : TBox).all.take v0_1.toNat).filter (⟨m0, m1, m2, m3, m4, m5, m6, m7, m8, m9, m10, m11⟩ : TMod).permB).map v3Cv) : False := by
 omega
set_option maxHeartbeats 8000000 in
set_option maxRecDepth 100000 in
theorem spec_ref05_Steps (m0 m1 m2 m3 m4 m5 m6 m7 m8 m9 m10 m11 : Int) (b0 b1 b2 b3 b4 b5 : Int) (hp : ((⟨⟨b0, b1, b2⟩, ⟨b3, b4, b5⟩⟩ : TBox)).lo.inS 20 = true ∧ ((⟨⟨b0, b1, b2⟩, ⟨b3, b4, b5⟩⟩ : TBox)).hi.inS 20 = true ∧ ((⟨⟨b0, b1, b2⟩, ⟨b3, b4, b5⟩⟩ : TBox)).ok) : vc_ref05_Steps (J_ref05_Steps m0 m1 m2 m3 m4 m5 m6 m7 m8 m9 m10 m11 b0 b1 b2 b3 b4 b5) m0 m1 m2 m3 m4 m5 m6 m7 m8 m9 m10 m11 b0 b1 b2 b3 b4 b5 (fun r => LeD r (.t (.c (.sl 3 ((((⟨m0, m1, m2, m3, m4, m5, m6, m7, m8, m9, m10, m11⟩ : TMod)).steps (⟨⟨b0, b1, b2⟩, ⟨b3, b4, b5⟩⟩ : TBox)).length) (plsC (((⟨m0, m1, m2, m3, m4, m5, m6, m7, m8, m9, m10, m11⟩ : TMod)).steps (⟨⟨b0, b1, b2⟩, ⟨b3, b4, b5⟩⟩ : TBox))))))) := by
 unfold vc_ref05_Steps
 exact ⟨hp, (⟨⟨b0, b1, b2⟩, ⟨b3, b4, b5⟩⟩ : TBox).all.length + 1, [], 0, rfl, by omega, by omega, by omega, rfl⟩
theorem all_ref05_Steps (m0 m1 m2 m3 m4 m5 m6 m7 m8 m9 m10 m11 : Int) (b0 b1 b2 b3 b4 b5 : Int) (hp : ((⟨⟨b0, b1, b2⟩, ⟨b3, b4, b5⟩⟩ : TBox)).lo.inS 20 = true ∧ ((⟨⟨b0, b1, b2⟩, ⟨b3, b4, b5⟩⟩ : TBox)).hi.inS 20 = true ∧ ((⟨⟨b0, b1, b2⟩, ⟨b3, b4, b5⟩⟩ : TBox)).ok) : AllG (J_ref05_Steps m0 m1 m2 m3 m4 m5 m6 m7 m8 m9 m10 m11 b0 b1 b2 b3 b4 b5) (loopsFn Try.prog tab S50 ann_ref05_Steps (J_ref05_Steps m0 m1 m2 m3 m4 m5 m6 m7 m8 m9 m10 m11 b0 b1 b2 b3 b4 b5) Try.f52 (fun r => LeD r (.t (.c (.sl 3 ((((⟨m0, m1, m2, m3, m4, m5, m6, m7, m8, m9, m10, m11⟩ : TMod)).steps (⟨⟨b0, b1, b2⟩, ⟨b3, b4, b5⟩⟩ : TBox)).length) (plsC (((⟨m0, m1, m2, m3, m4, m5, m6, m7, m8, m9, m10, m11⟩ : TMod)).steps (⟨⟨b0, b1, b2⟩, ⟨b3, b4, b5⟩⟩ : TBox)))))))) := by
 rw [lp_ref05_Steps]
 refine ⟨⟨?_, ?_⟩, trivial⟩
 ·intro F s h
  obtain _ | ⟨g, F⟩ := F
  case cons => exact h.elim
  obtain ⟨w0, w1, rfl, hi⟩ := h
  exact zero_ref05_Steps_0 m0 m1 m2 m3 m4 m5 m6 m7 m8 m9 m10 m11 b0 b1 b2 b3 b4 b5 _ _ hi
 ·intro n F s h
  obtain _ | ⟨g, F⟩ := F
  case cons => exact h.elim
  obtain ⟨w0, w1, rfl, hi⟩ := h
  rw [er_ref05_Steps_0]
  exact rnd_ref05_Steps_0 m0 m1 m2 m3 m4 m5 m6 m7 m8 m9 m10 m11 b0 b1 b2 b3 b4 b5 _ _ _ hp hi
def con_ref05_Steps : Con := fun args => match args with
 | [.t (.a [.v (.int .i64 m0), .v (.int .i64 m1), .v (.int .i64 m2), .v (.int .i64 m3), .v (.int .i64 m4), .v (.int .i64 m5), .v (.int .i64 m6), .v (.int .i64 m7), .v (.int .i64 m8), .v (.int .i64 m9), .v (.int .i64 m10), .v (.int .i64 m11)]), .t (.a [.v (.int .i64 b0), .v (.int .i64 b1), .v (.int .i64 b2), .v (.int .i64 b3), .v (.int .i64 b4), .v (.int .i64 b5)])] => some (.t (.c (.sl 3 ((((⟨m0, m1, m2, m3, m4, m5, m6, m7, m8, m9, m10, m11⟩ : TMod)).steps (⟨⟨b0, b1, b2⟩, ⟨b3, b4, b5⟩⟩ : TBox)).length) (plsC (((⟨m0, m1, m2, m3, m4, m5, m6, m7, m8, m9, m10, m11⟩ : TMod)).steps (⟨⟨b0, b1, b2⟩, ⟨b3, b4, b5⟩⟩ : TBox))))), some (((⟨⟨b0, b1, b2⟩, ⟨b3, b4, b5⟩⟩ : TBox)).lo.inS 20 = true ∧ ((⟨⟨b0, b1, b2⟩, ⟨b3, b4, b5⟩⟩ : TBox)).hi.inS 20 = true ∧ ((⟨⟨b0, b1, b2⟩, ⟨b3, b4, b5⟩⟩ : TBox)).ok), false)
 | _ => none
theorem ok_ref05_Steps : Ok Try.prog 52 con_ref05_Steps := by
 refine Ok.fn (ann := ann_ref05_Steps) mixed tabOK VS50 VI49 (fn := Try.f52) (by kernel_rfl) (by kernel_rfl) fit_ref05_Steps fun args r pre fresh h hp => ?_
 unfold con_ref05_Steps at h
 split at h
 ·rename_i m0 m1 m2 m3 m4 m5 m6 m7 m8 m9 m10 m11 b0 b1 b2 b3 b4 b5
  cases h
  refine ⟨rfl, J_ref05_Steps m0 m1 m2 m3 m4 m5 m6 m7 m8 m9 m10 m11 b0 b1 b2 b3 b4 b5, _, LeA.refl _, Nat.le_of_ble_eq_true (by kernel_rfl), ?_, ?_⟩
  ·rw [ev_ref05_Steps]; exact spec_ref05_Steps m0 m1 m2 m3 m4 m5 m6 m7 m8 m9 m10 m11 b0 b1 b2 b3 b4 b5 hp
  ·exact all_ref05_Steps m0 m1 m2 m3 m4 m5 m6 m7 m8 m9 m10 m11 b0 b1 b2 b3 b4 b5 hp
 ·cases h
def S51 : Sum := addS S50 52 con_ref05_Steps
theorem VS51 : Valid Try.prog S51 := Valid.add VS50 ok_ref05_Steps
def S52 : Sum := S51
theorem VS52 : Valid Try.prog S52 := VS51
def S53 : Sum := S52
theorem VS53 : Valid Try.prog S53 := VS52
def S54 : Sum := S53
theorem VS54 : Valid Try.prog S54 := VS53
end Go.Proofs.Ytlmdmpjfehpjeaa
set_option linter.unusedVariables false
set_option linter.unusedSimpArgs false
namespace Go.Proofs.Ytlmdmpjfehpjeaa
open Go.RowKit Ev
def divE (b : TBox) : Int := if b.err ≠ 0 then b.err else if b.count = 1 then 12 else 0
def vc_track_halves (b0 b1 b2 b3 b4 b5 : Int) (post : DV → Prop) : Prop := (0 ≤ (0 : Int) ∧ (0 : Int) < ((3 : Nat) : Int)) ∧ ((0 ≤ (0 : Int) ∧ (0 : Int) < ((3 : Nat) : Int)) ∧ (lt (IntKind.i64.wrap (b3 - b0)) fun x1 => (0 ≤ (0 : Int) ∧ (0 : Int) < ((3 : Nat) : Int)) ∧ ((0 ≤ (0 : Int) ∧ (0 : Int) < ((3 : Nat) : Int)) ∧ (lt (IntKind.i64.wrap (b3 - b0)) fun x2 => cond (decide (x1 > x2)) ((0 ≤ (1 : Int) ∧ (1 : Int) < ((3 : Nat) : Int)) ∧ ((0 ≤ (1 : Int) ∧ (1 : Int) < ((3 : Nat) : Int)) ∧ (lt (IntKind.i64.wrap (b4 - b1)) fun x3 => (0 ≤ (0 : Int) ∧ (0 : Int) < ((3 : Nat) : Int)) ∧ ((0 ≤ (0 : Int) ∧ (0 : Int) < ((3 : Nat) : Int)) ∧ (lt (IntKind.i64.wrap (b3 - b0)) fun x4 => cond (decide (x3 > x4)) ((0 ≤ (2 : Int) ∧ (2 : Int) < ((3 : Nat) : Int)) ∧ ((0 ≤ (2 : Int) ∧ (2 : Int) < ((3 : Nat) : Int)) ∧ (lt (IntKind.i64.wrap (b5 - b2)) fun x5 => (0 ≤ (1 : Int) ∧ (1 : Int) < ((3 : Nat) : Int)) ∧ ((0 ≤ (1 : Int) ∧ (1 : Int) < ((3 : Nat) : Int)) ∧ (lt (IntKind.i64.wrap (b4 - b1)) fun x6 => cond (decide (x5 > x6)) ((0 ≤ (2 : Int) ∧ (2 : Int) < ((3 : Nat) : Int)) ∧ ((0 ≤ (2 : Int) ∧ (2 : Int) < ((3 : Nat) : Int)) ∧ ((0 ≤ (2 : Int) ∧ (2 : Int) < ((3 : Nat) : Int)) ∧ (lt (IntKind.i64.wrap (b5 - b2)) fun x7 => lt (IntKind.i64.wrap (Int.tdiv x7 (2 : Int))) fun x8 => (IntKind.i64 = IntKind.i64 ∧ (2 : Int) ≠ 0) ∧ (lt (IntKind.i64.wrap (b2 + x8)) fun x9 => lt (IntKind.i64.wrap (x9 + (1 : Int))) fun x10 => (0 ≤ (2 : Int) ∧ (2 : Int) < ((3 : Nat) : Int)) ∧ ((0 ≤ (2 : Int) ∧ (2 : Int) < ((3 : Nat) : Int)) ∧ (post (.t (.a [.v (.int .i64 b0), .v (.int .i64 b1), .v (.int .i64 b2), .v (.int .i64 b3), .v (.int .i64 b4), .v (.int .i64 x9), .v (.int .i64 b0), .v (.int .i64 b1), .v (.int .i64 x10), .v (.int .i64 b3), .v (.int .i64 b4), .v (.int .i64 b5)]))))))))) ((0 ≤ (1 : Int) ∧ (1 : Int) < ((3 : Nat) : Int)) ∧ ((0 ≤ (1 : Int) ∧ (1 : Int) < ((3 : Nat) : Int)) ∧ ((0 ≤ (1 : Int) ∧ (1 : Int) < ((3 : Nat) : Int)) ∧ (lt (IntKind.i64.wrap (b4 - b1)) fun x11 => lt (IntKind.i64.wrap (Int.tdiv x11 (2 : Int))) fun x12 => (IntKind.i64 = IntKind.i64 ∧ (2 : Int) ≠ 0) ∧ (lt (IntKind.i64.wrap (b1 + x12)) fun x13 => lt (IntKind.i64.wrap (x13 + (1 : Int))) fun x14 => (0 ≤ (1 : Int) ∧ (1 : Int) < ((3 : Nat) : Int)) ∧ ((0 ≤ (1 : Int) ∧ (1 : Int) < ((3 : Nat) : Int)) ∧ (post (.t (.a [.v (.int .i64 b0), .v (.int .i64 b1), .v (.int .i64 b2), .v (.int .i64 b3), .v (.int .i64 x13), .v (.int .i64 b5), .v (.int .i64 b0), .v (.int .i64 x14), .v (.int .i64 b2), .v (.int .i64 b3), .v (.int .i64 b4), .v (.int .i64 b5)])))))))))))))) ((0 ≤ (2 : Int) ∧ (2 : Int) < ((3 : Nat) : Int)) ∧ ((0 ≤ (2 : Int) ∧ (2 : Int) < ((3 : Nat) : Int)) ∧ (lt (IntKind.i64.wrap (b5 - b2)) fun x15 => (0 ≤ (0 : Int) ∧ (0 : Int) < ((3 : Nat) : Int)) ∧ ((0 ≤ (0 : Int) ∧ (0 : Int) < ((3 : Nat) : Int)) ∧ (lt (IntKind.i64.wrap (b3 - b0)) fun x16 => cond (decide (x15 > x16)) ((0 ≤ (2 : Int) ∧ (2 : Int) < ((3 : Nat) : Int)) ∧ ((0 ≤ (2 : Int) ∧ (2 : Int) < ((3 : Nat) : Int)) ∧ ((0 ≤ (2 : Int) ∧ (2 : Int) < ((3 : Nat) : Int)) ∧ (lt (IntKind.i64.wrap (b5 - b2)) fun x17 => lt (IntKind.i64.wrap (Int.tdiv x17 (2 : Int))) fun x18 => (IntKind.i64 = IntKind.i64 ∧ (2 : Int) ≠ 0) ∧ (lt (IntKind.i64.wrap (b2 + x18)) fun x19 => lt (IntKind.i64.wrap (x19 + (1 : Int))) fun x20 => (0 ≤ (2 : Int) ∧ (2 : Int) < ((3 : Nat) : Int)) ∧ ((0 ≤ (2 : Int) ∧ (2 : Int) < ((3 : Nat) : Int)) ∧ (post (.t (.a [.v (.int .i64 b0), .v (.int .i64 b1), .v (.int .i64 b2), .v (.int .i64 b3), .v (.int .i64 b4), .v (.int .i64 x19), .v (.int .i64 b0), .v (.int .i64 b1), .v (.int .i64 x20), .v (.int .i64 b3), .v (.int .i64 b4), .v (.int .i64 b5)]))))))))) ((0 ≤ (0 : Int) ∧ (0 : Int) < ((3 : Nat) : Int)) ∧ ((0 ≤ (0 : Int) ∧ (0 : Int) < ((3 : Nat) : Int)) ∧ ((0 ≤ (0 : Int) ∧ (0 : Int) < ((3 : Nat) : Int)) ∧ (lt (IntKind.i64.wrap (b3 - b0)) fun x21 => lt (IntKind.i64.wrap (Int.tdiv x21 (2 : Int))) fun x22 => (IntKind.i64 = IntKind.i64 ∧ (2 : Int) ≠ 0) ∧ (lt (IntKind.i64.wrap (b0 + x22)) fun x23 => lt (IntKind.i64.wrap (x23 + (1 : Int))) fun x24 => (0 ≤ (0 : Int) ∧ (0 : Int) < ((3 : Nat) : Int)) ∧ ((0 ≤ (0 : Int) ∧ (0 : Int) < ((3 : Nat) : Int)) ∧ (post (.t (.a [.v (.int .i64 b0), .v (.int .i64 b1), .v (.int .i64 b2), .v (.int .i64 x23), .v (.int .i64 b4), .v (.int .i64 b5), .v (.int .i64 x24), .v (.int .i64 b1), .v (.int .i64 b2), .v (.int .i64 b3), .v (.int .i64 b4), .v (.int .i64 b5)]))))))))))))))))))) ((0 ≤ (1 : Int) ∧ (1 : Int) < ((3 : Nat) : Int)) ∧ ((0 ≤ (1 : Int) ∧ (1 : Int) < ((3 : Nat) : Int)) ∧ (lt (IntKind.i64.wrap (b4 - b1)) fun x25 => (0 ≤ (0 : Int) ∧ (0 : Int) < ((3 : Nat) : Int)) ∧ ((0 ≤ (0 : Int) ∧ (0 : Int) < ((3 : Nat) : Int)) ∧ (lt (IntKind.i64.wrap (b3 - b0)) fun x26 => cond (decide (x25 > x26)) ((0 ≤ (2 : Int) ∧ (2 : Int) < ((3 : Nat) : Int)) ∧ ((0 ≤ (2 : Int) ∧ (2 : Int) < ((3 : Nat) : Int)) ∧ (lt (IntKind.i64.wrap (b5 - b2)) fun x27 => (0 ≤ (1 : Int) ∧ (1 : Int) < ((3 : Nat) : Int)) ∧ ((0 ≤ (1 : Int) ∧ (1 : Int) < ((3 : Nat) : Int)) ∧ (lt (IntKind.i64.wrap (b4 - b1)) fun x28 => cond (decide (x27 > x28)) ((0 ≤ (2 : Int) ∧ (2 : Int) < ((3 : Nat) : Int)) ∧ ((0 ≤ (2 : Int) ∧ (2 : Int) < ((3 : Nat) : Int)) ∧ ((0 ≤ (2 : Int) ∧ (2 : Int) < ((3 : Nat) : Int)) ∧ (lt (IntKind.i64.wrap (b5 - b2)) fun x29 => lt (IntKind.i64.wrap (Int.tdiv x29 (2 : Int))) fun x30 => (IntKind.i64 = IntKind.i64 ∧ (2 : Int) ≠ 0) ∧ (lt (IntKind.i64.wrap (b2 + x30)) fun x31 => lt (IntKind.i64.wrap (x31 + (1 : Int))) fun x32 => (0 ≤ (2 : Int) ∧ (2 : Int) < ((3 : Nat) : Int)) ∧ ((0 ≤ (2 : Int) ∧ (2 : Int) < ((3 : Nat) : Int)) ∧ (post (.t (.a [.v (.int .i64 b0), .v (.int .i64 b1), .v (.int .i64 b2), .v (.int .i64 b3), .v (.int .i64 b4), .v (.int .i64 x31), .v (.int .i64 b0), .v (.int .i64 b1), .v (.int .i64 x32), .v (.int .i64 b3), .v (.int .i64 b4), .v (.int .i64 b5)]))))))))) ((0 ≤ (1 : Int) ∧ (1 : Int) < ((3 : Nat) : Int)) ∧ ((0 ≤ (1 : Int) ∧ (1 : Int) < ((3 : Nat) : Int)) ∧ ((0 ≤ (1 : Int) ∧ (1 : Int) < ((3 : Nat) : Int)) ∧ (lt (IntKind.i64.wrap (b4 - b1)) fun x33 => lt (IntKind.i64.wrap (Int.tdiv x33 (2 : Int))) fun x34 => (IntKind.i64 = IntKind.i64 ∧ (2 : Int) ≠ 0) ∧ (lt (IntKind.i64.wrap (b1 + x34)) fun x35 => lt (IntKind.i64.wrap (x35 + (1 : Int))) fun x36 => (0 ≤ (1 : Int) ∧ (1 : Int) < ((3 : Nat) : Int)) ∧ ((0 ≤ (1 : Int) ∧ (1 : Int) < ((3 : Nat) : Int)) ∧ (post (.t (.a [.v (.int .i64 b0), .v (.int .i64 b1), .v (.int .i64 b2), .v (.int .i64 b3), .v (.int .i64 x35), .v (.int .i64 b5), .v (.int .i64 b0), .v (.int .i64 x36), .v (.int .i64 b2), .v (.int .i64 b3), .v (.int .i64 b4), .v (.int .i64 b5)])))))))))))))) ((0 ≤ (2 : Int) ∧ (2 : Int) < ((3 : Nat) : Int)) ∧ ((0 ≤ (2 : Int) ∧ (2 : Int) < ((3 : Nat) : Int)) ∧ (lt (IntKind.i64.wrap (b5 - b2)) fun x37 => (0 ≤ (0 : Int) ∧ (0 : Int) < ((3 : Nat) : Int)) ∧ ((0 ≤ (0 : Int) ∧ (0 : Int) < ((3 : Nat) : Int)) ∧ (lt (IntKind.i64.wrap (b3 - b0)) fun x38 => cond (decide (x37 > x38)) ((0 ≤ (2 : Int) ∧ (2 : Int) < ((3 : Nat) : Int)) ∧ ((0 ≤ (2 : Int) ∧ (2 : Int) < ((3 : Nat) : Int)) ∧ ((0 ≤ (2 : Int) ∧ (2 : Int) < ((3 : Nat) : Int)) ∧ (lt (IntKind.i64.wrap (b5 - b2)) fun x39 => lt (IntKind.i64.wrap (Int.tdiv x39 (2 : Int))) fun x40 => (IntKind.i64 = IntKind.i64 ∧ (2 : Int) ≠ 0) ∧ (lt (IntKind.i64.wrap (b2 + x40)) fun x41 => lt (IntKind.i64.wrap (x41 + (1 : Int))) fun x42 => (0 ≤ (2 : Int) ∧ (2 : Int) < ((3 : Nat) : Int)) ∧ ((0 ≤ (2 : Int) ∧ (2 : Int) < ((3 : Nat) : Int)) ∧ (post (.t (.a [.v (.int .i64 b0), .v (.int .i64 b1), .v (.int .i64 b2), .v (.int .i64 b3), .v (.int .i64 b4), .v (.int .i64 x41), .v (.int .i64 b0), .v (.int .i64 b1), .v (.int .i64 x42), .v (.int .i64 b3), .v (.int .i64 b4), .v (.int .i64 b5)]))))))))) ((0 ≤ (0 : Int) ∧ (0 : Int) < ((3 : Nat) : Int)) ∧ ((0 ≤ (0 : Int) ∧ (0 : Int) < ((3 : Nat) : Int)) ∧ ((0 ≤ (0 : Int) ∧ (0 : Int) < ((3 : Nat) : Int)) ∧ (lt (IntKind.i64.wrap (b3 - b0)) fun x43 => lt (IntKind.i64.wrap (Int.tdiv x43 (2 : Int))) fun x44 => (IntKind.i64 = IntKind.i64 ∧ (2 : Int) ≠ 0) ∧ (lt (IntKind.i64.wrap (b0 + x44)) fun x45 => lt (IntKind.i64.wrap (x45 + (1 : Int))) fun x46 => (0 ≤ (0 : Int) ∧ (0 : Int) < ((3 : Nat) : Int)) ∧ ((0 ≤ (0 : Int) ∧ (0 : Int) < ((3 : Nat) : Int)) ∧ (post (.t (.a [.v (.int .i64 b0), .v (.int .i64 b1), .v (.int .i64 b2), .v (.int .i64 x45), .v (.int .i64 b4), .v (.int .i64 b5), .v (.int .i64 x46), .v (.int .i64 b1), .v (.int .i64 b2), .v (.int .i64 b3), .v (.int .i64 b4), .v (.int .i64 b5)])))))))))))))))))))))))
def ann_track_halves : Ann := ⟨fun r => lookA r [(5, ([[], [], [0, 1], [0, 1, 2], [], [], [4, 5], [4, 5, 6], [0, 1, 2, 3, 4, 5, 6, 7], [], [], [9, 10], [9, 10, 11], [], [], [13, 14], [13, 14, 15], [9, 10, 11, 12, 13, 14, 15, 16], [0, 1, 2, 3, 4, 5, 6, 7, 8, 9, 10, 11, 12, 13, 14, 15, 16, 17]], [[], [], [], [], [], [], [], [], [], [], [], [], [], [], [], [], [], [], []])), (8, ([[], [], [0, 1], [0, 1, 2], [], [], [4, 5], [4, 5, 6], [], [], [8, 9], [8, 9, 10], [4, 5, 6, 7, 8, 9, 10, 11], [4, 5, 6, 7, 8, 9, 10, 11, 12], [0, 1, 2, 3, 4, 5, 6, 7, 8, 9, 10, 11, 12, 13], [0, 1, 2, 3, 4, 5, 6, 7, 8, 9, 10, 11, 12, 13, 14]], [[], [], [], [], [], [], [], [], [], [], [], [], [], [], [], []])), (9, ([[], [], [], [], [0, 2, 3], [0, 1, 2, 3, 4]], [[6, 7], [6, 7], [7], [6], [9999, 6], []]))], fun b => lookA b [(0, (some 4, some ⟨[1, 2, 3, 8], [1, 2], []⟩))], fun _ => [], I49, false, fun _ => none, fun _ => none⟩
theorem ev_track_halves (J : Inv) (b0 b1 b2 b3 b4 b5 : Int) (post : DV → Prop) : evFn Try.prog tab S54 ann_track_halves J Try.f105 [.t (.a [.v (.int .i64 b0), .v (.int .i64 b1), .v (.int .i64 b2), .v (.int .i64 b3), .v (.int .i64 b4), .v (.int .i64 b5)])] post = vc_track_halves b0 b1 b2 b3 b4 b5 post := by kernel_rfl
theorem fit_track_halves : okFn ann_track_halves Try.f105 = true := by kernel_rfl
theorem lp_track_halves (J : Inv) (post : DV → Prop) : AllG J (loopsFn Try.prog tab S54 ann_track_halves J Try.f105 post) = (True) := by kernel_rfl
set_option maxHeartbeats 8000000 in
set_option maxRecDepth 100000 in
theorem spec_track_halves (b0 b1 b2 b3 b4 b5 : Int) (hp : ((⟨⟨b0, b1, b2⟩, ⟨b3, b4, b5⟩⟩ : TBox)).lo.inS 20 = true ∧ ((⟨⟨b0, b1, b2⟩, ⟨b3, b4, b5⟩⟩ : TBox)).hi.inS 20 = true ∧ ((⟨⟨b0, b1, b2⟩, ⟨b3, b4, b5⟩⟩ : TBox)).ok) : vc_track_halves b0 b1 b2 b3 b4 b5 (fun r => LeD r (.t (.a [.v (.int .i64 (((⟨⟨b0, b1, b2⟩, ⟨b3, b4, b5⟩⟩ : TBox)).half1.lo.x)), .v (.int .i64 (((⟨⟨b0, b1, b2⟩, ⟨b3, b4, b5⟩⟩ : TBox)).half1.lo.y)), .v (.int .i64 (((⟨⟨b0, b1, b2⟩, ⟨b3, b4, b5⟩⟩ : TBox)).half1.lo.z)), .v (.int .i64 (((⟨⟨b0, b1, b2⟩, ⟨b3, b4, b5⟩⟩ : TBox)).half1.hi.x)), .v (.int .i64 (((⟨⟨b0, b1, b2⟩, ⟨b3, b4, b5⟩⟩ : TBox)).half1.hi.y)), .v (.int .i64 (((⟨⟨b0, b1, b2⟩, ⟨b3, b4, b5⟩⟩ : TBox)).half1.hi.z)), .v (.int .i64 (((⟨⟨b0, b1, b2⟩, ⟨b3, b4, b5⟩⟩ : TBox)).half2.lo.x)), .v (.int .i64 (((⟨⟨b0, b1, b2⟩, ⟨b3, b4, b5⟩⟩ : TBox)).half2.lo.y)), .v (.int .i64 (((⟨⟨b0, b1, b2⟩, ⟨b3, b4, b5⟩⟩ : TBox)).half2.lo.z)), .v (.int .i64 (((⟨⟨b0, b1, b2⟩, ⟨b3, b4, b5⟩⟩ : TBox)).half2.hi.x)), .v (.int .i64 (((⟨⟨b0, b1, b2⟩, ⟨b3, b4, b5⟩⟩ : TBox)).half2.hi.y)), .v (.int .i64 (((⟨⟨b0, b1, b2⟩, ⟨b3, b4, b5⟩⟩ : TBox)).half2.hi.z))]))) := by
 obtain ⟨q1, q2, q3⟩ := hp
 obtain ⟨a1, a2, a3⟩ := inS_iff.1 q1
 obtain ⟨c1, c2, c3⟩ := inS_iff.1 q2
 obtain ⟨o1, o2, o3⟩ := q3
 simp only [TBox.rx, TBox.ry, TBox.rz, Rg.ok] at a1 a2 a3 c1 c2 c3 o1 o2 o3
 have w0 : IntKind.i64.wrap (b3 - b0) = b3 - b0 := IntWalk.i64_in _ (by omega)
 have w1 : IntKind.i64.wrap (b4 - b1) = b4 - b1 := IntWalk.i64_in _ (by omega)
 have w2 : IntKind.i64.wrap (b5 - b2) = b5 - b2 := IntWalk.i64_in _ (by omega)
 have t0 : IntKind.i64.wrap (Int.tdiv (b3 - b0) (2 : Int)) = (b3 - b0) / 2 := by rw [Int.tdiv_eq_ediv_of_nonneg (by omega)]; exact IntWalk.i64_in _ (by omega)
 have t1 : IntKind.i64.wrap (Int.tdiv (b4 - b1) (2 : Int)) = (b4 - b1) / 2 := by rw [Int.tdiv_eq_ediv_of_nonneg (by omega)]; exact IntWalk.i64_in _ (by omega)
 have t2 : IntKind.i64.wrap (Int.tdiv (b5 - b2) (2 : Int)) = (b5 - b2) / 2 := by rw [Int.tdiv_eq_ediv_of_nonneg (by omega)]; exact IntWalk.i64_in _ (by omega)
 have v0 : IntKind.i64.wrap (b0 + (b3 - b0) / 2) = b0 + (b3 - b0) / 2 := IntWalk.i64_in _ (by omega)
 have v1 : IntKind.i64.wrap (b1 + (b4 - b1) / 2) = b1 + (b4 - b1) / 2 := IntWalk.i64_in _ (by omega)
 have v2 : IntKind.i64.wrap (b2 + (b5 - b2) / 2) = b2 + (b5 - b2) / 2 := IntWalk.i64_in _ (by omega)
 have u0 : IntKind.i64.wrap (b0 + (b3 - b0) / 2 + 1) = b0 + (b3 - b0) / 2 + 1 := IntWalk.i64_in _ (by omega)
 have u1 : IntKind.i64.wrap (b1 + (b4 - b1) / 2 + 1) = b1 + (b4 - b1) / 2 + 1 := IntWalk.i64_in _ (by omega)
 have u2 : IntKind.i64.wrap (b2 + (b5 - b2) / 2 + 1) = b2 + (b5 - b2) / 2 + 1 := IntWalk.i64_in _ (by omega)
 have hs := side_cases (⟨⟨b0, b1, b2⟩, ⟨b3, b4, b5⟩⟩ : TBox)
 unfold vc_track_halves
 simp only at hs
 (repeat' with_reducible first | (refine lt_i ?_; intro _ hx; subst hx) | (refine cond_i ?_ ?_ <;> intro _) | (refine And.intro ?_ ?_))
 all_goals first | decide | skip
 all_goals
  simp only [w0, w1, w2, t0, t1, t2, v0, v1, v2, u0, u1, u2, decide_eq_true_eq, decide_eq_false_iff_not] at *
  unfold TBox.half1 TBox.half2
  rcases hs with ⟨h, h1, h2⟩ | ⟨h, h1, h2⟩ | ⟨h, h1, h2⟩ <;> first | omega | (rw [h]; exact LeD.refl _)
def con_track_halves : Con := fun args => match args with
 | [.t (.a [.v (.int .i64 b0), .v (.int .i64 b1), .v (.int .i64 b2), .v (.int .i64 b3), .v (.int .i64 b4), .v (.int .i64 b5)])] => some (.t (.a [.v (.int .i64 (((⟨⟨b0, b1, b2⟩, ⟨b3, b4, b5⟩⟩ : TBox)).half1.lo.x)), .v (.int .i64 (((⟨⟨b0, b1, b2⟩, ⟨b3, b4, b5⟩⟩ : TBox)).half1.lo.y)), .v (.int .i64 (((⟨⟨b0, b1, b2⟩, ⟨b3, b4, b5⟩⟩ : TBox)).half1.lo.z)), .v (.int .i64 (((⟨⟨b0, b1, b2⟩, ⟨b3, b4, b5⟩⟩ : TBox)).half1.hi.x)), .v (.int .i64 (((⟨⟨b0, b1, b2⟩, ⟨b3, b4, b5⟩⟩ : TBox)).half1.hi.y)), .v (.int .i64 (((⟨⟨b0, b1, b2⟩, ⟨b3, b4, b5⟩⟩ : TBox)).half1.hi.z)), .v (.int .i64 (((⟨⟨b0, b1, b2⟩, ⟨b3, b4, b5⟩⟩ : TBox)).half2.lo.x)), .v (.int .i64 (((⟨⟨b0, b1, b2⟩, ⟨b3, b4, b5⟩⟩ : TBox)).half2.lo.y)), .v (.int .i64 (((⟨⟨b0, b1, b2⟩, ⟨b3, b4, b5⟩⟩ : TBox)).half2.lo.z)), .v (.int .i64 (((⟨⟨b0, b1, b2⟩, ⟨b3, b4, b5⟩⟩ : TBox)).half2.hi.x)), .v (.int .i64 (((⟨⟨b0, b1, b2⟩, ⟨b3, b4, b5⟩⟩ : TBox)).half2.hi.y)), .v (.int .i64 (((⟨⟨b0, b1, b2⟩, ⟨b3, b4, b5⟩⟩ : TBox)).half2.hi.z))]), some (((⟨⟨b0, b1, b2⟩, ⟨b3, b4, b5⟩⟩ : TBox)).lo.inS 20 = true ∧ ((⟨⟨b0, b1, b2⟩, ⟨b3, b4, b5⟩⟩ : TBox)).hi.inS 20 = true ∧ ((⟨⟨b0, b1, b2⟩, ⟨b3, b4, b5⟩⟩ : TBox)).ok), false)
 | _ => none
theorem ok_track_halves : Ok Try.prog 105 con_track_halves := by
 refine Ok.fn (ann := ann_track_halves) mixed tabOK VS54 VI49 (fn := Try.f105) (by kernel_rfl) (by kernel_rfl) fit_track_halves fun args r pre fresh h hp => ?_
 unfold con_track_halves at h
 split at h
 ·rename_i b0 b1 b2 b3 b4 b5
  cases h
  refine ⟨rfl, fun _ _ _ => False, _, LeA.refl _, Nat.le_of_ble_eq_true (by kernel_rfl), ?_, ?_⟩
  ·rw [ev_track_halves]; exact spec_track_halves b0 b1 b2 b3 b4 b5 hp
  ·rw [lp_track_halves]; trivial
 ·cases h
def S55 : Sum := addS S54 105 con_track_halves
theorem VS55 : Valid Try.prog S55 := Valid.add VS54 ok_track_halves
def S56 : Sum := S55
theorem VS56 : Valid Try.prog S56 := VS55
def S57 : Sum := S56
theorem VS57 : Valid Try.prog S57 := VS56
end Go.Proofs.Ytlmdmpjfehpjeaa
set_option linter.unusedVariables false
set_option linter.unusedSimpArgs false
namespace Go.Proofs.Ytlmdmpjfehpjeaa
open Go.RowKit Ev
def smallB (b : TBox) : Bool := decide (b.err ≠ 0) || decide (b.count ≤ 120)
theorem stE_of {m : TMod} {b : TBox} {s : V3} (h : s ∈ m.steps b) (hl : b.lo.inS 20 = true) (hh : b.hi.inS 20 = true) : m.stE s = 0 := by
 obtain ⟨h1, h2⟩ := mem_steps.1 h
 obtain ⟨a1, a2, a3⟩ := inS_iff.1 hl
 obtain ⟨c1, c2, c3⟩ := inS_iff.1 hh
 unfold TBox.has TBox.rx TBox.ry TBox.rz Rg.has at h1
 simp only at h1
 have e1 : s.inS 20 = true := inS_iff.2 (by omega)
 unfold TMod.stE
 rw [e1, permB_iff.2 h2]; rfl
theorem half_err {b : TBox} (h : b.err = 0) (hc : b.count ≠ 1) : b.half1.err = 0 ∧ b.half2.err = 0 ∧ b.half1.sub b ∧ b.half2.sub b := by
 have ho := box_ok h
 have hin := box_in h
 have hne : b.lo.x < b.hi.x ∨ b.lo.y < b.hi.y ∨ b.lo.z < b.hi.z := by
  have h1 := count_one ho
  obtain ⟨o1, o2, o3⟩ := ho
  simp only [TBox.rx, TBox.ry, TBox.rz, Rg.ok] at o1 o2 o3
  have h2 : ¬ (b.lo.x = b.hi.x ∧ b.lo.y = b.hi.y ∧ b.lo.z = b.hi.z) := fun q => hc (h1.2 (v3_ext.2 q))
  omega
 obtain ⟨s1, o1, s2, o2⟩ := halves_sub ho hne
 have key : ∀ c : TBox, c.sub b → c.ok → c.err = 0 := by
  intro c hs hk
  have hcm := count_mono hs hk
  obtain ⟨a1, a2, a3⟩ := inS_iff.1 hin.1
  obtain ⟨c1, c2, c3⟩ := inS_iff.1 hin.2
  have hs' := hs
  have hk' := hk
  unfold TBox.sub TBox.rx TBox.ry TBox.rz Rg.sub at hs'
  unfold TBox.ok TBox.rx TBox.ry TBox.rz Rg.ok at hk'
  simp only at hs' hk'
  have e1 : c.lo.inS 20 = true := inS_iff.2 (by omega)
  have e2 : c.hi.inS 20 = true := inS_iff.2 (by omega)
  have hb := h
  unfold TBox.err at hb ⊢
  rw [firstNZ_cons, firstNZ_cons, firstNZ_cons] at hb ⊢
  obtain ⟨_, _, h3, h4⟩ := hb
  rw [unl_0 (by decide), decide_eq_true_eq] at h3
  refine ⟨by rw [e1, e2]; rfl, ?_, ?_, h4⟩
  ·rw [unl_0 (by decide)]; simp only [Bool.and_eq_true, decide_eq_true_eq]; exact ⟨⟨hk'.1, hk'.2.1⟩, hk'.2.2⟩
  ·rw [unl_0 (by decide), decide_eq_true_eq]; omega
 exact ⟨key _ s1 o1, key _ s2 o2, s1, s2⟩
structure ExH (m : TMod) (b : TBox) (l : List THit) (p : V3) (t : Int) : Prop where
 hm : m.err = 0
 hb : b.err = 0
 hh : hitsE l = 0
 hq : momE p t = 0
theorem ExH.w {m : TMod} {b : TBox} {l : List THit} {p : V3} {t : Int} (h : ExH m b l p t) : ∀ x ∈ l, 0 ≤ x.w := by
 intro x hx
 obtain ⟨i, hi, e⟩ := List.getElem_of_mem hx
 have := (hitsE_ok h.hh).2 i hi
 rw [show hitAt l i = x by simp [hitAt, List.getD, hi, e]] at this
 exact this.w.1
theorem ExH.ans {m : TMod} {b : TBox} {l : List THit} {p : V3} {t : Int} (h : ExH m b l p t) : firstNZ [firstNZ [m.err, b.err], momE p t, unl (canW m b) 12] = unl (canW m b) 12 := by
 rw [h.hm, h.hb, h.hq]; cases canW m b <;> rfl
theorem ExH.can {m : TMod} {b : TBox} {l : List THit} {p : V3} {t : Int} (h : ExH m b l p t) : canW m b = true ↔ m.canBe b := by
 have hb := box_in h.hb
 rw [canW_eq hb.1 hb.2]; exact canB_iff
theorem ExH.steps {m : TMod} {b : TBox} {l : List THit} {p : V3} {t : Int} (h : ExH m b l p t) : stepsL m b = m.steps b ∧ firstNZ [m.err, b.err] = 0 := by
 have e : firstNZ [m.err, b.err] = 0 := by rw [h.hm, h.hb]; rfl
 exact ⟨if_neg (by rw [e]; simp), e⟩
theorem ExH.len {m : TMod} {b : TBox} {l : List THit} {p : V3} {t : Int} (h : ExH m b l p t) : ((m.steps b).length : Int) ≤ b.count := by
 have h1 := List.length_filter_le m.permB b.all
 have h2 := len_all (box_ok h.hb)
 unfold TMod.steps
 omega
theorem ExH.none {m : TMod} {b : TBox} {l : List THit} {p : V3} {t : Int} (h : ExH m b l p t) (hc : canW m b = false) : m.steps b = [] := by
 rw [List.eq_nil_iff_forall_not_mem]
 intro s hs
 obtain ⟨h1, h2⟩ := mem_steps.1 hs
 rw [h.can.2 (canBe_of h1 h2)] at hc
 cases hc
theorem ExH.step {m : TMod} {b : TBox} {l : List THit} {p : V3} {t : Int} (h : ExH m b l p t) {s : V3} (hs : s ∈ m.steps b) : m.stE s = 0 ∧ m.both s = 0 ∧ (m.ans b p t = 2 → m.reached s p t = true) ∧ (m.ans b p t = 0 → m.reached s p t = false) ∧ inB (m.score s l) (m.scores b l).lo (m.scores b l).hi = true := by
 have hin := box_in h.hb
 have h0 := stE_of hs hin.1 hin.2
 obtain ⟨h1, h2⟩ := mem_steps.1 hs
 have ho := err_ok h.hm
 have ha := ans_sure (p := p) (t := t) h1 h2 ho.slo
 refine ⟨h0, ?_, ha.1, ha.2, ?_⟩
 ·unfold TMod.both
  rw [h0, h.hm]; rfl
 ·have := score_has h1 h2 ho.slp ho.slo ⟨ho.ea.1, ho.la.1⟩ ⟨ho.mi.1, ho.no.1⟩ h.w
  rw [inB_true]; exact this
theorem ExH.part {m : TMod} {b c : TBox} {l : List THit} {p : V3} {t : Int} (h : ExH m b l p t) (hc : ExH m c l p t) (hs : c.sub b) (hb : canW m c = true) : (m.ans b p t = 2 → m.ans c p t = 2) ∧ (m.ans b p t = 0 → m.ans c p t = 0) ∧ (m.scores c l).hi ≤ (m.scores b l).hi ∧ (0 < (m.steps c).length → (m.scores b l).lo ≤ (m.scores c l).lo) := by
 have ho := err_ok h.hm
 have hk := box_ok hc.hb
 have h1 := ans_part (p := p) (t := t) hs hk (hc.can.1 hb) ho.ord ho.slo
 have h2 := scores_part (l := l) hs hk (hc.can.1 hb) ho.ord ho.slp ho.slo ⟨ho.ea.1, ho.la.1⟩ ⟨ho.mi.1, ho.no.1⟩ h.w
 refine ⟨h1.1, h1.2, h2.1, fun hl => h2.2 ?_⟩
 have hm := plAt_in hl
 exact ⟨_, mem_steps.1 hm⟩
def vc_law05_small (b0 b1 b2 b3 b4 b5 : Int) (post : DV → Prop) : Prop := (cond ((((⟨⟨b0, b1, b2⟩, ⟨b3, b4, b5⟩⟩ : TBox)).err) != (0 : Int)) ((true = true) ∧ (True)) ((((⟨⟨b0, b1, b2⟩, ⟨b3, b4, b5⟩⟩ : TBox)).lo.inS 20 = true ∧ ((⟨⟨b0, b1, b2⟩, ⟨b3, b4, b5⟩⟩ : TBox)).hi.inS 20 = true) ∧ (True))) ∧ (lt ((bif ((((⟨⟨b0, b1, b2⟩, ⟨b3, b4, b5⟩⟩ : TBox)).err) != (0 : Int)) then true else decide ((((⟨⟨b0, b1, b2⟩, ⟨b3, b4, b5⟩⟩ : TBox)).count) ≤ (120 : Int)))) fun x1 => post (.t (.c (.v (.bool x1)))))
def ann_law05_small : Ann := ⟨fun _ => none, fun _ => none, fun _ => [], I49, false, fun r => lookA r [(1, (4, [2]))], fun _ => none⟩
theorem ev_law05_small (J : Inv) (b0 b1 b2 b3 b4 b5 : Int) (post : DV → Prop) : evFn Try.prog tab S57 ann_law05_small J Try.f53 [.t (.a [.v (.int .i64 b0), .v (.int .i64 b1), .v (.int .i64 b2), .v (.int .i64 b3), .v (.int .i64 b4), .v (.int .i64 b5)])] post = vc_law05_small b0 b1 b2 b3 b4 b5 post := by kernel_rfl
theorem fit_law05_small : okFn ann_law05_small Try.f53 = true := by kernel_rfl
theorem lp_law05_small (J : Inv) (post : DV → Prop) : AllG J (loopsFn Try.prog tab S57 ann_law05_small J Try.f53 post) = (True) := by kernel_rfl
theorem spec_law05_small (b0 b1 b2 b3 b4 b5 : Int) : vc_law05_small b0 b1 b2 b3 b4 b5 (fun r => LeD r (.t (.c (.v (.bool (smallB (⟨⟨b0, b1, b2⟩, ⟨b3, b4, b5⟩⟩ : TBox))))))) := by
 unfold vc_law05_small
 refine ⟨cond_i (fun h => ⟨rfl, trivial⟩) (fun h => ⟨?_, trivial⟩), lt_i fun x hx => leB ?_⟩
 ·exact box_in (by simpa using h)
 ·rw [← hx]
  unfold smallB
  by_cases h : (⟨⟨b0, b1, b2⟩, ⟨b3, b4, b5⟩⟩ : TBox).err = 0
  ·simp [h]
  ·have h2 : ((⟨⟨b0, b1, b2⟩, ⟨b3, b4, b5⟩⟩ : TBox).err != (0 : Int)) = true := by simpa using h
   rw [h2]; simp [h]
def con_law05_small : Con := fun args => match args with
 | [.t (.a [.v (.int .i64 b0), .v (.int .i64 b1), .v (.int .i64 b2), .v (.int .i64 b3), .v (.int .i64 b4), .v (.int .i64 b5)])] => some (.t (.c (.v (.bool (smallB (⟨⟨b0, b1, b2⟩, ⟨b3, b4, b5⟩⟩ : TBox))))), none, false)
 | _ => none
theorem ok_law05_small : Ok Try.prog 53 con_law05_small := by
 refine Ok.fn (ann := ann_law05_small) mixed tabOK VS57 VI49 (fn := Try.f53) (by kernel_rfl) (by kernel_rfl) fit_law05_small fun args r pre fresh h hp => ?_
 unfold con_law05_small at h
 split at h
 ·rename_i b0 b1 b2 b3 b4 b5
  cases h
  refine ⟨rfl, fun _ _ _ => False, _, LeA.refl _, Nat.le_of_ble_eq_true (by kernel_rfl), ?_, ?_⟩
  ·rw [ev_law05_small]; exact spec_law05_small b0 b1 b2 b3 b4 b5
  ·rw [lp_law05_small]; trivial
 ·cases h
def S58 : Sum := addS S57 53 con_law05_small
theorem VS58 : Valid Try.prog S58 := Valid.add VS57 ok_law05_small
def S59 : Sum := S58
theorem VS59 : Valid Try.prog S59 := VS58
def S60 : Sum := S59
theorem VS60 : Valid Try.prog S60 := VS59
end Go.Proofs.Ytlmdmpjfehpjeaa
set_option linter.unusedVariables false
set_option linter.unusedSimpArgs false
namespace Go.Proofs.Ytlmdmpjfehpjeaa
open Go.RowKit
end Go.Proofs.Ytlmdmpjfehpjeaa
set_option linter.unusedVariables false
set_option linter.unusedSimpArgs false
namespace Go.Proofs.Ytlmdmpjfehpjeaa
open Go.RowKit
def RetNums (w : World) (l : List Int) (e : Ending) (w' : World) : Prop := ∃ ao cap, e = .returned (.slice ao l.length cap) ∧ IntsAt w' (.slice ao l.length cap) l ∧ Below w.heap.size w w'
theorem ownsRow_nums {w : World} {base : Nat} {e : TypeId} {v : Value} {l : List Int} (h : w.ownsRow base e 1 v l.length (l.map (Value.int .i64))) : ∃ ao cap, v = .slice ao l.length cap ∧ IntsAt w (.slice ao l.length cap) l := by
 have h0 : w.ownsRow base e 1 v l.length (flat l.length 1 (fun i _ => .int .i64 (nth l i))) := by rw [flat_ints]; exact h
 have h1 : IntsAt w v l := ownsRow_sl h0
 obtain ⟨ao, cap, rfl, _, _, _⟩ := h1.opn
 exact ⟨ao, cap, rfl, h1⟩
theorem pens_take (m : TMod) (s : V3) {l : List THit} {k : Nat} (h : k < l.length) : m.pens s (l.take (k + 1)) = m.pens s (l.take k) ++ [m.pen s (hitAt l k)] := by
 rw [hitAt_take h]; unfold TMod.pens; rw [List.map_append]; rfl
theorem pens_len (m : TMod) (s : V3) (l : List THit) : (m.pens s l).length = l.length := by unfold TMod.pens; simp
set_option maxRecDepth 100000 in
set_option maxHeartbeats 16000000 in
theorem ref_Penalties (m : TMod) (s : V3) (l : List THit) (v : Value) (w : World) (h : HitsAt w v l) (hl : l.length ≤ 12) (hok : ∀ i, i < l.length → (hitAt l i).Ok) (ho : m.Ok) (hs : s.inS 20 = true) (hpm : m.permit s) :
  Calls Try.prog 35 #[m.v, s.v, v] w (RetNums w (m.pens s l)) := by
 obtain ⟨ao, cap, rfl, h1, h2, h3⟩ := h.opn
 unfold maxLen at h2
 have HR1 : Hid (∀ k, k < l.length → ∀ W, Calls Try.prog 22 #[m.v, s.v, .agg #[.int .i64 (hitAt l k).p.x, .int .i64 (hitAt l k).p.y, .int .i64 (hitAt l k).p.z], .int .i64 ((hitAt l k).t + m.ea)] W fun e w' => e = .returned (.bool (m.reached s (hitAt l k).p ((hitAt l k).t + m.ea))) ∧ Below W.heap.size W w') := hid (fun k hk W => ref_Reached m s _ _ W ho hs hpm (hok k hk).p (by have h1 := (hok k hk).t; have h2 := ho.ea; omega))
 have HR2 : Hid (∀ k, k < l.length → ∀ W, Calls Try.prog 22 #[m.v, s.v, .agg #[.int .i64 (hitAt l k).p.x, .int .i64 (hitAt l k).p.y, .int .i64 (hitAt l k).p.z], .int .i64 ((hitAt l k).t - m.la - 1)] W fun e w' => e = .returned (.bool (m.reached s (hitAt l k).p ((hitAt l k).t - m.la - 1))) ∧ Below W.heap.size W w') := hid (fun k hk W => ref_Reached m s _ _ W ho hs hpm (hok k hk).p (by have h1 := (hok k hk).t; have h2 := ho.la; omega))
 have HTM : Hid (∀ k, k < l.length → -10000 ≤ (hitAt l k).t ∧ (hitAt l k).t ≤ 10000) := hid (fun k hk => (hok k hk).t)
 have HPR : Hid (∀ k, k < l.length → IntKind.i64.wrap ((hitAt l k).w * m.mi) = (hitAt l k).w * m.mi ∧ IntKind.i64.wrap ((hitAt l k).w * m.no) = (hitAt l k).w * m.no) := hid (fun k hk => by
  have g1 := mul_rg (x := (hitAt l k).w) (y := m.mi) (A := 100) (B := 100) (C := 10000) (by have := (hok k hk).w; omega) (by have := ho.mi; omega) (by decide)
  have g2 := mul_rg (x := (hitAt l k).w) (y := m.no) (A := 100) (B := 100) (C := 10000) (by have := (hok k hk).w; omega) (by have := ho.no; omega) (by decide)
  exact ⟨IntWalk.i64_in _ (by omega), IntWalk.i64_in _ (by omega)⟩)
 have HEA : Hid ((0 ≤ m.ea ∧ m.ea ≤ 100) ∧ (0 ≤ m.la ∧ m.la ≤ 100)) := hid ⟨ho.ea, ho.la⟩
 have HPN : Hid (∀ k, m.pen s (hitAt l k) = if m.reached s (hitAt l k).p ((hitAt l k).t + m.ea) = false then (hitAt l k).w * m.mi else if m.reached s (hitAt l k).p ((hitAt l k).t - m.la - 1) = true then (hitAt l k).w * m.no else 0) := hid (fun k => rfl)
 have HST : Hid (∀ k, k < l.length → m.pens s (l.take (k + 1)) = m.pens s (l.take k) ++ [m.pen s (hitAt l k)]) := hid (fun k hk => pens_take m s hk)
 have HLN : Hid (∀ k, k ≤ l.length → (m.pens s (l.take k)).length = k) := hid (fun k hk => by rw [pens_len, List.length_take]; omega)
 have HS0 : Hid (m.pens s (l.take 0) = []) := hid (by simp [TMod.pens])
 have HSN : Hid (m.pens s (l.take l.length) = m.pens s l ∧ (m.pens s l).length = l.length) := hid ⟨by rw [List.take_length], pens_len m s l⟩
 generalize hSC : m.pens s l = SC at HSN ⊢
 clear hSC
 generalize hFK : (fun k => m.pens s (l.take k)) = FK
 have HFK : Hid (∀ k, m.pens s (l.take k) = FK k) := hid (fun k => by rw [← hFK])
 simp only [HFK.out] at HST HLN HS0 HSN
 clear hFK HFK
 generalize hPK : (fun k => m.pen s (hitAt l k)) = PK
 have HPK : Hid (∀ k, m.pen s (hitAt l k) = PK k) := hid (fun k => by rw [← hPK])
 simp only [HPK.out] at HST HPN
 clear hPK HPK
 generalize m.reached s = RR at HR1 HR2 HPN
 clear h hok ho hs hpm
 obtain ⟨px, py, pz, tm, tk, lo, hi, li, ea, la, no, mi⟩ := m
 obtain ⟨sx, sy, sz⟩ := s
 unfold TMod.v V3.v at *
 simp only at *
 obtain ⟨W0, hW0⟩ : ∃ W0, W0 = (w.alloc (.cells #[.int .i64 px, .int .i64 py, .int .i64 pz, .int .i64 tm, .int .i64 tk, .int .i64 lo, .int .i64 hi, .int .i64 li, .int .i64 ea, .int .i64 la, .int .i64 no, .int .i64 mi] 26)).alloc (.cells #[.int .i64 sx, .int .i64 sy, .int .i64 sz] 22) := ⟨_, rfl⟩
 have hbW0 : Below w.heap.size w W0 := by rw [hW0]; exact BelowA
 obtain ⟨q0, q1, l0, l1⟩ := al2 w _ _ _ _ W0 hW0
 have Q0 := hid q0
 have Q1 := hid q1
 have hzW0 := hbW0.size
 clear q0 q1
 go_enter Try.func35, Try.ntmps35
 go_wp2_with fail
 rw [← hW0]
 clear hW0
 go_loopw [7, 8] (fun o i wr => ∃ (k : Nat), k ≤ l.length ∧ i = .int .i64 k ∧ wr.ownsRow W0.heap.size 3 1 o k ((FK k).map (Value.int .i64)) ∧ Below W0.heap.size W0 wr) (fun _ i _ => l.length - (intOf i).toNat)
 case atStart => exact ⟨0, Nat.zero_le _, rfl, by rw [HS0.out]; exact World.ownsRow_nil _ _ _ _, Below.refl _ _⟩
 case round =>
  obtain ⟨k, hk, rfl, hown, hbel⟩ := hrel
  obtain ⟨oo, on, oc, rfl⟩ := ownsRow_shape hown
  have hzr := hbel.size
  have hbx : Below w.heap.size w wr := hbW0.trans (hbel.mono hzW0)
  have HBX := hid hbx
  by_cases hlt : k < l.length
  ·obtain ⟨bb, off, rfl, hb, hcc⟩ := h3 k hlt
   obtain ⟨d0, d1, d2, d3, d4⟩ := hcc k hlt
   have HC1 := hid (HR1.out k hlt)
   have HC2 := hid (HR2.out k hlt)
   have HP := HPR.out k hlt
   have ht := HTM.out k hlt
   have hea := HEA.out
   have HN := hid (HST.out k hlt)
   have HV := hid (HPN.out k)
   have HFL := hid (HLN.out k hk)
   generalize hitAt l k = x at *
   generalize RR x.p (x.t + ea) = R1 at HC1 HV
   generalize RR x.p (x.t - la - 1) = R2 at HC2 HV
   obtain ⟨TE, hTE⟩ : ∃ TE, x.t + ea = TE := ⟨_, rfl⟩
   obtain ⟨TA, hTA⟩ : ∃ TA, x.t - la = TA := ⟨_, rfl⟩
   obtain ⟨TL, hTL⟩ : ∃ TL, TA - 1 = TL := ⟨_, rfl⟩
   have kE : IntKind.i64.wrap (x.t + ea) = TE := by rw [hTE]; exact IntWalk.i64_in _ (by omega)
   have kA : IntKind.i64.wrap (x.t - la) = TA := by rw [hTA]; exact IntWalk.i64_in _ (by omega)
   have kL : IntKind.i64.wrap (TA - 1) = TL := by rw [hTL]; exact IntWalk.i64_in _ (by omega)
   rw [hTE] at HC1
   rw [hTA, hTL] at HC2
   obtain ⟨MI, hMI⟩ : ∃ MI, x.w * mi = MI := ⟨_, rfl⟩
   obtain ⟨NO, hNO⟩ : ∃ NO, x.w * no = NO := ⟨_, rfl⟩
   have kM : IntKind.i64.wrap (x.w * mi) = MI := by rw [HP.1]; exact hMI
   have kN : IntKind.i64.wrap (x.w * no) = NO := by rw [HP.2]; exact hNO
   rw [hMI, hNO] at HV
   generalize PK k = PN at HV HN
   generalize hFX : FK k = xs at hown HN HFL
   clear hFX
   obtain ⟨⟨x0, x1, x2⟩, t, u⟩ := x
   simp only at *
   clear HP hTE hTA hTL hMI hNO hcc h3 HR1 HR2 HTM HPR HPN HST HLN ht hea hbx
   have lay : ∀ w2 : World, Below wr.heap.size wr w2 → Below W0.heap.size W0 w2 := fun w2 h => hbel.trans (h.mono hzr)
   have LAY := hid lay
   clear lay
   have hb0 : Below w.heap.size w wr := HBX.out
   have e0 : wr.cell? ⟨bb, off + k * 5, none⟩ = some (.int .i64 x0) := (hb0.cell (p := ⟨bb, _, none⟩) hb).trans d0
   have e1 : wr.cell? ⟨bb, off + k * 5 + 1, none⟩ = some (.int .i64 x1) := (hb0.cell (p := ⟨bb, _, none⟩) hb).trans d1
   have e2 : wr.cell? ⟨bb, off + k * 5 + 2, none⟩ = some (.int .i64 x2) := (hb0.cell (p := ⟨bb, _, none⟩) hb).trans d2
   have e3 : wr.cell? ⟨bb, off + k * 5 + 3, none⟩ = some (.int .i64 t) := (hb0.cell (p := ⟨bb, _, none⟩) hb).trans d3
   have hbw : bb < wr.heap.size := by omega
   obtain ⟨m0, m1, m2, m3, m4, m5, m6, m7, m8, m9, m10, m11, ml⟩ := tw_cells ((hbel.block w.heap.size l0).trans Q0.out)
   obtain ⟨s0, s1, s2, fs0, fs1, fs2, hls⟩ := three_cells ((hbel.block (w.heap.size + 1) l1).trans Q1.out)
   clear fs0 fs1 fs2
   have D := hid (And.intro d0 (And.intro d1 (And.intro d2 (And.intro d3 d4))))
   have HOWN := hid hown
   clear d0 d1 d2 d3 d4 hown hb0
   go_wp2_with fail
   refine wp_mixC (fun wc => Below (wr.heap.size) wr wc) 17 [.q [0, 1, 2, 3, 4, 5, 6, 7, 8, 9, 10, 11, 12, 13, 14], .f [15], .q [16]] [] (by kernel_rfl) (by kernel_rfl) ((Below.refl _ _).drew) ?_
   intro Q' hQ'
   (rw [wpMixC]; simp only [pick, List.drop_succ_cons, List.drop_zero, List.head?_cons, Option.toList_some, List.cons_append, List.nil_append])
   (repeat (first | go_big_quiet_skip | (go_big_quiet_want; refine quiet_simple rfl ?_; go_big_quiet_op; go_big_quiet_on) | (go_big_quiet_want; refine quiet_cellB (ty := 3) rfl rfl (by kernel_rfl) (by assumption) (by first | omega | (simp; omega)) ?_; simp only [Act.put, List.setIfInBounds_toArray, List.set_cons_succ, List.set_cons_zero]; go_big_quiet_on) | (go_big_quiet_want; refine quiet_agg3B (ty := 22) rfl rfl (by kernel_rfl) (by assumption) (by assumption) (by assumption) (by first | omega | (simp; omega)) ?_; simp only [Act.put, List.setIfInBounds_toArray, List.set_cons_succ, List.set_cons_zero]; go_big_quiet_on) | (go_big_quiet_want; refine quiet_agg12B (ty := 26) rfl rfl (by kernel_rfl) (by assumption) (by assumption) (by assumption) (by assumption) (by assumption) (by assumption) (by assumption) (by assumption) (by assumption) (by assumption) (by assumption) (by assumption) (by first | omega | (simp; omega)) ?_; simp only [Act.put, List.setIfInBounds_toArray, List.set_cons_succ, List.set_cons_zero]; go_big_quiet_on)))
   (try refine wpQuiet_nil ?_)
   (rw [wpMixC]; simp only [pick, List.drop_succ_cons, List.drop_zero, List.head?_cons, Option.toList_some, List.cons_append, List.nil_append])
   (rw [wpSteps]; go_wp2_with ((go_at_call 22; ((with_reducible refine (HC1.out _).mono ?_); rintro _ w2 ⟨rfl, hb2⟩))); rw [contF]; refine ⟨?_, ?_⟩; (next => exact BelowA))
   (rw [wpSteps])
   (rw [wpMixC]; simp only [pick, List.drop_succ_cons, List.drop_zero, List.head?_cons, Option.toList_some, List.cons_append, List.nil_append])
   (repeat (first | go_big_quiet_skip | (go_big_quiet_want; refine quiet_simple rfl ?_; go_big_quiet_op; go_big_quiet_on) | (go_big_quiet_want; refine quiet_cellB (ty := 3) rfl rfl (by kernel_rfl) (by assumption) (by first | omega | (simp; omega)) ?_; simp only [Act.put, List.setIfInBounds_toArray, List.set_cons_succ, List.set_cons_zero]; go_big_quiet_on) | (go_big_quiet_want; refine quiet_agg3B (ty := 22) rfl rfl (by kernel_rfl) (by assumption) (by assumption) (by assumption) (by first | omega | (simp; omega)) ?_; simp only [Act.put, List.setIfInBounds_toArray, List.set_cons_succ, List.set_cons_zero]; go_big_quiet_on) | (go_big_quiet_want; refine quiet_agg12B (ty := 26) rfl rfl (by kernel_rfl) (by assumption) (by assumption) (by assumption) (by assumption) (by assumption) (by assumption) (by assumption) (by assumption) (by assumption) (by assumption) (by assumption) (by assumption) (by first | omega | (simp; omega)) ?_; simp only [Act.put, List.setIfInBounds_toArray, List.set_cons_succ, List.set_cons_zero]; go_big_quiet_on)))
   (try refine wpQuiet_nil ?_)
   (rw [wpMixC])
   (rw [wpMix])
   (refine hQ' _ _ ?_)
   have HB2 : Hid (Below wr.heap.size wr w2) := hid (by exact BelowA)
   clear e0 e1 e2 e3 m0 m1 m2 m3 m4 m5 m6 m7 m8 m9 m10 m11 ml s0 s1 s2 hls hbw hb2
   cases R1
   ·have HPV : Hid (PN = MI) := hid (by rw [HV.out]; rfl)
    have hb2 := HB2.out
    obtain ⟨d0, d1, d2, d3, d4⟩ := D.out
    have e0 : w2.cell? ⟨bb, off + k * 5, none⟩ = some (.int .i64 x0) := ((HBX.out.trans (hb2.mono HBX.out.size)).cell (p := ⟨bb, _, none⟩) hb).trans d0
    have e1 : w2.cell? ⟨bb, off + k * 5 + 1, none⟩ = some (.int .i64 x1) := ((HBX.out.trans (hb2.mono HBX.out.size)).cell (p := ⟨bb, _, none⟩) hb).trans d1
    have e2 : w2.cell? ⟨bb, off + k * 5 + 2, none⟩ = some (.int .i64 x2) := ((HBX.out.trans (hb2.mono HBX.out.size)).cell (p := ⟨bb, _, none⟩) hb).trans d2
    have e3 : w2.cell? ⟨bb, off + k * 5 + 3, none⟩ = some (.int .i64 t) := ((HBX.out.trans (hb2.mono HBX.out.size)).cell (p := ⟨bb, _, none⟩) hb).trans d3
    have e4 : w2.cell? ⟨bb, off + k * 5 + 4, none⟩ = some (.int .i64 u) := ((HBX.out.trans (hb2.mono HBX.out.size)).cell (p := ⟨bb, _, none⟩) hb).trans d4
    have hbw : bb < w2.heap.size := by have := hb2.size; omega
    have hb0 := LAY.out _ hb2
    obtain ⟨m0, m1, m2, m3, m4, m5, m6, m7, m8, m9, m10, m11, ml⟩ := tw_cells ((hb0.block w.heap.size l0).trans Q0.out)
    obtain ⟨s0, s1, s2, fs0, fs1, fs2, hls⟩ := three_cells ((hb0.block (w.heap.size + 1) l1).trans Q1.out)
    clear fs0 fs1 fs2 d0 d1 d2 d3 d4 hb0
    go_wp2_with fail
    refine wp_mixC (fun wc => Below (w2.heap.size) w2 wc) 8 [.q [0, 1, 2, 3, 4, 5, 6, 7]] [.q [8]] (by kernel_rfl) (by kernel_rfl) ((Below.refl _ _).drew) ?_
    intro Q' hQ'
    (rw [wpMixC]; simp only [pick, List.drop_succ_cons, List.drop_zero, List.head?_cons, Option.toList_some, List.cons_append, List.nil_append])
    (repeat (first | go_big_quiet_skip | (go_big_quiet_want; refine quiet_simple rfl ?_; go_big_quiet_op; go_big_quiet_on) | (go_big_quiet_want; refine quiet_cellB (ty := 3) rfl rfl (by kernel_rfl) (by assumption) (by first | omega | (simp; omega)) ?_; simp only [Act.put, List.setIfInBounds_toArray, List.set_cons_succ, List.set_cons_zero]; go_big_quiet_on)))
    (try refine wpQuiet_nil ?_)
    (rw [wpMixC])
    (rw [wpMix]; simp only [pick, List.drop_succ_cons, List.drop_zero, List.head?_cons, Option.toList_some, List.cons_append, List.nil_append])
    (repeat (first | (go_big_quiet_step (fail)) | (quiet_step (fail))))
    (try refine wpQuiet_nil ?_)
    (rw [wpMix])
    (refine hQ' _ _ ?_)
    obtain ⟨V, hV⟩ : ∃ V, V = w2.drew := ⟨_, rfl⟩
    rw [← hV]
    have hbwV : Below wr.heap.size wr V := by rw [hV]; exact hb2.drew
    clear hV e0 e1 e2 e3 e4
    have hownV := ownsRow_below HOWN.out hbwV
    have hbV := LAY.out _ hbwV
    have hzV := hbV.size
    clear m0 m1 m2 m3 m4 m5 m6 m7 m8 m9 m10 m11 ml s0 s1 s2 hls hbw
    go_wp2_with (at_builtin; refine wpList_push rfl _ _ _ rfl elemInt W0.heap.size _ k _ rfl V hownV [.int .i64 MI] rfl (by simp [Value.oneCell']) rfl _ rfl rfl (by omega) (by unfold maxLen; omega) hzV ?_; intro v1 w9 hown3 hb9 _ _)
    go_roundw
    case rel => exact ⟨k + 1, by omega, by go_num, by rw [HN.out, HPV.out, List.map_append]; exact hown3, hbV.trans hb9⟩
    case measure => simp [intOf]; omega
   ·have hb2 := HB2.out
    obtain ⟨d0, d1, d2, d3, d4⟩ := D.out
    have e0 : w2.cell? ⟨bb, off + k * 5, none⟩ = some (.int .i64 x0) := ((HBX.out.trans (hb2.mono HBX.out.size)).cell (p := ⟨bb, _, none⟩) hb).trans d0
    have e1 : w2.cell? ⟨bb, off + k * 5 + 1, none⟩ = some (.int .i64 x1) := ((HBX.out.trans (hb2.mono HBX.out.size)).cell (p := ⟨bb, _, none⟩) hb).trans d1
    have e2 : w2.cell? ⟨bb, off + k * 5 + 2, none⟩ = some (.int .i64 x2) := ((HBX.out.trans (hb2.mono HBX.out.size)).cell (p := ⟨bb, _, none⟩) hb).trans d2
    have e3 : w2.cell? ⟨bb, off + k * 5 + 3, none⟩ = some (.int .i64 t) := ((HBX.out.trans (hb2.mono HBX.out.size)).cell (p := ⟨bb, _, none⟩) hb).trans d3
    have e4 : w2.cell? ⟨bb, off + k * 5 + 4, none⟩ = some (.int .i64 u) := ((HBX.out.trans (hb2.mono HBX.out.size)).cell (p := ⟨bb, _, none⟩) hb).trans d4
    have hbw : bb < w2.heap.size := by have := hb2.size; omega
    have hb0 := LAY.out _ hb2
    obtain ⟨m0, m1, m2, m3, m4, m5, m6, m7, m8, m9, m10, m11, ml⟩ := tw_cells ((hb0.block w.heap.size l0).trans Q0.out)
    obtain ⟨s0, s1, s2, fs0, fs1, fs2, hls⟩ := three_cells ((hb0.block (w.heap.size + 1) l1).trans Q1.out)
    clear fs0 fs1 fs2 d0 d1 d2 d3 d4 hb0
    go_wp2_with fail
    refine wp_mixC (fun wc => Below (w2.heap.size) w2 wc) 17 [.q [0, 1, 2, 3, 4, 5, 6, 7, 8, 9, 10, 11, 12, 13, 14, 15], .f [16]] [] (by kernel_rfl) (by kernel_rfl) ((Below.refl _ _).drew) ?_
    intro Q' hQ'
    (rw [wpMixC]; simp only [pick, List.drop_succ_cons, List.drop_zero, List.head?_cons, Option.toList_some, List.cons_append, List.nil_append])
    (repeat (first | go_big_quiet_skip | (go_big_quiet_want; refine quiet_simple rfl ?_; go_big_quiet_op; go_big_quiet_on) | (go_big_quiet_want; refine quiet_cellB (ty := 3) rfl rfl (by kernel_rfl) (by assumption) (by first | omega | (simp; omega)) ?_; simp only [Act.put, List.setIfInBounds_toArray, List.set_cons_succ, List.set_cons_zero]; go_big_quiet_on) | (go_big_quiet_want; refine quiet_agg3B (ty := 22) rfl rfl (by kernel_rfl) (by assumption) (by assumption) (by assumption) (by first | omega | (simp; omega)) ?_; simp only [Act.put, List.setIfInBounds_toArray, List.set_cons_succ, List.set_cons_zero]; go_big_quiet_on) | (go_big_quiet_want; refine quiet_agg12B (ty := 26) rfl rfl (by kernel_rfl) (by assumption) (by assumption) (by assumption) (by assumption) (by assumption) (by assumption) (by assumption) (by assumption) (by assumption) (by assumption) (by assumption) (by assumption) (by first | omega | (simp; omega)) ?_; simp only [Act.put, List.setIfInBounds_toArray, List.set_cons_succ, List.set_cons_zero]; go_big_quiet_on)))
    (try refine wpQuiet_nil ?_)
    (rw [wpMixC]; simp only [pick, List.drop_succ_cons, List.drop_zero, List.head?_cons, Option.toList_some, List.cons_append, List.nil_append])
    (rw [wpSteps]; go_wp2_with ((go_at_call 22; ((with_reducible refine (HC2.out _).mono ?_); rintro _ w3 ⟨rfl, hb3⟩))); rw [contF]; refine ⟨?_, ?_⟩; (next => exact BelowA))
    (rw [wpSteps])
    (rw [wpMixC])
    (rw [wpMix])
    (refine hQ' _ _ ?_)
    have HB3 : Hid (Below wr.heap.size wr w3) := hid (by exact BelowA)
    clear e0 e1 e2 e3 m0 m1 m2 m3 m4 m5 m6 m7 m8 m9 m10 m11 ml s0 s1 s2 hls hbw e4 hb2 hb3
    cases R2
    ·have HPV : Hid (PN = 0) := hid (by rw [HV.out]; rfl)
     have hb3 := HB3.out
     obtain ⟨d0, d1, d2, d3, d4⟩ := D.out
     have e0 : w3.cell? ⟨bb, off + k * 5, none⟩ = some (.int .i64 x0) := ((HBX.out.trans (hb3.mono HBX.out.size)).cell (p := ⟨bb, _, none⟩) hb).trans d0
     have e1 : w3.cell? ⟨bb, off + k * 5 + 1, none⟩ = some (.int .i64 x1) := ((HBX.out.trans (hb3.mono HBX.out.size)).cell (p := ⟨bb, _, none⟩) hb).trans d1
     have e2 : w3.cell? ⟨bb, off + k * 5 + 2, none⟩ = some (.int .i64 x2) := ((HBX.out.trans (hb3.mono HBX.out.size)).cell (p := ⟨bb, _, none⟩) hb).trans d2
     have e3 : w3.cell? ⟨bb, off + k * 5 + 3, none⟩ = some (.int .i64 t) := ((HBX.out.trans (hb3.mono HBX.out.size)).cell (p := ⟨bb, _, none⟩) hb).trans d3
     have e4 : w3.cell? ⟨bb, off + k * 5 + 4, none⟩ = some (.int .i64 u) := ((HBX.out.trans (hb3.mono HBX.out.size)).cell (p := ⟨bb, _, none⟩) hb).trans d4
     have hbw : bb < w3.heap.size := by have := hb3.size; omega
     have hb0 := LAY.out _ hb3
     obtain ⟨m0, m1, m2, m3, m4, m5, m6, m7, m8, m9, m10, m11, ml⟩ := tw_cells ((hb0.block w.heap.size l0).trans Q0.out)
     obtain ⟨s0, s1, s2, fs0, fs1, fs2, hls⟩ := three_cells ((hb0.block (w.heap.size + 1) l1).trans Q1.out)
     clear fs0 fs1 fs2 d0 d1 d2 d3 d4 hb0
     clear e0 e1 e2 e3 e4
     have hownV := ownsRow_below HOWN.out hb3
     have hbV := LAY.out _ hb3
     have hzV := hbV.size
     clear m0 m1 m2 m3 m4 m5 m6 m7 m8 m9 m10 m11 ml s0 s1 s2 hls hbw
     go_wp2_with (at_builtin; refine wpList_push rfl _ _ _ rfl elemInt W0.heap.size _ k _ rfl w3 hownV [.int .i64 0] rfl (by simp [Value.oneCell']) rfl _ rfl rfl (by omega) (by unfold maxLen; omega) hzV ?_; intro v1 w9 hown3 hb9 _ _)
     go_roundw
     case rel => exact ⟨k + 1, by omega, by go_num, by rw [HN.out, HPV.out, List.map_append]; exact hown3, hbV.trans hb9⟩
     case measure => simp [intOf]; omega
    ·have HPV : Hid (PN = NO) := hid (by rw [HV.out]; rfl)
     have hb3 := HB3.out
     obtain ⟨d0, d1, d2, d3, d4⟩ := D.out
     have e0 : w3.cell? ⟨bb, off + k * 5, none⟩ = some (.int .i64 x0) := ((HBX.out.trans (hb3.mono HBX.out.size)).cell (p := ⟨bb, _, none⟩) hb).trans d0
     have e1 : w3.cell? ⟨bb, off + k * 5 + 1, none⟩ = some (.int .i64 x1) := ((HBX.out.trans (hb3.mono HBX.out.size)).cell (p := ⟨bb, _, none⟩) hb).trans d1
     have e2 : w3.cell? ⟨bb, off + k * 5 + 2, none⟩ = some (.int .i64 x2) := ((HBX.out.trans (hb3.mono HBX.out.size)).cell (p := ⟨bb, _, none⟩) hb).trans d2
     have e3 : w3.cell? ⟨bb, off + k * 5 + 3, none⟩ = some (.int .i64 t) := ((HBX.out.trans (hb3.mono HBX.out.size)).cell (p := ⟨bb, _, none⟩) hb).trans d3
     have e4 : w3.cell? ⟨bb, off + k * 5 + 4, none⟩ = some (.int .i64 u) := ((HBX.out.trans (hb3.mono HBX.out.size)).cell (p := ⟨bb, _, none⟩) hb).trans d4
     have hbw : bb < w3.heap.size := by have := hb3.size; omega
     have hb0 := LAY.out _ hb3
     obtain ⟨m0, m1, m2, m3, m4, m5, m6, m7, m8, m9, m10, m11, ml⟩ := tw_cells ((hb0.block w.heap.size l0).trans Q0.out)
     obtain ⟨s0, s1, s2, fs0, fs1, fs2, hls⟩ := three_cells ((hb0.block (w.heap.size + 1) l1).trans Q1.out)
     clear fs0 fs1 fs2 d0 d1 d2 d3 d4 hb0
     go_wp2_with fail
     refine wp_mixC (fun wc => Below (w3.heap.size) w3 wc) 8 [.q [0, 1, 2, 3, 4, 5, 6, 7]] [.q [8]] (by kernel_rfl) (by kernel_rfl) ((Below.refl _ _).drew) ?_
     intro Q' hQ'
     (rw [wpMixC]; simp only [pick, List.drop_succ_cons, List.drop_zero, List.head?_cons, Option.toList_some, List.cons_append, List.nil_append])
     (repeat (first | go_big_quiet_skip | (go_big_quiet_want; refine quiet_simple rfl ?_; go_big_quiet_op; go_big_quiet_on) | (go_big_quiet_want; refine quiet_cellB (ty := 3) rfl rfl (by kernel_rfl) (by assumption) (by first | omega | (simp; omega)) ?_; simp only [Act.put, List.setIfInBounds_toArray, List.set_cons_succ, List.set_cons_zero]; go_big_quiet_on)))
     (try refine wpQuiet_nil ?_)
     (rw [wpMixC])
     (rw [wpMix]; simp only [pick, List.drop_succ_cons, List.drop_zero, List.head?_cons, Option.toList_some, List.cons_append, List.nil_append])
     (repeat (first | (go_big_quiet_step (fail)) | (quiet_step (fail))))
     (try refine wpQuiet_nil ?_)
     (rw [wpMix])
     (refine hQ' _ _ ?_)
     obtain ⟨V, hV⟩ : ∃ V, V = w3.drew := ⟨_, rfl⟩
     rw [← hV]
     have hbwV : Below wr.heap.size wr V := by rw [hV]; exact hb3.drew
     clear hV e0 e1 e2 e3 e4
     have hownV := ownsRow_below HOWN.out hbwV
     have hbV := LAY.out _ hbwV
     have hzV := hbV.size
     clear m0 m1 m2 m3 m4 m5 m6 m7 m8 m9 m10 m11 ml s0 s1 s2 hls hbw
     go_wp2_with (at_builtin; refine wpList_push rfl _ _ _ rfl elemInt W0.heap.size _ k _ rfl V hownV [.int .i64 NO] rfl (by simp [Value.oneCell']) rfl _ rfl rfl (by omega) (by unfold maxLen; omega) hzV ?_; intro v1 w9 hown3 hb9 _ _)
     go_roundw
     case rel => exact ⟨k + 1, by omega, by go_num, by rw [HN.out, HPV.out, List.map_append]; exact hown3, hbV.trans hb9⟩
     case measure => simp [intOf]; omega
  ·have hkl : k = l.length := by omega
   subst hkl
   have e1 := HSN.out
   rw [e1.1] at hown
   have hlen := e1.2
   have HO := hid hown
   clear hown e1
   go_wp2_with fail
   ((try simp only [Exit.inBlock, Exit.then]); refine bodyPost_ret (v := .slice oo on oc) ?_ rfl ?_; (next => simp [results, Try.results35, go_sem]))
   obtain ⟨a2, c2, h5, h6⟩ := ownsRow_nums (l := SC) (by rw [hlen]; exact HO.out)
   exact ⟨a2, c2, by rw [h5], h6, hbx⟩
end Go.Proofs.Ytlmdmpjfehpjeaa
set_option linter.unusedVariables false
set_option linter.unusedSimpArgs false
namespace Go.Proofs.Ytlmdmpjfehpjeaa
open Go.RowKit
def totI (l : List Int) : Int := l.foldl (· + ·) 0
theorem tot_take {l : List Int} {k : Nat} (h : k < l.length) : totI (l.take (k + 1)) = totI (l.take k) + nth l k := by
 have e : l.take (k + 1) = l.take k ++ [nth l k] := by
  unfold nth
  rw [List.take_succ_eq_append_getElem h, List.getD_eq_getElem?_getD, List.getElem?_eq_getElem h]; rfl
 rw [e]; unfold totI; rw [List.foldl_append]; rfl
theorem pens_rg {m : TMod} {s : V3} {l : List THit} (ho : m.Ok) (hok : ∀ i, i < l.length → (hitAt l i).Ok) : ∀ k, k < l.length → -10000 ≤ nth (m.pens s l) k ∧ nth (m.pens s l) k ≤ 10000 := by
 intro k hk
 have e : nth (m.pens s l) k = m.pen s (hitAt l k) := by
  unfold nth TMod.pens
  rw [List.getD_eq_getElem?_getD, List.getElem?_map, List.getElem?_eq_getElem hk, hitAt_lt hk]; rfl
 rw [e]; exact pen_rg ho (hok k hk)
set_option maxRecDepth 100000 in
set_option maxHeartbeats 8000000 in
theorem ref_Score (m : TMod) (s : V3) (l : List THit) (v : Value) (w : World) (h : HitsAt w v l) (hl : l.length ≤ 12) (hok : ∀ i, i < l.length → (hitAt l i).Ok) (ho : m.Ok) (hs : s.inS 20 = true) (hpm : m.permit s) :
  Calls Try.prog 36 #[m.v, s.v, v] w fun e w' => e = .returned (.int .i64 (m.score s l)) ∧ Below w.heap.size w w' := by
 have HP : Hid (∀ W, Below w.heap.size w W → Calls Try.prog 35 #[m.v, s.v, v] W (RetNums W (m.pens s l))) := hid (fun W hb => ref_Penalties m s l v W (h.below hb) hl hok ho hs hpm)
 have HLN : Hid ((m.pens s l).length ≤ 12) := hid (by rw [pens_len]; exact hl)
 have HRG : Hid (∀ k, k < (m.pens s l).length → -10000 ≤ nth (m.pens s l) k ∧ nth (m.pens s l) k ≤ 10000) := hid (fun k hk => pens_rg ho hok k (by rw [pens_len] at hk; exact hk))
 have HV : Hid (m.score s l = totI (m.pens s l)) := hid rfl
 generalize m.score s l = SC at HV ⊢
 generalize m.pens s l = ps at HP HLN HRG HV
 have HST : Hid (∀ k, k < ps.length → totI (ps.take (k + 1)) = totI (ps.take k) + nth ps k) := hid (fun k hk => tot_take hk)
 have HS0 : Hid (totI (ps.take 0) = 0) := hid (by simp [totI])
 have HSN : Hid (totI (ps.take ps.length) = SC) := hid (by rw [List.take_length]; exact HV.out.symm)
 generalize hFK : (fun k => totI (ps.take k)) = FK
 have HFK : Hid (∀ k, totI (ps.take k) = FK k) := hid (fun k => by rw [← hFK])
 simp only [HFK.out] at HST HS0 HSN
 clear hFK HFK HV
 obtain ⟨ao, cap, rfl, _, _, _⟩ := h.opn
 clear h hok ho hs hpm
 obtain ⟨px, py, pz, tm, tk, lo, hi, li, ea, la, no, mi⟩ := m
 obtain ⟨sx, sy, sz⟩ := s
 unfold TMod.v V3.v at *
 simp only at *
 obtain ⟨W0, hW0⟩ : ∃ W0, W0 = (w.alloc (.cells #[.int .i64 px, .int .i64 py, .int .i64 pz, .int .i64 tm, .int .i64 tk, .int .i64 lo, .int .i64 hi, .int .i64 li, .int .i64 ea, .int .i64 la, .int .i64 no, .int .i64 mi] 26)).alloc (.cells #[.int .i64 sx, .int .i64 sy, .int .i64 sz] 22) := ⟨_, rfl⟩
 have hbW0 : Below w.heap.size w W0 := by rw [hW0]; exact BelowA
 have hzW0 := hbW0.size
 go_enter Try.func36, Try.ntmps36
 go_wp2_with (go_at_call 35; rw [← hW0]; refine (HP.out _ hbW0).mono ?_; rintro _ w1 ⟨ao1, cap1, rfl, hv1, hb1⟩)
 obtain ⟨ao1', cap1', ea, g1, g2, g3⟩ := hv1.opn
 cases ea
 unfold maxLen at g2
 have hbf : Below w.heap.size w w1 := hbW0.trans (hb1.mono hzW0)
 have HLN2 := HLN.out
 clear hW0 hv1 hb1
 go_loopw [7, 9] (fun n i wr => ∃ (k : Nat) (N : Int), k ≤ ps.length ∧ i = .int .i64 k ∧ n = .int .i64 N ∧ Hid (N = FK k) ∧ -10000 * (k : Int) ≤ N ∧ N ≤ 10000 * (k : Int) ∧ wr = w1) (fun _ i _ => ps.length - (intOf i).toNat)
 case atStart => exact ⟨0, 0, Nat.zero_le _, rfl, rfl, hid HS0.out.symm, by omega, by omega, rfl⟩
 case round =>
  obtain ⟨k, N, hk, rfl, rfl, HN, hN1, hN2, rfl⟩ := hrel
  by_cases hlt : k < ps.length
  ·obtain ⟨b, off, rfl, hb, hc⟩ := g3 k hlt
   have c0 := hc k hlt
   have hR := HRG.out k hlt
   have HT := hid (HST.out k hlt)
   generalize nth ps k = PN at c0 hR HT
   clear hc g3
   go_wp2_with fail
   go_roundw
   case rel => exact ⟨k + 1, N + PN, by omega, by go_num, by go_num, hid (by rw [HT.out, HN.out]), by push_cast; omega, by push_cast; omega, by first | rfl | trivial⟩
   case measure => simp [intOf]; omega
  ·have hkl : k = ps.length := by omega
   subst hkl
   go_wp2_with fail
   go_ret
   exact ⟨ret_int (by rw [HN.out]; exact HSN.out), hbf⟩
end Go.Proofs.Ytlmdmpjfehpjeaa