/- Texts of this claim, together. -/
import Derived.Test.YtlmdmpjfehpjeaaQ10
import Derived.Test.YtlmdmpjfehpjeaaQ11
import Derived.Test.YtlmdmpjfehpjeaaQ5

/- Tracks, by the checker: steps of boxes. -/
set_option linter.unusedVariables false
set_option linter.unusedSimpArgs false
namespace Go.Proofs.Ytlmdmpjfehpjeaa
open Go.RowKit Ev

theorem upto_cons {lo hi : Int} (h : lo ≤ hi) : upto lo hi = lo :: upto (lo + 1) hi := by
  unfold upto
  rw [show (hi - lo + 1).toNat = (hi - (lo + 1) + 1).toNat + 1 by omega, List.range_succ_eq_map, List.map_cons, List.map_map]
  congr 1
  · simp
  · apply List.map_congr_left
    intro k _
    simp only [Function.comp_def, Nat.succ_eq_add_one]
    omega
theorem upto_nil {lo hi : Int} (h : hi < lo) : upto lo hi = [] := by
  unfold upto
  rw [show (hi - lo + 1).toNat = 0 by omega]; rfl
def restZ (b : TBox) (x y z : Int) : List V3 := (upto z b.hi.z).map fun z => ⟨x, y, z⟩
def restY (b : TBox) (x y : Int) : List V3 := (upto y b.hi.y).flatMap fun y => restZ b x y b.lo.z
def restX (b : TBox) (x : Int) : List V3 := (upto x b.hi.x).flatMap fun x => restY b x b.lo.y
theorem restX_cons {b : TBox} {x : Int} (h : x ≤ b.hi.x) : restX b x = restY b x b.lo.y ++ restX b (x + 1) := by unfold restX; rw [upto_cons h]; rfl
theorem restX_nil {b : TBox} {x : Int} (h : b.hi.x < x) : restX b x = [] := by unfold restX; rw [upto_nil h]; rfl
theorem restY_cons {b : TBox} {x y : Int} (h : y ≤ b.hi.y) : restY b x y = restZ b x y b.lo.z ++ restY b x (y + 1) := by unfold restY; rw [upto_cons h]; rfl
theorem restY_nil {b : TBox} {x y : Int} (h : b.hi.y < y) : restY b x y = [] := by unfold restY; rw [upto_nil h]; rfl
theorem restZ_cons {b : TBox} {x y z : Int} (h : z ≤ b.hi.z) : restZ b x y z = ⟨x, y, z⟩ :: restZ b x y (z + 1) := by unfold restZ; rw [upto_cons h]; rfl
theorem restZ_nil {b : TBox} {x y z : Int} (h : b.hi.z < z) : restZ b x y z = [] := by unfold restZ; rw [upto_nil h]; rfl
def v3Cv (s : V3) : List CV := [.v (.int .i64 s.x), .v (.int .i64 s.y), .v (.int .i64 s.z)]
theorem le_v3 (l : List V3) : LeD (.t (.c (.sl 3 (l.map v3Cv).length (genC (l.map v3Cv))))) (.t (.c (.sl 3 l.length (plsC l)))) := by
  rw [List.length_map]
  refine le_sl fun i j hi hj => ?_
  unfold genC plsC plAt
  simp only [List.getD_eq_getElem?_getD, List.getElem?_map, List.getElem?_eq_getElem hi, Option.map_some, Option.getD_some]
  rcases (by omega : j = 0 ∨ j = 1 ∨ j = 2) with rfl | rfl | rfl <;> rfl
theorem v3_ext {a b : V3} : a = b ↔ a.x = b.x ∧ a.y = b.y ∧ a.z = b.z := by
  obtain ⟨_, _, _⟩ := a
  obtain ⟨_, _, _⟩ := b
  simp
instance : DecidableEq V3 := fun a b => decidable_of_iff _ v3_ext.symm
theorem drop_cons {l : List V3} {k : Nat} {s : V3} {r : List V3} (h : l.drop k = s :: r) : k < l.length ∧ plAt l k = s ∧ l.drop (k + 1) = r := by
  have hl : k < l.length := by
    rcases Nat.lt_or_ge k l.length with h1 | h1
    · exact h1
    · rw [List.drop_eq_nil_of_le h1] at h; cases h
  rw [List.drop_eq_getElem_cons hl] at h
  injection h with h1 h2
  exact ⟨hl, by simp [plAt, List.getD, hl, h1], h2⟩
theorem sm_in {s : V3} (hx : -20 ≤ s.x ∧ s.x ≤ 20) (hy : -20 ≤ s.y ∧ s.y ≤ 20) (hz : -20 ≤ s.z ∧ s.z ≤ 20) : s.sm s := by
  have h1 := mul_rg (C := 400) hx hx (by decide)
  have h2 := mul_rg (C := 400) hy hy (by decide)
  have h3 := mul_rg (C := 400) hz hz (by decide)
  unfold V3.sm
  omega
theorem sm_box {b : TBox} {s : V3} (h : b.has s) (hl : b.lo.inS 20 = true) (hh : b.hi.inS 20 = true) : s.sm s := by
  obtain ⟨a1, a2, a3⟩ := inS_iff.1 hl
  obtain ⟨c1, c2, c3⟩ := inS_iff.1 hh
  unfold TBox.has TBox.rx TBox.ry TBox.rz Rg.has at h
  simp only at h
  exact sm_in (by omega) (by omega) (by omega)
theorem plAt_in {l : List V3} {k : Nat} (h : k < l.length) : plAt l k ∈ l := by simp [plAt, List.getD, h]
theorem len_68921 {b : TBox} (hl : b.lo.inS 20 = true) (hh : b.hi.inS 20 = true) (ho : b.ok) : b.all.length ≤ 68921 := by
  have h := len_all ho
  obtain ⟨a1, a2, a3⟩ := inS_iff.1 hl
  obtain ⟨c1, c2, c3⟩ := inS_iff.1 hh
  obtain ⟨o1, o2, o3⟩ := ho
  unfold TBox.rx TBox.ry TBox.rz Rg.ok at *
  simp only at *
  unfold TBox.count at h
  have m1 := mul_rg (x := b.hi.x - b.lo.x + 1) (y := b.hi.y - b.lo.y + 1) (A := 41) (B := 41) (C := 1681) (by omega) (by omega) (by decide)
  have m2 := mul_rg (y := b.hi.z - b.lo.z + 1) (A := 1681) (B := 41) (C := 68921) m1 (by omega) (by decide)
  omega
theorem box_ok {b : TBox} (h : b.err = 0) : b.ok := by
  unfold TBox.err at h
  obtain ⟨_, h1, _⟩ := (by simpa only [firstNZ_cons] using h : _ ∧ _ ∧ _)
  rw [unl_0 (by decide)] at h1
  simp only [Bool.and_eq_true, decide_eq_true_eq] at h1
  exact ⟨h1.1.1, h1.1.2, h1.2⟩
def stepsL (m : TMod) (b : TBox) : List V3 := if firstNZ [m.err, b.err] ≠ 0 then [] else m.steps b
def con_base_Floor : Con := fun args => match args with
  | [.t (.c (.v (.int .i64 n))), .t (.c (.v (.int .i64 d)))] => some (.t (.c (.v (.int .i64 (n / 2)))), some (d = 2 ∧ -1000000000 ≤ n ∧ n ≤ 1000000000), false)
  | _ => none
theorem ok_base_Floor : Ok Try.prog 83 con_base_Floor := by
  refine Ok.oldG (Enters.of (fn := Try.f83) (by kernel_rfl) (by kernel_rfl) (by kernel_rfl)) fun args r pre fresh h hp => ?_
  unfold con_base_Floor at h
  split at h
  · rename_i n d
    cases h
    refine ⟨_, rfl, fun W N vs hv => ?_⟩
    have hp := hp
    obtain ⟨u0, ws0, k0, g0, hv0⟩ := hv.cons_inv
    subst k0
    have e0 := plain_arg rfl g0
    subst e0
    obtain ⟨u1, ws1, k1, g1, hv1⟩ := hv0.cons_inv
    subst k1
    have e1 := plain_arg rfl g1
    subst e1
    have ev := hv1.nil_inv
    subst ev
    exact by
      obtain ⟨rfl, h1, h2⟩ := hp
      exact (base_Floor2 n W h1 h2).mono fun e w' h => ⟨h.1, h.2 ▸ Below.refl _ _⟩
  · cases h
def S41 : Sum := addS S40 83 con_base_Floor
theorem VS41 : Valid Try.prog S41 := Valid.add VS40 ok_base_Floor

def con_track_CheckBox : Con := fun args => match args with
  | [.t (.a [.v (.int .i64 b0), .v (.int .i64 b1), .v (.int .i64 b2), .v (.int .i64 b3), .v (.int .i64 b4), .v (.int .i64 b5)])] => some (.t (.c (.v (.int .i64 (((⟨⟨b0, b1, b2⟩, ⟨b3, b4, b5⟩⟩ : TBox)).err)))), none, false)
  | _ => none
theorem ok_track_CheckBox : Ok Try.prog 47 con_track_CheckBox := by
  refine Ok.oldG (Enters.of (fn := Try.f47) (by kernel_rfl) (by kernel_rfl) (by kernel_rfl)) fun args r pre fresh h hp => ?_
  unfold con_track_CheckBox at h
  split at h
  · rename_i b0 b1 b2 b3 b4 b5
    cases h
    refine ⟨_, rfl, fun W N vs hv => ?_⟩
    obtain ⟨u0, ws0, k0, g0, hv0⟩ := hv.cons_inv
    subst k0
    have e0 := plain_arg rfl g0
    subst e0
    have ev := hv0.nil_inv
    subst ev
    exact track_CheckBox (⟨⟨b0, b1, b2⟩, ⟨b3, b4, b5⟩⟩ : TBox) W
  · cases h
def S42 : Sum := addS S41 47 con_track_CheckBox
theorem VS42 : Valid Try.prog S42 := Valid.add VS41 ok_track_CheckBox

def con_track_count : Con := fun args => match args with
  | [.t (.a [.v (.int .i64 b0), .v (.int .i64 b1), .v (.int .i64 b2), .v (.int .i64 b3), .v (.int .i64 b4), .v (.int .i64 b5)])] => some (.t (.c (.v (.int .i64 (((⟨⟨b0, b1, b2⟩, ⟨b3, b4, b5⟩⟩ : TBox)).count)))), some (((⟨⟨b0, b1, b2⟩, ⟨b3, b4, b5⟩⟩ : TBox)).lo.inS 20 = true ∧ ((⟨⟨b0, b1, b2⟩, ⟨b3, b4, b5⟩⟩ : TBox)).hi.inS 20 = true ∧ ((⟨⟨b0, b1, b2⟩, ⟨b3, b4, b5⟩⟩ : TBox)).ok), false)
  | _ => none
theorem ok_track_count : Ok Try.prog 103 con_track_count := by
  refine Ok.oldG (Enters.of (fn := Try.f103) (by kernel_rfl) (by kernel_rfl) (by kernel_rfl)) fun args r pre fresh h hp => ?_
  unfold con_track_count at h
  split at h
  · rename_i b0 b1 b2 b3 b4 b5
    cases h
    refine ⟨_, rfl, fun W N vs hv => ?_⟩
    have hp := hp
    obtain ⟨u0, ws0, k0, g0, hv0⟩ := hv.cons_inv
    subst k0
    have e0 := plain_arg rfl g0
    subst e0
    have ev := hv0.nil_inv
    subst ev
    exact track_count (⟨⟨b0, b1, b2⟩, ⟨b3, b4, b5⟩⟩ : TBox) W hp.1 hp.2.1 hp.2.2
  · cases h
def S43 : Sum := addS S42 103 con_track_count
theorem VS43 : Valid Try.prog S43 := Valid.add VS42 ok_track_count

def con_track_model_permitted : Con := fun args => match args with
  | [.t (.a [.v (.int .i64 m0), .v (.int .i64 m1), .v (.int .i64 m2), .v (.int .i64 m3), .v (.int .i64 m4), .v (.int .i64 m5), .v (.int .i64 m6), .v (.int .i64 m7), .v (.int .i64 m8), .v (.int .i64 m9), .v (.int .i64 m10), .v (.int .i64 m11)]), .t (.a [.v (.int .i64 s0), .v (.int .i64 s1), .v (.int .i64 s2)])] => some (.t (.c (.v (.bool (((⟨m0, m1, m2, m3, m4, m5, m6, m7, m8, m9, m10, m11⟩ : TMod)).permB (⟨s0, s1, s2⟩ : V3))))), some (((⟨s0, s1, s2⟩ : V3)).sm (⟨s0, s1, s2⟩ : V3)), false)
  | _ => none
theorem ok_track_model_permitted : Ok Try.prog 120 con_track_model_permitted := by
  refine Ok.oldG (Enters.of (fn := Try.f120) (by kernel_rfl) (by kernel_rfl) (by kernel_rfl)) fun args r pre fresh h hp => ?_
  unfold con_track_model_permitted at h
  split at h
  · rename_i m0 m1 m2 m3 m4 m5 m6 m7 m8 m9 m10 m11 s0 s1 s2
    cases h
    refine ⟨_, rfl, fun W N vs hv => ?_⟩
    have hp := hp
    obtain ⟨u0, ws0, k0, g0, hv0⟩ := hv.cons_inv
    subst k0
    have e0 := plain_arg rfl g0
    subst e0
    obtain ⟨u1, ws1, k1, g1, hv1⟩ := hv0.cons_inv
    subst k1
    have e1 := plain_arg rfl g1
    subst e1
    have ev := hv1.nil_inv
    subst ev
    exact track_permitted (⟨m0, m1, m2, m3, m4, m5, m6, m7, m8, m9, m10, m11⟩ : TMod) (⟨s0, s1, s2⟩ : V3) W hp
  · cases h
def S44 : Sum := addS S43 120 con_track_model_permitted
theorem VS44 : Valid Try.prog S44 := Valid.add VS43 ok_track_model_permitted

def con_ref05_IsPermitted : Con := fun args => match args with
  | [.t (.a [.v (.int .i64 m0), .v (.int .i64 m1), .v (.int .i64 m2), .v (.int .i64 m3), .v (.int .i64 m4), .v (.int .i64 m5), .v (.int .i64 m6), .v (.int .i64 m7), .v (.int .i64 m8), .v (.int .i64 m9), .v (.int .i64 m10), .v (.int .i64 m11)]), .t (.a [.v (.int .i64 s0), .v (.int .i64 s1), .v (.int .i64 s2)])] => some (.t (.c (.v (.bool (((⟨m0, m1, m2, m3, m4, m5, m6, m7, m8, m9, m10, m11⟩ : TMod)).permB (⟨s0, s1, s2⟩ : V3))))), some (((⟨s0, s1, s2⟩ : V3)).sm (⟨s0, s1, s2⟩ : V3)), false)
  | _ => none
theorem ok_ref05_IsPermitted : Ok Try.prog 107 con_ref05_IsPermitted := by
  refine Ok.oldG (Enters.of (fn := Try.f107) (by kernel_rfl) (by kernel_rfl) (by kernel_rfl)) fun args r pre fresh h hp => ?_
  unfold con_ref05_IsPermitted at h
  split at h
  · rename_i m0 m1 m2 m3 m4 m5 m6 m7 m8 m9 m10 m11 s0 s1 s2
    cases h
    refine ⟨_, rfl, fun W N vs hv => ?_⟩
    have hp := hp
    obtain ⟨u0, ws0, k0, g0, hv0⟩ := hv.cons_inv
    subst k0
    have e0 := plain_arg rfl g0
    subst e0
    obtain ⟨u1, ws1, k1, g1, hv1⟩ := hv0.cons_inv
    subst k1
    have e1 := plain_arg rfl g1
    subst e1
    have ev := hv1.nil_inv
    subst ev
    exact ref_IsPermitted (⟨m0, m1, m2, m3, m4, m5, m6, m7, m8, m9, m10, m11⟩ : TMod) (⟨s0, s1, s2⟩ : V3) W hp
  · cases h
def S45 : Sum := addS S44 107 con_ref05_IsPermitted
theorem VS45 : Valid Try.prog S45 := Valid.add VS44 ok_ref05_IsPermitted

def n_it_track_model_steps_1 (b0 b1 b2 b3 b4 b5 : Int) (m0 m1 m2 m3 m4 m5 m6 m7 m8 m9 m10 m11 : Int) : Nat := (((⟨m0, m1, m2, m3, m4, m5, m6, m7, m8, m9, m10, m11⟩ : TMod)).steps (⟨⟨b0, b1, b2⟩, ⟨b3, b4, b5⟩⟩ : TBox)).length
def y_it_track_model_steps_1 (b0 b1 b2 b3 b4 b5 : Int) (m0 m1 m2 m3 m4 m5 m6 m7 m8 m9 m10 m11 : Int) (i : Nat) : List TV := [.a (v3Cv (plAt (((⟨m0, m1, m2, m3, m4, m5, m6, m7, m8, m9, m10, m11⟩ : TMod)).steps (⟨⟨b0, b1, b2⟩, ⟨b3, b4, b5⟩⟩ : TBox)) i))]
def mk_it_track_model_steps_1_0 (l0 : Nat) (b0 b1 b2 b3 b4 b5 : Int) (m0 m1 m2 m3 m4 m5 m6 m7 m8 m9 m10 m11 : Int) (v0_0 : Int) : DS := ⟨[some (.t (.c (.v (.func (.yield l0) #[] #[])))), some (.t (.c (.px 6 0 (boxC [.v (.int .i64 b0), .v (.int .i64 b1), .v (.int .i64 b2), .v (.int .i64 b3), .v (.int .i64 b4), .v (.int .i64 b5)])))), some (.t (.c (.px 12 0 (boxC [.v (.int .i64 m0), .v (.int .i64 m1), .v (.int .i64 m2), .v (.int .i64 m3), .v (.int .i64 m4), .v (.int .i64 m5), .v (.int .i64 m6), .v (.int .i64 m7), .v (.int .i64 m8), .v (.int .i64 m9), .v (.int .i64 m10), .v (.int .i64 m11)])))), none, some (.t (.c (.v (.int .i64 v0_0)))), none, none, none, none, none, none, none, none, none, none, none, none, none, none, none, none, none, none, none, none, none, none, none, none, none, none, none, none, none, none, none, none, none, none, none, none, none, none, none, none, none, none, none, none, none, none], [none, none, none, none, none, none, none, none, none, none, none, none, none, none, none, none, none, none, none, none, none, none, none, none, none, none, none, none, none, none, none, none, none, none, none, none, none, none, none, none, none, none, none, none, none, none, none, none, none, none, none]⟩
def mk_it_track_model_steps_1_2 (l0 : Nat) (b0 b1 b2 b3 b4 b5 : Int) (m0 m1 m2 m3 m4 m5 m6 m7 m8 m9 m10 m11 : Int) (v2_0 : Int) (v2_1 : Int) : DS := ⟨[some (.t (.c (.v (.func (.yield l0) #[] #[])))), some (.t (.c (.px 6 0 (boxC [.v (.int .i64 b0), .v (.int .i64 b1), .v (.int .i64 b2), .v (.int .i64 b3), .v (.int .i64 b4), .v (.int .i64 b5)])))), some (.t (.c (.px 12 0 (boxC [.v (.int .i64 m0), .v (.int .i64 m1), .v (.int .i64 m2), .v (.int .i64 m3), .v (.int .i64 m4), .v (.int .i64 m5), .v (.int .i64 m6), .v (.int .i64 m7), .v (.int .i64 m8), .v (.int .i64 m9), .v (.int .i64 m10), .v (.int .i64 m11)])))), none, some (.t (.c (.v (.int .i64 v2_0)))), some (.t (.c (.v (.int .i64 v2_1)))), none, none, none, none, none, none, none, none, none, none, none, none, none, none, none, none, none, none, none, none, none, none, none, none, none, none, none, none, none, none, none, none, none, none, none, none, none, none, none, none, none, none, none, none, none], [none, none, none, none, none, none, none, none, none, none, none, none, none, none, none, none, none, none, none, none, none, none, none, none, none, none, none, none, none, none, none, none, none, none, none, none, none, none, none, none, none, none, none, none, none, none, none, none, none, none, none]⟩
def mk_it_track_model_steps_1_4 (l0 : Nat) (b0 b1 b2 b3 b4 b5 : Int) (m0 m1 m2 m3 m4 m5 m6 m7 m8 m9 m10 m11 : Int) (v4_0 : Int) (v4_1 : Int) (v4_2 : Int) : DS := ⟨[some (.t (.c (.v (.func (.yield l0) #[] #[])))), some (.t (.c (.px 6 0 (boxC [.v (.int .i64 b0), .v (.int .i64 b1), .v (.int .i64 b2), .v (.int .i64 b3), .v (.int .i64 b4), .v (.int .i64 b5)])))), some (.t (.c (.px 12 0 (boxC [.v (.int .i64 m0), .v (.int .i64 m1), .v (.int .i64 m2), .v (.int .i64 m3), .v (.int .i64 m4), .v (.int .i64 m5), .v (.int .i64 m6), .v (.int .i64 m7), .v (.int .i64 m8), .v (.int .i64 m9), .v (.int .i64 m10), .v (.int .i64 m11)])))), none, some (.t (.c (.v (.int .i64 v4_0)))), some (.t (.c (.v (.int .i64 v4_1)))), some (.t (.c (.v (.int .i64 v4_2)))), none, none, none, none, none, none, none, none, none, none, none, none, none, none, none, none, none, none, none, none, none, none, none, none, none, none, none, none, none, none, none, none, none, none, none, none, none, none, none, none, none, none, none, none], [none, none, none, none, none, none, none, none, none, none, none, none, none, none, none, none, none, none, none, none, none, none, none, none, none, none, none, none, none, none, none, none, none, none, none, none, none, none, none, none, none, none, none, none, none, none, none, none, none, none, none]⟩
def vc_it_track_model_steps_1 (J : Inv) (l0 : Nat) (b0 b1 b2 b3 b4 b5 : Int) (m0 m1 m2 m3 m4 m5 m6 m7 m8 m9 m10 m11 : Int) : Prop := (0 ≤ (0 : Int) ∧ (0 : Int) < ((3 : Nat) : Int)) ∧ (∃ m, J 0 (0 :: m :: []) (mk_it_track_model_steps_1_0 l0 b0 b1 b2 b3 b4 b5 m0 m1 m2 m3 m4 m5 m6 m7 m8 m9 m10 m11 b0))
def ann_it_track_model_steps_1 : Ann := ⟨fun _ => none, fun b => lookA b [(0, (none, some ⟨[0, 1, 2, 4], [], []⟩)), (2, (none, some ⟨[0, 1, 2, 4, 5], [], []⟩)), (4, (none, some ⟨[0, 1, 2, 4, 5, 6], [], []⟩))], fun _ => [], noIt, false, fun _ => none, fun _ => none⟩
theorem ev_it_track_model_steps_1 (J : Inv) (l0 : Nat) (b0 b1 b2 b3 b4 b5 : Int) (m0 m1 m2 m3 m4 m5 m6 m7 m8 m9 m10 m11 : Int) : evIt Try.prog tab S45 ann_it_track_model_steps_1 J l0 (n_it_track_model_steps_1 b0 b1 b2 b3 b4 b5 m0 m1 m2 m3 m4 m5 m6 m7 m8 m9 m10 m11) (y_it_track_model_steps_1 b0 b1 b2 b3 b4 b5 m0 m1 m2 m3 m4 m5 m6 m7 m8 m9 m10 m11) (keepOf 1 [.px 6 0 (boxC [.v (.int .i64 b0), .v (.int .i64 b1), .v (.int .i64 b2), .v (.int .i64 b3), .v (.int .i64 b4), .v (.int .i64 b5)]), .px 12 0 (boxC [.v (.int .i64 m0), .v (.int .i64 m1), .v (.int .i64 m2), .v (.int .i64 m3), .v (.int .i64 m4), .v (.int .i64 m5), .v (.int .i64 m6), .v (.int .i64 m7), .v (.int .i64 m8), .v (.int .i64 m9), .v (.int .i64 m10), .v (.int .i64 m11)])]) Try.f134 ([.px 6 0 (boxC [.v (.int .i64 b0), .v (.int .i64 b1), .v (.int .i64 b2), .v (.int .i64 b3), .v (.int .i64 b4), .v (.int .i64 b5)]), .px 12 0 (boxC [.v (.int .i64 m0), .v (.int .i64 m1), .v (.int .i64 m2), .v (.int .i64 m3), .v (.int .i64 m4), .v (.int .i64 m5), .v (.int .i64 m6), .v (.int .i64 m7), .v (.int .i64 m8), .v (.int .i64 m9), .v (.int .i64 m10), .v (.int .i64 m11)])].map fun x => .t (.c x)) = vc_it_track_model_steps_1 J l0 b0 b1 b2 b3 b4 b5 m0 m1 m2 m3 m4 m5 m6 m7 m8 m9 m10 m11 := by kernel_rfl
theorem fit_it_track_model_steps_1 (b0 b1 b2 b3 b4 b5 : Int) (m0 m1 m2 m3 m4 m5 m6 m7 m8 m9 m10 m11 : Int) : okIt ann_it_track_model_steps_1 (keepOf 1 [.px 6 0 (boxC [.v (.int .i64 b0), .v (.int .i64 b1), .v (.int .i64 b2), .v (.int .i64 b3), .v (.int .i64 b4), .v (.int .i64 b5)]), .px 12 0 (boxC [.v (.int .i64 m0), .v (.int .i64 m1), .v (.int .i64 m2), .v (.int .i64 m3), .v (.int .i64 m4), .v (.int .i64 m5), .v (.int .i64 m6), .v (.int .i64 m7), .v (.int .i64 m8), .v (.int .i64 m9), .v (.int .i64 m10), .v (.int .i64 m11)])]) Try.f134 = true := by kernel_rfl
def rd_it_track_model_steps_1_0 (J : Inv) (l0 : Nat) (b0 b1 b2 b3 b4 b5 : Int) (m0 m1 m2 m3 m4 m5 m6 m7 m8 m9 m10 m11 : Int) (v0_0 : Int) (cc nn0 : Nat) : Prop := (0 ≤ (0 : Int) ∧ (0 : Int) < ((3 : Nat) : Int)) ∧ (cond (decide (v0_0 ≤ b3)) ((0 ≤ (1 : Int) ∧ (1 : Int) < ((3 : Nat) : Int)) ∧ (∃ m, J 2 (cc :: m :: nn0 :: []) (mk_it_track_model_steps_1_2 l0 b0 b1 b2 b3 b4 b5 m0 m1 m2 m3 m4 m5 m6 m7 m8 m9 m10 m11 v0_0 b1))) (cc = (n_it_track_model_steps_1 b0 b1 b2 b3 b4 b5 m0 m1 m2 m3 m4 m5 m6 m7 m8 m9 m10 m11)))
theorem er_it_track_model_steps_1_0 (J : Inv) (l0 : Nat) (b0 b1 b2 b3 b4 b5 : Int) (m0 m1 m2 m3 m4 m5 m6 m7 m8 m9 m10 m11 : Int) (v0_0 : Int) (cc nn0 : Nat) : roundIt Try.prog tab S45 ann_it_track_model_steps_1 J l0 (n_it_track_model_steps_1 b0 b1 b2 b3 b4 b5 m0 m1 m2 m3 m4 m5 m6 m7 m8 m9 m10 m11) (y_it_track_model_steps_1 b0 b1 b2 b3 b4 b5 m0 m1 m2 m3 m4 m5 m6 m7 m8 m9 m10 m11) (keepOf 1 [.px 6 0 (boxC [.v (.int .i64 b0), .v (.int .i64 b1), .v (.int .i64 b2), .v (.int .i64 b3), .v (.int .i64 b4), .v (.int .i64 b5)]), .px 12 0 (boxC [.v (.int .i64 m0), .v (.int .i64 m1), .v (.int .i64 m2), .v (.int .i64 m3), .v (.int .i64 m4), .v (.int .i64 m5), .v (.int .i64 m6), .v (.int .i64 m7), .v (.int .i64 m8), .v (.int .i64 m9), .v (.int .i64 m10), .v (.int .i64 m11)])]) Try.f134 0 cc (nn0 :: []) (mk_it_track_model_steps_1_0 l0 b0 b1 b2 b3 b4 b5 m0 m1 m2 m3 m4 m5 m6 m7 m8 m9 m10 m11 v0_0) = rd_it_track_model_steps_1_0 J l0 b0 b1 b2 b3 b4 b5 m0 m1 m2 m3 m4 m5 m6 m7 m8 m9 m10 m11 v0_0 cc nn0 := by kernel_rfl
def rd_it_track_model_steps_1_2 (J : Inv) (l0 : Nat) (b0 b1 b2 b3 b4 b5 : Int) (m0 m1 m2 m3 m4 m5 m6 m7 m8 m9 m10 m11 : Int) (v2_0 : Int) (v2_1 : Int) (cc nn2 nn0 : Nat) : Prop := (0 ≤ (1 : Int) ∧ (1 : Int) < ((3 : Nat) : Int)) ∧ (cond (decide (v2_1 ≤ b4)) ((0 ≤ (2 : Int) ∧ (2 : Int) < ((3 : Nat) : Int)) ∧ (∃ m, J 4 (cc :: m :: nn2 :: nn0 :: []) (mk_it_track_model_steps_1_4 l0 b0 b1 b2 b3 b4 b5 m0 m1 m2 m3 m4 m5 m6 m7 m8 m9 m10 m11 v2_0 v2_1 b2))) (lt (IntKind.i64.wrap (v2_0 + (1 : Int))) fun x1 => J 0 (cc :: nn0 :: []) (mk_it_track_model_steps_1_0 l0 b0 b1 b2 b3 b4 b5 m0 m1 m2 m3 m4 m5 m6 m7 m8 m9 m10 m11 x1)))
theorem er_it_track_model_steps_1_2 (J : Inv) (l0 : Nat) (b0 b1 b2 b3 b4 b5 : Int) (m0 m1 m2 m3 m4 m5 m6 m7 m8 m9 m10 m11 : Int) (v2_0 : Int) (v2_1 : Int) (cc nn2 nn0 : Nat) : roundIt Try.prog tab S45 ann_it_track_model_steps_1 J l0 (n_it_track_model_steps_1 b0 b1 b2 b3 b4 b5 m0 m1 m2 m3 m4 m5 m6 m7 m8 m9 m10 m11) (y_it_track_model_steps_1 b0 b1 b2 b3 b4 b5 m0 m1 m2 m3 m4 m5 m6 m7 m8 m9 m10 m11) (keepOf 1 [.px 6 0 (boxC [.v (.int .i64 b0), .v (.int .i64 b1), .v (.int .i64 b2), .v (.int .i64 b3), .v (.int .i64 b4), .v (.int .i64 b5)]), .px 12 0 (boxC [.v (.int .i64 m0), .v (.int .i64 m1), .v (.int .i64 m2), .v (.int .i64 m3), .v (.int .i64 m4), .v (.int .i64 m5), .v (.int .i64 m6), .v (.int .i64 m7), .v (.int .i64 m8), .v (.int .i64 m9), .v (.int .i64 m10), .v (.int .i64 m11)])]) Try.f134 1 cc (nn2 :: nn0 :: []) (mk_it_track_model_steps_1_2 l0 b0 b1 b2 b3 b4 b5 m0 m1 m2 m3 m4 m5 m6 m7 m8 m9 m10 m11 v2_0 v2_1) = rd_it_track_model_steps_1_2 J l0 b0 b1 b2 b3 b4 b5 m0 m1 m2 m3 m4 m5 m6 m7 m8 m9 m10 m11 v2_0 v2_1 cc nn2 nn0 := by kernel_rfl
def rd_it_track_model_steps_1_4 (J : Inv) (l0 : Nat) (b0 b1 b2 b3 b4 b5 : Int) (m0 m1 m2 m3 m4 m5 m6 m7 m8 m9 m10 m11 : Int) (v4_0 : Int) (v4_1 : Int) (v4_2 : Int) (cc nn4 nn2 nn0 : Nat) : Prop := (0 ≤ (2 : Int) ∧ (2 : Int) < ((3 : Nat) : Int)) ∧ (cond (decide (v4_2 ≤ b5)) ((((⟨v4_0, v4_1, v4_2⟩ : V3)).sm (⟨v4_0, v4_1, v4_2⟩ : V3)) ∧ (cond (((⟨m0, m1, m2, m3, m4, m5, m6, m7, m8, m9, m10, m11⟩ : TMod)).permB (⟨v4_0, v4_1, v4_2⟩ : V3)) ((l0 = l0 ∧ cc < (n_it_track_model_steps_1 b0 b1 b2 b3 b4 b5 m0 m1 m2 m3 m4 m5 m6 m7 m8 m9 m10 m11) ∧ ([.a [.v (.int .i64 v4_0), .v (.int .i64 v4_1), .v (.int .i64 v4_2)]] : List TV) = (y_it_track_model_steps_1 b0 b1 b2 b3 b4 b5 m0 m1 m2 m3 m4 m5 m6 m7 m8 m9 m10 m11) cc) ∧ (lt (IntKind.i64.wrap (v4_2 + (1 : Int))) fun x1 => J 4 ((cc + 1) :: nn4 :: nn2 :: nn0 :: []) (mk_it_track_model_steps_1_4 l0 b0 b1 b2 b3 b4 b5 m0 m1 m2 m3 m4 m5 m6 m7 m8 m9 m10 m11 v4_0 v4_1 x1)) ∧ (True)) ((false = false) ∧ (lt (IntKind.i64.wrap (v4_2 + (1 : Int))) fun x2 => J 4 (cc :: nn4 :: nn2 :: nn0 :: []) (mk_it_track_model_steps_1_4 l0 b0 b1 b2 b3 b4 b5 m0 m1 m2 m3 m4 m5 m6 m7 m8 m9 m10 m11 v4_0 v4_1 x2))))) (lt (IntKind.i64.wrap (v4_1 + (1 : Int))) fun x3 => J 2 (cc :: nn2 :: nn0 :: []) (mk_it_track_model_steps_1_2 l0 b0 b1 b2 b3 b4 b5 m0 m1 m2 m3 m4 m5 m6 m7 m8 m9 m10 m11 v4_0 x3)))
theorem er_it_track_model_steps_1_4 (J : Inv) (l0 : Nat) (b0 b1 b2 b3 b4 b5 : Int) (m0 m1 m2 m3 m4 m5 m6 m7 m8 m9 m10 m11 : Int) (v4_0 : Int) (v4_1 : Int) (v4_2 : Int) (cc nn4 nn2 nn0 : Nat) : roundIt Try.prog tab S45 ann_it_track_model_steps_1 J l0 (n_it_track_model_steps_1 b0 b1 b2 b3 b4 b5 m0 m1 m2 m3 m4 m5 m6 m7 m8 m9 m10 m11) (y_it_track_model_steps_1 b0 b1 b2 b3 b4 b5 m0 m1 m2 m3 m4 m5 m6 m7 m8 m9 m10 m11) (keepOf 1 [.px 6 0 (boxC [.v (.int .i64 b0), .v (.int .i64 b1), .v (.int .i64 b2), .v (.int .i64 b3), .v (.int .i64 b4), .v (.int .i64 b5)]), .px 12 0 (boxC [.v (.int .i64 m0), .v (.int .i64 m1), .v (.int .i64 m2), .v (.int .i64 m3), .v (.int .i64 m4), .v (.int .i64 m5), .v (.int .i64 m6), .v (.int .i64 m7), .v (.int .i64 m8), .v (.int .i64 m9), .v (.int .i64 m10), .v (.int .i64 m11)])]) Try.f134 2 cc (nn4 :: nn2 :: nn0 :: []) (mk_it_track_model_steps_1_4 l0 b0 b1 b2 b3 b4 b5 m0 m1 m2 m3 m4 m5 m6 m7 m8 m9 m10 m11 v4_0 v4_1 v4_2) = rd_it_track_model_steps_1_4 J l0 b0 b1 b2 b3 b4 b5 m0 m1 m2 m3 m4 m5 m6 m7 m8 m9 m10 m11 v4_0 v4_1 v4_2 cc nn4 nn2 nn0 := by kernel_rfl
theorem lp_it_track_model_steps_1 (J : Inv) (l0 : Nat) (b0 b1 b2 b3 b4 b5 : Int) (m0 m1 m2 m3 m4 m5 m6 m7 m8 m9 m10 m11 : Int) : AllY J (loopsIt Try.prog tab S45 ann_it_track_model_steps_1 J l0 (n_it_track_model_steps_1 b0 b1 b2 b3 b4 b5 m0 m1 m2 m3 m4 m5 m6 m7 m8 m9 m10 m11) (y_it_track_model_steps_1 b0 b1 b2 b3 b4 b5 m0 m1 m2 m3 m4 m5 m6 m7 m8 m9 m10 m11) (keepOf 1 [.px 6 0 (boxC [.v (.int .i64 b0), .v (.int .i64 b1), .v (.int .i64 b2), .v (.int .i64 b3), .v (.int .i64 b4), .v (.int .i64 b5)]), .px 12 0 (boxC [.v (.int .i64 m0), .v (.int .i64 m1), .v (.int .i64 m2), .v (.int .i64 m3), .v (.int .i64 m4), .v (.int .i64 m5), .v (.int .i64 m6), .v (.int .i64 m7), .v (.int .i64 m8), .v (.int .i64 m9), .v (.int .i64 m10), .v (.int .i64 m11)])]) Try.f134) = (((∀ c F s, ¬ J 0 (c :: 0 :: F) s) ∧ ∀ c m F s, J 0 (c :: (m + 1) :: F) s → roundIt Try.prog tab S45 ann_it_track_model_steps_1 J l0 (n_it_track_model_steps_1 b0 b1 b2 b3 b4 b5 m0 m1 m2 m3 m4 m5 m6 m7 m8 m9 m10 m11) (y_it_track_model_steps_1 b0 b1 b2 b3 b4 b5 m0 m1 m2 m3 m4 m5 m6 m7 m8 m9 m10 m11) (keepOf 1 [.px 6 0 (boxC [.v (.int .i64 b0), .v (.int .i64 b1), .v (.int .i64 b2), .v (.int .i64 b3), .v (.int .i64 b4), .v (.int .i64 b5)]), .px 12 0 (boxC [.v (.int .i64 m0), .v (.int .i64 m1), .v (.int .i64 m2), .v (.int .i64 m3), .v (.int .i64 m4), .v (.int .i64 m5), .v (.int .i64 m6), .v (.int .i64 m7), .v (.int .i64 m8), .v (.int .i64 m9), .v (.int .i64 m10), .v (.int .i64 m11)])]) Try.f134 0 c (m :: F) s) ∧ ((∀ c F s, ¬ J 2 (c :: 0 :: F) s) ∧ ∀ c m F s, J 2 (c :: (m + 1) :: F) s → roundIt Try.prog tab S45 ann_it_track_model_steps_1 J l0 (n_it_track_model_steps_1 b0 b1 b2 b3 b4 b5 m0 m1 m2 m3 m4 m5 m6 m7 m8 m9 m10 m11) (y_it_track_model_steps_1 b0 b1 b2 b3 b4 b5 m0 m1 m2 m3 m4 m5 m6 m7 m8 m9 m10 m11) (keepOf 1 [.px 6 0 (boxC [.v (.int .i64 b0), .v (.int .i64 b1), .v (.int .i64 b2), .v (.int .i64 b3), .v (.int .i64 b4), .v (.int .i64 b5)]), .px 12 0 (boxC [.v (.int .i64 m0), .v (.int .i64 m1), .v (.int .i64 m2), .v (.int .i64 m3), .v (.int .i64 m4), .v (.int .i64 m5), .v (.int .i64 m6), .v (.int .i64 m7), .v (.int .i64 m8), .v (.int .i64 m9), .v (.int .i64 m10), .v (.int .i64 m11)])]) Try.f134 1 c (m :: F) s) ∧ ((∀ c F s, ¬ J 4 (c :: 0 :: F) s) ∧ ∀ c m F s, J 4 (c :: (m + 1) :: F) s → roundIt Try.prog tab S45 ann_it_track_model_steps_1 J l0 (n_it_track_model_steps_1 b0 b1 b2 b3 b4 b5 m0 m1 m2 m3 m4 m5 m6 m7 m8 m9 m10 m11) (y_it_track_model_steps_1 b0 b1 b2 b3 b4 b5 m0 m1 m2 m3 m4 m5 m6 m7 m8 m9 m10 m11) (keepOf 1 [.px 6 0 (boxC [.v (.int .i64 b0), .v (.int .i64 b1), .v (.int .i64 b2), .v (.int .i64 b3), .v (.int .i64 b4), .v (.int .i64 b5)]), .px 12 0 (boxC [.v (.int .i64 m0), .v (.int .i64 m1), .v (.int .i64 m2), .v (.int .i64 m3), .v (.int .i64 m4), .v (.int .i64 m5), .v (.int .i64 m6), .v (.int .i64 m7), .v (.int .i64 m8), .v (.int .i64 m9), .v (.int .i64 m10), .v (.int .i64 m11)])]) Try.f134 2 c (m :: F) s) ∧ True) := by kernel_rfl
def J_it_track_model_steps_1 (l0 : Nat) (b0 b1 b2 b3 b4 b5 : Int) (m0 m1 m2 m3 m4 m5 m6 m7 m8 m9 m10 m11 : Int) : Inv := fun b F s => match b, F with
  | 0, [cc, nn0] => ∃ (v0_0 : Int), s = mk_it_track_model_steps_1_0 l0 b0 b1 b2 b3 b4 b5 m0 m1 m2 m3 m4 m5 m6 m7 m8 m9 m10 m11 v0_0 ∧ (cc ≤ ((⟨m0, m1, m2, m3, m4, m5, m6, m7, m8, m9, m10, m11⟩ : TMod).steps (⟨⟨b0, b1, b2⟩, ⟨b3, b4, b5⟩⟩ : TBox)).length ∧ ((⟨m0, m1, m2, m3, m4, m5, m6, m7, m8, m9, m10, m11⟩ : TMod).steps (⟨⟨b0, b1, b2⟩, ⟨b3, b4, b5⟩⟩ : TBox)).drop cc = (restX (⟨⟨b0, b1, b2⟩, ⟨b3, b4, b5⟩⟩ : TBox) v0_0).filter (⟨m0, m1, m2, m3, m4, m5, m6, m7, m8, m9, m10, m11⟩ : TMod).permB ∧ b0 ≤ v0_0 ∧ v0_0 ≤ b3 + 1 ∧ (nn0 : Int) + v0_0 = b3 + 2)
  | 2, [cc, nn2, nn0] => ∃ (v2_0 : Int) (v2_1 : Int), s = mk_it_track_model_steps_1_2 l0 b0 b1 b2 b3 b4 b5 m0 m1 m2 m3 m4 m5 m6 m7 m8 m9 m10 m11 v2_0 v2_1 ∧ (cc ≤ ((⟨m0, m1, m2, m3, m4, m5, m6, m7, m8, m9, m10, m11⟩ : TMod).steps (⟨⟨b0, b1, b2⟩, ⟨b3, b4, b5⟩⟩ : TBox)).length ∧ ((⟨m0, m1, m2, m3, m4, m5, m6, m7, m8, m9, m10, m11⟩ : TMod).steps (⟨⟨b0, b1, b2⟩, ⟨b3, b4, b5⟩⟩ : TBox)).drop cc = (restY (⟨⟨b0, b1, b2⟩, ⟨b3, b4, b5⟩⟩ : TBox) v2_0 v2_1 ++ restX (⟨⟨b0, b1, b2⟩, ⟨b3, b4, b5⟩⟩ : TBox) (v2_0 + 1)).filter (⟨m0, m1, m2, m3, m4, m5, m6, m7, m8, m9, m10, m11⟩ : TMod).permB ∧ (b0 ≤ v2_0 ∧ v2_0 ≤ b3 ∧ (nn0 : Int) + v2_0 = b3 + 1) ∧ b1 ≤ v2_1 ∧ v2_1 ≤ b4 + 1 ∧ (nn2 : Int) + v2_1 = b4 + 2)
  | 4, [cc, nn4, nn2, nn0] => ∃ (v4_0 : Int) (v4_1 : Int) (v4_2 : Int), s = mk_it_track_model_steps_1_4 l0 b0 b1 b2 b3 b4 b5 m0 m1 m2 m3 m4 m5 m6 m7 m8 m9 m10 m11 v4_0 v4_1 v4_2 ∧ (cc ≤ ((⟨m0, m1, m2, m3, m4, m5, m6, m7, m8, m9, m10, m11⟩ : TMod).steps (⟨⟨b0, b1, b2⟩, ⟨b3, b4, b5⟩⟩ : TBox)).length ∧ ((⟨m0, m1, m2, m3, m4, m5, m6, m7, m8, m9, m10, m11⟩ : TMod).steps (⟨⟨b0, b1, b2⟩, ⟨b3, b4, b5⟩⟩ : TBox)).drop cc = (restZ (⟨⟨b0, b1, b2⟩, ⟨b3, b4, b5⟩⟩ : TBox) v4_0 v4_1 v4_2 ++ (restY (⟨⟨b0, b1, b2⟩, ⟨b3, b4, b5⟩⟩ : TBox) v4_0 (v4_1 + 1) ++ restX (⟨⟨b0, b1, b2⟩, ⟨b3, b4, b5⟩⟩ : TBox) (v4_0 + 1))).filter (⟨m0, m1, m2, m3, m4, m5, m6, m7, m8, m9, m10, m11⟩ : TMod).permB ∧ (b0 ≤ v4_0 ∧ v4_0 ≤ b3 ∧ (nn0 : Int) + v4_0 = b3 + 1) ∧ (b1 ≤ v4_1 ∧ v4_1 ≤ b4 ∧ (nn2 : Int) + v4_1 = b4 + 1) ∧ b2 ≤ v4_2 ∧ v4_2 ≤ b5 + 1 ∧ (nn4 : Int) + v4_2 = b5 + 2)
  | _, _ => False
set_option maxHeartbeats 8000000 in
set_option maxRecDepth 100000 in
theorem rnd_it_track_model_steps_1_0 (l0 : Nat) (b0 b1 b2 b3 b4 b5 : Int) (m0 m1 m2 m3 m4 m5 m6 m7 m8 m9 m10 m11 : Int) (v0_0 : Int) (cc nn0 : Nat) (hp : ((⟨⟨b0, b1, b2⟩, ⟨b3, b4, b5⟩⟩ : TBox)).lo.inS 20 = true ∧ ((⟨⟨b0, b1, b2⟩, ⟨b3, b4, b5⟩⟩ : TBox)).hi.inS 20 = true ∧ ((⟨⟨b0, b1, b2⟩, ⟨b3, b4, b5⟩⟩ : TBox)).ok) (hi : cc ≤ ((⟨m0, m1, m2, m3, m4, m5, m6, m7, m8, m9, m10, m11⟩ : TMod).steps (⟨⟨b0, b1, b2⟩, ⟨b3, b4, b5⟩⟩ : TBox)).length ∧ ((⟨m0, m1, m2, m3, m4, m5, m6, m7, m8, m9, m10, m11⟩ : TMod).steps (⟨⟨b0, b1, b2⟩, ⟨b3, b4, b5⟩⟩ : TBox)).drop cc = (restX (⟨⟨b0, b1, b2⟩, ⟨b3, b4, b5⟩⟩ : TBox) v0_0).filter (⟨m0, m1, m2, m3, m4, m5, m6, m7, m8, m9, m10, m11⟩ : TMod).permB ∧ b0 ≤ v0_0 ∧ v0_0 ≤ b3 + 1 ∧ ((nn0 + 1) : Int) + v0_0 = b3 + 2) : rd_it_track_model_steps_1_0 (J_it_track_model_steps_1 l0 b0 b1 b2 b3 b4 b5 m0 m1 m2 m3 m4 m5 m6 m7 m8 m9 m10 m11) l0 b0 b1 b2 b3 b4 b5 m0 m1 m2 m3 m4 m5 m6 m7 m8 m9 m10 m11 v0_0 cc nn0 := by
  obtain ⟨q1, q2, q3⟩ := hp
  obtain ⟨a1, a2, a3⟩ := inS_iff.1 q1
  obtain ⟨c1, c2, c3⟩ := inS_iff.1 q2
  obtain ⟨o1, o2, o3⟩ := q3
  simp only [TBox.rx, TBox.ry, TBox.rz, Rg.ok] at a1 a2 a3 c1 c2 c3 o1 o2 o3
  obtain ⟨i1, i2, i3, i4⟩ := hi
  unfold rd_it_track_model_steps_1_0
  refine ⟨by omega, cond_i (fun h => ⟨by omega, (b4 + 2 - b1).toNat, v0_0, b1, rfl, i1, ?_, ?_, by omega, by omega, by omega⟩) (fun h => ?_)⟩
  · have h := of_decide_eq_true h
    rw [i2, restX_cons (b := (⟨⟨b0, b1, b2⟩, ⟨b3, b4, b5⟩⟩ : TBox)) (by simpa using h)]
  · have h := of_decide_eq_true h
    omega
  · have h := of_decide_eq_false h
    rw [restX_nil (b := (⟨⟨b0, b1, b2⟩, ⟨b3, b4, b5⟩⟩ : TBox)) (by simp only; omega)] at i2
    unfold n_it_track_model_steps_1
    have := congrArg List.length i2
    simp at this
    omega
theorem zero_it_track_model_steps_1_0 (b0 b1 b2 b3 b4 b5 : Int) (m0 m1 m2 m3 m4 m5 m6 m7 m8 m9 m10 m11 : Int) (v0_0 : Int) (cc : Nat) (hi : cc ≤ ((⟨m0, m1, m2, m3, m4, m5, m6, m7, m8, m9, m10, m11⟩ : TMod).steps (⟨⟨b0, b1, b2⟩, ⟨b3, b4, b5⟩⟩ : TBox)).length ∧ ((⟨m0, m1, m2, m3, m4, m5, m6, m7, m8, m9, m10, m11⟩ : TMod).steps (⟨⟨b0, b1, b2⟩, ⟨b3, b4, b5⟩⟩ : TBox)).drop cc = (restX (⟨⟨b0, b1, b2⟩, ⟨b3, b4, b5⟩⟩ : TBox) v0_0).filter (⟨m0, m1, m2, m3, m4, m5, m6, m7, m8, m9, m10, m11⟩ : TMod).permB ∧ b0 ≤ v0_0 ∧ v0_0 ≤ b3 + 1 ∧ (0 : Int) + v0_0 = b3 + 2) : False := by
  omega
set_option maxHeartbeats 8000000 in
set_option maxRecDepth 100000 in
theorem rnd_it_track_model_steps_1_2 (l0 : Nat) (b0 b1 b2 b3 b4 b5 : Int) (m0 m1 m2 m3 m4 m5 m6 m7 m8 m9 m10 m11 : Int) (v2_0 : Int) (v2_1 : Int) (cc nn2 nn0 : Nat) (hp : ((⟨⟨b0, b1, b2⟩, ⟨b3, b4, b5⟩⟩ : TBox)).lo.inS 20 = true ∧ ((⟨⟨b0, b1, b2⟩, ⟨b3, b4, b5⟩⟩ : TBox)).hi.inS 20 = true ∧ ((⟨⟨b0, b1, b2⟩, ⟨b3, b4, b5⟩⟩ : TBox)).ok) (hi : cc ≤ ((⟨m0, m1, m2, m3, m4, m5, m6, m7, m8, m9, m10, m11⟩ : TMod).steps (⟨⟨b0, b1, b2⟩, ⟨b3, b4, b5⟩⟩ : TBox)).length ∧ ((⟨m0, m1, m2, m3, m4, m5, m6, m7, m8, m9, m10, m11⟩ : TMod).steps (⟨⟨b0, b1, b2⟩, ⟨b3, b4, b5⟩⟩ : TBox)).drop cc = (restY (⟨⟨b0, b1, b2⟩, ⟨b3, b4, b5⟩⟩ : TBox) v2_0 v2_1 ++ restX (⟨⟨b0, b1, b2⟩, ⟨b3, b4, b5⟩⟩ : TBox) (v2_0 + 1)).filter (⟨m0, m1, m2, m3, m4, m5, m6, m7, m8, m9, m10, m11⟩ : TMod).permB ∧ (b0 ≤ v2_0 ∧ v2_0 ≤ b3 ∧ (nn0 : Int) + v2_0 = b3 + 1) ∧ b1 ≤ v2_1 ∧ v2_1 ≤ b4 + 1 ∧ ((nn2 + 1) : Int) + v2_1 = b4 + 2) : rd_it_track_model_steps_1_2 (J_it_track_model_steps_1 l0 b0 b1 b2 b3 b4 b5 m0 m1 m2 m3 m4 m5 m6 m7 m8 m9 m10 m11) l0 b0 b1 b2 b3 b4 b5 m0 m1 m2 m3 m4 m5 m6 m7 m8 m9 m10 m11 v2_0 v2_1 cc nn2 nn0 := by
  obtain ⟨q1, q2, q3⟩ := hp
  obtain ⟨a1, a2, a3⟩ := inS_iff.1 q1
  obtain ⟨c1, c2, c3⟩ := inS_iff.1 q2
  obtain ⟨o1, o2, o3⟩ := q3
  simp only [TBox.rx, TBox.ry, TBox.rz, Rg.ok] at a1 a2 a3 c1 c2 c3 o1 o2 o3
  obtain ⟨i1, i2, i3, i4, i5⟩ := hi
  unfold rd_it_track_model_steps_1_2
  refine ⟨by omega, cond_i (fun h => ⟨by omega, (b5 + 2 - b2).toNat, v2_0, v2_1, b2, rfl, i1, ?_, by omega, ?_, by omega, by omega, by omega⟩) (fun h => lt_i fun x hx => ?_)⟩
  · have h := of_decide_eq_true h
    rw [i2, restY_cons (b := (⟨⟨b0, b1, b2⟩, ⟨b3, b4, b5⟩⟩ : TBox)) (by simpa using h), List.append_assoc]
  · have h := of_decide_eq_true h
    omega
  · have h := of_decide_eq_false h
    rw [IntWalk.i64_in _ (by omega)] at hx
    subst hx
    refine ⟨v2_0 + 1, rfl, i1, ?_, by omega, by omega, by omega⟩
    rw [i2, restY_nil (b := (⟨⟨b0, b1, b2⟩, ⟨b3, b4, b5⟩⟩ : TBox)) (by simp only; omega), List.nil_append]
theorem zero_it_track_model_steps_1_2 (b0 b1 b2 b3 b4 b5 : Int) (m0 m1 m2 m3 m4 m5 m6 m7 m8 m9 m10 m11 : Int) (v2_0 : Int) (v2_1 : Int) (cc nn0 : Nat) (hi : cc ≤ ((⟨m0, m1, m2, m3, m4, m5, m6, m7, m8, m9, m10, m11⟩ : TMod).steps (⟨⟨b0, b1, b2⟩, ⟨b3, b4, b5⟩⟩ : TBox)).length ∧ ((⟨m0, m1, m2, m3, m4, m5, m6, m7, m8, m9, m10, m11⟩ : TMod).steps (⟨⟨b0, b1, b2⟩, ⟨b3, b4, b5⟩⟩ : TBox)).drop cc = (restY (⟨⟨b0, b1, b2⟩, ⟨b3, b4, b5⟩⟩ : TBox) v2_0 v2_1 ++ restX (⟨⟨b0, b1, b2⟩, ⟨b3, b4, b5⟩⟩ : TBox) (v2_0 + 1)).filter (⟨m0, m1, m2, m3, m4, m5, m6, m7, m8, m9, m10, m11⟩ : TMod).permB ∧ (b0 ≤ v2_0 ∧ v2_0 ≤ b3 ∧ (nn0 : Int) + v2_0 = b3 + 1) ∧ b1 ≤ v2_1 ∧ v2_1 ≤ b4 + 1 ∧ (0 : Int) + v2_1 = b4 + 2) : False := by
  omega
set_option maxHeartbeats 8000000 in
set_option maxRecDepth 100000 in
theorem rnd_it_track_model_steps_1_4 (l0 : Nat) (b0 b1 b2 b3 b4 b5 : Int) (m0 m1 m2 m3 m4 m5 m6 m7 m8 m9 m10 m11 : Int) (v4_0 : Int) (v4_1 : Int) (v4_2 : Int) (cc nn4 nn2 nn0 : Nat) (hp : ((⟨⟨b0, b1, b2⟩, ⟨b3, b4, b5⟩⟩ : TBox)).lo.inS 20 = true ∧ ((⟨⟨b0, b1, b2⟩, ⟨b3, b4, b5⟩⟩ : TBox)).hi.inS 20 = true ∧ ((⟨⟨b0, b1, b2⟩, ⟨b3, b4, b5⟩⟩ : TBox)).ok) (hi : cc ≤ ((⟨m0, m1, m2, m3, m4, m5, m6, m7, m8, m9, m10, m11⟩ : TMod).steps (⟨⟨b0, b1, b2⟩, ⟨b3, b4, b5⟩⟩ : TBox)).length ∧ ((⟨m0, m1, m2, m3, m4, m5, m6, m7, m8, m9, m10, m11⟩ : TMod).steps (⟨⟨b0, b1, b2⟩, ⟨b3, b4, b5⟩⟩ : TBox)).drop cc = (restZ (⟨⟨b0, b1, b2⟩, ⟨b3, b4, b5⟩⟩ : TBox) v4_0 v4_1 v4_2 ++ (restY (⟨⟨b0, b1, b2⟩, ⟨b3, b4, b5⟩⟩ : TBox) v4_0 (v4_1 + 1) ++ restX (⟨⟨b0, b1, b2⟩, ⟨b3, b4, b5⟩⟩ : TBox) (v4_0 + 1))).filter (⟨m0, m1, m2, m3, m4, m5, m6, m7, m8, m9, m10, m11⟩ : TMod).permB ∧ (b0 ≤ v4_0 ∧ v4_0 ≤ b3 ∧ (nn0 : Int) + v4_0 = b3 + 1) ∧ (b1 ≤ v4_1 ∧ v4_1 ≤ b4 ∧ (nn2 : Int) + v4_1 = b4 + 1) ∧ b2 ≤ v4_2 ∧ v4_2 ≤ b5 + 1 ∧ ((nn4 + 1) : Int) + v4_2 = b5 + 2) : rd_it_track_model_steps_1_4 (J_it_track_model_steps_1 l0 b0 b1 b2 b3 b4 b5 m0 m1 m2 m3 m4 m5 m6 m7 m8 m9 m10 m11) l0 b0 b1 b2 b3 b4 b5 m0 m1 m2 m3 m4 m5 m6 m7 m8 m9 m10 m11 v4_0 v4_1 v4_2 cc nn4 nn2 nn0 := by
  obtain ⟨q1, q2, q3⟩ := hp
  obtain ⟨a1, a2, a3⟩ := inS_iff.1 q1
  obtain ⟨c1, c2, c3⟩ := inS_iff.1 q2
  obtain ⟨o1, o2, o3⟩ := q3
  simp only [TBox.rx, TBox.ry, TBox.rz, Rg.ok] at a1 a2 a3 c1 c2 c3 o1 o2 o3
  obtain ⟨i1, i2, i3, i4, i5⟩ := hi
  unfold rd_it_track_model_steps_1_4
  refine ⟨by omega, cond_i (fun h => ?_) (fun h => lt_i fun x hx => ?_)⟩
  · have h := of_decide_eq_true h
    refine ⟨sm_in (by simp only; omega) (by simp only; omega) (by simp only; omega), ?_⟩
    rw [restZ_cons (b := (⟨⟨b0, b1, b2⟩, ⟨b3, b4, b5⟩⟩ : TBox)) (by simpa using h), List.cons_append, List.filter_cons] at i2
    refine cond_i (fun e => ⟨⟨rfl, ?_, ?_⟩, lt_i fun x hx => ?_, trivial⟩) (fun e => ⟨rfl, lt_i fun x hx => ?_⟩)
    · rw [if_pos e] at i2
      exact (drop_cons i2).1
    · rw [if_pos e] at i2
      have e2 := (drop_cons i2).2.1
      unfold y_it_track_model_steps_1
      rw [show plAt ((⟨m0, m1, m2, m3, m4, m5, m6, m7, m8, m9, m10, m11⟩ : TMod).steps (⟨⟨b0, b1, b2⟩, ⟨b3, b4, b5⟩⟩ : TBox)) cc = _ from e2]; rfl
    · rw [if_pos e] at i2
      rw [IntWalk.i64_in _ (by omega)] at hx
      subst hx
      exact ⟨_, _, _, rfl, (drop_cons i2).1, (drop_cons i2).2.2, i3, i4, by omega, by omega, by omega⟩
    · rw [if_neg (by rw [e]; simp)] at i2
      rw [IntWalk.i64_in _ (by omega)] at hx
      subst hx
      exact ⟨_, _, _, rfl, i1, i2, i3, i4, by omega, by omega, by omega⟩
  · have h := of_decide_eq_false h
    rw [IntWalk.i64_in _ (by omega)] at hx
    subst hx
    refine ⟨v4_0, v4_1 + 1, rfl, i1, ?_, i3, by omega, by omega, by omega⟩
    rw [i2, restZ_nil (b := (⟨⟨b0, b1, b2⟩, ⟨b3, b4, b5⟩⟩ : TBox)) (by simp only; omega), List.nil_append]
theorem zero_it_track_model_steps_1_4 (b0 b1 b2 b3 b4 b5 : Int) (m0 m1 m2 m3 m4 m5 m6 m7 m8 m9 m10 m11 : Int) (v4_0 : Int) (v4_1 : Int) (v4_2 : Int) (cc nn2 nn0 : Nat) (hi : cc ≤ ((⟨m0, m1, m2, m3, m4, m5, m6, m7, m8, m9, m10, m11⟩ : TMod).steps (⟨⟨b0, b1, b2⟩, ⟨b3, b4, b5⟩⟩ : TBox)).length ∧ ((⟨m0, m1, m2, m3, m4, m5, m6, m7, m8, m9, m10, m11⟩ : TMod).steps (⟨⟨b0, b1, b2⟩, ⟨b3, b4, b5⟩⟩ : TBox)).drop cc = (restZ (⟨⟨b0, b1, b2⟩, ⟨b3, b4, b5⟩⟩ : TBox) v4_0 v4_1 v4_2 ++ (restY (⟨⟨b0, b1, b2⟩, ⟨b3, b4, b5⟩⟩ : TBox) v4_0 (v4_1 + 1) ++ restX (⟨⟨b0, b1, b2⟩, ⟨b3, b4, b5⟩⟩ : TBox) (v4_0 + 1))).filter (⟨m0, m1, m2, m3, m4, m5, m6, m7, m8, m9, m10, m11⟩ : TMod).permB ∧ (b0 ≤ v4_0 ∧ v4_0 ≤ b3 ∧ (nn0 : Int) + v4_0 = b3 + 1) ∧ (b1 ≤ v4_1 ∧ v4_1 ≤ b4 ∧ (nn2 : Int) + v4_1 = b4 + 1) ∧ b2 ≤ v4_2 ∧ v4_2 ≤ b5 + 1 ∧ (0 : Int) + v4_2 = b5 + 2) : False := by
  omega
set_option maxHeartbeats 8000000 in
set_option maxRecDepth 100000 in
theorem spec_it_track_model_steps_1 (l0 : Nat) (b0 b1 b2 b3 b4 b5 : Int) (m0 m1 m2 m3 m4 m5 m6 m7 m8 m9 m10 m11 : Int) (hp : ((⟨⟨b0, b1, b2⟩, ⟨b3, b4, b5⟩⟩ : TBox)).lo.inS 20 = true ∧ ((⟨⟨b0, b1, b2⟩, ⟨b3, b4, b5⟩⟩ : TBox)).hi.inS 20 = true ∧ ((⟨⟨b0, b1, b2⟩, ⟨b3, b4, b5⟩⟩ : TBox)).ok) : vc_it_track_model_steps_1 (J_it_track_model_steps_1 l0 b0 b1 b2 b3 b4 b5 m0 m1 m2 m3 m4 m5 m6 m7 m8 m9 m10 m11) l0 b0 b1 b2 b3 b4 b5 m0 m1 m2 m3 m4 m5 m6 m7 m8 m9 m10 m11 := by
  obtain ⟨q1, q2, q3⟩ := hp
  obtain ⟨a1, a2, a3⟩ := inS_iff.1 q1
  obtain ⟨c1, c2, c3⟩ := inS_iff.1 q2
  obtain ⟨o1, o2, o3⟩ := q3
  simp only [TBox.rx, TBox.ry, TBox.rz, Rg.ok] at a1 a2 a3 c1 c2 c3 o1 o2 o3
  unfold vc_it_track_model_steps_1
  refine ⟨by omega, (b3 + 2 - b0).toNat, b0, rfl, by omega, ?_, by omega, by omega, by omega⟩
  rw [List.drop_zero]; rfl
theorem all_it_track_model_steps_1 (l0 : Nat) (b0 b1 b2 b3 b4 b5 : Int) (m0 m1 m2 m3 m4 m5 m6 m7 m8 m9 m10 m11 : Int) (hp : ((⟨⟨b0, b1, b2⟩, ⟨b3, b4, b5⟩⟩ : TBox)).lo.inS 20 = true ∧ ((⟨⟨b0, b1, b2⟩, ⟨b3, b4, b5⟩⟩ : TBox)).hi.inS 20 = true ∧ ((⟨⟨b0, b1, b2⟩, ⟨b3, b4, b5⟩⟩ : TBox)).ok) : AllY (J_it_track_model_steps_1 l0 b0 b1 b2 b3 b4 b5 m0 m1 m2 m3 m4 m5 m6 m7 m8 m9 m10 m11) (loopsIt Try.prog tab S45 ann_it_track_model_steps_1 (J_it_track_model_steps_1 l0 b0 b1 b2 b3 b4 b5 m0 m1 m2 m3 m4 m5 m6 m7 m8 m9 m10 m11) l0 (n_it_track_model_steps_1 b0 b1 b2 b3 b4 b5 m0 m1 m2 m3 m4 m5 m6 m7 m8 m9 m10 m11) (y_it_track_model_steps_1 b0 b1 b2 b3 b4 b5 m0 m1 m2 m3 m4 m5 m6 m7 m8 m9 m10 m11) (keepOf 1 [.px 6 0 (boxC [.v (.int .i64 b0), .v (.int .i64 b1), .v (.int .i64 b2), .v (.int .i64 b3), .v (.int .i64 b4), .v (.int .i64 b5)]), .px 12 0 (boxC [.v (.int .i64 m0), .v (.int .i64 m1), .v (.int .i64 m2), .v (.int .i64 m3), .v (.int .i64 m4), .v (.int .i64 m5), .v (.int .i64 m6), .v (.int .i64 m7), .v (.int .i64 m8), .v (.int .i64 m9), .v (.int .i64 m10), .v (.int .i64 m11)])]) Try.f134) := by
  rw [lp_it_track_model_steps_1]
  refine ⟨⟨?_, ?_⟩, ⟨?_, ?_⟩, ⟨?_, ?_⟩, trivial⟩
  · intro c F s h
    obtain _ | ⟨g, F⟩ := F
    case cons => exact h.elim
    obtain ⟨w0, rfl, hi⟩ := h
    exact zero_it_track_model_steps_1_0 _ _ _ _ _ _ _ _ _ _ _ _ _ _ _ _ _ _ _ _ hi
  · intro c n F s h
    obtain _ | ⟨g, F⟩ := F
    case cons => exact h.elim
    obtain ⟨w0, rfl, hi⟩ := h
    rw [er_it_track_model_steps_1_0]
    exact rnd_it_track_model_steps_1_0 l0 _ _ _ _ _ _ _ _ _ _ _ _ _ _ _ _ _ _ _ _ _ hp hi
  · intro c F s h
    obtain _ | ⟨f0, F⟩ := F
    · exact h.elim
    obtain _ | ⟨g, F⟩ := F
    case cons => exact h.elim
    obtain ⟨w0, w1, rfl, hi⟩ := h
    exact zero_it_track_model_steps_1_2 _ _ _ _ _ _ _ _ _ _ _ _ _ _ _ _ _ _ _ _ _ _ hi
  · intro c n F s h
    obtain _ | ⟨f0, F⟩ := F
    · exact h.elim
    obtain _ | ⟨g, F⟩ := F
    case cons => exact h.elim
    obtain ⟨w0, w1, rfl, hi⟩ := h
    rw [er_it_track_model_steps_1_2]
    exact rnd_it_track_model_steps_1_2 l0 _ _ _ _ _ _ _ _ _ _ _ _ _ _ _ _ _ _ _ _ _ _ _ hp hi
  · intro c F s h
    obtain _ | ⟨f0, F⟩ := F
    · exact h.elim
    obtain _ | ⟨f1, F⟩ := F
    · exact h.elim
    obtain _ | ⟨g, F⟩ := F
    case cons => exact h.elim
    obtain ⟨w0, w1, w2, rfl, hi⟩ := h
    exact zero_it_track_model_steps_1_4 _ _ _ _ _ _ _ _ _ _ _ _ _ _ _ _ _ _ _ _ _ _ _ _ hi
  · intro c n F s h
    obtain _ | ⟨f0, F⟩ := F
    · exact h.elim
    obtain _ | ⟨f1, F⟩ := F
    · exact h.elim
    obtain _ | ⟨g, F⟩ := F
    case cons => exact h.elim
    obtain ⟨w0, w1, w2, rfl, hi⟩ := h
    rw [er_it_track_model_steps_1_4]
    exact rnd_it_track_model_steps_1_4 l0 _ _ _ _ _ _ _ _ _ _ _ _ _ _ _ _ _ _ _ _ _ _ _ _ _ hp hi
def con_it_track_model_steps_1 : ItC := fun l => match l with
  | [.px 6 0 c_b, .px 12 0 c_m] => some ⟨n_it_track_model_steps_1 (cvInt (c_b 0)) (cvInt (c_b 1)) (cvInt (c_b 2)) (cvInt (c_b 3)) (cvInt (c_b 4)) (cvInt (c_b 5)) (cvInt (c_m 0)) (cvInt (c_m 1)) (cvInt (c_m 2)) (cvInt (c_m 3)) (cvInt (c_m 4)) (cvInt (c_m 5)) (cvInt (c_m 6)) (cvInt (c_m 7)) (cvInt (c_m 8)) (cvInt (c_m 9)) (cvInt (c_m 10)) (cvInt (c_m 11)), 1, y_it_track_model_steps_1 (cvInt (c_b 0)) (cvInt (c_b 1)) (cvInt (c_b 2)) (cvInt (c_b 3)) (cvInt (c_b 4)) (cvInt (c_b 5)) (cvInt (c_m 0)) (cvInt (c_m 1)) (cvInt (c_m 2)) (cvInt (c_m 3)) (cvInt (c_m 4)) (cvInt (c_m 5)) (cvInt (c_m 6)) (cvInt (c_m 7)) (cvInt (c_m 8)) (cvInt (c_m 9)) (cvInt (c_m 10)) (cvInt (c_m 11)), some (numsB 6 c_b = true ∧ numsB 12 c_m = true ∧ ((⟨⟨(cvInt (c_b 0)), (cvInt (c_b 1)), (cvInt (c_b 2))⟩, ⟨(cvInt (c_b 3)), (cvInt (c_b 4)), (cvInt (c_b 5))⟩⟩ : TBox)).lo.inS 20 = true ∧ ((⟨⟨(cvInt (c_b 0)), (cvInt (c_b 1)), (cvInt (c_b 2))⟩, ⟨(cvInt (c_b 3)), (cvInt (c_b 4)), (cvInt (c_b 5))⟩⟩ : TBox)).hi.inS 20 = true ∧ ((⟨⟨(cvInt (c_b 0)), (cvInt (c_b 1)), (cvInt (c_b 2))⟩, ⟨(cvInt (c_b 3)), (cvInt (c_b 4)), (cvInt (c_b 5))⟩⟩ : TBox)).ok)⟩
  | _ => none
theorem ok_it_track_model_steps_1 : OkIt Try.prog 134 con_it_track_model_steps_1 := by
  refine OkIt.it (ann := ann_it_track_model_steps_1) tabOK VS45 (fn := Try.f134) (by kernel_rfl) (by kernel_rfl) fun l R h hp => ?_
  unfold con_it_track_model_steps_1 at h
  split at h
  · rename_i c_b c_m
    cases h
    obtain ⟨hq0, hq1, hp⟩ := hp
    refine ⟨[.px 6 0 (boxC (pxL 6 c_b)), .px 12 0 (boxC (pxL 12 c_m))], (leC_cons (leC_px hq0) (leC_cons (leC_px hq1) (LeC.refl []))), ?_, Nat.le_of_ble_eq_true (by kernel_rfl), fun i => ⟨rfl, rfl⟩, fun l0 => ⟨J_it_track_model_steps_1 l0 (cvInt (c_b 0)) (cvInt (c_b 1)) (cvInt (c_b 2)) (cvInt (c_b 3)) (cvInt (c_b 4)) (cvInt (c_b 5)) (cvInt (c_m 0)) (cvInt (c_m 1)) (cvInt (c_m 2)) (cvInt (c_m 3)) (cvInt (c_m 4)) (cvInt (c_m 5)) (cvInt (c_m 6)) (cvInt (c_m 7)) (cvInt (c_m 8)) (cvInt (c_m 9)) (cvInt (c_m 10)) (cvInt (c_m 11)), ?_, ?_⟩⟩
    · exact fit_it_track_model_steps_1 (cvInt (c_b 0)) (cvInt (c_b 1)) (cvInt (c_b 2)) (cvInt (c_b 3)) (cvInt (c_b 4)) (cvInt (c_b 5)) (cvInt (c_m 0)) (cvInt (c_m 1)) (cvInt (c_m 2)) (cvInt (c_m 3)) (cvInt (c_m 4)) (cvInt (c_m 5)) (cvInt (c_m 6)) (cvInt (c_m 7)) (cvInt (c_m 8)) (cvInt (c_m 9)) (cvInt (c_m 10)) (cvInt (c_m 11))
    · exact (ev_it_track_model_steps_1 _ l0 (cvInt (c_b 0)) (cvInt (c_b 1)) (cvInt (c_b 2)) (cvInt (c_b 3)) (cvInt (c_b 4)) (cvInt (c_b 5)) (cvInt (c_m 0)) (cvInt (c_m 1)) (cvInt (c_m 2)) (cvInt (c_m 3)) (cvInt (c_m 4)) (cvInt (c_m 5)) (cvInt (c_m 6)) (cvInt (c_m 7)) (cvInt (c_m 8)) (cvInt (c_m 9)) (cvInt (c_m 10)) (cvInt (c_m 11))).mpr (spec_it_track_model_steps_1 l0 (cvInt (c_b 0)) (cvInt (c_b 1)) (cvInt (c_b 2)) (cvInt (c_b 3)) (cvInt (c_b 4)) (cvInt (c_b 5)) (cvInt (c_m 0)) (cvInt (c_m 1)) (cvInt (c_m 2)) (cvInt (c_m 3)) (cvInt (c_m 4)) (cvInt (c_m 5)) (cvInt (c_m 6)) (cvInt (c_m 7)) (cvInt (c_m 8)) (cvInt (c_m 9)) (cvInt (c_m 10)) (cvInt (c_m 11)) hp)
    · exact all_it_track_model_steps_1 l0 (cvInt (c_b 0)) (cvInt (c_b 1)) (cvInt (c_b 2)) (cvInt (c_b 3)) (cvInt (c_b 4)) (cvInt (c_b 5)) (cvInt (c_m 0)) (cvInt (c_m 1)) (cvInt (c_m 2)) (cvInt (c_m 3)) (cvInt (c_m 4)) (cvInt (c_m 5)) (cvInt (c_m 6)) (cvInt (c_m 7)) (cvInt (c_m 8)) (cvInt (c_m 9)) (cvInt (c_m 10)) (cvInt (c_m 11)) hp
  · cases h
def I46 : It := addI noIt 134 con_it_track_model_steps_1
theorem VI46 : ValidIt Try.prog I46 := ValidIt.add ValidIt.no ok_it_track_model_steps_1

def mk_ref05_All_0 (b0 b1 b2 b3 b4 b5 : Int) (v0_0 : List (List CV)) (v0_1 : Int) : DS := ⟨[none, some (.t (.c (.p 1 0))), none, some (.t (.c (.os 3))), some (.t (.c (.v (.int .i64 v0_1)))), none, none, none, none, none, none, none, none, none, none, none, none, none, none, none, none, none, none, none, none, none, none, none, none, none, none, none, none, none, none, none, none, none, none, none, none, none, none, none, none], [none, some (.box 75 [.v (.int .i64 b0), .v (.int .i64 b1), .v (.int .i64 b2), .v (.int .i64 b3), .v (.int .i64 b4), .v (.int .i64 b5)]), none, some (.gen 22 3 v0_0), none, none, none, none, none, none, none, none, none, none, none, none, none, none, none, none, none, none, none, none, none, none, none, none, none, none, none, none, none, none, none, none, none, none, none, none, none, none, none, none, none]⟩
def mk_ref05_All_2 (b0 b1 b2 b3 b4 b5 : Int) (v2_0 : List (List CV)) (v2_1 : Int) (v2_2 : Int) : DS := ⟨[none, some (.t (.c (.p 1 0))), none, some (.t (.c (.os 3))), some (.t (.c (.v (.int .i64 v2_1)))), some (.t (.c (.v (.int .i64 v2_2)))), none, none, none, none, none, none, none, none, none, none, none, none, none, none, none, none, none, none, none, none, none, none, none, none, none, none, none, none, none, none, none, none, none, none, none, none, none, none, none], [none, some (.box 75 [.v (.int .i64 b0), .v (.int .i64 b1), .v (.int .i64 b2), .v (.int .i64 b3), .v (.int .i64 b4), .v (.int .i64 b5)]), none, some (.gen 22 3 v2_0), none, none, none, none, none, none, none, none, none, none, none, none, none, none, none, none, none, none, none, none, none, none, none, none, none, none, none, none, none, none, none, none, none, none, none, none, none, none, none, none, none]⟩
def mk_ref05_All_4 (b0 b1 b2 b3 b4 b5 : Int) (v4_0 : List (List CV)) (v4_1 : Int) (v4_2 : Int) (v4_3 : Int) : DS := ⟨[none, some (.t (.c (.p 1 0))), none, some (.t (.c (.os 3))), some (.t (.c (.v (.int .i64 v4_1)))), some (.t (.c (.v (.int .i64 v4_2)))), some (.t (.c (.v (.int .i64 v4_3)))), none, none, none, none, none, none, none, none, none, none, none, none, none, none, none, none, none, none, none, none, none, none, none, none, none, none, none, none, none, none, none, none, none, none, none, none, none, none], [none, some (.box 75 [.v (.int .i64 b0), .v (.int .i64 b1), .v (.int .i64 b2), .v (.int .i64 b3), .v (.int .i64 b4), .v (.int .i64 b5)]), none, some (.gen 22 3 v4_0), none, none, none, none, none, none, none, none, none, none, none, none, none, none, none, none, none, none, none, none, none, none, none, none, none, none, none, none, none, none, none, none, none, none, none, none, none, none, none, none, none]⟩
def vc_ref05_All (J : Inv) (b0 b1 b2 b3 b4 b5 : Int) (post : DV → Prop) : Prop := (0 ≤ (0 : Int) ∧ (0 : Int) < ((3 : Nat) : Int)) ∧ (∃ n, J 0 (n :: []) (mk_ref05_All_0 b0 b1 b2 b3 b4 b5 ([]) b0))
def ann_ref05_All : Ann := ⟨fun _ => none, fun b => lookA b [(0, (none, some ⟨[1, 4], [1], [(3, .gen 22 3 [])]⟩)), (2, (none, some ⟨[1, 4, 5], [1], [(3, .gen 22 3 [])]⟩)), (4, (none, some ⟨[1, 4, 5, 6], [1], [(3, .gen 22 3 [])]⟩))], fun _ => [], I46, false, fun _ => none, fun _ => none⟩
theorem ev_ref05_All (J : Inv) (b0 b1 b2 b3 b4 b5 : Int) (post : DV → Prop) : evFn Try.prog tab S45 ann_ref05_All J Try.f106 [.t (.a [.v (.int .i64 b0), .v (.int .i64 b1), .v (.int .i64 b2), .v (.int .i64 b3), .v (.int .i64 b4), .v (.int .i64 b5)])] post = vc_ref05_All J b0 b1 b2 b3 b4 b5 post := by kernel_rfl
theorem fit_ref05_All : okFn ann_ref05_All Try.f106 = true := by kernel_rfl
def rd_ref05_All_0 (J : Inv) (b0 b1 b2 b3 b4 b5 : Int) (v0_0 : List (List CV)) (v0_1 : Int) (nn0 : Nat) (post : DV → Prop) : Prop := (0 ≤ (0 : Int) ∧ (0 : Int) < ((3 : Nat) : Int)) ∧ (cond (decide (v0_1 ≤ b3)) ((0 ≤ (1 : Int) ∧ (1 : Int) < ((3 : Nat) : Int)) ∧ (∃ n, J 2 (n :: nn0 :: []) (mk_ref05_All_2 b0 b1 b2 b3 b4 b5 v0_0 v0_1 b1))) (post (.t (.c (.sl 3 v0_0.length (genC v0_0))))))
theorem er_ref05_All_0 (J : Inv) (b0 b1 b2 b3 b4 b5 : Int) (v0_0 : List (List CV)) (v0_1 : Int) (nn0 : Nat) (post : DV → Prop) : round Try.prog tab S45 ann_ref05_All J Try.f106 post 0 (nn0 :: []) (mk_ref05_All_0 b0 b1 b2 b3 b4 b5 v0_0 v0_1) = rd_ref05_All_0 J b0 b1 b2 b3 b4 b5 v0_0 v0_1 nn0 post := by kernel_rfl
def rd_ref05_All_2 (J : Inv) (b0 b1 b2 b3 b4 b5 : Int) (v2_0 : List (List CV)) (v2_1 : Int) (v2_2 : Int) (nn2 nn0 : Nat) (post : DV → Prop) : Prop := (0 ≤ (1 : Int) ∧ (1 : Int) < ((3 : Nat) : Int)) ∧ (cond (decide (v2_2 ≤ b4)) ((0 ≤ (2 : Int) ∧ (2 : Int) < ((3 : Nat) : Int)) ∧ (∃ n, J 4 (n :: nn2 :: nn0 :: []) (mk_ref05_All_4 b0 b1 b2 b3 b4 b5 v2_0 v2_1 v2_2 b2))) (lt (IntKind.i64.wrap (v2_1 + (1 : Int))) fun x1 => J 0 (nn0 :: []) (mk_ref05_All_0 b0 b1 b2 b3 b4 b5 v2_0 x1)))
theorem er_ref05_All_2 (J : Inv) (b0 b1 b2 b3 b4 b5 : Int) (v2_0 : List (List CV)) (v2_1 : Int) (v2_2 : Int) (nn2 nn0 : Nat) (post : DV → Prop) : round Try.prog tab S45 ann_ref05_All J Try.f106 post 1 (nn2 :: nn0 :: []) (mk_ref05_All_2 b0 b1 b2 b3 b4 b5 v2_0 v2_1 v2_2) = rd_ref05_All_2 J b0 b1 b2 b3 b4 b5 v2_0 v2_1 v2_2 nn2 nn0 post := by kernel_rfl
def rd_ref05_All_4 (J : Inv) (b0 b1 b2 b3 b4 b5 : Int) (v4_0 : List (List CV)) (v4_1 : Int) (v4_2 : Int) (v4_3 : Int) (nn4 nn2 nn0 : Nat) (post : DV → Prop) : Prop := (0 ≤ (2 : Int) ∧ (2 : Int) < ((3 : Nat) : Int)) ∧ (cond (decide (v4_3 ≤ b5)) ((roomP 24 (v4_0.length + ([[.v (.int .i64 v4_1), .v (.int .i64 v4_2), .v (.int .i64 v4_3)]] : List (List CV)).length)) ∧ (lt (IntKind.i64.wrap (v4_3 + (1 : Int))) fun x1 => J 4 (nn4 :: nn2 :: nn0 :: []) (mk_ref05_All_4 b0 b1 b2 b3 b4 b5 (v4_0 ++ ([[.v (.int .i64 v4_1), .v (.int .i64 v4_2), .v (.int .i64 v4_3)]] : List (List CV))) v4_1 v4_2 x1))) (lt (IntKind.i64.wrap (v4_2 + (1 : Int))) fun x2 => J 2 (nn2 :: nn0 :: []) (mk_ref05_All_2 b0 b1 b2 b3 b4 b5 v4_0 v4_1 x2)))
theorem er_ref05_All_4 (J : Inv) (b0 b1 b2 b3 b4 b5 : Int) (v4_0 : List (List CV)) (v4_1 : Int) (v4_2 : Int) (v4_3 : Int) (nn4 nn2 nn0 : Nat) (post : DV → Prop) : round Try.prog tab S45 ann_ref05_All J Try.f106 post 2 (nn4 :: nn2 :: nn0 :: []) (mk_ref05_All_4 b0 b1 b2 b3 b4 b5 v4_0 v4_1 v4_2 v4_3) = rd_ref05_All_4 J b0 b1 b2 b3 b4 b5 v4_0 v4_1 v4_2 v4_3 nn4 nn2 nn0 post := by kernel_rfl
theorem lp_ref05_All (J : Inv) (post : DV → Prop) : AllG J (loopsFn Try.prog tab S45 ann_ref05_All J Try.f106 post) = (((∀ F s, ¬ J 0 (0 :: F) s) ∧ ∀ n F s, J 0 ((n + 1) :: F) s → round Try.prog tab S45 ann_ref05_All J Try.f106 post 0 (n :: F) s) ∧ ((∀ F s, ¬ J 2 (0 :: F) s) ∧ ∀ n F s, J 2 ((n + 1) :: F) s → round Try.prog tab S45 ann_ref05_All J Try.f106 post 1 (n :: F) s) ∧ ((∀ F s, ¬ J 4 (0 :: F) s) ∧ ∀ n F s, J 4 ((n + 1) :: F) s → round Try.prog tab S45 ann_ref05_All J Try.f106 post 2 (n :: F) s) ∧ True) := by kernel_rfl
def J_ref05_All (b0 b1 b2 b3 b4 b5 : Int) : Inv := fun b F s => match b, F with
  | 0, [nn0] => ∃ (v0_0 : List (List CV)) (v0_1 : Int), s = mk_ref05_All_0 b0 b1 b2 b3 b4 b5 v0_0 v0_1 ∧ (v0_0.length ≤ 68921 ∧ v0_0 ++ (restX (⟨⟨b0, b1, b2⟩, ⟨b3, b4, b5⟩⟩ : TBox) v0_1).map v3Cv = (⟨⟨b0, b1, b2⟩, ⟨b3, b4, b5⟩⟩ : TBox).all.map v3Cv ∧ b0 ≤ v0_1 ∧ v0_1 ≤ b3 + 1 ∧ (nn0 : Int) + v0_1 = b3 + 2)
  | 2, [nn2, nn0] => ∃ (v2_0 : List (List CV)) (v2_1 : Int) (v2_2 : Int), s = mk_ref05_All_2 b0 b1 b2 b3 b4 b5 v2_0 v2_1 v2_2 ∧ (v2_0.length ≤ 68921 ∧ v2_0 ++ (restY (⟨⟨b0, b1, b2⟩, ⟨b3, b4, b5⟩⟩ : TBox) v2_1 v2_2 ++ restX (⟨⟨b0, b1, b2⟩, ⟨b3, b4, b5⟩⟩ : TBox) (v2_1 + 1)).map v3Cv = (⟨⟨b0, b1, b2⟩, ⟨b3, b4, b5⟩⟩ : TBox).all.map v3Cv ∧ (b0 ≤ v2_1 ∧ v2_1 ≤ b3 ∧ (nn0 : Int) + v2_1 = b3 + 1) ∧ b1 ≤ v2_2 ∧ v2_2 ≤ b4 + 1 ∧ (nn2 : Int) + v2_2 = b4 + 2)
  | 4, [nn4, nn2, nn0] => ∃ (v4_0 : List (List CV)) (v4_1 : Int) (v4_2 : Int) (v4_3 : Int), s = mk_ref05_All_4 b0 b1 b2 b3 b4 b5 v4_0 v4_1 v4_2 v4_3 ∧ (v4_0.length ≤ 68921 ∧ v4_0 ++ (restZ (⟨⟨b0, b1, b2⟩, ⟨b3, b4, b5⟩⟩ : TBox) v4_1 v4_2 v4_3 ++ (restY (⟨⟨b0, b1, b2⟩, ⟨b3, b4, b5⟩⟩ : TBox) v4_1 (v4_2 + 1) ++ restX (⟨⟨b0, b1, b2⟩, ⟨b3, b4, b5⟩⟩ : TBox) (v4_1 + 1))).map v3Cv = (⟨⟨b0, b1, b2⟩, ⟨b3, b4, b5⟩⟩ : TBox).all.map v3Cv ∧ (b0 ≤ v4_1 ∧ v4_1 ≤ b3 ∧ (nn0 : Int) + v4_1 = b3 + 1) ∧ (b1 ≤ v4_2 ∧ v4_2 ≤ b4 ∧ (nn2 : Int) + v4_2 = b4 + 1) ∧ b2 ≤ v4_3 ∧ v4_3 ≤ b5 + 1 ∧ (nn4 : Int) + v4_3 = b5 + 2)
  | _, _ => False
set_option maxHeartbeats 8000000 in
set_option maxRecDepth 100000 in
theorem rnd_ref05_All_0 (b0 b1 b2 b3 b4 b5 : Int) (v0_0 : List (List CV)) (v0_1 : Int) (nn0 : Nat) (hp : ((⟨⟨b0, b1, b2⟩, ⟨b3, b4, b5⟩⟩ : TBox)).lo.inS 20 = true ∧ ((⟨⟨b0, b1, b2⟩, ⟨b3, b4, b5⟩⟩ : TBox)).hi.inS 20 = true ∧ ((⟨⟨b0, b1, b2⟩, ⟨b3, b4, b5⟩⟩ : TBox)).ok) (hi : v0_0.length ≤ 68921 ∧ v0_0 ++ (restX (⟨⟨b0, b1, b2⟩, ⟨b3, b4, b5⟩⟩ : TBox) v0_1).map v3Cv = (⟨⟨b0, b1, b2⟩, ⟨b3, b4, b5⟩⟩ : TBox).all.map v3Cv ∧ b0 ≤ v0_1 ∧ v0_1 ≤ b3 + 1 ∧ ((nn0 + 1) : Int) + v0_1 = b3 + 2) : rd_ref05_All_0 (J_ref05_All b0 b1 b2 b3 b4 b5) b0 b1 b2 b3 b4 b5 v0_0 v0_1 nn0 (fun r => LeD r (.t (.c (.sl 3 ((((⟨⟨b0, b1, b2⟩, ⟨b3, b4, b5⟩⟩ : TBox)).all).length) (plsC (((⟨⟨b0, b1, b2⟩, ⟨b3, b4, b5⟩⟩ : TBox)).all)))))) := by
  obtain ⟨q1, q2, q3⟩ := hp
  obtain ⟨a1, a2, a3⟩ := inS_iff.1 q1
  obtain ⟨c1, c2, c3⟩ := inS_iff.1 q2
  obtain ⟨o1, o2, o3⟩ := q3
  simp only [TBox.rx, TBox.ry, TBox.rz, Rg.ok] at a1 a2 a3 c1 c2 c3 o1 o2 o3
  obtain ⟨i1, i2, i3, i4⟩ := hi
  unfold rd_ref05_All_0
  refine ⟨by omega, cond_i (fun h => ⟨by omega, (b4 + 2 - b1).toNat, v0_0, v0_1, b1, rfl, i1, ?_, ?_, by omega, by omega, by omega⟩) (fun h => ?_)⟩
  · have h := of_decide_eq_true h
    rw [← i2, restX_cons (b := (⟨⟨b0, b1, b2⟩, ⟨b3, b4, b5⟩⟩ : TBox)) (x := v0_1) (by simpa using h)]
  · have h := of_decide_eq_true h
    omega
  · have h := of_decide_eq_false h
    rw [restX_nil (b := (⟨⟨b0, b1, b2⟩, ⟨b3, b4, b5⟩⟩ : TBox)) (by simp only; omega), List.map_nil, List.append_nil] at i2
    rw [i2]
    exact le_v3 _
theorem zero_ref05_All_0 (b0 b1 b2 b3 b4 b5 : Int) (v0_0 : List (List CV)) (v0_1 : Int)  (hi : v0_0.length ≤ 68921 ∧ v0_0 ++ (restX (⟨⟨b0, b1, b2⟩, ⟨b3, b4, b5⟩⟩ : TBox) v0_1).map v3Cv = (⟨⟨b0, b1, b2⟩, ⟨b3, b4, b5⟩⟩ : TBox).all.map v3Cv ∧ b0 ≤ v0_1 ∧ v0_1 ≤ b3 + 1 ∧ (0 : Int) + v0_1 = b3 + 2) : False := by
  omega
set_option maxHeartbeats 8000000 in
set_option maxRecDepth 100000 in
theorem rnd_ref05_All_2 (b0 b1 b2 b3 b4 b5 : Int) (v2_0 : List (List CV)) (v2_1 : Int) (v2_2 : Int) (nn2 nn0 : Nat) (hp : ((⟨⟨b0, b1, b2⟩, ⟨b3, b4, b5⟩⟩ : TBox)).lo.inS 20 = true ∧ ((⟨⟨b0, b1, b2⟩, ⟨b3, b4, b5⟩⟩ : TBox)).hi.inS 20 = true ∧ ((⟨⟨b0, b1, b2⟩, ⟨b3, b4, b5⟩⟩ : TBox)).ok) (hi : v2_0.length ≤ 68921 ∧ v2_0 ++ (restY (⟨⟨b0, b1, b2⟩, ⟨b3, b4, b5⟩⟩ : TBox) v2_1 v2_2 ++ restX (⟨⟨b0, b1, b2⟩, ⟨b3, b4, b5⟩⟩ : TBox) (v2_1 + 1)).map v3Cv = (⟨⟨b0, b1, b2⟩, ⟨b3, b4, b5⟩⟩ : TBox).all.map v3Cv ∧ (b0 ≤ v2_1 ∧ v2_1 ≤ b3 ∧ (nn0 : Int) + v2_1 = b3 + 1) ∧ b1 ≤ v2_2 ∧ v2_2 ≤ b4 + 1 ∧ ((nn2 + 1) : Int) + v2_2 = b4 + 2) : rd_ref05_All_2 (J_ref05_All b0 b1 b2 b3 b4 b5) b0 b1 b2 b3 b4 b5 v2_0 v2_1 v2_2 nn2 nn0 (fun r => LeD r (.t (.c (.sl 3 ((((⟨⟨b0, b1, b2⟩, ⟨b3, b4, b5⟩⟩ : TBox)).all).length) (plsC (((⟨⟨b0, b1, b2⟩, ⟨b3, b4, b5⟩⟩ : TBox)).all)))))) := by
  obtain ⟨q1, q2, q3⟩ := hp
  obtain ⟨a1, a2, a3⟩ := inS_iff.1 q1
  obtain ⟨c1, c2, c3⟩ := inS_iff.1 q2
  obtain ⟨o1, o2, o3⟩ := q3
  simp only [TBox.rx, TBox.ry, TBox.rz, Rg.ok] at a1 a2 a3 c1 c2 c3 o1 o2 o3
  obtain ⟨i1, i2, i3, i4, i5⟩ := hi
  unfold rd_ref05_All_2
  refine ⟨by omega, cond_i (fun h => ⟨by omega, (b5 + 2 - b2).toNat, v2_0, v2_1, v2_2, b2, rfl, i1, ?_, by omega, ?_, by omega, by omega, by omega⟩) (fun h => lt_i fun x hx => ?_)⟩
  · have h := of_decide_eq_true h
    rw [← i2, restY_cons (b := (⟨⟨b0, b1, b2⟩, ⟨b3, b4, b5⟩⟩ : TBox)) (y := v2_2) (by simpa using h), List.append_assoc]
  · have h := of_decide_eq_true h
    omega
  · have h := of_decide_eq_false h
    rw [IntWalk.i64_in _ (by omega)] at hx
    subst hx
    refine ⟨v2_0, v2_1 + 1, rfl, i1, ?_, by omega, by omega, by omega⟩
    rw [← i2, restY_nil (b := (⟨⟨b0, b1, b2⟩, ⟨b3, b4, b5⟩⟩ : TBox)) (by simp only; omega), List.nil_append]
theorem zero_ref05_All_2 (b0 b1 b2 b3 b4 b5 : Int) (v2_0 : List (List CV)) (v2_1 : Int) (v2_2 : Int) (nn0 : Nat) (hi : v2_0.length ≤ 68921 ∧ v2_0 ++ (restY (⟨⟨b0, b1, b2⟩, ⟨b3, b4, b5⟩⟩ : TBox) v2_1 v2_2 ++ restX (⟨⟨b0, b1, b2⟩, ⟨b3, b4, b5⟩⟩ : TBox) (v2_1 + 1)).map v3Cv = (⟨⟨b0, b1, b2⟩, ⟨b3, b4, b5⟩⟩ : TBox).all.map v3Cv ∧ (b0 ≤ v2_1 ∧ v2_1 ≤ b3 ∧ (nn0 : Int) + v2_1 = b3 + 1) ∧ b1 ≤ v2_2 ∧ v2_2 ≤ b4 + 1 ∧ (0 : Int) + v2_2 = b4 + 2) : False := by
  omega
set_option maxHeartbeats 8000000 in
set_option maxRecDepth 100000 in
theorem rnd_ref05_All_4 (b0 b1 b2 b3 b4 b5 : Int) (v4_0 : List (List CV)) (v4_1 : Int) (v4_2 : Int) (v4_3 : Int) (nn4 nn2 nn0 : Nat) (hp : ((⟨⟨b0, b1, b2⟩, ⟨b3, b4, b5⟩⟩ : TBox)).lo.inS 20 = true ∧ ((⟨⟨b0, b1, b2⟩, ⟨b3, b4, b5⟩⟩ : TBox)).hi.inS 20 = true ∧ ((⟨⟨b0, b1, b2⟩, ⟨b3, b4, b5⟩⟩ : TBox)).ok) (hi : v4_0.length ≤ 68921 ∧ v4_0 ++ (restZ (⟨⟨b0, b1, b2⟩, ⟨b3, b4, b5⟩⟩ : TBox) v4_1 v4_2 v4_3 ++ (restY (⟨⟨b0, b1, b2⟩, ⟨b3, b4, b5⟩⟩ : TBox) v4_1 (v4_2 + 1) ++ restX (⟨⟨b0, b1, b2⟩, ⟨b3, b4, b5⟩⟩ : TBox) (v4_1 + 1))).map v3Cv = (⟨⟨b0, b1, b2⟩, ⟨b3, b4, b5⟩⟩ : TBox).all.map v3Cv ∧ (b0 ≤ v4_1 ∧ v4_1 ≤ b3 ∧ (nn0 : Int) + v4_1 = b3 + 1) ∧ (b1 ≤ v4_2 ∧ v4_2 ≤ b4 ∧ (nn2 : Int) + v4_2 = b4 + 1) ∧ b2 ≤ v4_3 ∧ v4_3 ≤ b5 + 1 ∧ ((nn4 + 1) : Int) + v4_3 = b5 + 2) : rd_ref05_All_4 (J_ref05_All b0 b1 b2 b3 b4 b5) b0 b1 b2 b3 b4 b5 v4_0 v4_1 v4_2 v4_3 nn4 nn2 nn0 (fun r => LeD r (.t (.c (.sl 3 ((((⟨⟨b0, b1, b2⟩, ⟨b3, b4, b5⟩⟩ : TBox)).all).length) (plsC (((⟨⟨b0, b1, b2⟩, ⟨b3, b4, b5⟩⟩ : TBox)).all)))))) := by
  obtain ⟨q1, q2, q3⟩ := hp
  obtain ⟨a1, a2, a3⟩ := inS_iff.1 q1
  obtain ⟨c1, c2, c3⟩ := inS_iff.1 q2
  obtain ⟨o1, o2, o3⟩ := q3
  simp only [TBox.rx, TBox.ry, TBox.rz, Rg.ok] at a1 a2 a3 c1 c2 c3 o1 o2 o3
  obtain ⟨i1, i2, i3, i4, i5⟩ := hi
  have hn := congrArg List.length i2
  have hm := len_68921 (b := (⟨⟨b0, b1, b2⟩, ⟨b3, b4, b5⟩⟩ : TBox)) q1 q2 ⟨o1, o2, o3⟩
  unfold rd_ref05_All_4
  refine ⟨by omega, cond_i (fun h => ?_) (fun h => lt_i fun x hx => ?_)⟩
  · have h := of_decide_eq_true h
    rw [restZ_cons (b := (⟨⟨b0, b1, b2⟩, ⟨b3, b4, b5⟩⟩ : TBox)) (by simpa using h), List.cons_append, List.map_cons] at i2 hn
    rw [List.length_append, List.length_cons, List.length_map, List.length_map] at hn
    refine ⟨?_, lt_i fun x hx => ?_⟩
    · unfold roomP maxLen; simp; omega
    · rw [IntWalk.i64_in _ (by omega)] at hx
      subst hx
      refine ⟨_, _, _, _, rfl, ?_, ?_, i3, i4, by omega, by omega, by omega⟩
      · rw [List.length_append, List.length_singleton]; omega
      · rw [← i2, List.append_assoc]; rfl
  · have h := of_decide_eq_false h
    rw [IntWalk.i64_in _ (by omega)] at hx
    subst hx
    refine ⟨v4_0, v4_1, v4_2 + 1, rfl, i1, ?_, i3, by omega, by omega, by omega⟩
    rw [← i2, restZ_nil (b := (⟨⟨b0, b1, b2⟩, ⟨b3, b4, b5⟩⟩ : TBox)) (by simp only; omega), List.nil_append]
theorem zero_ref05_All_4 (b0 b1 b2 b3 b4 b5 : Int) (v4_0 : List (List CV)) (v4_1 : Int) (v4_2 : Int) (v4_3 : Int) (nn2 nn0 : Nat) (hi : v4_0.length ≤ 68921 ∧ v4_0 ++ (restZ (⟨⟨b0, b1, b2⟩, ⟨b3, b4, b5⟩⟩ : TBox) v4_1 v4_2 v4_3 ++ (restY (⟨⟨b0, b1, b2⟩, ⟨b3, b4, b5⟩⟩ : TBox) v4_1 (v4_2 + 1) ++ restX (⟨⟨b0, b1, b2⟩, ⟨b3, b4, b5⟩⟩ : TBox) (v4_1 + 1))).map v3Cv = (⟨⟨b0, b1, b2⟩, ⟨b3, b4, b5⟩⟩ : TBox).all.map v3Cv ∧ (b0 ≤ v4_1 ∧ v4_1 ≤ b3 ∧ (nn0 : Int) + v4_1 = b3 + 1) ∧ (b1 ≤ v4_2 ∧ v4_2 ≤ b4 ∧ (nn2 : Int) + v4_2 = b4 + 1) ∧ b2 ≤ v4_3 ∧ v4_3 ≤ b5 + 1 ∧ (0 : Int) + v4_3 = b5 + 2) : False := by
  omega
set_option maxHeartbeats 8000000 in
set_option maxRecDepth 100000 in
theorem spec_ref05_All (b0 b1 b2 b3 b4 b5 : Int) (hp : ((⟨⟨b0, b1, b2⟩, ⟨b3, b4, b5⟩⟩ : TBox)).lo.inS 20 = true ∧ ((⟨⟨b0, b1, b2⟩, ⟨b3, b4, b5⟩⟩ : TBox)).hi.inS 20 = true ∧ ((⟨⟨b0, b1, b2⟩, ⟨b3, b4, b5⟩⟩ : TBox)).ok) : vc_ref05_All (J_ref05_All b0 b1 b2 b3 b4 b5) b0 b1 b2 b3 b4 b5 (fun r => LeD r (.t (.c (.sl 3 ((((⟨⟨b0, b1, b2⟩, ⟨b3, b4, b5⟩⟩ : TBox)).all).length) (plsC (((⟨⟨b0, b1, b2⟩, ⟨b3, b4, b5⟩⟩ : TBox)).all)))))) := by
  obtain ⟨q1, q2, q3⟩ := hp
  obtain ⟨a1, a2, a3⟩ := inS_iff.1 q1
  obtain ⟨c1, c2, c3⟩ := inS_iff.1 q2
  obtain ⟨o1, o2, o3⟩ := q3
  simp only [TBox.rx, TBox.ry, TBox.rz, Rg.ok] at a1 a2 a3 c1 c2 c3 o1 o2 o3
  unfold vc_ref05_All
  exact ⟨by omega, (b3 + 2 - b0).toNat, [], b0, rfl, by simp, rfl, by omega, by omega, by omega⟩
theorem all_ref05_All (b0 b1 b2 b3 b4 b5 : Int) (hp : ((⟨⟨b0, b1, b2⟩, ⟨b3, b4, b5⟩⟩ : TBox)).lo.inS 20 = true ∧ ((⟨⟨b0, b1, b2⟩, ⟨b3, b4, b5⟩⟩ : TBox)).hi.inS 20 = true ∧ ((⟨⟨b0, b1, b2⟩, ⟨b3, b4, b5⟩⟩ : TBox)).ok) : AllG (J_ref05_All b0 b1 b2 b3 b4 b5) (loopsFn Try.prog tab S45 ann_ref05_All (J_ref05_All b0 b1 b2 b3 b4 b5) Try.f106 (fun r => LeD r (.t (.c (.sl 3 ((((⟨⟨b0, b1, b2⟩, ⟨b3, b4, b5⟩⟩ : TBox)).all).length) (plsC (((⟨⟨b0, b1, b2⟩, ⟨b3, b4, b5⟩⟩ : TBox)).all))))))) := by
  rw [lp_ref05_All]
  refine ⟨⟨?_, ?_⟩, ⟨?_, ?_⟩, ⟨?_, ?_⟩, trivial⟩
  · intro F s h
    obtain _ | ⟨g, F⟩ := F
    case cons => exact h.elim
    obtain ⟨w0, w1, rfl, hi⟩ := h
    exact zero_ref05_All_0 _ _ _ _ _ _ _ _ hi
  · intro n F s h
    obtain _ | ⟨g, F⟩ := F
    case cons => exact h.elim
    obtain ⟨w0, w1, rfl, hi⟩ := h
    rw [er_ref05_All_0]
    exact rnd_ref05_All_0 _ _ _ _ _ _ _ _ _ hp hi
  · intro F s h
    obtain _ | ⟨f0, F⟩ := F
    · exact h.elim
    obtain _ | ⟨g, F⟩ := F
    case cons => exact h.elim
    obtain ⟨w0, w1, w2, rfl, hi⟩ := h
    exact zero_ref05_All_2 _ _ _ _ _ _ _ _ _ _ hi
  · intro n F s h
    obtain _ | ⟨f0, F⟩ := F
    · exact h.elim
    obtain _ | ⟨g, F⟩ := F
    case cons => exact h.elim
    obtain ⟨w0, w1, w2, rfl, hi⟩ := h
    rw [er_ref05_All_2]
    exact rnd_ref05_All_2 _ _ _ _ _ _ _ _ _ _ _ hp hi
  · intro F s h
    obtain _ | ⟨f0, F⟩ := F
    · exact h.elim
    obtain _ | ⟨f1, F⟩ := F
    · exact h.elim
    obtain _ | ⟨g, F⟩ := F
    case cons => exact h.elim
    obtain ⟨w0, w1, w2, w3, rfl, hi⟩ := h
    exact zero_ref05_All_4 _ _ _ _ _ _ _ _ _ _ _ _ hi
  · intro n F s h
    obtain _ | ⟨f0, F⟩ := F
    · exact h.elim
    obtain _ | ⟨f1, F⟩ := F
    · exact h.elim
    obtain _ | ⟨g, F⟩ := F
    case cons => exact h.elim
    obtain ⟨w0, w1, w2, w3, rfl, hi⟩ := h
    rw [er_ref05_All_4]
    exact rnd_ref05_All_4 _ _ _ _ _ _ _ _ _ _ _ _ _ hp hi
def con_ref05_All : Con := fun args => match args with
  | [.t (.a [.v (.int .i64 b0), .v (.int .i64 b1), .v (.int .i64 b2), .v (.int .i64 b3), .v (.int .i64 b4), .v (.int .i64 b5)])] => some (.t (.c (.sl 3 ((((⟨⟨b0, b1, b2⟩, ⟨b3, b4, b5⟩⟩ : TBox)).all).length) (plsC (((⟨⟨b0, b1, b2⟩, ⟨b3, b4, b5⟩⟩ : TBox)).all)))), some (((⟨⟨b0, b1, b2⟩, ⟨b3, b4, b5⟩⟩ : TBox)).lo.inS 20 = true ∧ ((⟨⟨b0, b1, b2⟩, ⟨b3, b4, b5⟩⟩ : TBox)).hi.inS 20 = true ∧ ((⟨⟨b0, b1, b2⟩, ⟨b3, b4, b5⟩⟩ : TBox)).ok), false)
  | _ => none
theorem ok_ref05_All : Ok Try.prog 106 con_ref05_All := by
  refine Ok.fn (ann := ann_ref05_All) mixed tabOK VS45 VI46 (fn := Try.f106) (by kernel_rfl) (by kernel_rfl) fit_ref05_All fun args r pre fresh h hp => ?_
  unfold con_ref05_All at h
  split at h
  · rename_i b0 b1 b2 b3 b4 b5
    cases h
    refine ⟨rfl, J_ref05_All b0 b1 b2 b3 b4 b5, _, LeA.refl _, Nat.le_of_ble_eq_true (by kernel_rfl), ?_, ?_⟩
    · rw [ev_ref05_All]; exact spec_ref05_All b0 b1 b2 b3 b4 b5 hp
    · exact all_ref05_All b0 b1 b2 b3 b4 b5 hp
  · cases h
def S47 : Sum := addS S45 106 con_ref05_All
theorem VS47 : Valid Try.prog S47 := Valid.add VS45 ok_ref05_All

def mk_ref05_Steps_0 (m0 m1 m2 m3 m4 m5 m6 m7 m8 m9 m10 m11 : Int) (b0 b1 b2 b3 b4 b5 : Int) (v0_0 : List (List CV)) (v0_1 : Int) : DS := ⟨[none, none, some (.t (.c (.p 2 0))), none, none, some (.t (.c (.os 5))), some (.t (.c (.sl 3 ((((⟨⟨b0, b1, b2⟩, ⟨b3, b4, b5⟩⟩ : TBox)).all).length) (plsC (((⟨⟨b0, b1, b2⟩, ⟨b3, b4, b5⟩⟩ : TBox)).all))))), some (.t (.c (.v (.int .i64 v0_1)))), none, none, none, none, none, none, none, none, none, none, none, none, none, none, none, none, none, none, none, none, none, none], [none, none, some (.box 26 [.v (.int .i64 m0), .v (.int .i64 m1), .v (.int .i64 m2), .v (.int .i64 m3), .v (.int .i64 m4), .v (.int .i64 m5), .v (.int .i64 m6), .v (.int .i64 m7), .v (.int .i64 m8), .v (.int .i64 m9), .v (.int .i64 m10), .v (.int .i64 m11)]), none, none, some (.gen 22 3 v0_0), none, none, none, none, none, none, none, none, none, none, none, none, none, none, none, none, none, none, none, none, none, none, none, none]⟩
def vc_ref05_Steps (J : Inv) (m0 m1 m2 m3 m4 m5 m6 m7 m8 m9 m10 m11 : Int) (b0 b1 b2 b3 b4 b5 : Int) (post : DV → Prop) : Prop := (((⟨⟨b0, b1, b2⟩, ⟨b3, b4, b5⟩⟩ : TBox)).lo.inS 20 = true ∧ ((⟨⟨b0, b1, b2⟩, ⟨b3, b4, b5⟩⟩ : TBox)).hi.inS 20 = true ∧ ((⟨⟨b0, b1, b2⟩, ⟨b3, b4, b5⟩⟩ : TBox)).ok) ∧ (∃ n, J 0 (n :: []) (mk_ref05_Steps_0 m0 m1 m2 m3 m4 m5 m6 m7 m8 m9 m10 m11 b0 b1 b2 b3 b4 b5 ([]) 0))
def ann_ref05_Steps : Ann := ⟨fun r => lookA r [(6, ([[], [], [], [1, 2], [1, 2, 3], [0, 1, 2, 3, 4]], [[], [], [], [], [], []]))], fun b => lookA b [(0, (none, some ⟨[2, 6, 7], [2], [(5, .gen 22 3 [])]⟩))], fun _ => [], I46, false, fun _ => none, fun _ => none⟩
theorem ev_ref05_Steps (J : Inv) (m0 m1 m2 m3 m4 m5 m6 m7 m8 m9 m10 m11 : Int) (b0 b1 b2 b3 b4 b5 : Int) (post : DV → Prop) : evFn Try.prog tab S47 ann_ref05_Steps J Try.f52 [.t (.a [.v (.int .i64 m0), .v (.int .i64 m1), .v (.int .i64 m2), .v (.int .i64 m3), .v (.int .i64 m4), .v (.int .i64 m5), .v (.int .i64 m6), .v (.int .i64 m7), .v (.int .i64 m8), .v (.int .i64 m9), .v (.int .i64 m10), .v (.int .i64 m11)]), .t (.a [.v (.int .i64 b0), .v (.int .i64 b1), .v (.int .i64 b2), .v (.int .i64 b3), .v (.int .i64 b4), .v (.int .i64 b5)])] post = vc_ref05_Steps J m0 m1 m2 m3 m4 m5 m6 m7 m8 m9 m10 m11 b0 b1 b2 b3 b4 b5 post := by kernel_rfl
theorem fit_ref05_Steps : okFn ann_ref05_Steps Try.f52 = true := by kernel_rfl
def rd_ref05_Steps_0 (J : Inv) (m0 m1 m2 m3 m4 m5 m6 m7 m8 m9 m10 m11 : Int) (b0 b1 b2 b3 b4 b5 : Int) (v0_0 : List (List CV)) (v0_1 : Int) (nn0 : Nat) (post : DV → Prop) : Prop := cond (decide (v0_1 < (((((⟨⟨b0, b1, b2⟩, ⟨b3, b4, b5⟩⟩ : TBox)).all).length : Nat) : Int))) ((0 ≤ v0_1 ∧ v0_1 < (((((⟨⟨b0, b1, b2⟩, ⟨b3, b4, b5⟩⟩ : TBox)).all).length : Nat) : Int)) ∧ ((((⟨((plAt (((⟨⟨b0, b1, b2⟩, ⟨b3, b4, b5⟩⟩ : TBox)).all) v0_1.toNat).x), ((plAt (((⟨⟨b0, b1, b2⟩, ⟨b3, b4, b5⟩⟩ : TBox)).all) v0_1.toNat).y), ((plAt (((⟨⟨b0, b1, b2⟩, ⟨b3, b4, b5⟩⟩ : TBox)).all) v0_1.toNat).z)⟩ : V3)).sm (⟨((plAt (((⟨⟨b0, b1, b2⟩, ⟨b3, b4, b5⟩⟩ : TBox)).all) v0_1.toNat).x), ((plAt (((⟨⟨b0, b1, b2⟩, ⟨b3, b4, b5⟩⟩ : TBox)).all) v0_1.toNat).y), ((plAt (((⟨⟨b0, b1, b2⟩, ⟨b3, b4, b5⟩⟩ : TBox)).all) v0_1.toNat).z)⟩ : V3)) ∧ (cond (((⟨m0, m1, m2, m3, m4, m5, m6, m7, m8, m9, m10, m11⟩ : TMod)).permB (⟨((plAt (((⟨⟨b0, b1, b2⟩, ⟨b3, b4, b5⟩⟩ : TBox)).all) v0_1.toNat).x), ((plAt (((⟨⟨b0, b1, b2⟩, ⟨b3, b4, b5⟩⟩ : TBox)).all) v0_1.toNat).y), ((plAt (((⟨⟨b0, b1, b2⟩, ⟨b3, b4, b5⟩⟩ : TBox)).all) v0_1.toNat).z)⟩ : V3)) ((0 ≤ v0_1 ∧ v0_1 < (((((⟨⟨b0, b1, b2⟩, ⟨b3, b4, b5⟩⟩ : TBox)).all).length : Nat) : Int)) ∧ ((roomP 24 (v0_0.length + ([[.v (.int .i64 ((plAt (((⟨⟨b0, b1, b2⟩, ⟨b3, b4, b5⟩⟩ : TBox)).all) v0_1.toNat).x)), .v (.int .i64 ((plAt (((⟨⟨b0, b1, b2⟩, ⟨b3, b4, b5⟩⟩ : TBox)).all) v0_1.toNat).y)), .v (.int .i64 ((plAt (((⟨⟨b0, b1, b2⟩, ⟨b3, b4, b5⟩⟩ : TBox)).all) v0_1.toNat).z))]] : List (List CV)).length)) ∧ (lt (IntKind.i64.wrap (v0_1 + (1 : Int))) fun x1 => J 0 (nn0 :: []) (mk_ref05_Steps_0 m0 m1 m2 m3 m4 m5 m6 m7 m8 m9 m10 m11 b0 b1 b2 b3 b4 b5 (v0_0 ++ ([[.v (.int .i64 ((plAt (((⟨⟨b0, b1, b2⟩, ⟨b3, b4, b5⟩⟩ : TBox)).all) v0_1.toNat).x)), .v (.int .i64 ((plAt (((⟨⟨b0, b1, b2⟩, ⟨b3, b4, b5⟩⟩ : TBox)).all) v0_1.toNat).y)), .v (.int .i64 ((plAt (((⟨⟨b0, b1, b2⟩, ⟨b3, b4, b5⟩⟩ : TBox)).all) v0_1.toNat).z))]] : List (List CV))) x1)))) (lt (IntKind.i64.wrap (v0_1 + (1 : Int))) fun x2 => J 0 (nn0 :: []) (mk_ref05_Steps_0 m0 m1 m2 m3 m4 m5 m6 m7 m8 m9 m10 m11 b0 b1 b2 b3 b4 b5 v0_0 x2))))) (post (.t (.c (.sl 3 v0_0.length (genC v0_0)))))
theorem er_ref05_Steps_0 (J : Inv) (m0 m1 m2 m3 m4 m5 m6 m7 m8 m9 m10 m11 : Int) (b0 b1 b2 b3 b4 b5 : Int) (v0_0 : List (List CV)) (v0_1 : Int) (nn0 : Nat) (post : DV → Prop) : round Try.prog tab S47 ann_ref05_Steps J Try.f52 post 0 (nn0 :: []) (mk_ref05_Steps_0 m0 m1 m2 m3 m4 m5 m6 m7 m8 m9 m10 m11 b0 b1 b2 b3 b4 b5 v0_0 v0_1) = rd_ref05_Steps_0 J m0 m1 m2 m3 m4 m5 m6 m7 m8 m9 m10 m11 b0 b1 b2 b3 b4 b5 v0_0 v0_1 nn0 post := by kernel_rfl
theorem lp_ref05_Steps (J : Inv) (post : DV → Prop) : AllG J (loopsFn Try.prog tab S47 ann_ref05_Steps J Try.f52 post) = (((∀ F s, ¬ J 0 (0 :: F) s) ∧ ∀ n F s, J 0 ((n + 1) :: F) s → round Try.prog tab S47 ann_ref05_Steps J Try.f52 post 0 (n :: F) s) ∧ True) := by kernel_rfl
def J_ref05_Steps (m0 m1 m2 m3 m4 m5 m6 m7 m8 m9 m10 m11 : Int) (b0 b1 b2 b3 b4 b5 : Int) : Inv := fun b F s => match b, F with
  | 0, [nn0] => ∃ (v0_0 : List (List CV)) (v0_1 : Int), s = mk_ref05_Steps_0 m0 m1 m2 m3 m4 m5 m6 m7 m8 m9 m10 m11 b0 b1 b2 b3 b4 b5 v0_0 v0_1 ∧ (0 ≤ v0_1 ∧ v0_1 ≤ (⟨⟨b0, b1, b2⟩, ⟨b3, b4, b5⟩⟩ : TBox).all.length ∧ (nn0 : Int) + v0_1 = (⟨⟨b0, b1, b2⟩, ⟨b3, b4, b5⟩⟩ : TBox).all.length + 1 ∧ v0_0 = (((⟨⟨b0, b1, b2⟩, ⟨b3, b4, b5⟩⟩ : TBox).all.take v0_1.toNat).filter (⟨m0, m1, m2, m3, m4, m5, m6, m7, m8, m9, m10, m11⟩ : TMod).permB).map v3Cv)
  | _, _ => False
set_option maxHeartbeats 8000000 in
set_option maxRecDepth 100000 in
theorem rnd_ref05_Steps_0 (m0 m1 m2 m3 m4 m5 m6 m7 m8 m9 m10 m11 : Int) (b0 b1 b2 b3 b4 b5 : Int) (v0_0 : List (List CV)) (v0_1 : Int) (nn0 : Nat) (hp : ((⟨⟨b0, b1, b2⟩, ⟨b3, b4, b5⟩⟩ : TBox)).lo.inS 20 = true ∧ ((⟨⟨b0, b1, b2⟩, ⟨b3, b4, b5⟩⟩ : TBox)).hi.inS 20 = true ∧ ((⟨⟨b0, b1, b2⟩, ⟨b3, b4, b5⟩⟩ : TBox)).ok) (hi : 0 ≤ v0_1 ∧ v0_1 ≤ (⟨⟨b0, b1, b2⟩, ⟨b3, b4, b5⟩⟩ : TBox).all.length ∧ ((nn0 + 1) : Int) + v0_1 = (⟨⟨b0, b1, b2⟩, ⟨b3, b4, b5⟩⟩ : TBox).all.length + 1 ∧ v0_0 = (((⟨⟨b0, b1, b2⟩, ⟨b3, b4, b5⟩⟩ : TBox).all.take v0_1.toNat).filter (⟨m0, m1, m2, m3, m4, m5, m6, m7, m8, m9, m10, m11⟩ : TMod).permB).map v3Cv) : rd_ref05_Steps_0 (J_ref05_Steps m0 m1 m2 m3 m4 m5 m6 m7 m8 m9 m10 m11 b0 b1 b2 b3 b4 b5) m0 m1 m2 m3 m4 m5 m6 m7 m8 m9 m10 m11 b0 b1 b2 b3 b4 b5 v0_0 v0_1 nn0 (fun r => LeD r (.t (.c (.sl 3 ((((⟨m0, m1, m2, m3, m4, m5, m6, m7, m8, m9, m10, m11⟩ : TMod)).steps (⟨⟨b0, b1, b2⟩, ⟨b3, b4, b5⟩⟩ : TBox)).length) (plsC (((⟨m0, m1, m2, m3, m4, m5, m6, m7, m8, m9, m10, m11⟩ : TMod)).steps (⟨⟨b0, b1, b2⟩, ⟨b3, b4, b5⟩⟩ : TBox))))))) := by
  obtain ⟨i1, i2, i3, i4⟩ := hi
  obtain ⟨k, rfl⟩ : ∃ k : Nat, v0_1 = k := ⟨v0_1.toNat, by omega⟩
  have hk : (k : Int).toNat = k := rfl
  rw [hk] at i4
  have hm := len_68921 (b := (⟨⟨b0, b1, b2⟩, ⟨b3, b4, b5⟩⟩ : TBox)) hp.1 hp.2.1 hp.2.2
  have hlen : v0_0.length ≤ 68921 := by
    rw [i4, List.length_map]
    have h1 := List.length_filter_le (⟨m0, m1, m2, m3, m4, m5, m6, m7, m8, m9, m10, m11⟩ : TMod).permB ((⟨⟨b0, b1, b2⟩, ⟨b3, b4, b5⟩⟩ : TBox).all.take k)
    rw [List.length_take] at h1
    omega
  unfold rd_ref05_Steps_0
  rw [hk]
  refine cond_i (fun h => ?_) (fun h => ?_)
  · have hlt : k < (⟨⟨b0, b1, b2⟩, ⟨b3, b4, b5⟩⟩ : TBox).all.length := by have := of_decide_eq_true h; omega
    have hb := mem_all.1 (plAt_in hlt)
    obtain ⟨q1, q2, q3⟩ := hp
    have hsm := sm_box hb q1 q2
    have hnx : ∀ x, IntKind.i64.wrap ((k : Int) + 1) = x → x = (k : Int) + 1 := fun x hx => by rw [← hx]; exact IntWalk.i64_in _ (by omega)
    refine ⟨by omega, hsm, cond_i (fun e => ⟨by omega, ?_, lt_i fun x hx => ?_⟩) (fun e => lt_i fun x hx => ?_)⟩
    · unfold roomP maxLen; simp; omega
    · rw [hnx x hx]
      refine ⟨_, _, rfl, by omega, by omega, by omega, ?_⟩
      rw [show ((k : Int) + 1).toNat = k + 1 by omega, i4, plAt_take hlt, List.filter_append, List.filter_cons, if_pos e, List.map_append]; rfl
    · rw [hnx x hx]
      refine ⟨_, _, rfl, by omega, by omega, by omega, ?_⟩
      rw [show ((k : Int) + 1).toNat = k + 1 by omega, i4, plAt_take hlt, List.filter_append, List.filter_cons, if_neg (by rw [e]; simp), List.filter_nil, List.append_nil]
  · have hge : k = (⟨⟨b0, b1, b2⟩, ⟨b3, b4, b5⟩⟩ : TBox).all.length := by have := of_decide_eq_false h; omega
    rw [i4, hge, List.take_length]
    exact le_v3 _
theorem zero_ref05_Steps_0 (m0 m1 m2 m3 m4 m5 m6 m7 m8 m9 m10 m11 : Int) (b0 b1 b2 b3 b4 b5 : Int) (v0_0 : List (List CV)) (v0_1 : Int)  (hi : 0 ≤ v0_1 ∧ v0_1 ≤ (⟨⟨b0, b1, b2⟩, ⟨b3, b4, b5⟩⟩ : TBox).all.length ∧ (0 : Int) + v0_1 = (⟨⟨b0, b1, b2⟩, ⟨b3, b4, b5⟩⟩ : TBox).all.length + 1 ∧ v0_0 = (((⟨⟨b0, b1, b2⟩, ⟨b3, b4, b5⟩⟩ : TBox).all.take v0_1.toNat).filter (⟨m0, m1, m2, m3, m4, m5, m6, m7, m8, m9, m10, m11⟩ : TMod).permB).map v3Cv) : False := by
  omega
set_option maxHeartbeats 8000000 in
set_option maxRecDepth 100000 in
theorem spec_ref05_Steps (m0 m1 m2 m3 m4 m5 m6 m7 m8 m9 m10 m11 : Int) (b0 b1 b2 b3 b4 b5 : Int) (hp : ((⟨⟨b0, b1, b2⟩, ⟨b3, b4, b5⟩⟩ : TBox)).lo.inS 20 = true ∧ ((⟨⟨b0, b1, b2⟩, ⟨b3, b4, b5⟩⟩ : TBox)).hi.inS 20 = true ∧ ((⟨⟨b0, b1, b2⟩, ⟨b3, b4, b5⟩⟩ : TBox)).ok) : vc_ref05_Steps (J_ref05_Steps m0 m1 m2 m3 m4 m5 m6 m7 m8 m9 m10 m11 b0 b1 b2 b3 b4 b5) m0 m1 m2 m3 m4 m5 m6 m7 m8 m9 m10 m11 b0 b1 b2 b3 b4 b5 (fun r => LeD r (.t (.c (.sl 3 ((((⟨m0, m1, m2, m3, m4, m5, m6, m7, m8, m9, m10, m11⟩ : TMod)).steps (⟨⟨b0, b1, b2⟩, ⟨b3, b4, b5⟩⟩ : TBox)).length) (plsC (((⟨m0, m1, m2, m3, m4, m5, m6, m7, m8, m9, m10, m11⟩ : TMod)).steps (⟨⟨b0, b1, b2⟩, ⟨b3, b4, b5⟩⟩ : TBox))))))) := by
  unfold vc_ref05_Steps
  exact ⟨hp, (⟨⟨b0, b1, b2⟩, ⟨b3, b4, b5⟩⟩ : TBox).all.length + 1, [], 0, rfl, by omega, by omega, by omega, rfl⟩
theorem all_ref05_Steps (m0 m1 m2 m3 m4 m5 m6 m7 m8 m9 m10 m11 : Int) (b0 b1 b2 b3 b4 b5 : Int) (hp : ((⟨⟨b0, b1, b2⟩, ⟨b3, b4, b5⟩⟩ : TBox)).lo.inS 20 = true ∧ ((⟨⟨b0, b1, b2⟩, ⟨b3, b4, b5⟩⟩ : TBox)).hi.inS 20 = true ∧ ((⟨⟨b0, b1, b2⟩, ⟨b3, b4, b5⟩⟩ : TBox)).ok) : AllG (J_ref05_Steps m0 m1 m2 m3 m4 m5 m6 m7 m8 m9 m10 m11 b0 b1 b2 b3 b4 b5) (loopsFn Try.prog tab S47 ann_ref05_Steps (J_ref05_Steps m0 m1 m2 m3 m4 m5 m6 m7 m8 m9 m10 m11 b0 b1 b2 b3 b4 b5) Try.f52 (fun r => LeD r (.t (.c (.sl 3 ((((⟨m0, m1, m2, m3, m4, m5, m6, m7, m8, m9, m10, m11⟩ : TMod)).steps (⟨⟨b0, b1, b2⟩, ⟨b3, b4, b5⟩⟩ : TBox)).length) (plsC (((⟨m0, m1, m2, m3, m4, m5, m6, m7, m8, m9, m10, m11⟩ : TMod)).steps (⟨⟨b0, b1, b2⟩, ⟨b3, b4, b5⟩⟩ : TBox)))))))) := by
  rw [lp_ref05_Steps]
  refine ⟨⟨?_, ?_⟩, trivial⟩
  · intro F s h
    obtain _ | ⟨g, F⟩ := F
    case cons => exact h.elim
    obtain ⟨w0, w1, rfl, hi⟩ := h
    exact zero_ref05_Steps_0 _ _ _ _ _ _ _ _ _ _ _ _ _ _ _ _ _ _ _ _ hi
  · intro n F s h
    obtain _ | ⟨g, F⟩ := F
    case cons => exact h.elim
    obtain ⟨w0, w1, rfl, hi⟩ := h
    rw [er_ref05_Steps_0]
    exact rnd_ref05_Steps_0 _ _ _ _ _ _ _ _ _ _ _ _ _ _ _ _ _ _ _ _ _ hp hi
def con_ref05_Steps : Con := fun args => match args with
  | [.t (.a [.v (.int .i64 m0), .v (.int .i64 m1), .v (.int .i64 m2), .v (.int .i64 m3), .v (.int .i64 m4), .v (.int .i64 m5), .v (.int .i64 m6), .v (.int .i64 m7), .v (.int .i64 m8), .v (.int .i64 m9), .v (.int .i64 m10), .v (.int .i64 m11)]), .t (.a [.v (.int .i64 b0), .v (.int .i64 b1), .v (.int .i64 b2), .v (.int .i64 b3), .v (.int .i64 b4), .v (.int .i64 b5)])] => some (.t (.c (.sl 3 ((((⟨m0, m1, m2, m3, m4, m5, m6, m7, m8, m9, m10, m11⟩ : TMod)).steps (⟨⟨b0, b1, b2⟩, ⟨b3, b4, b5⟩⟩ : TBox)).length) (plsC (((⟨m0, m1, m2, m3, m4, m5, m6, m7, m8, m9, m10, m11⟩ : TMod)).steps (⟨⟨b0, b1, b2⟩, ⟨b3, b4, b5⟩⟩ : TBox))))), some (((⟨⟨b0, b1, b2⟩, ⟨b3, b4, b5⟩⟩ : TBox)).lo.inS 20 = true ∧ ((⟨⟨b0, b1, b2⟩, ⟨b3, b4, b5⟩⟩ : TBox)).hi.inS 20 = true ∧ ((⟨⟨b0, b1, b2⟩, ⟨b3, b4, b5⟩⟩ : TBox)).ok), false)
  | _ => none
theorem ok_ref05_Steps : Ok Try.prog 52 con_ref05_Steps := by
  refine Ok.fn (ann := ann_ref05_Steps) mixed tabOK VS47 VI46 (fn := Try.f52) (by kernel_rfl) (by kernel_rfl) fit_ref05_Steps fun args r pre fresh h hp => ?_
  unfold con_ref05_Steps at h
  split at h
  · rename_i m0 m1 m2 m3 m4 m5 m6 m7 m8 m9 m10 m11 b0 b1 b2 b3 b4 b5
    cases h
    refine ⟨rfl, J_ref05_Steps m0 m1 m2 m3 m4 m5 m6 m7 m8 m9 m10 m11 b0 b1 b2 b3 b4 b5, _, LeA.refl _, Nat.le_of_ble_eq_true (by kernel_rfl), ?_, ?_⟩
    · rw [ev_ref05_Steps]; exact spec_ref05_Steps m0 m1 m2 m3 m4 m5 m6 m7 m8 m9 m10 m11 b0 b1 b2 b3 b4 b5 hp
    · exact all_ref05_Steps m0 m1 m2 m3 m4 m5 m6 m7 m8 m9 m10 m11 b0 b1 b2 b3 b4 b5 hp
  · cases h
def S48 : Sum := addS S47 52 con_ref05_Steps
theorem VS48 : Valid Try.prog S48 := Valid.add VS47 ok_ref05_Steps

def mk_ref05_SameSteps_0 (l : List V3) (l2 : List V3) (v0_0 : Int) : DS := ⟨[some (.t (.c (.sl 3 l.length (plsC l)))), some (.t (.c (.sl 3 l2.length (plsC l2)))), none, none, none, some (.t (.c (.v (.int .i64 v0_0)))), none, none, none, none, none, none, none, none, none, none, none, none, none, none, none, none, none, none, none, none], [none, none, none, none, none, none, none, none, none, none, none, none, none, none, none, none, none, none, none, none, none, none, none, none, none, none]⟩
def vc_ref05_SameSteps (J : Inv) (l : List V3) (l2 : List V3) (post : DV → Prop) : Prop := cond (((l.length : Nat) : Int) != ((l2.length : Nat) : Int)) (post (.t (.c (.v (.bool false))))) (∃ n, J 0 (n :: []) (mk_ref05_SameSteps_0 l l2 0))
def ann_ref05_SameSteps : Ann := ⟨fun r => lookA r [(6, ([[], [], [0, 1], [0, 1, 2], [], [], [4, 5], [4, 5, 6], [0, 1, 2, 3, 4, 5, 6, 7]], [[], [], [], [], [], [], [], [], []]))], fun b => lookA b [(0, (none, some ⟨[0, 1, 5], [], []⟩))], fun _ => [], I46, false, fun _ => none, fun _ => none⟩
theorem ev_ref05_SameSteps (J : Inv) (l : List V3) (l2 : List V3) (post : DV → Prop) : evFn Try.prog tab S48 ann_ref05_SameSteps J Try.f51 [.t (.c (.sl 3 l.length (plsC l))), .t (.c (.sl 3 l2.length (plsC l2)))] post = vc_ref05_SameSteps J l l2 post := by kernel_rfl
theorem fit_ref05_SameSteps : okFn ann_ref05_SameSteps Try.f51 = true := by kernel_rfl
def rd_ref05_SameSteps_0 (J : Inv) (l : List V3) (l2 : List V3) (v0_0 : Int) (nn0 : Nat) (post : DV → Prop) : Prop := cond (decide (v0_0 < ((l.length : Nat) : Int))) ((0 ≤ v0_0 ∧ v0_0 < ((l.length : Nat) : Int)) ∧ ((0 ≤ v0_0 ∧ v0_0 < ((l2.length : Nat) : Int)) ∧ (cond (!(bif (((plAt l v0_0.toNat).x) == ((plAt l2 v0_0.toNat).x)) then (bif (((plAt l v0_0.toNat).y) == ((plAt l2 v0_0.toNat).y)) then (bif (((plAt l v0_0.toNat).z) == ((plAt l2 v0_0.toNat).z)) then true else false) else false) else false)) (post (.t (.c (.v (.bool false))))) (lt (IntKind.i64.wrap (v0_0 + (1 : Int))) fun x1 => J 0 (nn0 :: []) (mk_ref05_SameSteps_0 l l2 x1))))) (post (.t (.c (.v (.bool true)))))
theorem er_ref05_SameSteps_0 (J : Inv) (l : List V3) (l2 : List V3) (v0_0 : Int) (nn0 : Nat) (post : DV → Prop) : round Try.prog tab S48 ann_ref05_SameSteps J Try.f51 post 0 (nn0 :: []) (mk_ref05_SameSteps_0 l l2 v0_0) = rd_ref05_SameSteps_0 J l l2 v0_0 nn0 post := by kernel_rfl
theorem lp_ref05_SameSteps (J : Inv) (post : DV → Prop) : AllG J (loopsFn Try.prog tab S48 ann_ref05_SameSteps J Try.f51 post) = (((∀ F s, ¬ J 0 (0 :: F) s) ∧ ∀ n F s, J 0 ((n + 1) :: F) s → round Try.prog tab S48 ann_ref05_SameSteps J Try.f51 post 0 (n :: F) s) ∧ True) := by kernel_rfl
def J_ref05_SameSteps (l : List V3) (l2 : List V3) : Inv := fun b F s => match b, F with
  | 0, [nn0] => ∃ (v0_0 : Int), s = mk_ref05_SameSteps_0 l l2 v0_0 ∧ (l.length ≤ 1000000 ∧ 0 ≤ v0_0 ∧ v0_0 ≤ l.length ∧ (nn0 : Int) + v0_0 = l.length + 1 ∧ l.length = l2.length ∧ ∀ j : Nat, (j : Int) < v0_0 → plAt l j = plAt l2 j)
  | _, _ => False
theorem rnd_ref05_SameSteps_0 (l : List V3) (l2 : List V3) (v0_0 : Int) (nn0 : Nat) (hp : (l).length ≤ 1000000) (hi : l.length ≤ 1000000 ∧ 0 ≤ v0_0 ∧ v0_0 ≤ l.length ∧ ((nn0 + 1) : Int) + v0_0 = l.length + 1 ∧ l.length = l2.length ∧ ∀ j : Nat, (j : Int) < v0_0 → plAt l j = plAt l2 j) : rd_ref05_SameSteps_0 (J_ref05_SameSteps l l2) l l2 v0_0 nn0 (fun r => LeD r (.t (.c (.v (.bool (decide (l = l2))))))) := by
  obtain ⟨i0, i1, i2, i3, i4, i5⟩ := hi
  obtain ⟨k, rfl⟩ : ∃ k : Nat, v0_0 = k := ⟨v0_0.toNat, by omega⟩
  have hk : (k : Int).toNat = k := rfl
  unfold rd_ref05_SameSteps_0
  rw [hk]
  refine cond_i (fun h => ?_) (fun h => leB ?_)
  · have hlt : k < l.length := by have := of_decide_eq_true h; omega
    refine ⟨by omega, by omega, cond_i (fun e => leB ?_) (fun e => lt_i fun x hx => ?_)⟩
    · refine (decide_eq_false fun q => ?_).symm
      rw [q] at e
      simp at e
    · have e : plAt l k = plAt l2 k := by
        rw [v3_ext]
        simpa [Bool.cond_eq_ite, and_assoc] using e
      rw [IntWalk.i64_in _ (by omega)] at hx
      subst hx
      exact ⟨_, rfl, i0, by omega, by omega, by omega, i4, fun j hj => by
        by_cases q : j = k
        · rw [q]; exact e
        · exact i5 j (by omega)⟩
  · have hge : k = l.length := by have := of_decide_eq_false h; omega
    refine (decide_eq_true (List.ext_getElem? fun i => ?_)).symm
    by_cases hi : i < l.length
    · have := i5 i (by omega)
      unfold plAt at this
      simp only [List.getD, List.getElem?_eq_getElem hi, List.getElem?_eq_getElem (i4 ▸ hi), Option.getD_some] at this
      rw [List.getElem?_eq_getElem hi, List.getElem?_eq_getElem (i4 ▸ hi), this]
    · rw [List.getElem?_eq_none (by omega), List.getElem?_eq_none (by omega)]
theorem zero_ref05_SameSteps_0 (l : List V3) (l2 : List V3) (v0_0 : Int)  (hi : l.length ≤ 1000000 ∧ 0 ≤ v0_0 ∧ v0_0 ≤ l.length ∧ (0 : Int) + v0_0 = l.length + 1 ∧ l.length = l2.length ∧ ∀ j : Nat, (j : Int) < v0_0 → plAt l j = plAt l2 j) : False := by
  omega
theorem spec_ref05_SameSteps (l : List V3) (l2 : List V3) (hp : (l).length ≤ 1000000) : vc_ref05_SameSteps (J_ref05_SameSteps l l2) l l2 (fun r => LeD r (.t (.c (.v (.bool (decide (l = l2))))))) := by
  unfold vc_ref05_SameSteps
  refine cond_i (fun h => leB ?_) (fun h => ?_)
  · have h : l.length ≠ l2.length := by intro e; rw [e] at h; simp at h
    exact (decide_eq_false fun e => h (by rw [e])).symm
  · have h : l.length = l2.length := by have h : (l.length : Int) = l2.length := by simpa using h
                                        omega
    exact ⟨l.length + 1, 0, rfl, hp, by omega, by omega, by omega, h, fun j hj => by omega⟩
theorem all_ref05_SameSteps (l : List V3) (l2 : List V3) (hp : (l).length ≤ 1000000) : AllG (J_ref05_SameSteps l l2) (loopsFn Try.prog tab S48 ann_ref05_SameSteps (J_ref05_SameSteps l l2) Try.f51 (fun r => LeD r (.t (.c (.v (.bool (decide (l = l2)))))))) := by
  rw [lp_ref05_SameSteps]
  refine ⟨⟨?_, ?_⟩, trivial⟩
  · intro F s h
    obtain _ | ⟨g, F⟩ := F
    case cons => exact h.elim
    obtain ⟨w0, rfl, hi⟩ := h
    exact zero_ref05_SameSteps_0 _ _ _ hi
  · intro n F s h
    obtain _ | ⟨g, F⟩ := F
    case cons => exact h.elim
    obtain ⟨w0, rfl, hi⟩ := h
    rw [er_ref05_SameSteps_0]
    exact rnd_ref05_SameSteps_0 _ _ _ _ hp hi
def con_ref05_SameSteps : Con := fun args => match args with
  | [.t (.c (.sl 3 n_l c_l)), .t (.c (.sl 3 n_l2 c_l2))] => some (.t (.c (.v (.bool (decide ((listC n_l mkPl c_l) = (listC n_l2 mkPl c_l2)))))), some (numsP 3 n_l c_l ∧ numsP 3 n_l2 c_l2 ∧ ((listC n_l mkPl c_l)).length ≤ 1000000), false)
  | _ => none
theorem ok_ref05_SameSteps : Ok Try.prog 51 con_ref05_SameSteps := by
  refine Ok.fn (ann := ann_ref05_SameSteps) mixed tabOK VS48 VI46 (fn := Try.f51) (by kernel_rfl) (by kernel_rfl) fit_ref05_SameSteps fun args r pre fresh h hp => ?_
  unfold con_ref05_SameSteps at h
  split at h
  · rename_i n_l c_l n_l2 c_l2
    cases h
    obtain ⟨hp0, hp1, hp⟩ := hp
    refine ⟨rfl, J_ref05_SameSteps (listC n_l mkPl c_l) (listC n_l2 mkPl c_l2), [.t (.c (.sl 3 ((listC n_l mkPl c_l).length) (plsC (listC n_l mkPl c_l)))), .t (.c (.sl 3 ((listC n_l2 mkPl c_l2).length) (plsC (listC n_l2 mkPl c_l2))))], ?_, Nat.le_of_ble_eq_true (by kernel_rfl), ?_, ?_⟩
    · intro w N vs h
      exact (LeA_cons (leL_V3 hp0) (LeA_cons (leL_V3 hp1) LeA_nil)) w N vs h
    · rw [ev_ref05_SameSteps]; exact spec_ref05_SameSteps (listC n_l mkPl c_l) (listC n_l2 mkPl c_l2) hp
    · exact all_ref05_SameSteps (listC n_l mkPl c_l) (listC n_l2 mkPl c_l2) hp
  · cases h
def S49 : Sum := addS S48 51 con_ref05_SameSteps
theorem VS49 : Valid Try.prog S49 := Valid.add VS48 ok_ref05_SameSteps

def vc_track_model_steps (m0 m1 m2 m3 m4 m5 m6 m7 m8 m9 m10 m11 : Int) (b0 b1 b2 b3 b4 b5 : Int) (post : DV → Prop) : Prop := post (.t (.fn 134 [.px 6 0 (boxC [.v (.int .i64 b0), .v (.int .i64 b1), .v (.int .i64 b2), .v (.int .i64 b3), .v (.int .i64 b4), .v (.int .i64 b5)]), .px 12 0 (boxC [.v (.int .i64 m0), .v (.int .i64 m1), .v (.int .i64 m2), .v (.int .i64 m3), .v (.int .i64 m4), .v (.int .i64 m5), .v (.int .i64 m6), .v (.int .i64 m7), .v (.int .i64 m8), .v (.int .i64 m9), .v (.int .i64 m10), .v (.int .i64 m11)])]))
def ann_track_model_steps : Ann := ⟨fun _ => none, fun _ => none, fun _ => [], I46, false, fun _ => none, fun _ => none⟩
theorem ev_track_model_steps (J : Inv) (m0 m1 m2 m3 m4 m5 m6 m7 m8 m9 m10 m11 : Int) (b0 b1 b2 b3 b4 b5 : Int) (post : DV → Prop) : evFn Try.prog tab S49 ann_track_model_steps J Try.f104 [.t (.a [.v (.int .i64 m0), .v (.int .i64 m1), .v (.int .i64 m2), .v (.int .i64 m3), .v (.int .i64 m4), .v (.int .i64 m5), .v (.int .i64 m6), .v (.int .i64 m7), .v (.int .i64 m8), .v (.int .i64 m9), .v (.int .i64 m10), .v (.int .i64 m11)]), .t (.a [.v (.int .i64 b0), .v (.int .i64 b1), .v (.int .i64 b2), .v (.int .i64 b3), .v (.int .i64 b4), .v (.int .i64 b5)])] post = vc_track_model_steps m0 m1 m2 m3 m4 m5 m6 m7 m8 m9 m10 m11 b0 b1 b2 b3 b4 b5 post := by kernel_rfl
theorem fit_track_model_steps : okFn ann_track_model_steps Try.f104 = true := by kernel_rfl
theorem lp_track_model_steps (J : Inv) (post : DV → Prop) : AllG J (loopsFn Try.prog tab S49 ann_track_model_steps J Try.f104 post) = (True) := by kernel_rfl
theorem spec_track_model_steps (m0 m1 m2 m3 m4 m5 m6 m7 m8 m9 m10 m11 : Int) (b0 b1 b2 b3 b4 b5 : Int) : vc_track_model_steps m0 m1 m2 m3 m4 m5 m6 m7 m8 m9 m10 m11 b0 b1 b2 b3 b4 b5 (fun r => LeD r (.t (.fn 134 [.px 6 0 (boxC [.v (.int .i64 b0), .v (.int .i64 b1), .v (.int .i64 b2), .v (.int .i64 b3), .v (.int .i64 b4), .v (.int .i64 b5)]), .px 12 0 (boxC [.v (.int .i64 m0), .v (.int .i64 m1), .v (.int .i64 m2), .v (.int .i64 m3), .v (.int .i64 m4), .v (.int .i64 m5), .v (.int .i64 m6), .v (.int .i64 m7), .v (.int .i64 m8), .v (.int .i64 m9), .v (.int .i64 m10), .v (.int .i64 m11)])]))) := by
  exact LeD.refl _
def con_track_model_steps : Con := fun args => match args with
  | [.t (.a [.v (.int .i64 m0), .v (.int .i64 m1), .v (.int .i64 m2), .v (.int .i64 m3), .v (.int .i64 m4), .v (.int .i64 m5), .v (.int .i64 m6), .v (.int .i64 m7), .v (.int .i64 m8), .v (.int .i64 m9), .v (.int .i64 m10), .v (.int .i64 m11)]), .t (.a [.v (.int .i64 b0), .v (.int .i64 b1), .v (.int .i64 b2), .v (.int .i64 b3), .v (.int .i64 b4), .v (.int .i64 b5)])] => some (.t (.fn 134 [.px 6 0 (boxC [.v (.int .i64 b0), .v (.int .i64 b1), .v (.int .i64 b2), .v (.int .i64 b3), .v (.int .i64 b4), .v (.int .i64 b5)]), .px 12 0 (boxC [.v (.int .i64 m0), .v (.int .i64 m1), .v (.int .i64 m2), .v (.int .i64 m3), .v (.int .i64 m4), .v (.int .i64 m5), .v (.int .i64 m6), .v (.int .i64 m7), .v (.int .i64 m8), .v (.int .i64 m9), .v (.int .i64 m10), .v (.int .i64 m11)])]), none, false)
  | _ => none
theorem ok_track_model_steps : Ok Try.prog 104 con_track_model_steps := by
  refine Ok.fn (ann := ann_track_model_steps) mixed tabOK VS49 VI46 (fn := Try.f104) (by kernel_rfl) (by kernel_rfl) fit_track_model_steps fun args r pre fresh h hp => ?_
  unfold con_track_model_steps at h
  split at h
  · rename_i m0 m1 m2 m3 m4 m5 m6 m7 m8 m9 m10 m11 b0 b1 b2 b3 b4 b5
    cases h
    refine ⟨rfl, fun _ _ _ => False, _, LeA.refl _, Nat.le_of_ble_eq_true (by kernel_rfl), ?_, ?_⟩
    · rw [ev_track_model_steps]; exact spec_track_model_steps m0 m1 m2 m3 m4 m5 m6 m7 m8 m9 m10 m11 b0 b1 b2 b3 b4 b5
    · rw [lp_track_model_steps]; trivial
  · cases h
def S50 : Sum := addS S49 104 con_track_model_steps
theorem VS50 : Valid Try.prog S50 := Valid.add VS49 ok_track_model_steps

def mk_track_StepsIn_0 (m0 m1 m2 m3 m4 m5 m6 m7 m8 m9 m10 m11 : Int) (b0 b1 b2 b3 b4 b5 : Int) (v0_0 : List (List CV)) : DS := ⟨[none, none, none, none, none, none, none, none, some (.t (.c (.p 8 0))), none, none, none, none, none, none, none, none, none, none, none, none, some (.t (.fn 134 [.px 6 0 (boxC [.v (.int .i64 b0), .v (.int .i64 b1), .v (.int .i64 b2), .v (.int .i64 b3), .v (.int .i64 b4), .v (.int .i64 b5)]), .px 12 0 (boxC [.v (.int .i64 m0), .v (.int .i64 m1), .v (.int .i64 m2), .v (.int .i64 m3), .v (.int .i64 m4), .v (.int .i64 m5), .v (.int .i64 m6), .v (.int .i64 m7), .v (.int .i64 m8), .v (.int .i64 m9), .v (.int .i64 m10), .v (.int .i64 m11)])])), none, none, none, none, none, none], [some (.gen 22 3 v0_0), none, none, none, none, none, none, none, some (.box 87 [.os 0]), none, none, none, none, none, none, none, none, none, none, none, none, none, none, none, none, none, none, none]⟩
def vc_track_StepsIn (J : Inv) (m0 m1 m2 m3 m4 m5 m6 m7 m8 m9 m10 m11 : Int) (b0 b1 b2 b3 b4 b5 : Int) (post : DV → Prop) : Prop := cond ((firstNZ [((⟨m0, m1, m2, m3, m4, m5, m6, m7, m8, m9, m10, m11⟩ : TMod)).err, ((⟨⟨b0, b1, b2⟩, ⟨b3, b4, b5⟩⟩ : TBox)).err]) != (0 : Int)) (post (.tu [.c (.v (.slice none 0 0)), .c (.v (.int .i64 (firstNZ [((⟨m0, m1, m2, m3, m4, m5, m6, m7, m8, m9, m10, m11⟩ : TMod)).err, ((⟨⟨b0, b1, b2⟩, ⟨b3, b4, b5⟩⟩ : TBox)).err])))])) ((numsB 6 (boxC [.v (.int .i64 b0), .v (.int .i64 b1), .v (.int .i64 b2), .v (.int .i64 b3), .v (.int .i64 b4), .v (.int .i64 b5)]) = true ∧ numsB 12 (boxC [.v (.int .i64 m0), .v (.int .i64 m1), .v (.int .i64 m2), .v (.int .i64 m3), .v (.int .i64 m4), .v (.int .i64 m5), .v (.int .i64 m6), .v (.int .i64 m7), .v (.int .i64 m8), .v (.int .i64 m9), .v (.int .i64 m10), .v (.int .i64 m11)]) = true ∧ ((⟨⟨b0, b1, b2⟩, ⟨b3, b4, b5⟩⟩ : TBox)).lo.inS 20 = true ∧ ((⟨⟨b0, b1, b2⟩, ⟨b3, b4, b5⟩⟩ : TBox)).hi.inS 20 = true ∧ ((⟨⟨b0, b1, b2⟩, ⟨b3, b4, b5⟩⟩ : TBox)).ok) ∧ (J 0 [0] (mk_track_StepsIn_0 m0 m1 m2 m3 m4 m5 m6 m7 m8 m9 m10 m11 b0 b1 b2 b3 b4 b5 ([]))))
def ann_track_StepsIn : Ann := ⟨fun _ => none, fun b => lookA b [(0, (none, some ⟨[8, 21], [8], []⟩))], fun b => (lookA b [(0, [(8, 0, 0, .gen 22 3 [])])]).getD [], I46, false, fun _ => none, fun _ => none⟩
theorem ev_track_StepsIn (J : Inv) (m0 m1 m2 m3 m4 m5 m6 m7 m8 m9 m10 m11 : Int) (b0 b1 b2 b3 b4 b5 : Int) (post : DV → Prop) : evFn Try.prog tab S50 ann_track_StepsIn J Try.f48 [.t (.a [.v (.int .i64 m0), .v (.int .i64 m1), .v (.int .i64 m2), .v (.int .i64 m3), .v (.int .i64 m4), .v (.int .i64 m5), .v (.int .i64 m6), .v (.int .i64 m7), .v (.int .i64 m8), .v (.int .i64 m9), .v (.int .i64 m10), .v (.int .i64 m11)]), .t (.a [.v (.int .i64 b0), .v (.int .i64 b1), .v (.int .i64 b2), .v (.int .i64 b3), .v (.int .i64 b4), .v (.int .i64 b5)])] post = vc_track_StepsIn J m0 m1 m2 m3 m4 m5 m6 m7 m8 m9 m10 m11 b0 b1 b2 b3 b4 b5 post := by kernel_rfl
theorem fit_track_StepsIn : okFn ann_track_StepsIn Try.f48 = true := by kernel_rfl
def rd_track_StepsIn_0 (J : Inv) (m0 m1 m2 m3 m4 m5 m6 m7 m8 m9 m10 m11 : Int) (b0 b1 b2 b3 b4 b5 : Int) (v0_0 : List (List CV)) (nn0 : Nat) (post : DV → Prop) : Prop := (nn0 = (n_it_track_model_steps_1 b0 b1 b2 b3 b4 b5 m0 m1 m2 m3 m4 m5 m6 m7 m8 m9 m10 m11) → post (.tu [.c (.sl 3 v0_0.length (genC v0_0)), .c (.v (.int .i64 0))])) ∧ (nn0 < (n_it_track_model_steps_1 b0 b1 b2 b3 b4 b5 m0 m1 m2 m3 m4 m5 m6 m7 m8 m9 m10 m11) → (roomP 24 (v0_0.length + ([[.v (.int .i64 ((plAt (((⟨m0, m1, m2, m3, m4, m5, m6, m7, m8, m9, m10, m11⟩ : TMod)).steps (⟨⟨b0, b1, b2⟩, ⟨b3, b4, b5⟩⟩ : TBox)) nn0).x)), .v (.int .i64 ((plAt (((⟨m0, m1, m2, m3, m4, m5, m6, m7, m8, m9, m10, m11⟩ : TMod)).steps (⟨⟨b0, b1, b2⟩, ⟨b3, b4, b5⟩⟩ : TBox)) nn0).y)), .v (.int .i64 ((plAt (((⟨m0, m1, m2, m3, m4, m5, m6, m7, m8, m9, m10, m11⟩ : TMod)).steps (⟨⟨b0, b1, b2⟩, ⟨b3, b4, b5⟩⟩ : TBox)) nn0).z))]] : List (List CV)).length)) ∧ (((some (.t (.fn 134 [.px 6 0 (boxC [.v (.int .i64 b0), .v (.int .i64 b1), .v (.int .i64 b2), .v (.int .i64 b3), .v (.int .i64 b4), .v (.int .i64 b5)]), .px 12 0 (boxC [.v (.int .i64 m0), .v (.int .i64 m1), .v (.int .i64 m2), .v (.int .i64 m3), .v (.int .i64 m4), .v (.int .i64 m5), .v (.int .i64 m6), .v (.int .i64 m7), .v (.int .i64 m8), .v (.int .i64 m9), .v (.int .i64 m10), .v (.int .i64 m11)])])) : Option DV) = some (.t (.fn 134 [.px 6 0 (boxC [.v (.int .i64 b0), .v (.int .i64 b1), .v (.int .i64 b2), .v (.int .i64 b3), .v (.int .i64 b4), .v (.int .i64 b5)]), .px 12 0 (boxC [.v (.int .i64 m0), .v (.int .i64 m1), .v (.int .i64 m2), .v (.int .i64 m3), .v (.int .i64 m4), .v (.int .i64 m5), .v (.int .i64 m6), .v (.int .i64 m7), .v (.int .i64 m8), .v (.int .i64 m9), .v (.int .i64 m10), .v (.int .i64 m11)])]))) ∧ J 0 [nn0 + 1] (mk_track_StepsIn_0 m0 m1 m2 m3 m4 m5 m6 m7 m8 m9 m10 m11 b0 b1 b2 b3 b4 b5 (v0_0 ++ ([[.v (.int .i64 ((plAt (((⟨m0, m1, m2, m3, m4, m5, m6, m7, m8, m9, m10, m11⟩ : TMod)).steps (⟨⟨b0, b1, b2⟩, ⟨b3, b4, b5⟩⟩ : TBox)) nn0).x)), .v (.int .i64 ((plAt (((⟨m0, m1, m2, m3, m4, m5, m6, m7, m8, m9, m10, m11⟩ : TMod)).steps (⟨⟨b0, b1, b2⟩, ⟨b3, b4, b5⟩⟩ : TBox)) nn0).y)), .v (.int .i64 ((plAt (((⟨m0, m1, m2, m3, m4, m5, m6, m7, m8, m9, m10, m11⟩ : TMod)).steps (⟨⟨b0, b1, b2⟩, ⟨b3, b4, b5⟩⟩ : TBox)) nn0).z))]] : List (List CV))))))
theorem er_track_StepsIn_0 (J : Inv) (m0 m1 m2 m3 m4 m5 m6 m7 m8 m9 m10 m11 : Int) (b0 b1 b2 b3 b4 b5 : Int) (v0_0 : List (List CV)) (nn0 : Nat) (post : DV → Prop) : round Try.prog tab S50 ann_track_StepsIn J Try.f48 post 0 (nn0 :: []) (mk_track_StepsIn_0 m0 m1 m2 m3 m4 m5 m6 m7 m8 m9 m10 m11 b0 b1 b2 b3 b4 b5 v0_0) = rd_track_StepsIn_0 J m0 m1 m2 m3 m4 m5 m6 m7 m8 m9 m10 m11 b0 b1 b2 b3 b4 b5 v0_0 nn0 post := by kernel_rfl
theorem lp_track_StepsIn (J : Inv) (post : DV → Prop) : AllG J (loopsFn Try.prog tab S50 ann_track_StepsIn J Try.f48 post) = ((∀ i s, J 0 [i] s → round Try.prog tab S50 ann_track_StepsIn J Try.f48 post 0 [i] s) ∧ True) := by kernel_rfl
def J_track_StepsIn (m0 m1 m2 m3 m4 m5 m6 m7 m8 m9 m10 m11 : Int) (b0 b1 b2 b3 b4 b5 : Int) : Inv := fun b F s => match b, F with
  | 0, [nn0] => ∃ (v0_0 : List (List CV)), s = mk_track_StepsIn_0 m0 m1 m2 m3 m4 m5 m6 m7 m8 m9 m10 m11 b0 b1 b2 b3 b4 b5 v0_0 ∧ (firstNZ [(⟨m0, m1, m2, m3, m4, m5, m6, m7, m8, m9, m10, m11⟩ : TMod).err, (⟨⟨b0, b1, b2⟩, ⟨b3, b4, b5⟩⟩ : TBox).err] = 0 ∧ nn0 ≤ ((⟨m0, m1, m2, m3, m4, m5, m6, m7, m8, m9, m10, m11⟩ : TMod).steps (⟨⟨b0, b1, b2⟩, ⟨b3, b4, b5⟩⟩ : TBox)).length ∧ v0_0 = (((⟨m0, m1, m2, m3, m4, m5, m6, m7, m8, m9, m10, m11⟩ : TMod).steps (⟨⟨b0, b1, b2⟩, ⟨b3, b4, b5⟩⟩ : TBox)).take nn0).map v3Cv)
  | _, _ => False
set_option maxHeartbeats 8000000 in
set_option maxRecDepth 100000 in
theorem rnd_track_StepsIn_0 (m0 m1 m2 m3 m4 m5 m6 m7 m8 m9 m10 m11 : Int) (b0 b1 b2 b3 b4 b5 : Int) (v0_0 : List (List CV)) (nn0 : Nat) (hi : firstNZ [(⟨m0, m1, m2, m3, m4, m5, m6, m7, m8, m9, m10, m11⟩ : TMod).err, (⟨⟨b0, b1, b2⟩, ⟨b3, b4, b5⟩⟩ : TBox).err] = 0 ∧ nn0 ≤ ((⟨m0, m1, m2, m3, m4, m5, m6, m7, m8, m9, m10, m11⟩ : TMod).steps (⟨⟨b0, b1, b2⟩, ⟨b3, b4, b5⟩⟩ : TBox)).length ∧ v0_0 = (((⟨m0, m1, m2, m3, m4, m5, m6, m7, m8, m9, m10, m11⟩ : TMod).steps (⟨⟨b0, b1, b2⟩, ⟨b3, b4, b5⟩⟩ : TBox)).take nn0).map v3Cv) : rd_track_StepsIn_0 (J_track_StepsIn m0 m1 m2 m3 m4 m5 m6 m7 m8 m9 m10 m11 b0 b1 b2 b3 b4 b5) m0 m1 m2 m3 m4 m5 m6 m7 m8 m9 m10 m11 b0 b1 b2 b3 b4 b5 v0_0 nn0 (fun r => LeD r (.tu [.c (.sl 3 ((stepsL (⟨m0, m1, m2, m3, m4, m5, m6, m7, m8, m9, m10, m11⟩ : TMod) (⟨⟨b0, b1, b2⟩, ⟨b3, b4, b5⟩⟩ : TBox)).length) (plsC (stepsL (⟨m0, m1, m2, m3, m4, m5, m6, m7, m8, m9, m10, m11⟩ : TMod) (⟨⟨b0, b1, b2⟩, ⟨b3, b4, b5⟩⟩ : TBox)))), .c (.v (.int .i64 (firstNZ [((⟨m0, m1, m2, m3, m4, m5, m6, m7, m8, m9, m10, m11⟩ : TMod)).err, ((⟨⟨b0, b1, b2⟩, ⟨b3, b4, b5⟩⟩ : TBox)).err])))])) := by
  obtain ⟨i1, i2, i3⟩ := hi
  have hb := box_in (fn2 i1).2
  have hm := len_68921 (b := (⟨⟨b0, b1, b2⟩, ⟨b3, b4, b5⟩⟩ : TBox)) hb.1 hb.2 (box_ok (fn2 i1).2)
  have hle := List.length_filter_le (⟨m0, m1, m2, m3, m4, m5, m6, m7, m8, m9, m10, m11⟩ : TMod).permB (⟨⟨b0, b1, b2⟩, ⟨b3, b4, b5⟩⟩ : TBox).all
  have hl2 : ((⟨m0, m1, m2, m3, m4, m5, m6, m7, m8, m9, m10, m11⟩ : TMod).steps (⟨⟨b0, b1, b2⟩, ⟨b3, b4, b5⟩⟩ : TBox)).length ≤ 68921 := Nat.le_trans hle hm
  unfold rd_track_StepsIn_0
  refine ⟨fun h => ?_, fun h => ?_⟩
  · have h : nn0 = ((⟨m0, m1, m2, m3, m4, m5, m6, m7, m8, m9, m10, m11⟩ : TMod).steps (⟨⟨b0, b1, b2⟩, ⟨b3, b4, b5⟩⟩ : TBox)).length := h
    rw [show stepsL (⟨m0, m1, m2, m3, m4, m5, m6, m7, m8, m9, m10, m11⟩ : TMod) (⟨⟨b0, b1, b2⟩, ⟨b3, b4, b5⟩⟩ : TBox) = (⟨m0, m1, m2, m3, m4, m5, m6, m7, m8, m9, m10, m11⟩ : TMod).steps (⟨⟨b0, b1, b2⟩, ⟨b3, b4, b5⟩⟩ : TBox) from if_neg (by rw [i1]; simp), i1, i3, h, List.take_length]
    exact le_tu (le_v3 _) (LeD.refl _)
  · have h : nn0 < ((⟨m0, m1, m2, m3, m4, m5, m6, m7, m8, m9, m10, m11⟩ : TMod).steps (⟨⟨b0, b1, b2⟩, ⟨b3, b4, b5⟩⟩ : TBox)).length := h
    refine ⟨?_, rfl, _, rfl, i1, h, ?_⟩
    · rw [i3]; unfold roomP maxLen; simp; omega
    · rw [i3, plAt_take h, List.map_append]; rfl
set_option maxHeartbeats 8000000 in
set_option maxRecDepth 100000 in
theorem spec_track_StepsIn (m0 m1 m2 m3 m4 m5 m6 m7 m8 m9 m10 m11 : Int) (b0 b1 b2 b3 b4 b5 : Int) : vc_track_StepsIn (J_track_StepsIn m0 m1 m2 m3 m4 m5 m6 m7 m8 m9 m10 m11 b0 b1 b2 b3 b4 b5) m0 m1 m2 m3 m4 m5 m6 m7 m8 m9 m10 m11 b0 b1 b2 b3 b4 b5 (fun r => LeD r (.tu [.c (.sl 3 ((stepsL (⟨m0, m1, m2, m3, m4, m5, m6, m7, m8, m9, m10, m11⟩ : TMod) (⟨⟨b0, b1, b2⟩, ⟨b3, b4, b5⟩⟩ : TBox)).length) (plsC (stepsL (⟨m0, m1, m2, m3, m4, m5, m6, m7, m8, m9, m10, m11⟩ : TMod) (⟨⟨b0, b1, b2⟩, ⟨b3, b4, b5⟩⟩ : TBox)))), .c (.v (.int .i64 (firstNZ [((⟨m0, m1, m2, m3, m4, m5, m6, m7, m8, m9, m10, m11⟩ : TMod)).err, ((⟨⟨b0, b1, b2⟩, ⟨b3, b4, b5⟩⟩ : TBox)).err])))])) := by
  unfold vc_track_StepsIn
  refine cond_i (fun h => ?_) (fun h => ?_)
  · have h : firstNZ [(⟨m0, m1, m2, m3, m4, m5, m6, m7, m8, m9, m10, m11⟩ : TMod).err, (⟨⟨b0, b1, b2⟩, ⟨b3, b4, b5⟩⟩ : TBox).err] ≠ 0 := by simpa using h
    rw [show stepsL (⟨m0, m1, m2, m3, m4, m5, m6, m7, m8, m9, m10, m11⟩ : TMod) (⟨⟨b0, b1, b2⟩, ⟨b3, b4, b5⟩⟩ : TBox) = [] from if_pos h]
    exact le_tu le_nil (LeD.refl _)
  · have h : firstNZ [(⟨m0, m1, m2, m3, m4, m5, m6, m7, m8, m9, m10, m11⟩ : TMod).err, (⟨⟨b0, b1, b2⟩, ⟨b3, b4, b5⟩⟩ : TBox).err] = 0 := by simpa using h
    have hb := box_in (fn2 h).2
    exact ⟨⟨rfl, rfl, hb.1, hb.2, box_ok (fn2 h).2⟩, _, rfl, h, Nat.zero_le _, rfl⟩
theorem all_track_StepsIn (m0 m1 m2 m3 m4 m5 m6 m7 m8 m9 m10 m11 : Int) (b0 b1 b2 b3 b4 b5 : Int) : AllG (J_track_StepsIn m0 m1 m2 m3 m4 m5 m6 m7 m8 m9 m10 m11 b0 b1 b2 b3 b4 b5) (loopsFn Try.prog tab S50 ann_track_StepsIn (J_track_StepsIn m0 m1 m2 m3 m4 m5 m6 m7 m8 m9 m10 m11 b0 b1 b2 b3 b4 b5) Try.f48 (fun r => LeD r (.tu [.c (.sl 3 ((stepsL (⟨m0, m1, m2, m3, m4, m5, m6, m7, m8, m9, m10, m11⟩ : TMod) (⟨⟨b0, b1, b2⟩, ⟨b3, b4, b5⟩⟩ : TBox)).length) (plsC (stepsL (⟨m0, m1, m2, m3, m4, m5, m6, m7, m8, m9, m10, m11⟩ : TMod) (⟨⟨b0, b1, b2⟩, ⟨b3, b4, b5⟩⟩ : TBox)))), .c (.v (.int .i64 (firstNZ [((⟨m0, m1, m2, m3, m4, m5, m6, m7, m8, m9, m10, m11⟩ : TMod)).err, ((⟨⟨b0, b1, b2⟩, ⟨b3, b4, b5⟩⟩ : TBox)).err])))]))) := by
  rw [lp_track_StepsIn]
  refine ⟨?_, trivial⟩
  · intro i s h
    obtain ⟨w0, rfl, hi⟩ := h
    rw [er_track_StepsIn_0]
    exact rnd_track_StepsIn_0 _ _ _ _ _ _ _ _ _ _ _ _ _ _ _ _ _ _ _ _ hi
def con_track_StepsIn : Con := fun args => match args with
  | [.t (.a [.v (.int .i64 m0), .v (.int .i64 m1), .v (.int .i64 m2), .v (.int .i64 m3), .v (.int .i64 m4), .v (.int .i64 m5), .v (.int .i64 m6), .v (.int .i64 m7), .v (.int .i64 m8), .v (.int .i64 m9), .v (.int .i64 m10), .v (.int .i64 m11)]), .t (.a [.v (.int .i64 b0), .v (.int .i64 b1), .v (.int .i64 b2), .v (.int .i64 b3), .v (.int .i64 b4), .v (.int .i64 b5)])] => some (.tu [.c (.sl 3 ((stepsL (⟨m0, m1, m2, m3, m4, m5, m6, m7, m8, m9, m10, m11⟩ : TMod) (⟨⟨b0, b1, b2⟩, ⟨b3, b4, b5⟩⟩ : TBox)).length) (plsC (stepsL (⟨m0, m1, m2, m3, m4, m5, m6, m7, m8, m9, m10, m11⟩ : TMod) (⟨⟨b0, b1, b2⟩, ⟨b3, b4, b5⟩⟩ : TBox)))), .c (.v (.int .i64 (firstNZ [((⟨m0, m1, m2, m3, m4, m5, m6, m7, m8, m9, m10, m11⟩ : TMod)).err, ((⟨⟨b0, b1, b2⟩, ⟨b3, b4, b5⟩⟩ : TBox)).err])))], none, false)
  | _ => none
theorem ok_track_StepsIn : Ok Try.prog 48 con_track_StepsIn := by
  refine Ok.fn (ann := ann_track_StepsIn) mixed tabOK VS50 VI46 (fn := Try.f48) (by kernel_rfl) (by kernel_rfl) fit_track_StepsIn fun args r pre fresh h hp => ?_
  unfold con_track_StepsIn at h
  split at h
  · rename_i m0 m1 m2 m3 m4 m5 m6 m7 m8 m9 m10 m11 b0 b1 b2 b3 b4 b5
    cases h
    refine ⟨rfl, J_track_StepsIn m0 m1 m2 m3 m4 m5 m6 m7 m8 m9 m10 m11 b0 b1 b2 b3 b4 b5, _, LeA.refl _, Nat.le_of_ble_eq_true (by kernel_rfl), ?_, ?_⟩
    · rw [ev_track_StepsIn]; exact spec_track_StepsIn m0 m1 m2 m3 m4 m5 m6 m7 m8 m9 m10 m11 b0 b1 b2 b3 b4 b5
    · exact all_track_StepsIn m0 m1 m2 m3 m4 m5 m6 m7 m8 m9 m10 m11 b0 b1 b2 b3 b4 b5
  · cases h
def S51 : Sum := addS S50 48 con_track_StepsIn
theorem VS51 : Valid Try.prog S51 := Valid.add VS50 ok_track_StepsIn

end Go.Proofs.Ytlmdmpjfehpjeaa
