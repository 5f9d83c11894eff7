/- Texts of this claim, together. -/
import Derived.Test.YtlmdmpjfehpjeaaP12
import Derived.Test.YtlmdmpjfehpjeaaP7
import Derived.Test.YtlmdmpjfehpjeaaP8

/- Tracks, by the checker: simulated hits. -/
set_option linter.unusedVariables false
set_option linter.unusedSimpArgs false
namespace Go.Proofs.Ytlmdmpjfehpjeaa
open Go.RowKit Ev

def plAt (l : List V3) (i : Nat) : V3 := l.getD i ⟨0, 0, 0⟩
def plsC (l : List V3) : Nat → Nat → CV := fun i j => match j with
  | 0 => .v (.int .i64 (plAt l i).x)
  | 1 => .v (.int .i64 (plAt l i).y)
  | _ => .v (.int .i64 (plAt l i).z)
def mkPl (g : Nat → Int) : V3 := ⟨g 0, g 1, g 2⟩
theorem plAt_C {n : Nat} {c : Nat → Nat → CV} {i : Nat} (hi : i < n) : plAt (listC n mkPl c) i = mkPl fun j => cvInt (c i j) := listC_get hi
theorem leL_V3 {n : Nat} {c : Nat → Nat → CV} (hp : numsP 3 n c) : LeD (.t (.c (.sl 3 n c))) (.t (.c (.sl 3 (listC n mkPl c).length (plsC (listC n mkPl c))))) := by
  refine leL hp fun i j hi hj => ?_
  unfold plsC
  rw [plAt_C hi]
  rcases (by omega : j = 0 ∨ j = 1 ∨ j = 2) with rfl | rfl | rfl <;> rfl
theorem numsP_pls (l : List V3) : numsP 3 l.length (plsC l) := by
  intro i j hi hj
  rcases (by omega : j = 0 ∨ j = 1 ∨ j = 2) with rfl | rfl | rfl <;> rfl
theorem plAt_take {l : List V3} {k : Nat} (h : k < l.length) : l.take (k + 1) = l.take k ++ [plAt l k] := by
  rw [List.take_succ_eq_append_getElem h]; simp [plAt, List.getD, h]
def simAt (m : TMod) (s p : V3) : Int := if plE p ≠ 0 then plE p else if inB (m.first s p) (-1000000) 1000000 = true ∧ tmE (m.first s p) = 0 then 0 else 22
def simE (m : TMod) (s : V3) (l : List V3) : Int := if firstNZ [m.both s, unl (decide (((l.length : Nat) : Int) ≤ (12 : Int))) (8 : Int)] ≠ 0 then firstNZ [m.both s, unl (decide (((l.length : Nat) : Int) ≤ (12 : Int))) (8 : Int)] else scan (fun i => simAt m s (plAt l i)) l.length
def hitOf (m : TMod) (s p : V3) : THit := ⟨p, m.first s p, 1⟩
def simL (m : TMod) (s : V3) (l : List V3) : List THit := if simE m s l ≠ 0 then [] else l.map (hitOf m s)
theorem plain_THit (l : List THit) (i j : Nat) : ∃ y, hitsC l i j = .v y := by unfold hitsC; split <;> exact ⟨_, rfl⟩
def hitCv (h : THit) : List CV := [.v (.int .i64 h.p.x), .v (.int .i64 h.p.y), .v (.int .i64 h.p.z), .v (.int .i64 h.t), .v (.int .i64 h.w)]
theorem le_tu {a a' b b' : TV} (h1 : LeD (.t a) (.t a')) (h2 : LeD (.t b) (.t b')) : LeD (.tu [a, b]) (.tu [a', b']) := by
  rintro w N v ⟨vs, e, g⟩
  match vs, g with
  | [x, y], g => exact ⟨[x, y], e, h1 w N x g.1, h2 w N y g.2.1, trivial⟩
  | [], g => exact g.elim
  | [_], g => exact g.2.elim
  | _ :: _ :: _ :: _, g => exact g.2.2.elim
theorem le_nil {sz : Nat} {c : Nat → Nat → CV} : LeD (.t (.c (.v (.slice none 0 0)))) (.t (.c (.sl sz 0 c))) := by
  intro w N v h
  exact ⟨none, 0, h.1, Nat.le_refl _, by unfold maxLen; omega, fun _ => rfl, fun h => by omega⟩
theorem le_hits (l : List THit) : LeD (.t (.c (.sl 5 (l.map hitCv).length (genC (l.map hitCv))))) (.t (.c (.sl 5 l.length (hitsC l)))) := by
  rw [List.length_map]
  refine le_sl fun i j hi hj => ?_
  unfold genC hitsC hitAt
  simp only [List.getD_eq_getElem?_getD, List.getElem?_map, List.getElem?_eq_getElem hi, Option.map_some, Option.getD_some]
  rcases (by omega : j = 0 ∨ j = 1 ∨ j = 2 ∨ j = 3 ∨ j = 4) with rfl | rfl | rfl | rfl | rfl <;> rfl
theorem hit_ext {a b : THit} : a = b ↔ a.p.x = b.p.x ∧ a.p.y = b.p.y ∧ a.p.z = b.p.z ∧ a.t = b.t ∧ a.w = b.w := by
  obtain ⟨⟨_, _, _⟩, _, _⟩ := a
  obtain ⟨⟨_, _, _⟩, _, _⟩ := b
  simp [and_assoc]
instance : DecidableEq THit := fun a b => decidable_of_iff _ hit_ext.symm
theorem st_ok {m : TMod} {s : V3} (h : m.stE s = 0) : s.inS 20 = true ∧ m.permit s := by
  unfold TMod.stE at h
  obtain ⟨h1, h2⟩ := fn2 h
  rw [unl_0 (by decide)] at h1 h2
  refine ⟨h1, ?_⟩
  unfold TMod.permB at h2
  simpa [TMod.permit] using h2
def con_track_openStep : Con := fun args => match args with
  | [.t (.a [.v (.int .i64 m0), .v (.int .i64 m1), .v (.int .i64 m2), .v (.int .i64 m3), .v (.int .i64 m4), .v (.int .i64 m5), .v (.int .i64 m6), .v (.int .i64 m7), .v (.int .i64 m8), .v (.int .i64 m9), .v (.int .i64 m10), .v (.int .i64 m11)]), .t (.a [.v (.int .i64 s0), .v (.int .i64 s1), .v (.int .i64 s2)])] => some (.tu [.a [.v (.int .i64 m0), .v (.int .i64 m1), .v (.int .i64 m2), .v (.int .i64 m3), .v (.int .i64 m4), .v (.int .i64 m5), .v (.int .i64 m6), .v (.int .i64 m7), .v (.int .i64 m8), .v (.int .i64 m9), .v (.int .i64 m10), .v (.int .i64 m11)], .a [.v (.int .i64 s0), .v (.int .i64 s1), .v (.int .i64 s2)], .c (.v (.int .i64 (((⟨m0, m1, m2, m3, m4, m5, m6, m7, m8, m9, m10, m11⟩ : TMod)).both (⟨s0, s1, s2⟩ : V3))))], none, false)
  | _ => none
theorem ok_track_openStep : Ok Try.prog 73 con_track_openStep := by
  refine Ok.oldG (Enters.of (fn := Try.f73) (by kernel_rfl) (by kernel_rfl) (by kernel_rfl)) fun args r pre fresh h hp => ?_
  unfold con_track_openStep at h
  split at h
  · rename_i m0 m1 m2 m3 m4 m5 m6 m7 m8 m9 m10 m11 s0 s1 s2
    cases h
    refine ⟨_, rfl, fun W N vs hv => ?_⟩
    obtain ⟨u0, ws0, k0, g0, hv0⟩ := hv.cons_inv
    subst k0
    have e0 := plain_arg rfl g0
    subst e0
    obtain ⟨u1, ws1, k1, g1, hv1⟩ := hv0.cons_inv
    subst k1
    have e1 := plain_arg rfl g1
    subst e1
    have ev := hv1.nil_inv
    subst ev
    exact track_openStep (⟨m0, m1, m2, m3, m4, m5, m6, m7, m8, m9, m10, m11⟩ : TMod) (⟨s0, s1, s2⟩ : V3) W
  · cases h
def S30 : Sum := addS S29 73 con_track_openStep
theorem VS30 : Valid Try.prog S30 := Valid.add VS29 ok_track_openStep

def con_track_placeErr : Con := fun args => match args with
  | [.t (.a [.v (.int .i64 p0), .v (.int .i64 p1), .v (.int .i64 p2)])] => some (.t (.c (.v (.int .i64 (plE (⟨p0, p1, p2⟩ : V3))))), none, false)
  | _ => none
theorem ok_track_placeErr : Ok Try.prog 70 con_track_placeErr := by
  refine Ok.oldG (Enters.of (fn := Try.f70) (by kernel_rfl) (by kernel_rfl) (by kernel_rfl)) fun args r pre fresh h hp => ?_
  unfold con_track_placeErr at h
  split at h
  · rename_i p0 p1 p2
    cases h
    refine ⟨_, rfl, fun W N vs hv => ?_⟩
    obtain ⟨u0, ws0, k0, g0, hv0⟩ := hv.cons_inv
    subst k0
    have e0 := plain_arg rfl g0
    subst e0
    have ev := hv0.nil_inv
    subst ev
    exact track_placeErr (⟨p0, p1, p2⟩ : V3) W
  · cases h
def S31 : Sum := addS S30 70 con_track_placeErr
theorem VS31 : Valid Try.prog S31 := Valid.add VS30 ok_track_placeErr

def con_track_timeErr : Con := fun args => match args with
  | [.t (.c (.v (.int .i64 n)))] => some (.t (.c (.v (.int .i64 (tmE n)))), none, false)
  | _ => none
theorem ok_track_timeErr : Ok Try.prog 71 con_track_timeErr := by
  refine Ok.oldG (Enters.of (fn := Try.f71) (by kernel_rfl) (by kernel_rfl) (by kernel_rfl)) fun args r pre fresh h hp => ?_
  unfold con_track_timeErr at h
  split at h
  · rename_i n
    cases h
    refine ⟨_, rfl, fun W N vs hv => ?_⟩
    obtain ⟨u0, ws0, k0, g0, hv0⟩ := hv.cons_inv
    subst k0
    have e0 := plain_arg rfl g0
    subst e0
    have ev := hv0.nil_inv
    subst ev
    exact (track_timeErr n W).mono fun e w' h => ⟨h.1, h.2 ▸ Below.refl _ _⟩
  · cases h
def S32 : Sum := addS S31 71 con_track_timeErr
theorem VS32 : Valid Try.prog S32 := Valid.add VS31 ok_track_timeErr

def con_track_model_firstAt : Con := fun args => match args with
  | [.t (.a [.v (.int .i64 m0), .v (.int .i64 m1), .v (.int .i64 m2), .v (.int .i64 m3), .v (.int .i64 m4), .v (.int .i64 m5), .v (.int .i64 m6), .v (.int .i64 m7), .v (.int .i64 m8), .v (.int .i64 m9), .v (.int .i64 m10), .v (.int .i64 m11)]), .t (.a [.v (.int .i64 s0), .v (.int .i64 s1), .v (.int .i64 s2)]), .t (.a [.v (.int .i64 p0), .v (.int .i64 p1), .v (.int .i64 p2)])] => some (.tu [.c (.v (.int .i64 (((⟨m0, m1, m2, m3, m4, m5, m6, m7, m8, m9, m10, m11⟩ : TMod)).first (⟨s0, s1, s2⟩ : V3) (⟨p0, p1, p2⟩ : V3)))), .c (.v (.bool (inB (((⟨m0, m1, m2, m3, m4, m5, m6, m7, m8, m9, m10, m11⟩ : TMod)).first (⟨s0, s1, s2⟩ : V3) (⟨p0, p1, p2⟩ : V3)) (-1000000) 1000000)))], some (((⟨m0, m1, m2, m3, m4, m5, m6, m7, m8, m9, m10, m11⟩ : TMod)).Ok ∧ ((⟨s0, s1, s2⟩ : V3)).inS 20 = true ∧ ((⟨m0, m1, m2, m3, m4, m5, m6, m7, m8, m9, m10, m11⟩ : TMod)).permit (⟨s0, s1, s2⟩ : V3) ∧ ((⟨p0, p1, p2⟩ : V3)).inS 1000 = true), false)
  | _ => none
theorem ok_track_model_firstAt : Ok Try.prog 76 con_track_model_firstAt := by
  refine Ok.oldG (Enters.of (fn := Try.f76) (by kernel_rfl) (by kernel_rfl) (by kernel_rfl)) fun args r pre fresh h hp => ?_
  unfold con_track_model_firstAt at h
  split at h
  · rename_i m0 m1 m2 m3 m4 m5 m6 m7 m8 m9 m10 m11 s0 s1 s2 p0 p1 p2
    cases h
    refine ⟨_, rfl, fun W N vs hv => ?_⟩
    have hp := hp
    obtain ⟨u0, ws0, k0, g0, hv0⟩ := hv.cons_inv
    subst k0
    have e0 := plain_arg rfl g0
    subst e0
    obtain ⟨u1, ws1, k1, g1, hv1⟩ := hv0.cons_inv
    subst k1
    have e1 := plain_arg rfl g1
    subst e1
    obtain ⟨u2, ws2, k2, g2, hv2⟩ := hv1.cons_inv
    subst k2
    have e2 := plain_arg rfl g2
    subst e2
    have ev := hv2.nil_inv
    subst ev
    exact track_mFirstAt (⟨m0, m1, m2, m3, m4, m5, m6, m7, m8, m9, m10, m11⟩ : TMod) (⟨s0, s1, s2⟩ : V3) (⟨p0, p1, p2⟩ : V3) W hp.1 hp.2.1 hp.2.2.1 hp.2.2.2
  · cases h
def S33 : Sum := addS S32 76 con_track_model_firstAt
theorem VS33 : Valid Try.prog S33 := Valid.add VS32 ok_track_model_firstAt

def con_ref05_BothErr : Con := fun args => match args with
  | [.t (.a [.v (.int .i64 m0), .v (.int .i64 m1), .v (.int .i64 m2), .v (.int .i64 m3), .v (.int .i64 m4), .v (.int .i64 m5), .v (.int .i64 m6), .v (.int .i64 m7), .v (.int .i64 m8), .v (.int .i64 m9), .v (.int .i64 m10), .v (.int .i64 m11)]), .t (.a [.v (.int .i64 s0), .v (.int .i64 s1), .v (.int .i64 s2)])] => some (.t (.c (.v (.int .i64 (((⟨m0, m1, m2, m3, m4, m5, m6, m7, m8, m9, m10, m11⟩ : TMod)).both (⟨s0, s1, s2⟩ : V3))))), none, false)
  | _ => none
theorem ok_ref05_BothErr : Ok Try.prog 19 con_ref05_BothErr := by
  refine Ok.oldG (Enters.of (fn := Try.f19) (by kernel_rfl) (by kernel_rfl) (by kernel_rfl)) fun args r pre fresh h hp => ?_
  unfold con_ref05_BothErr at h
  split at h
  · rename_i m0 m1 m2 m3 m4 m5 m6 m7 m8 m9 m10 m11 s0 s1 s2
    cases h
    refine ⟨_, rfl, fun W N vs hv => ?_⟩
    obtain ⟨u0, ws0, k0, g0, hv0⟩ := hv.cons_inv
    subst k0
    have e0 := plain_arg rfl g0
    subst e0
    obtain ⟨u1, ws1, k1, g1, hv1⟩ := hv0.cons_inv
    subst k1
    have e1 := plain_arg rfl g1
    subst e1
    have ev := hv1.nil_inv
    subst ev
    exact ref_BothErr (⟨m0, m1, m2, m3, m4, m5, m6, m7, m8, m9, m10, m11⟩ : TMod) (⟨s0, s1, s2⟩ : V3) W (hid fun W => ref_ModelErr (⟨m0, m1, m2, m3, m4, m5, m6, m7, m8, m9, m10, m11⟩ : TMod) W)
  · cases h
def S34 : Sum := addS S33 19 con_ref05_BothErr
theorem VS34 : Valid Try.prog S34 := Valid.add VS33 ok_ref05_BothErr

def con_ref05_PlaceErr : Con := fun args => match args with
  | [.t (.a [.v (.int .i64 p0), .v (.int .i64 p1), .v (.int .i64 p2)])] => some (.t (.c (.v (.int .i64 (plE (⟨p0, p1, p2⟩ : V3))))), none, false)
  | _ => none
theorem ok_ref05_PlaceErr : Ok Try.prog 21 con_ref05_PlaceErr := by
  refine Ok.oldG (Enters.of (fn := Try.f21) (by kernel_rfl) (by kernel_rfl) (by kernel_rfl)) fun args r pre fresh h hp => ?_
  unfold con_ref05_PlaceErr at h
  split at h
  · rename_i p0 p1 p2
    cases h
    refine ⟨_, rfl, fun W N vs hv => ?_⟩
    obtain ⟨u0, ws0, k0, g0, hv0⟩ := hv.cons_inv
    subst k0
    have e0 := plain_arg rfl g0
    subst e0
    have ev := hv0.nil_inv
    subst ev
    exact ref_PlaceErr p0 p1 p2 W
  · cases h
def S35 : Sum := addS S34 21 con_ref05_PlaceErr
theorem VS35 : Valid Try.prog S35 := Valid.add VS34 ok_ref05_PlaceErr

def con_ref05_TimeErr : Con := fun args => match args with
  | [.t (.c (.v (.int .i64 n)))] => some (.t (.c (.v (.int .i64 (tmE n)))), none, false)
  | _ => none
theorem ok_ref05_TimeErr : Ok Try.prog 45 con_ref05_TimeErr := by
  refine Ok.oldG (Enters.of (fn := Try.f45) (by kernel_rfl) (by kernel_rfl) (by kernel_rfl)) fun args r pre fresh h hp => ?_
  unfold con_ref05_TimeErr at h
  split at h
  · rename_i n
    cases h
    refine ⟨_, rfl, fun W N vs hv => ?_⟩
    obtain ⟨u0, ws0, k0, g0, hv0⟩ := hv.cons_inv
    subst k0
    have e0 := plain_arg rfl g0
    subst e0
    have ev := hv0.nil_inv
    subst ev
    exact (ref_TimeErr n W).mono fun e w' h => ⟨h.1, h.2 ▸ Below.refl _ _⟩
  · cases h
def S36 : Sum := addS S35 45 con_ref05_TimeErr
theorem VS36 : Valid Try.prog S36 := Valid.add VS35 ok_ref05_TimeErr

def con_ref05_First : Con := fun args => match args with
  | [.t (.a [.v (.int .i64 m0), .v (.int .i64 m1), .v (.int .i64 m2), .v (.int .i64 m3), .v (.int .i64 m4), .v (.int .i64 m5), .v (.int .i64 m6), .v (.int .i64 m7), .v (.int .i64 m8), .v (.int .i64 m9), .v (.int .i64 m10), .v (.int .i64 m11)]), .t (.a [.v (.int .i64 s0), .v (.int .i64 s1), .v (.int .i64 s2)]), .t (.a [.v (.int .i64 p0), .v (.int .i64 p1), .v (.int .i64 p2)])] => some (.tu [.c (.v (.int .i64 (bif inB (((⟨m0, m1, m2, m3, m4, m5, m6, m7, m8, m9, m10, m11⟩ : TMod)).first (⟨s0, s1, s2⟩ : V3) (⟨p0, p1, p2⟩ : V3)) (-1000000) 1000000 then ((⟨m0, m1, m2, m3, m4, m5, m6, m7, m8, m9, m10, m11⟩ : TMod)).first (⟨s0, s1, s2⟩ : V3) (⟨p0, p1, p2⟩ : V3) else 0))), .c (.v (.bool (inB (((⟨m0, m1, m2, m3, m4, m5, m6, m7, m8, m9, m10, m11⟩ : TMod)).first (⟨s0, s1, s2⟩ : V3) (⟨p0, p1, p2⟩ : V3)) (-1000000) 1000000)))], some (((⟨m0, m1, m2, m3, m4, m5, m6, m7, m8, m9, m10, m11⟩ : TMod)).Ok ∧ ((⟨s0, s1, s2⟩ : V3)).inS 20 = true ∧ ((⟨m0, m1, m2, m3, m4, m5, m6, m7, m8, m9, m10, m11⟩ : TMod)).permit (⟨s0, s1, s2⟩ : V3) ∧ ((⟨p0, p1, p2⟩ : V3)).inS 1000 = true), false)
  | _ => none
theorem ok_ref05_First : Ok Try.prog 23 con_ref05_First := by
  refine Ok.oldG (Enters.of (fn := Try.f23) (by kernel_rfl) (by kernel_rfl) (by kernel_rfl)) fun args r pre fresh h hp => ?_
  unfold con_ref05_First at h
  split at h
  · rename_i m0 m1 m2 m3 m4 m5 m6 m7 m8 m9 m10 m11 s0 s1 s2 p0 p1 p2
    cases h
    refine ⟨_, rfl, fun W N vs hv => ?_⟩
    have hp := hp
    obtain ⟨u0, ws0, k0, g0, hv0⟩ := hv.cons_inv
    subst k0
    have e0 := plain_arg rfl g0
    subst e0
    obtain ⟨u1, ws1, k1, g1, hv1⟩ := hv0.cons_inv
    subst k1
    have e1 := plain_arg rfl g1
    subst e1
    obtain ⟨u2, ws2, k2, g2, hv2⟩ := hv1.cons_inv
    subst k2
    have e2 := plain_arg rfl g2
    subst e2
    have ev := hv2.nil_inv
    subst ev
    exact by
      refine (ref_First (⟨m0, m1, m2, m3, m4, m5, m6, m7, m8, m9, m10, m11⟩ : TMod) (⟨s0, s1, s2⟩ : V3) (⟨p0, p1, p2⟩ : V3) W hp.1 hp.2.1 hp.2.2.1 hp.2.2.2).mono fun e w' h => ⟨?_, h.2.2⟩
      cases hq : inB (TMod.first (⟨m0, m1, m2, m3, m4, m5, m6, m7, m8, m9, m10, m11⟩ : TMod) (⟨s0, s1, s2⟩ : V3) (⟨p0, p1, p2⟩ : V3)) (-1000000) 1000000 with
      | true => rw [h.1 hq]; rfl
      | false => rw [h.2.1 hq]; rfl
  · cases h
def S37 : Sum := addS S36 23 con_ref05_First
theorem VS37 : Valid Try.prog S37 := Valid.add VS36 ok_ref05_First

def con_track_ScoreOf : Con := fun args => match args with
  | [.t (.a [.v (.int .i64 m0), .v (.int .i64 m1), .v (.int .i64 m2), .v (.int .i64 m3), .v (.int .i64 m4), .v (.int .i64 m5), .v (.int .i64 m6), .v (.int .i64 m7), .v (.int .i64 m8), .v (.int .i64 m9), .v (.int .i64 m10), .v (.int .i64 m11)]), .t (.a [.v (.int .i64 s0), .v (.int .i64 s1), .v (.int .i64 s2)]), .t (.c (.sl 5 n_l c_l))] => some (.tu [.c (.v (.int .i64 (if firstNZ [((⟨m0, m1, m2, m3, m4, m5, m6, m7, m8, m9, m10, m11⟩ : TMod)).both (⟨s0, s1, s2⟩ : V3), hitsE (listC n_l mkHit c_l)] = 0 then ((⟨m0, m1, m2, m3, m4, m5, m6, m7, m8, m9, m10, m11⟩ : TMod)).score (⟨s0, s1, s2⟩ : V3) (listC n_l mkHit c_l) else 0))), .c (.v (.int .i64 (firstNZ [((⟨m0, m1, m2, m3, m4, m5, m6, m7, m8, m9, m10, m11⟩ : TMod)).both (⟨s0, s1, s2⟩ : V3), hitsE (listC n_l mkHit c_l)])))], some (numsP 5 n_l c_l), false)
  | _ => none
theorem ok_track_ScoreOf : Ok Try.prog 32 con_track_ScoreOf := by
  refine Ok.oldG (Enters.of (fn := Try.f32) (by kernel_rfl) (by kernel_rfl) (by kernel_rfl)) fun args r pre fresh h hp => ?_
  unfold con_track_ScoreOf at h
  split at h
  · rename_i m0 m1 m2 m3 m4 m5 m6 m7 m8 m9 m10 m11 s0 s1 s2 n_l c_l
    cases h
    refine ⟨_, rfl, fun W N vs hv => ?_⟩
    have hp0 := hp
    obtain ⟨u0, ws0, k0, g0, hv0⟩ := hv.cons_inv
    subst k0
    have e0 := plain_arg rfl g0
    subst e0
    obtain ⟨u1, ws1, k1, g1, hv1⟩ := hv0.cons_inv
    subst k1
    have e1 := plain_arg rfl g1
    subst e1
    obtain ⟨v_l, ws2, k2, g2, hv2⟩ := hv1.cons_inv
    subst k2
    have h_l := at_THit hp0 g2
    have ev := hv2.nil_inv
    subst ev
    generalize listC n_l mkHit c_l = l at *
    exact by
      refine (track_ScoreOf (⟨m0, m1, m2, m3, m4, m5, m6, m7, m8, m9, m10, m11⟩ : TMod) (⟨s0, s1, s2⟩ : V3) l v_l W h_l).mono fun e w' h => ⟨?_, h.2.2⟩
      by_cases hq : firstNZ [TMod.both (⟨m0, m1, m2, m3, m4, m5, m6, m7, m8, m9, m10, m11⟩ : TMod) (⟨s0, s1, s2⟩ : V3), hitsE l] = 0
      · rw [h.1 hq, if_pos hq, hq]
      · rw [h.2.1 hq, if_neg hq]
  · cases h
def S38 : Sum := addS S37 32 con_track_ScoreOf
theorem VS38 : Valid Try.prog S38 := Valid.add VS37 ok_track_ScoreOf

def mk_track_Simulated_0 (m0 m1 m2 m3 m4 m5 m6 m7 m8 m9 m10 m11 : Int) (s0 s1 s2 : Int) (l : List V3) (v0_0 : List (List CV)) (v0_1 : Int) : DS := ⟨[none, none, none, none, none, none, none, none, some (.t (.c (.p 8 0))), some (.t (.c (.p 9 0))), none, some (.t (.c (.os 11))), none, none, none, none, none, none, none, none, none, none, none, none, none, none, none, none, none, none, none, none, none, none, some (.t (.c (.sl 3 l.length (plsC l)))), some (.t (.c (.v (.int .i64 ((l.length : Nat) : Int))))), some (.t (.c (.v (.int .i64 v0_1)))), none, none, none, none, none, none, none, none, none, none, none, none, none, none, none, none, none, none, none, none, none, none, none, none, none, none, none, none, none, none], [none, none, none, none, none, none, none, none, some (.box 134 [.v (.int .i64 m0), .v (.int .i64 m1), .v (.int .i64 m2), .v (.int .i64 m3), .v (.int .i64 m4), .v (.int .i64 m5), .v (.int .i64 m6), .v (.int .i64 m7), .v (.int .i64 m8), .v (.int .i64 m9), .v (.int .i64 m10), .v (.int .i64 m11)]), some (.box 135 [.v (.int .i64 s0), .v (.int .i64 s1), .v (.int .i64 s2)]), none, some (.gen 92 5 v0_0), none, none, none, none, none, none, none, none, none, none, none, none, none, none, none, none, none, none, none, none, none, none, none, none, none, none, none, none, none, none, none, none, none, none, none, none, none, none, none, none, none, none, none, none, none, none, none, none, none, none, none, none, none, none, none]⟩
def vc_track_Simulated (J : Inv) (m0 m1 m2 m3 m4 m5 m6 m7 m8 m9 m10 m11 : Int) (s0 s1 s2 : Int) (l : List V3) (post : DV → Prop) : Prop := (numsP 1 2 (genC [[.v (.int .i64 (((⟨m0, m1, m2, m3, m4, m5, m6, m7, m8, m9, m10, m11⟩ : TMod)).both (⟨s0, s1, s2⟩ : V3)))], [.v (.int .i64 (unl (decide (((l.length : Nat) : Int) ≤ (12 : Int))) (8 : Int)))]])) ∧ (cond ((firstNZ ([(((⟨m0, m1, m2, m3, m4, m5, m6, m7, m8, m9, m10, m11⟩ : TMod)).both (⟨s0, s1, s2⟩ : V3)), (unl (decide (((l.length : Nat) : Int) ≤ (12 : Int))) (8 : Int))] : List Int)) != (0 : Int)) (post (.tu [.c (.v (.slice none 0 0)), .c (.v (.int .i64 (firstNZ ([(((⟨m0, m1, m2, m3, m4, m5, m6, m7, m8, m9, m10, m11⟩ : TMod)).both (⟨s0, s1, s2⟩ : V3)), (unl (decide (((l.length : Nat) : Int) ≤ (12 : Int))) (8 : Int))] : List Int))))])) (∃ n, J 0 (n :: []) (mk_track_Simulated_0 m0 m1 m2 m3 m4 m5 m6 m7 m8 m9 m10 m11 s0 s1 s2 l ([]) 0)))
def ann_track_Simulated : Ann := ⟨fun _ => none, fun b => lookA b [(0, (none, some ⟨[8, 9, 34, 35, 36], [8, 9], [(11, .gen 92 5 [])]⟩))], fun _ => [], noIt, true⟩
theorem ev_track_Simulated (J : Inv) (m0 m1 m2 m3 m4 m5 m6 m7 m8 m9 m10 m11 : Int) (s0 s1 s2 : Int) (l : List V3) (post : DV → Prop) : evFn Try.prog tab S38 ann_track_Simulated J Try.f44 [.t (.a [.v (.int .i64 m0), .v (.int .i64 m1), .v (.int .i64 m2), .v (.int .i64 m3), .v (.int .i64 m4), .v (.int .i64 m5), .v (.int .i64 m6), .v (.int .i64 m7), .v (.int .i64 m8), .v (.int .i64 m9), .v (.int .i64 m10), .v (.int .i64 m11)]), .t (.a [.v (.int .i64 s0), .v (.int .i64 s1), .v (.int .i64 s2)]), .t (.c (.sl 3 l.length (plsC l)))] post = vc_track_Simulated J m0 m1 m2 m3 m4 m5 m6 m7 m8 m9 m10 m11 s0 s1 s2 l post := by kernel_rfl
theorem fit_track_Simulated : okFn ann_track_Simulated Try.f44 = true := by kernel_rfl
def rd_track_Simulated_0 (J : Inv) (m0 m1 m2 m3 m4 m5 m6 m7 m8 m9 m10 m11 : Int) (s0 s1 s2 : Int) (l : List V3) (v0_0 : List (List CV)) (v0_1 : Int) (nn0 : Nat) (post : DV → Prop) : Prop := cond (decide (v0_1 < ((l.length : Nat) : Int))) ((0 ≤ v0_1 ∧ v0_1 < ((l.length : Nat) : Int)) ∧ (cond ((plE (⟨((plAt l v0_1.toNat).x), ((plAt l v0_1.toNat).y), ((plAt l v0_1.toNat).z)⟩ : V3)) != (0 : Int)) (post (.tu [.c (.v (.slice none 0 0)), .c (.v (.int .i64 (plE (⟨((plAt l v0_1.toNat).x), ((plAt l v0_1.toNat).y), ((plAt l v0_1.toNat).z)⟩ : V3))))])) ((((⟨m0, m1, m2, m3, m4, m5, m6, m7, m8, m9, m10, m11⟩ : TMod)).Ok ∧ ((⟨s0, s1, s2⟩ : V3)).inS 20 = true ∧ ((⟨m0, m1, m2, m3, m4, m5, m6, m7, m8, m9, m10, m11⟩ : TMod)).permit (⟨s0, s1, s2⟩ : V3) ∧ ((⟨((plAt l v0_1.toNat).x), ((plAt l v0_1.toNat).y), ((plAt l v0_1.toNat).z)⟩ : V3)).inS 1000 = true) ∧ (cond (!(inB (((⟨m0, m1, m2, m3, m4, m5, m6, m7, m8, m9, m10, m11⟩ : TMod)).first (⟨s0, s1, s2⟩ : V3) (⟨((plAt l v0_1.toNat).x), ((plAt l v0_1.toNat).y), ((plAt l v0_1.toNat).z)⟩ : V3)) (-1000000) 1000000)) ((true = true) ∧ (post (.tu [.c (.v (.slice none 0 0)), .c (.v (.int .i64 22))]))) (cond ((tmE (((⟨m0, m1, m2, m3, m4, m5, m6, m7, m8, m9, m10, m11⟩ : TMod)).first (⟨s0, s1, s2⟩ : V3) (⟨((plAt l v0_1.toNat).x), ((plAt l v0_1.toNat).y), ((plAt l v0_1.toNat).z)⟩ : V3))) != (0 : Int)) (post (.tu [.c (.v (.slice none 0 0)), .c (.v (.int .i64 22))])) ((roomP 40 (v0_0.length + ([[.v (.int .i64 ((plAt l v0_1.toNat).x)), .v (.int .i64 ((plAt l v0_1.toNat).y)), .v (.int .i64 ((plAt l v0_1.toNat).z)), .v (.int .i64 (((⟨m0, m1, m2, m3, m4, m5, m6, m7, m8, m9, m10, m11⟩ : TMod)).first (⟨s0, s1, s2⟩ : V3) (⟨((plAt l v0_1.toNat).x), ((plAt l v0_1.toNat).y), ((plAt l v0_1.toNat).z)⟩ : V3))), .v (.int .i64 1)]] : List (List CV)).length)) ∧ (lt (IntKind.i64.wrap (v0_1 + (1 : Int))) fun x1 => J 0 (nn0 :: []) (mk_track_Simulated_0 m0 m1 m2 m3 m4 m5 m6 m7 m8 m9 m10 m11 s0 s1 s2 l (v0_0 ++ ([[.v (.int .i64 ((plAt l v0_1.toNat).x)), .v (.int .i64 ((plAt l v0_1.toNat).y)), .v (.int .i64 ((plAt l v0_1.toNat).z)), .v (.int .i64 (((⟨m0, m1, m2, m3, m4, m5, m6, m7, m8, m9, m10, m11⟩ : TMod)).first (⟨s0, s1, s2⟩ : V3) (⟨((plAt l v0_1.toNat).x), ((plAt l v0_1.toNat).y), ((plAt l v0_1.toNat).z)⟩ : V3))), .v (.int .i64 1)]] : List (List CV))) x1)))))))) (post (.tu [.c (.sl 5 v0_0.length (genC v0_0)), .c (.v (.int .i64 0))]))
theorem er_track_Simulated_0 (J : Inv) (m0 m1 m2 m3 m4 m5 m6 m7 m8 m9 m10 m11 : Int) (s0 s1 s2 : Int) (l : List V3) (v0_0 : List (List CV)) (v0_1 : Int) (nn0 : Nat) (post : DV → Prop) : round Try.prog tab S38 ann_track_Simulated J Try.f44 post 0 (nn0 :: []) (mk_track_Simulated_0 m0 m1 m2 m3 m4 m5 m6 m7 m8 m9 m10 m11 s0 s1 s2 l v0_0 v0_1) = rd_track_Simulated_0 J m0 m1 m2 m3 m4 m5 m6 m7 m8 m9 m10 m11 s0 s1 s2 l v0_0 v0_1 nn0 post := by kernel_rfl
theorem lp_track_Simulated (J : Inv) (post : DV → Prop) : AllG J (loopsFn Try.prog tab S38 ann_track_Simulated J Try.f44 post) = (((∀ F s, ¬ J 0 (0 :: F) s) ∧ ∀ n F s, J 0 ((n + 1) :: F) s → round Try.prog tab S38 ann_track_Simulated J Try.f44 post 0 (n :: F) s) ∧ True) := by kernel_rfl
def J_track_Simulated (m0 m1 m2 m3 m4 m5 m6 m7 m8 m9 m10 m11 : Int) (s0 s1 s2 : Int) (l : List V3) : Inv := fun b F s => match b, F with
  | 0, [nn0] => ∃ (v0_0 : List (List CV)) (v0_1 : Int), s = mk_track_Simulated_0 m0 m1 m2 m3 m4 m5 m6 m7 m8 m9 m10 m11 s0 s1 s2 l v0_0 v0_1 ∧ (0 ≤ v0_1 ∧ v0_1 ≤ l.length ∧ (nn0 : Int) + v0_1 = l.length + 1 ∧ firstNZ [(⟨m0, m1, m2, m3, m4, m5, m6, m7, m8, m9, m10, m11⟩ : TMod).both (⟨s0, s1, s2⟩ : V3), unl (decide (((l.length : Nat) : Int) ≤ (12 : Int))) (8 : Int)] = 0 ∧ (∀ j : Nat, (j : Int) < v0_1 → simAt (⟨m0, m1, m2, m3, m4, m5, m6, m7, m8, m9, m10, m11⟩ : TMod) (⟨s0, s1, s2⟩ : V3) (plAt l j) = 0) ∧ v0_0 = ((l.take v0_1.toNat).map (hitOf (⟨m0, m1, m2, m3, m4, m5, m6, m7, m8, m9, m10, m11⟩ : TMod) (⟨s0, s1, s2⟩ : V3))).map hitCv)
  | _, _ => False
set_option maxHeartbeats 8000000 in
set_option maxRecDepth 100000 in
theorem rnd_track_Simulated_0 (m0 m1 m2 m3 m4 m5 m6 m7 m8 m9 m10 m11 : Int) (s0 s1 s2 : Int) (l : List V3) (v0_0 : List (List CV)) (v0_1 : Int) (nn0 : Nat) (hi : 0 ≤ v0_1 ∧ v0_1 ≤ l.length ∧ ((nn0 + 1) : Int) + v0_1 = l.length + 1 ∧ firstNZ [(⟨m0, m1, m2, m3, m4, m5, m6, m7, m8, m9, m10, m11⟩ : TMod).both (⟨s0, s1, s2⟩ : V3), unl (decide (((l.length : Nat) : Int) ≤ (12 : Int))) (8 : Int)] = 0 ∧ (∀ j : Nat, (j : Int) < v0_1 → simAt (⟨m0, m1, m2, m3, m4, m5, m6, m7, m8, m9, m10, m11⟩ : TMod) (⟨s0, s1, s2⟩ : V3) (plAt l j) = 0) ∧ v0_0 = ((l.take v0_1.toNat).map (hitOf (⟨m0, m1, m2, m3, m4, m5, m6, m7, m8, m9, m10, m11⟩ : TMod) (⟨s0, s1, s2⟩ : V3))).map hitCv) : rd_track_Simulated_0 (J_track_Simulated m0 m1 m2 m3 m4 m5 m6 m7 m8 m9 m10 m11 s0 s1 s2 l) m0 m1 m2 m3 m4 m5 m6 m7 m8 m9 m10 m11 s0 s1 s2 l v0_0 v0_1 nn0 (fun r => LeD r (.tu [.c (.sl 5 ((simL (⟨m0, m1, m2, m3, m4, m5, m6, m7, m8, m9, m10, m11⟩ : TMod) (⟨s0, s1, s2⟩ : V3) l).length) (hitsC (simL (⟨m0, m1, m2, m3, m4, m5, m6, m7, m8, m9, m10, m11⟩ : TMod) (⟨s0, s1, s2⟩ : V3) l))), .c (.v (.int .i64 (simE (⟨m0, m1, m2, m3, m4, m5, m6, m7, m8, m9, m10, m11⟩ : TMod) (⟨s0, s1, s2⟩ : V3) l)))])) := by
  obtain ⟨i1, i2, i3, i4, i5, i6⟩ := hi
  obtain ⟨k, rfl⟩ : ∃ k : Nat, v0_1 = k := ⟨v0_1.toNat, by omega⟩
  have hk : (k : Int).toNat = k := rfl
  rw [hk] at i6
  have hz : ∀ j, j < k → simAt (⟨m0, m1, m2, m3, m4, m5, m6, m7, m8, m9, m10, m11⟩ : TMod) (⟨s0, s1, s2⟩ : V3) (plAt l j) = 0 := fun j hj => i5 j (by omega)
  obtain ⟨f1, f2⟩ := fn2 i4
  obtain ⟨f3, f4⟩ := fn2 f1
  rw [unl_0 (by decide)] at f2
  have hlen : l.length ≤ 12 := by have := of_decide_eq_true f2; omega
  have hE : simE (⟨m0, m1, m2, m3, m4, m5, m6, m7, m8, m9, m10, m11⟩ : TMod) (⟨s0, s1, s2⟩ : V3) l = scan (fun i => simAt (⟨m0, m1, m2, m3, m4, m5, m6, m7, m8, m9, m10, m11⟩ : TMod) (⟨s0, s1, s2⟩ : V3) (plAt l i)) l.length := if_neg (by rw [i4]; simp)
  unfold rd_track_Simulated_0
  rw [hk]
  refine cond_i (fun h => ?_) (fun h => ?_)
  · have hlt : k < l.length := by have := of_decide_eq_true h; omega
    have hat : ∀ c, c ≠ 0 → simAt (⟨m0, m1, m2, m3, m4, m5, m6, m7, m8, m9, m10, m11⟩ : TMod) (⟨s0, s1, s2⟩ : V3) (plAt l k) = c → LeD (.tu [.c (.v (.slice none 0 0)), .c (.v (.int .i64 c))]) (.tu [.c (.sl 5 (simL (⟨m0, m1, m2, m3, m4, m5, m6, m7, m8, m9, m10, m11⟩ : TMod) (⟨s0, s1, s2⟩ : V3) l).length (hitsC (simL (⟨m0, m1, m2, m3, m4, m5, m6, m7, m8, m9, m10, m11⟩ : TMod) (⟨s0, s1, s2⟩ : V3) l))), .c (.v (.int .i64 (simE (⟨m0, m1, m2, m3, m4, m5, m6, m7, m8, m9, m10, m11⟩ : TMod) (⟨s0, s1, s2⟩ : V3) l)))]) := by
      intro c hc e
      have e2 : simE (⟨m0, m1, m2, m3, m4, m5, m6, m7, m8, m9, m10, m11⟩ : TMod) (⟨s0, s1, s2⟩ : V3) l = c := by rw [hE, scan_at hz hlt (by rw [e]; exact hc)]; exact e
      rw [show simL (⟨m0, m1, m2, m3, m4, m5, m6, m7, m8, m9, m10, m11⟩ : TMod) (⟨s0, s1, s2⟩ : V3) l = [] from if_pos (by rw [e2]; exact hc), e2]
      exact le_tu le_nil (LeD.refl _)
    refine ⟨by omega, cond_i (fun e => ?_) (fun e => ⟨?_, ?_⟩)⟩
    · have e : plE (plAt l k) ≠ 0 := by simpa using e
      exact hat _ e (if_pos e)
    · have e : plE (plAt l k) = 0 := by simpa using e
      have ok := st_ok f4
      refine ⟨err_ok f3, ok.1, ok.2, ?_⟩
      unfold plE at e
      rw [unl_0 (by decide)] at e
      exact e
    · have e : plE (plAt l k) = 0 := by simpa using e
      have es : simAt (⟨m0, m1, m2, m3, m4, m5, m6, m7, m8, m9, m10, m11⟩ : TMod) (⟨s0, s1, s2⟩ : V3) (plAt l k) = if inB ((⟨m0, m1, m2, m3, m4, m5, m6, m7, m8, m9, m10, m11⟩ : TMod).first (⟨s0, s1, s2⟩ : V3) (plAt l k)) (-1000000) 1000000 = true ∧ tmE ((⟨m0, m1, m2, m3, m4, m5, m6, m7, m8, m9, m10, m11⟩ : TMod).first (⟨s0, s1, s2⟩ : V3) (plAt l k)) = 0 then 0 else 22 := if_neg (by rw [e]; simp)
      refine cond_i (fun q => ⟨rfl, ?_⟩) (fun q => cond_i (fun q2 => ?_) (fun q2 => ⟨?_, lt_i fun x hx => ?_⟩))
      · have q : inB ((⟨m0, m1, m2, m3, m4, m5, m6, m7, m8, m9, m10, m11⟩ : TMod).first (⟨s0, s1, s2⟩ : V3) (plAt l k)) (-1000000) 1000000 = false := by simpa using q
        exact hat 22 (by decide) (by rw [es, q]; simp)
      · have q2 : tmE ((⟨m0, m1, m2, m3, m4, m5, m6, m7, m8, m9, m10, m11⟩ : TMod).first (⟨s0, s1, s2⟩ : V3) (plAt l k)) ≠ 0 := by simpa using q2
        exact hat 22 (by decide) (by rw [es]; simp [q2])
      · rw [i6]; unfold roomP maxLen; simp; omega
      · have q : inB ((⟨m0, m1, m2, m3, m4, m5, m6, m7, m8, m9, m10, m11⟩ : TMod).first (⟨s0, s1, s2⟩ : V3) (plAt l k)) (-1000000) 1000000 = true := by simpa using q
        have q2 : tmE ((⟨m0, m1, m2, m3, m4, m5, m6, m7, m8, m9, m10, m11⟩ : TMod).first (⟨s0, s1, s2⟩ : V3) (plAt l k)) = 0 := by simpa using q2
        rw [IntWalk.i64_in _ (by omega)] at hx
        subst hx
        refine ⟨_, _, rfl, by omega, by omega, by omega, i4, fun j hj => ?_, ?_⟩
        · by_cases e3 : j = k
          · rw [e3, es]; simp [q, q2]
          · exact hz j (by omega)
        · rw [show ((k : Int) + 1).toNat = k + 1 by omega, i6, plAt_take hlt, List.map_append, List.map_append]; rfl
  · have hge : k = l.length := by have := of_decide_eq_false h; omega
    subst hge
    have e2 : simE (⟨m0, m1, m2, m3, m4, m5, m6, m7, m8, m9, m10, m11⟩ : TMod) (⟨s0, s1, s2⟩ : V3) l = 0 := by rw [hE]; exact scan_end hz
    rw [show simL (⟨m0, m1, m2, m3, m4, m5, m6, m7, m8, m9, m10, m11⟩ : TMod) (⟨s0, s1, s2⟩ : V3) l = l.map (hitOf (⟨m0, m1, m2, m3, m4, m5, m6, m7, m8, m9, m10, m11⟩ : TMod) (⟨s0, s1, s2⟩ : V3)) from if_neg (by rw [e2]; simp), e2, i6, List.take_length]
    exact le_tu (le_hits _) (LeD.refl _)
theorem zero_track_Simulated_0 (m0 m1 m2 m3 m4 m5 m6 m7 m8 m9 m10 m11 : Int) (s0 s1 s2 : Int) (l : List V3) (v0_0 : List (List CV)) (v0_1 : Int)  (hi : 0 ≤ v0_1 ∧ v0_1 ≤ l.length ∧ (0 : Int) + v0_1 = l.length + 1 ∧ firstNZ [(⟨m0, m1, m2, m3, m4, m5, m6, m7, m8, m9, m10, m11⟩ : TMod).both (⟨s0, s1, s2⟩ : V3), unl (decide (((l.length : Nat) : Int) ≤ (12 : Int))) (8 : Int)] = 0 ∧ (∀ j : Nat, (j : Int) < v0_1 → simAt (⟨m0, m1, m2, m3, m4, m5, m6, m7, m8, m9, m10, m11⟩ : TMod) (⟨s0, s1, s2⟩ : V3) (plAt l j) = 0) ∧ v0_0 = ((l.take v0_1.toNat).map (hitOf (⟨m0, m1, m2, m3, m4, m5, m6, m7, m8, m9, m10, m11⟩ : TMod) (⟨s0, s1, s2⟩ : V3))).map hitCv) : False := by
  omega
set_option maxHeartbeats 8000000 in
set_option maxRecDepth 100000 in
theorem spec_track_Simulated (m0 m1 m2 m3 m4 m5 m6 m7 m8 m9 m10 m11 : Int) (s0 s1 s2 : Int) (l : List V3) : vc_track_Simulated (J_track_Simulated m0 m1 m2 m3 m4 m5 m6 m7 m8 m9 m10 m11 s0 s1 s2 l) m0 m1 m2 m3 m4 m5 m6 m7 m8 m9 m10 m11 s0 s1 s2 l (fun r => LeD r (.tu [.c (.sl 5 ((simL (⟨m0, m1, m2, m3, m4, m5, m6, m7, m8, m9, m10, m11⟩ : TMod) (⟨s0, s1, s2⟩ : V3) l).length) (hitsC (simL (⟨m0, m1, m2, m3, m4, m5, m6, m7, m8, m9, m10, m11⟩ : TMod) (⟨s0, s1, s2⟩ : V3) l))), .c (.v (.int .i64 (simE (⟨m0, m1, m2, m3, m4, m5, m6, m7, m8, m9, m10, m11⟩ : TMod) (⟨s0, s1, s2⟩ : V3) l)))])) := by
  unfold vc_track_Simulated
  refine ⟨numsP_gen [_, _], cond_i (fun h => ?_) (fun h => ?_)⟩
  · have h : firstNZ [(⟨m0, m1, m2, m3, m4, m5, m6, m7, m8, m9, m10, m11⟩ : TMod).both (⟨s0, s1, s2⟩ : V3), unl (decide (((l.length : Nat) : Int) ≤ (12 : Int))) (8 : Int)] ≠ 0 := by simpa using h
    have e : simE (⟨m0, m1, m2, m3, m4, m5, m6, m7, m8, m9, m10, m11⟩ : TMod) (⟨s0, s1, s2⟩ : V3) l = firstNZ [(⟨m0, m1, m2, m3, m4, m5, m6, m7, m8, m9, m10, m11⟩ : TMod).both (⟨s0, s1, s2⟩ : V3), unl (decide (((l.length : Nat) : Int) ≤ (12 : Int))) (8 : Int)] := if_pos h
    rw [show simL (⟨m0, m1, m2, m3, m4, m5, m6, m7, m8, m9, m10, m11⟩ : TMod) (⟨s0, s1, s2⟩ : V3) l = [] from if_pos (by rw [e]; exact h), e]
    exact le_tu le_nil (LeD.refl _)
  · have h : firstNZ [(⟨m0, m1, m2, m3, m4, m5, m6, m7, m8, m9, m10, m11⟩ : TMod).both (⟨s0, s1, s2⟩ : V3), unl (decide (((l.length : Nat) : Int) ≤ (12 : Int))) (8 : Int)] = 0 := by simpa using h
    exact ⟨l.length + 1, [], 0, rfl, by omega, by omega, by omega, h, fun j hj => by omega, rfl⟩
theorem all_track_Simulated (m0 m1 m2 m3 m4 m5 m6 m7 m8 m9 m10 m11 : Int) (s0 s1 s2 : Int) (l : List V3) : AllG (J_track_Simulated m0 m1 m2 m3 m4 m5 m6 m7 m8 m9 m10 m11 s0 s1 s2 l) (loopsFn Try.prog tab S38 ann_track_Simulated (J_track_Simulated m0 m1 m2 m3 m4 m5 m6 m7 m8 m9 m10 m11 s0 s1 s2 l) Try.f44 (fun r => LeD r (.tu [.c (.sl 5 ((simL (⟨m0, m1, m2, m3, m4, m5, m6, m7, m8, m9, m10, m11⟩ : TMod) (⟨s0, s1, s2⟩ : V3) l).length) (hitsC (simL (⟨m0, m1, m2, m3, m4, m5, m6, m7, m8, m9, m10, m11⟩ : TMod) (⟨s0, s1, s2⟩ : V3) l))), .c (.v (.int .i64 (simE (⟨m0, m1, m2, m3, m4, m5, m6, m7, m8, m9, m10, m11⟩ : TMod) (⟨s0, s1, s2⟩ : V3) l)))]))) := by
  rw [lp_track_Simulated]
  refine ⟨⟨?_, ?_⟩, trivial⟩
  · intro F s h
    obtain _ | ⟨g, F⟩ := F
    case cons => exact h.elim
    obtain ⟨w0, w1, rfl, hi⟩ := h
    exact zero_track_Simulated_0 _ _ _ _ _ _ _ _ _ _ _ _ _ _ _ _ _ _ hi
  · intro n F s h
    obtain _ | ⟨g, F⟩ := F
    case cons => exact h.elim
    obtain ⟨w0, w1, rfl, hi⟩ := h
    rw [er_track_Simulated_0]
    exact rnd_track_Simulated_0 _ _ _ _ _ _ _ _ _ _ _ _ _ _ _ _ _ _ _ hi
def con_track_Simulated : Con := fun args => match args with
  | [.t (.a [.v (.int .i64 m0), .v (.int .i64 m1), .v (.int .i64 m2), .v (.int .i64 m3), .v (.int .i64 m4), .v (.int .i64 m5), .v (.int .i64 m6), .v (.int .i64 m7), .v (.int .i64 m8), .v (.int .i64 m9), .v (.int .i64 m10), .v (.int .i64 m11)]), .t (.a [.v (.int .i64 s0), .v (.int .i64 s1), .v (.int .i64 s2)]), .t (.c (.sl 3 n_l c_l))] => some (.tu [.c (.sl 5 ((simL (⟨m0, m1, m2, m3, m4, m5, m6, m7, m8, m9, m10, m11⟩ : TMod) (⟨s0, s1, s2⟩ : V3) (listC n_l mkPl c_l)).length) (hitsC (simL (⟨m0, m1, m2, m3, m4, m5, m6, m7, m8, m9, m10, m11⟩ : TMod) (⟨s0, s1, s2⟩ : V3) (listC n_l mkPl c_l)))), .c (.v (.int .i64 (simE (⟨m0, m1, m2, m3, m4, m5, m6, m7, m8, m9, m10, m11⟩ : TMod) (⟨s0, s1, s2⟩ : V3) (listC n_l mkPl c_l))))], some (numsP 3 n_l c_l), true)
  | _ => none
theorem ok_track_Simulated : Ok Try.prog 44 con_track_Simulated := by
  refine Ok.fnFr (ann := ann_track_Simulated) mixed tabOK VS38 ValidIt.no rfl (fn := Try.f44) (by kernel_rfl) (by kernel_rfl) fit_track_Simulated fun args r pre fresh h hp => ?_
  unfold con_track_Simulated at h
  split at h
  · rename_i m0 m1 m2 m3 m4 m5 m6 m7 m8 m9 m10 m11 s0 s1 s2 n_l c_l
    cases h
    have hp0 := hp
    refine ⟨(by intro x hx; simp only [List.mem_cons, List.not_mem_nil, or_false] at hx; rcases hx with rfl | rfl; exact (fun i j _ hj => plain_THit _ i j); exact trivial), J_track_Simulated m0 m1 m2 m3 m4 m5 m6 m7 m8 m9 m10 m11 s0 s1 s2 (listC n_l mkPl c_l), [.t (.a [.v (.int .i64 m0), .v (.int .i64 m1), .v (.int .i64 m2), .v (.int .i64 m3), .v (.int .i64 m4), .v (.int .i64 m5), .v (.int .i64 m6), .v (.int .i64 m7), .v (.int .i64 m8), .v (.int .i64 m9), .v (.int .i64 m10), .v (.int .i64 m11)]), .t (.a [.v (.int .i64 s0), .v (.int .i64 s1), .v (.int .i64 s2)]), .t (.c (.sl 3 ((listC n_l mkPl c_l).length) (plsC (listC n_l mkPl c_l))))], ?_, Nat.le_of_ble_eq_true (by kernel_rfl), ?_, ?_⟩
    · intro w N vs h
      exact (LeA_cons (fun w N v h => h) (LeA_cons (fun w N v h => h) (LeA_cons (leL_V3 hp0) LeA_nil))) w N vs h
    · rw [ev_track_Simulated]; exact spec_track_Simulated m0 m1 m2 m3 m4 m5 m6 m7 m8 m9 m10 m11 s0 s1 s2 (listC n_l mkPl c_l)
    · exact all_track_Simulated m0 m1 m2 m3 m4 m5 m6 m7 m8 m9 m10 m11 s0 s1 s2 (listC n_l mkPl c_l)
  · cases h
def S39 : Sum := addS S38 44 con_track_Simulated
theorem VS39 : Valid Try.prog S39 := Valid.add VS38 ok_track_Simulated

def mk_ref05_Same_0 (l : List THit) (l2 : List THit) (v0_0 : Int) : DS := ⟨[some (.t (.c (.sl 5 l.length (hitsC l)))), some (.t (.c (.sl 5 l2.length (hitsC l2)))), none, none, none, some (.t (.c (.v (.int .i64 v0_0)))), none, none, none, none, none, none, none, none, none, none, none, none, none, none, none, none, none, none, none, none], [none, none, none, none, none, none, none, none, none, none, none, none, none, none, none, none, none, none, none, none, none, none, none, none, none, none]⟩
def vc_ref05_Same (J : Inv) (l : List THit) (l2 : List THit) (post : DV → Prop) : Prop := cond (((l.length : Nat) : Int) != ((l2.length : Nat) : Int)) (post (.t (.c (.v (.bool false))))) (∃ n, J 0 (n :: []) (mk_ref05_Same_0 l l2 0))
def ann_ref05_Same : Ann := ⟨fun r => lookA r [(6, ([[], [], [0, 1], [0, 1, 2], [], [], [4, 5], [4, 5, 6], [0, 1, 2, 3, 4, 5, 6, 7]], [[], [], [], [], [], [], [], [], []]))], fun b => lookA b [(0, (none, some ⟨[0, 1, 5], [], []⟩))], fun _ => [], noIt, false⟩
theorem ev_ref05_Same (J : Inv) (l : List THit) (l2 : List THit) (post : DV → Prop) : evFn Try.prog tab S39 ann_ref05_Same J Try.f46 [.t (.c (.sl 5 l.length (hitsC l))), .t (.c (.sl 5 l2.length (hitsC l2)))] post = vc_ref05_Same J l l2 post := by kernel_rfl
theorem fit_ref05_Same : okFn ann_ref05_Same Try.f46 = true := by kernel_rfl
def rd_ref05_Same_0 (J : Inv) (l : List THit) (l2 : List THit) (v0_0 : Int) (nn0 : Nat) (post : DV → Prop) : Prop := cond (decide (v0_0 < ((l.length : Nat) : Int))) ((0 ≤ v0_0 ∧ v0_0 < ((l.length : Nat) : Int)) ∧ ((0 ≤ v0_0 ∧ v0_0 < ((l2.length : Nat) : Int)) ∧ (cond (!(bif (bif (((hitAt l v0_0.toNat).p.x) == ((hitAt l2 v0_0.toNat).p.x)) then (bif (((hitAt l v0_0.toNat).p.y) == ((hitAt l2 v0_0.toNat).p.y)) then (bif (((hitAt l v0_0.toNat).p.z) == ((hitAt l2 v0_0.toNat).p.z)) then true else false) else false) else false) then (bif (((hitAt l v0_0.toNat).t) == ((hitAt l2 v0_0.toNat).t)) then (bif (((hitAt l v0_0.toNat).w) == ((hitAt l2 v0_0.toNat).w)) then true else false) else false) else false)) (post (.t (.c (.v (.bool false))))) (lt (IntKind.i64.wrap (v0_0 + (1 : Int))) fun x1 => J 0 (nn0 :: []) (mk_ref05_Same_0 l l2 x1))))) (post (.t (.c (.v (.bool true)))))
theorem er_ref05_Same_0 (J : Inv) (l : List THit) (l2 : List THit) (v0_0 : Int) (nn0 : Nat) (post : DV → Prop) : round Try.prog tab S39 ann_ref05_Same J Try.f46 post 0 (nn0 :: []) (mk_ref05_Same_0 l l2 v0_0) = rd_ref05_Same_0 J l l2 v0_0 nn0 post := by kernel_rfl
theorem lp_ref05_Same (J : Inv) (post : DV → Prop) : AllG J (loopsFn Try.prog tab S39 ann_ref05_Same J Try.f46 post) = (((∀ F s, ¬ J 0 (0 :: F) s) ∧ ∀ n F s, J 0 ((n + 1) :: F) s → round Try.prog tab S39 ann_ref05_Same J Try.f46 post 0 (n :: F) s) ∧ True) := by kernel_rfl
def J_ref05_Same (l : List THit) (l2 : List THit) : Inv := fun b F s => match b, F with
  | 0, [nn0] => ∃ (v0_0 : Int), s = mk_ref05_Same_0 l l2 v0_0 ∧ (l.length ≤ 1000000 ∧ 0 ≤ v0_0 ∧ v0_0 ≤ l.length ∧ (nn0 : Int) + v0_0 = l.length + 1 ∧ l.length = l2.length ∧ ∀ j : Nat, (j : Int) < v0_0 → hitAt l j = hitAt l2 j)
  | _, _ => False
theorem rnd_ref05_Same_0 (l : List THit) (l2 : List THit) (v0_0 : Int) (nn0 : Nat) (hp : (l).length ≤ 1000000) (hi : l.length ≤ 1000000 ∧ 0 ≤ v0_0 ∧ v0_0 ≤ l.length ∧ ((nn0 + 1) : Int) + v0_0 = l.length + 1 ∧ l.length = l2.length ∧ ∀ j : Nat, (j : Int) < v0_0 → hitAt l j = hitAt l2 j) : rd_ref05_Same_0 (J_ref05_Same l l2) l l2 v0_0 nn0 (fun r => LeD r (.t (.c (.v (.bool (decide (l = l2))))))) := by
  obtain ⟨i0, i1, i2, i3, i4, i5⟩ := hi
  obtain ⟨k, rfl⟩ : ∃ k : Nat, v0_0 = k := ⟨v0_0.toNat, by omega⟩
  have hk : (k : Int).toNat = k := rfl
  unfold rd_ref05_Same_0
  rw [hk]
  refine cond_i (fun h => ?_) (fun h => leB ?_)
  · have hlt : k < l.length := by have := of_decide_eq_true h; omega
    refine ⟨by omega, by omega, cond_i (fun e => leB ?_) (fun e => lt_i fun x hx => ?_)⟩
    · refine (decide_eq_false fun q => ?_).symm
      rw [q] at e
      simp at e
    · have e : hitAt l k = hitAt l2 k := by
        rw [hit_ext]
        simpa [Bool.cond_eq_ite, and_assoc] using e
      rw [IntWalk.i64_in _ (by omega)] at hx
      subst hx
      exact ⟨_, rfl, i0, by omega, by omega, by omega, i4, fun j hj => by
        by_cases q : j = k
        · rw [q]; exact e
        · exact i5 j (by omega)⟩
  · have hge : k = l.length := by have := of_decide_eq_false h; omega
    refine (decide_eq_true (List.ext_getElem? fun i => ?_)).symm
    by_cases hi : i < l.length
    · have := i5 i (by omega)
      unfold hitAt at this
      simp only [List.getD, List.getElem?_eq_getElem hi, List.getElem?_eq_getElem (i4 ▸ hi), Option.getD_some] at this
      rw [List.getElem?_eq_getElem hi, List.getElem?_eq_getElem (i4 ▸ hi), this]
    · rw [List.getElem?_eq_none (by omega), List.getElem?_eq_none (by omega)]
theorem zero_ref05_Same_0 (l : List THit) (l2 : List THit) (v0_0 : Int)  (hi : l.length ≤ 1000000 ∧ 0 ≤ v0_0 ∧ v0_0 ≤ l.length ∧ (0 : Int) + v0_0 = l.length + 1 ∧ l.length = l2.length ∧ ∀ j : Nat, (j : Int) < v0_0 → hitAt l j = hitAt l2 j) : False := by
  omega
theorem spec_ref05_Same (l : List THit) (l2 : List THit) (hp : (l).length ≤ 1000000) : vc_ref05_Same (J_ref05_Same l l2) l l2 (fun r => LeD r (.t (.c (.v (.bool (decide (l = l2))))))) := by
  unfold vc_ref05_Same
  refine cond_i (fun h => leB ?_) (fun h => ?_)
  · have h : l.length ≠ l2.length := by intro e; rw [e] at h; simp at h
    exact (decide_eq_false fun e => h (by rw [e])).symm
  · have h : l.length = l2.length := by have h : (l.length : Int) = l2.length := by simpa using h
                                        omega
    exact ⟨l.length + 1, 0, rfl, hp, by omega, by omega, by omega, h, fun j hj => by omega⟩
theorem all_ref05_Same (l : List THit) (l2 : List THit) (hp : (l).length ≤ 1000000) : AllG (J_ref05_Same l l2) (loopsFn Try.prog tab S39 ann_ref05_Same (J_ref05_Same l l2) Try.f46 (fun r => LeD r (.t (.c (.v (.bool (decide (l = l2)))))))) := by
  rw [lp_ref05_Same]
  refine ⟨⟨?_, ?_⟩, trivial⟩
  · intro F s h
    obtain _ | ⟨g, F⟩ := F
    case cons => exact h.elim
    obtain ⟨w0, rfl, hi⟩ := h
    exact zero_ref05_Same_0 _ _ _ hi
  · intro n F s h
    obtain _ | ⟨g, F⟩ := F
    case cons => exact h.elim
    obtain ⟨w0, rfl, hi⟩ := h
    rw [er_ref05_Same_0]
    exact rnd_ref05_Same_0 _ _ _ _ hp hi
def con_ref05_Same : Con := fun args => match args with
  | [.t (.c (.sl 5 n_l c_l)), .t (.c (.sl 5 n_l2 c_l2))] => some (.t (.c (.v (.bool (decide ((listC n_l mkHit c_l) = (listC n_l2 mkHit c_l2)))))), some (numsP 5 n_l c_l ∧ numsP 5 n_l2 c_l2 ∧ ((listC n_l mkHit c_l)).length ≤ 1000000), false)
  | _ => none
theorem ok_ref05_Same : Ok Try.prog 46 con_ref05_Same := by
  refine Ok.fn (ann := ann_ref05_Same) mixed tabOK VS39 ValidIt.no (fn := Try.f46) (by kernel_rfl) (by kernel_rfl) fit_ref05_Same fun args r pre fresh h hp => ?_
  unfold con_ref05_Same at h
  split at h
  · rename_i n_l c_l n_l2 c_l2
    cases h
    obtain ⟨hp0, hp1, hp⟩ := hp
    refine ⟨rfl, J_ref05_Same (listC n_l mkHit c_l) (listC n_l2 mkHit c_l2), [.t (.c (.sl 5 ((listC n_l mkHit c_l).length) (hitsC (listC n_l mkHit c_l)))), .t (.c (.sl 5 ((listC n_l2 mkHit c_l2).length) (hitsC (listC n_l2 mkHit c_l2))))], ?_, Nat.le_of_ble_eq_true (by kernel_rfl), ?_, ?_⟩
    · intro w N vs h
      exact (LeA_cons (leL_THit hp0) (LeA_cons (leL_THit hp1) LeA_nil)) w N vs h
    · rw [ev_ref05_Same]; exact spec_ref05_Same (listC n_l mkHit c_l) (listC n_l2 mkHit c_l2) hp
    · exact all_ref05_Same (listC n_l mkHit c_l) (listC n_l2 mkHit c_l2) hp
  · cases h
def S40 : Sum := addS S39 46 con_ref05_Same
theorem VS40 : Valid Try.prog S40 := Valid.add VS39 ok_ref05_Same

end Go.Proofs.Ytlmdmpjfehpjeaa

/- Tracks, by the checker: the law of simulated hits. -/
set_option linter.unusedVariables false
set_option linter.unusedSimpArgs false
namespace Go.Proofs.Ytlmdmpjfehpjeaa
open Go.RowKit Ev

theorem copy_len {l : List V3} : (([] : List (List CV)) ++ ((List.range l.length).map fun i => fwd ((plsC l) i) 0 3)).length = l.length := by simp
theorem copy_at {l : List V3} {i j : Nat} (hi : i < l.length) (hj : j < 3) : genC (([] : List (List CV)) ++ ((List.range l.length).map fun i => fwd ((plsC l) i) 0 3)) i j = plsC l i j := by
  unfold genC
  simp only [List.nil_append, List.getD_eq_getElem?_getD, List.getElem?_map, List.getElem?_range hi, Option.map_some, Option.getD_some]
  rcases (by omega : j = 0 ∨ j = 1 ∨ j = 2) with rfl | rfl | rfl <;> rfl
theorem pls_copy {l : List V3} : listC ((([] : List (List CV)) ++ ((List.range l.length).map fun i => fwd ((plsC l) i) 0 3)).length) mkPl (genC (([] : List (List CV)) ++ ((List.range l.length).map fun i => fwd ((plsC l) i) 0 3))) = l := by
  rw [copy_len]
  refine listC_id ⟨0, 0, 0⟩ fun i hi => ?_
  unfold mkPl
  simp only
  rw [copy_at hi (by omega), copy_at hi (by omega), copy_at hi (by omega)]
  rfl
theorem pls_copyN (l : List V3) : numsP 3 ((([] : List (List CV)) ++ ((List.range l.length).map fun i => fwd ((plsC l) i) 0 3)).length) (genC (([] : List (List CV)) ++ ((List.range l.length).map fun i => fwd ((plsC l) i) 0 3))) := by
  intro i j hi hj
  rw [copy_len] at hi
  rw [copy_at hi hj]
  exact numsP_pls l i j hi hj
theorem hg_at {l : List THit} {i j : Nat} (hi : i < l.length) (hj : j < 5) : genC (l.map hitCv) i j = hitsC l i j := by
  unfold genC hitsC hitAt
  simp only [List.getD_eq_getElem?_getD, List.getElem?_map, List.getElem?_eq_getElem hi, Option.map_some, Option.getD_some]
  rcases (by omega : j = 0 ∨ j = 1 ∨ j = 2 ∨ j = 3 ∨ j = 4) with rfl | rfl | rfl | rfl | rfl <;> rfl
theorem numsP_hg (l : List THit) : numsP 5 l.length (genC (l.map hitCv)) := by
  intro i j hi hj
  rw [hg_at hi hj]
  exact numsP_hits l i j hi hj
theorem hg_listC (l : List THit) : listC l.length mkHit (genC (l.map hitCv)) = l := listC_id THit.zero fun i hi => by
  unfold mkHit
  simp only
  rw [hg_at hi (by omega), hg_at hi (by omega), hg_at hi (by omega), hg_at hi (by omega), hg_at hi (by omega)]
  rfl
theorem plAt_mem {l : List V3} {p : V3} (h : p ∈ l) : ∃ j, j < l.length ∧ plAt l j = p := by
  obtain ⟨j, hj, e⟩ := List.getElem_of_mem h
  exact ⟨j, hj, by simp [plAt, List.getD, hj, e]⟩
theorem simAt_0 {m : TMod} {s p : V3} (h : simAt m s p = 0) : plE p = 0 ∧ inB (m.first s p) (-1000000) 1000000 = true ∧ tmE (m.first s p) = 0 := by
  unfold simAt at h
  by_cases e : plE p = 0
  · rw [if_neg (by rw [e]; simp)] at h
    split at h
    · rename_i q; exact ⟨e, q⟩
    · cases h
  · rw [if_pos e] at h; exact (e h).elim
theorem sim_score {m : TMod} {s : V3} {l : List V3} (h1 : m.err = 0) (h2 : m.stE s = 0) (hz : ∀ j, j < l.length → simAt m s (plAt l j) = 0) : m.score s (l.map (hitOf m s)) = 0 := by
  have ho := err_ok h1
  have hs := st_ok h2
  have hp : ∀ p, p ∈ l → m.pen s (hitOf m s p) = 0 := by
    intro p hp
    obtain ⟨j, hj, rfl⟩ := plAt_mem hp
    obtain ⟨_, q1, _⟩ := simAt_0 (hz j hj)
    have hr : -1000000 ≤ m.first s (plAt l j) ∧ m.first s (plAt l j) ≤ 1000000 := by simpa [inB] using q1
    have hf := first_at m s (plAt l j) (by have := ho.slp; omega) (by have := ho.slo; have := hs.2.1; omega) hr.1 hr.2
    have hea := ho.ea
    have hla := ho.la
    unfold TMod.pen hitOf
    simp only
    rw [hf, hf, decide_eq_true (by omega), decide_eq_false (by omega)]
    simp
  unfold TMod.score TMod.pens
  have : ∀ L : List V3, (∀ p ∈ L, m.pen s (hitOf m s p) = 0) → ((L.map (hitOf m s)).map (m.pen s)).foldl (· + ·) 0 = 0 := by
    intro L
    induction L with
    | nil => intro _; rfl
    | cons p L ih =>
      intro h
      simp only [List.map_cons, List.foldl_cons]
      rw [h p (by simp)]
      exact ih fun q hq => h q (by simp [hq])
  exact this l hp
theorem sim_hits {m : TMod} {s : V3} {l : List V3} (hlen : l.length ≤ 12) (h : m.both s = 0) (hz : ∀ j, j < l.length → simAt m s (plAt l j) = 0) : firstNZ [m.both s, hitsE (l.map (hitOf m s))] = 0 := by
  have e : hitsE (l.map (hitOf m s)) = 0 := by
    refine (if_neg (by simp; omega)).trans (scan_end fun i hi => ?_)
    rw [List.length_map] at hi
    obtain ⟨q1, _, q3⟩ := simAt_0 (hz i hi)
    have e2 : hitAt (l.map (hitOf m s)) i = hitOf m s (plAt l i) := by simp [hitAt, plAt, List.getD, hi]
    rw [e2]
    unfold THit.err hitOf
    simp only
    rw [q1, q3]
    rfl
  rw [h, e]; rfl
def mk_law05_TrackSimulated_0 (m0 m1 m2 m3 m4 m5 m6 m7 m8 m9 m10 m11 : Int) (s0 s1 s2 : Int) (l : List V3) (v0_0 : List (List CV)) (v0_1 : Int) (v0_2 : Int) (v0_3 : Int) : DS := ⟨[none, none, some (.t (.c (.sl 3 l.length (plsC l)))), some (.t (.c (.p 3 0))), some (.t (.c (.p 4 0))), none, none, some (.t (.c (.sl 5 ((simL (⟨m0, m1, m2, m3, m4, m5, m6, m7, m8, m9, m10, m11⟩ : TMod) (⟨s0, s1, s2⟩ : V3) (listC ((([] : List (List CV)) ++ ((List.range l.length).map fun i => fwd ((plsC l) i) 0 3)).length) mkPl (genC (([] : List (List CV)) ++ ((List.range l.length).map fun i => fwd ((plsC l) i) 0 3))))).length) (hitsC (simL (⟨m0, m1, m2, m3, m4, m5, m6, m7, m8, m9, m10, m11⟩ : TMod) (⟨s0, s1, s2⟩ : V3) (listC ((([] : List (List CV)) ++ ((List.range l.length).map fun i => fwd ((plsC l) i) 0 3)).length) mkPl (genC (([] : List (List CV)) ++ ((List.range l.length).map fun i => fwd ((plsC l) i) 0 3))))))))), some (.t (.c (.v (.int .i64 v0_2)))), some (.t (.c (.v (.int .i64 v0_3)))), some (.t (.c (.os 10))), some (.t (.c (.v (.int .i64 v0_1)))), none, none, none, none, none, none, none, none, none, none, none, none, none, none, none, none, none, none, none, none, none, none, none, none, none, none, none, none, none, none, none, none, none, none, none, none, none, none, none, none, none, none, none, none, none, none, none, none, none, none, none, none, none, none, none, none, none, none, none, none, none, none, none, none, none, none, none, none, none, none, none, none, none, none, none, none, none, none, none, none, none, none, none, none, none, none, none, none, none, none, none, none, none, none, none, none, none, none, none, none, none, none], [none, none, none, some (.box 26 [.v (.int .i64 m0), .v (.int .i64 m1), .v (.int .i64 m2), .v (.int .i64 m3), .v (.int .i64 m4), .v (.int .i64 m5), .v (.int .i64 m6), .v (.int .i64 m7), .v (.int .i64 m8), .v (.int .i64 m9), .v (.int .i64 m10), .v (.int .i64 m11)]), some (.box 22 [.v (.int .i64 s0), .v (.int .i64 s1), .v (.int .i64 s2)]), none, none, none, none, none, some (.gen 92 5 v0_0), none, none, none, none, none, none, none, none, none, none, none, none, none, none, none, none, none, none, none, none, none, none, none, none, none, none, none, none, none, none, none, none, none, none, none, none, none, none, none, none, none, none, none, none, none, none, none, none, none, none, none, none, none, none, none, none, none, none, none, none, none, none, none, none, none, none, none, none, none, none, none, none, none, none, none, none, none, none, none, none, none, none, none, none, none, none, none, none, none, none, none, none, none, none, none, none, none, none, none, none, none, none, none]⟩
def vc_law05_TrackSimulated (J : Inv) (m0 m1 m2 m3 m4 m5 m6 m7 m8 m9 m10 m11 : Int) (s0 s1 s2 : Int) (l : List V3) (post : DV → Prop) : Prop := cond (decide (((l.length : Nat) : Int) > (14 : Int))) (post (.t (.c (.v (.bool true))))) ((roomP 24 (([] : List (List CV)).length + ((List.range l.length).map fun i => fwd ((plsC l) i) 0 3).length)) ∧ (lt (simE (⟨m0, m1, m2, m3, m4, m5, m6, m7, m8, m9, m10, m11⟩ : TMod) (⟨s0, s1, s2⟩ : V3) (listC ((([] : List (List CV)) ++ ((List.range l.length).map fun i => fwd ((plsC l) i) 0 3)).length) mkPl (genC (([] : List (List CV)) ++ ((List.range l.length).map fun i => fwd ((plsC l) i) 0 3))))) fun x1 => (numsP 3 ((([] : List (List CV)) ++ ((List.range l.length).map fun i => fwd ((plsC l) i) 0 3)).length) (genC (([] : List (List CV)) ++ ((List.range l.length).map fun i => fwd ((plsC l) i) 0 3)))) ∧ (cond ((((⟨m0, m1, m2, m3, m4, m5, m6, m7, m8, m9, m10, m11⟩ : TMod)).both (⟨s0, s1, s2⟩ : V3)) == (0 : Int)) (cond (decide (((l.length : Nat) : Int) > (12 : Int))) (∃ n, J 0 (n :: []) (mk_law05_TrackSimulated_0 m0 m1 m2 m3 m4 m5 m6 m7 m8 m9 m10 m11 s0 s1 s2 l ([]) 0 x1 8)) (∃ n, J 0 (n :: []) (mk_law05_TrackSimulated_0 m0 m1 m2 m3 m4 m5 m6 m7 m8 m9 m10 m11 s0 s1 s2 l ([]) 0 x1 (((⟨m0, m1, m2, m3, m4, m5, m6, m7, m8, m9, m10, m11⟩ : TMod)).both (⟨s0, s1, s2⟩ : V3))))) ((false = false) ∧ (∃ n, J 0 (n :: []) (mk_law05_TrackSimulated_0 m0 m1 m2 m3 m4 m5 m6 m7 m8 m9 m10 m11 s0 s1 s2 l ([]) 0 x1 (((⟨m0, m1, m2, m3, m4, m5, m6, m7, m8, m9, m10, m11⟩ : TMod)).both (⟨s0, s1, s2⟩ : V3))))))))
def ann_law05_TrackSimulated : Ann := ⟨fun r => lookA r [(5, ([[], [], [], [], [2, 3], [0, 1, 2, 3, 4], [0, 1, 2, 3, 4, 5], [0, 1, 2, 3, 4, 5, 6], [0, 1, 2, 3, 4, 5, 6], [0, 1, 2, 3, 4, 5, 6, 7], [0, 1, 2, 3, 4, 5, 6, 7, 8, 9]], [[24, 26], [24, 26], [], [24], [9999, 24, 26], [], [], [], [], [], []])), (15, ([[], [], [], [], [2, 3], [2, 3, 4], [0, 1, 2, 3, 4, 5], [0, 1, 2, 3, 4, 5, 6], [0, 1, 2, 3, 4, 5, 6, 7], [0, 1, 2, 3, 4, 5, 6, 7], [0, 1, 2, 3, 4, 5, 6, 7, 8], [0, 1, 2, 3, 4, 5, 6, 7, 8, 9, 10]], [[], [], [], [], [], [], [], [], [], [], [], []]))], fun b => lookA b [(0, (none, some ⟨[2, 3, 4, 7, 8, 9, 11], [3, 4], [(10, .gen 92 5 [])]⟩))], fun _ => [], noIt, false⟩
theorem ev_law05_TrackSimulated (J : Inv) (m0 m1 m2 m3 m4 m5 m6 m7 m8 m9 m10 m11 : Int) (s0 s1 s2 : Int) (l : List V3) (post : DV → Prop) : evFn Try.prog tab S40 ann_law05_TrackSimulated J Try.f7 [.t (.a [.v (.int .i64 m0), .v (.int .i64 m1), .v (.int .i64 m2), .v (.int .i64 m3), .v (.int .i64 m4), .v (.int .i64 m5), .v (.int .i64 m6), .v (.int .i64 m7), .v (.int .i64 m8), .v (.int .i64 m9), .v (.int .i64 m10), .v (.int .i64 m11)]), .t (.a [.v (.int .i64 s0), .v (.int .i64 s1), .v (.int .i64 s2)]), .t (.c (.sl 3 l.length (plsC l)))] post = vc_law05_TrackSimulated J m0 m1 m2 m3 m4 m5 m6 m7 m8 m9 m10 m11 s0 s1 s2 l post := by kernel_rfl
theorem fit_law05_TrackSimulated : okFn ann_law05_TrackSimulated Try.f7 = true := by kernel_rfl
def rd_law05_TrackSimulated_0 (J : Inv) (m0 m1 m2 m3 m4 m5 m6 m7 m8 m9 m10 m11 : Int) (s0 s1 s2 : Int) (l : List V3) (v0_0 : List (List CV)) (v0_1 : Int) (v0_2 : Int) (v0_3 : Int) (nn0 : Nat) (post : DV → Prop) : Prop := cond (decide (v0_1 < ((l.length : Nat) : Int))) (cond (v0_3 == (0 : Int)) ((0 ≤ v0_1 ∧ v0_1 < ((l.length : Nat) : Int)) ∧ (cond ((plE (⟨((plAt l v0_1.toNat).x), ((plAt l v0_1.toNat).y), ((plAt l v0_1.toNat).z)⟩ : V3)) != (0 : Int)) (lt (IntKind.i64.wrap (v0_1 + (1 : Int))) fun x1 => J 0 (nn0 :: []) (mk_law05_TrackSimulated_0 m0 m1 m2 m3 m4 m5 m6 m7 m8 m9 m10 m11 s0 s1 s2 l v0_0 x1 v0_2 (plE (⟨((plAt l v0_1.toNat).x), ((plAt l v0_1.toNat).y), ((plAt l v0_1.toNat).z)⟩ : V3)))) ((0 ≤ v0_1 ∧ v0_1 < ((l.length : Nat) : Int)) ∧ ((((⟨m0, m1, m2, m3, m4, m5, m6, m7, m8, m9, m10, m11⟩ : TMod)).Ok ∧ ((⟨s0, s1, s2⟩ : V3)).inS 20 = true ∧ ((⟨m0, m1, m2, m3, m4, m5, m6, m7, m8, m9, m10, m11⟩ : TMod)).permit (⟨s0, s1, s2⟩ : V3) ∧ ((⟨((plAt l v0_1.toNat).x), ((plAt l v0_1.toNat).y), ((plAt l v0_1.toNat).z)⟩ : V3)).inS 1000 = true) ∧ (cond (!(inB (((⟨m0, m1, m2, m3, m4, m5, m6, m7, m8, m9, m10, m11⟩ : TMod)).first (⟨s0, s1, s2⟩ : V3) (⟨((plAt l v0_1.toNat).x), ((plAt l v0_1.toNat).y), ((plAt l v0_1.toNat).z)⟩ : V3)) (-1000000) 1000000)) ((true = true) ∧ ((0 ≤ v0_1 ∧ v0_1 < ((l.length : Nat) : Int)) ∧ ((roomP 40 (v0_0.length + ([[.v (.int .i64 ((plAt l v0_1.toNat).x)), .v (.int .i64 ((plAt l v0_1.toNat).y)), .v (.int .i64 ((plAt l v0_1.toNat).z)), .v (.int .i64 (bif inB (((⟨m0, m1, m2, m3, m4, m5, m6, m7, m8, m9, m10, m11⟩ : TMod)).first (⟨s0, s1, s2⟩ : V3) (⟨((plAt l v0_1.toNat).x), ((plAt l v0_1.toNat).y), ((plAt l v0_1.toNat).z)⟩ : V3)) (-1000000) 1000000 then ((⟨m0, m1, m2, m3, m4, m5, m6, m7, m8, m9, m10, m11⟩ : TMod)).first (⟨s0, s1, s2⟩ : V3) (⟨((plAt l v0_1.toNat).x), ((plAt l v0_1.toNat).y), ((plAt l v0_1.toNat).z)⟩ : V3) else 0)), .v (.int .i64 1)]] : List (List CV)).length)) ∧ (lt (IntKind.i64.wrap (v0_1 + (1 : Int))) fun x2 => J 0 (nn0 :: []) (mk_law05_TrackSimulated_0 m0 m1 m2 m3 m4 m5 m6 m7 m8 m9 m10 m11 s0 s1 s2 l (v0_0 ++ ([[.v (.int .i64 ((plAt l v0_1.toNat).x)), .v (.int .i64 ((plAt l v0_1.toNat).y)), .v (.int .i64 ((plAt l v0_1.toNat).z)), .v (.int .i64 (bif inB (((⟨m0, m1, m2, m3, m4, m5, m6, m7, m8, m9, m10, m11⟩ : TMod)).first (⟨s0, s1, s2⟩ : V3) (⟨((plAt l v0_1.toNat).x), ((plAt l v0_1.toNat).y), ((plAt l v0_1.toNat).z)⟩ : V3)) (-1000000) 1000000 then ((⟨m0, m1, m2, m3, m4, m5, m6, m7, m8, m9, m10, m11⟩ : TMod)).first (⟨s0, s1, s2⟩ : V3) (⟨((plAt l v0_1.toNat).x), ((plAt l v0_1.toNat).y), ((plAt l v0_1.toNat).z)⟩ : V3) else 0)), .v (.int .i64 1)]] : List (List CV))) x2 v0_2 22))))) (cond ((tmE (bif inB (((⟨m0, m1, m2, m3, m4, m5, m6, m7, m8, m9, m10, m11⟩ : TMod)).first (⟨s0, s1, s2⟩ : V3) (⟨((plAt l v0_1.toNat).x), ((plAt l v0_1.toNat).y), ((plAt l v0_1.toNat).z)⟩ : V3)) (-1000000) 1000000 then ((⟨m0, m1, m2, m3, m4, m5, m6, m7, m8, m9, m10, m11⟩ : TMod)).first (⟨s0, s1, s2⟩ : V3) (⟨((plAt l v0_1.toNat).x), ((plAt l v0_1.toNat).y), ((plAt l v0_1.toNat).z)⟩ : V3) else 0)) != (0 : Int)) ((0 ≤ v0_1 ∧ v0_1 < ((l.length : Nat) : Int)) ∧ ((roomP 40 (v0_0.length + ([[.v (.int .i64 ((plAt l v0_1.toNat).x)), .v (.int .i64 ((plAt l v0_1.toNat).y)), .v (.int .i64 ((plAt l v0_1.toNat).z)), .v (.int .i64 (bif inB (((⟨m0, m1, m2, m3, m4, m5, m6, m7, m8, m9, m10, m11⟩ : TMod)).first (⟨s0, s1, s2⟩ : V3) (⟨((plAt l v0_1.toNat).x), ((plAt l v0_1.toNat).y), ((plAt l v0_1.toNat).z)⟩ : V3)) (-1000000) 1000000 then ((⟨m0, m1, m2, m3, m4, m5, m6, m7, m8, m9, m10, m11⟩ : TMod)).first (⟨s0, s1, s2⟩ : V3) (⟨((plAt l v0_1.toNat).x), ((plAt l v0_1.toNat).y), ((plAt l v0_1.toNat).z)⟩ : V3) else 0)), .v (.int .i64 1)]] : List (List CV)).length)) ∧ (lt (IntKind.i64.wrap (v0_1 + (1 : Int))) fun x3 => J 0 (nn0 :: []) (mk_law05_TrackSimulated_0 m0 m1 m2 m3 m4 m5 m6 m7 m8 m9 m10 m11 s0 s1 s2 l (v0_0 ++ ([[.v (.int .i64 ((plAt l v0_1.toNat).x)), .v (.int .i64 ((plAt l v0_1.toNat).y)), .v (.int .i64 ((plAt l v0_1.toNat).z)), .v (.int .i64 (bif inB (((⟨m0, m1, m2, m3, m4, m5, m6, m7, m8, m9, m10, m11⟩ : TMod)).first (⟨s0, s1, s2⟩ : V3) (⟨((plAt l v0_1.toNat).x), ((plAt l v0_1.toNat).y), ((plAt l v0_1.toNat).z)⟩ : V3)) (-1000000) 1000000 then ((⟨m0, m1, m2, m3, m4, m5, m6, m7, m8, m9, m10, m11⟩ : TMod)).first (⟨s0, s1, s2⟩ : V3) (⟨((plAt l v0_1.toNat).x), ((plAt l v0_1.toNat).y), ((plAt l v0_1.toNat).z)⟩ : V3) else 0)), .v (.int .i64 1)]] : List (List CV))) x3 v0_2 22)))) ((0 ≤ v0_1 ∧ v0_1 < ((l.length : Nat) : Int)) ∧ ((roomP 40 (v0_0.length + ([[.v (.int .i64 ((plAt l v0_1.toNat).x)), .v (.int .i64 ((plAt l v0_1.toNat).y)), .v (.int .i64 ((plAt l v0_1.toNat).z)), .v (.int .i64 (bif inB (((⟨m0, m1, m2, m3, m4, m5, m6, m7, m8, m9, m10, m11⟩ : TMod)).first (⟨s0, s1, s2⟩ : V3) (⟨((plAt l v0_1.toNat).x), ((plAt l v0_1.toNat).y), ((plAt l v0_1.toNat).z)⟩ : V3)) (-1000000) 1000000 then ((⟨m0, m1, m2, m3, m4, m5, m6, m7, m8, m9, m10, m11⟩ : TMod)).first (⟨s0, s1, s2⟩ : V3) (⟨((plAt l v0_1.toNat).x), ((plAt l v0_1.toNat).y), ((plAt l v0_1.toNat).z)⟩ : V3) else 0)), .v (.int .i64 1)]] : List (List CV)).length)) ∧ (lt (IntKind.i64.wrap (v0_1 + (1 : Int))) fun x4 => J 0 (nn0 :: []) (mk_law05_TrackSimulated_0 m0 m1 m2 m3 m4 m5 m6 m7 m8 m9 m10 m11 s0 s1 s2 l (v0_0 ++ ([[.v (.int .i64 ((plAt l v0_1.toNat).x)), .v (.int .i64 ((plAt l v0_1.toNat).y)), .v (.int .i64 ((plAt l v0_1.toNat).z)), .v (.int .i64 (bif inB (((⟨m0, m1, m2, m3, m4, m5, m6, m7, m8, m9, m10, m11⟩ : TMod)).first (⟨s0, s1, s2⟩ : V3) (⟨((plAt l v0_1.toNat).x), ((plAt l v0_1.toNat).y), ((plAt l v0_1.toNat).z)⟩ : V3)) (-1000000) 1000000 then ((⟨m0, m1, m2, m3, m4, m5, m6, m7, m8, m9, m10, m11⟩ : TMod)).first (⟨s0, s1, s2⟩ : V3) (⟨((plAt l v0_1.toNat).x), ((plAt l v0_1.toNat).y), ((plAt l v0_1.toNat).z)⟩ : V3) else 0)), .v (.int .i64 1)]] : List (List CV))) x4 v0_2 (plE (⟨((plAt l v0_1.toNat).x), ((plAt l v0_1.toNat).y), ((plAt l v0_1.toNat).z)⟩ : V3)))))))))))) (cond (v0_3 != (0 : Int)) (cond (v0_2 == v0_3) (post (.t (.c (.v (.bool ((((simL (⟨m0, m1, m2, m3, m4, m5, m6, m7, m8, m9, m10, m11⟩ : TMod) (⟨s0, s1, s2⟩ : V3) (listC ((([] : List (List CV)) ++ ((List.range l.length).map fun i => fwd ((plsC l) i) 0 3)).length) mkPl (genC (([] : List (List CV)) ++ ((List.range l.length).map fun i => fwd ((plsC l) i) 0 3))))).length : Nat) : Int) == (0 : Int))))))) ((false = false) ∧ (post (.t (.c (.v (.bool false))))))) (cond (v0_2 != (0 : Int)) ((true = true) ∧ (post (.t (.c (.v (.bool false)))))) ((numsP 5 ((simL (⟨m0, m1, m2, m3, m4, m5, m6, m7, m8, m9, m10, m11⟩ : TMod) (⟨s0, s1, s2⟩ : V3) (listC ((([] : List (List CV)) ++ ((List.range l.length).map fun i => fwd ((plsC l) i) 0 3)).length) mkPl (genC (([] : List (List CV)) ++ ((List.range l.length).map fun i => fwd ((plsC l) i) 0 3))))).length) (hitsC (simL (⟨m0, m1, m2, m3, m4, m5, m6, m7, m8, m9, m10, m11⟩ : TMod) (⟨s0, s1, s2⟩ : V3) (listC ((([] : List (List CV)) ++ ((List.range l.length).map fun i => fwd ((plsC l) i) 0 3)).length) mkPl (genC (([] : List (List CV)) ++ ((List.range l.length).map fun i => fwd ((plsC l) i) 0 3)))))) ∧ numsP 5 v0_0.length (genC v0_0) ∧ ((listC ((simL (⟨m0, m1, m2, m3, m4, m5, m6, m7, m8, m9, m10, m11⟩ : TMod) (⟨s0, s1, s2⟩ : V3) (listC ((([] : List (List CV)) ++ ((List.range l.length).map fun i => fwd ((plsC l) i) 0 3)).length) mkPl (genC (([] : List (List CV)) ++ ((List.range l.length).map fun i => fwd ((plsC l) i) 0 3))))).length) mkHit (hitsC (simL (⟨m0, m1, m2, m3, m4, m5, m6, m7, m8, m9, m10, m11⟩ : TMod) (⟨s0, s1, s2⟩ : V3) (listC ((([] : List (List CV)) ++ ((List.range l.length).map fun i => fwd ((plsC l) i) 0 3)).length) mkPl (genC (([] : List (List CV)) ++ ((List.range l.length).map fun i => fwd ((plsC l) i) 0 3)))))))).length ≤ 1000000) ∧ (cond (!(decide ((listC ((simL (⟨m0, m1, m2, m3, m4, m5, m6, m7, m8, m9, m10, m11⟩ : TMod) (⟨s0, s1, s2⟩ : V3) (listC ((([] : List (List CV)) ++ ((List.range l.length).map fun i => fwd ((plsC l) i) 0 3)).length) mkPl (genC (([] : List (List CV)) ++ ((List.range l.length).map fun i => fwd ((plsC l) i) 0 3))))).length) mkHit (hitsC (simL (⟨m0, m1, m2, m3, m4, m5, m6, m7, m8, m9, m10, m11⟩ : TMod) (⟨s0, s1, s2⟩ : V3) (listC ((([] : List (List CV)) ++ ((List.range l.length).map fun i => fwd ((plsC l) i) 0 3)).length) mkPl (genC (([] : List (List CV)) ++ ((List.range l.length).map fun i => fwd ((plsC l) i) 0 3))))))) = (listC v0_0.length mkHit (genC v0_0))))) (post (.t (.c (.v (.bool false))))) ((numsP 5 v0_0.length (genC v0_0)) ∧ (cond ((firstNZ [((⟨m0, m1, m2, m3, m4, m5, m6, m7, m8, m9, m10, m11⟩ : TMod)).both (⟨s0, s1, s2⟩ : V3), hitsE (listC v0_0.length mkHit (genC v0_0))]) == (0 : Int)) (post (.t (.c (.v (.bool ((if firstNZ [((⟨m0, m1, m2, m3, m4, m5, m6, m7, m8, m9, m10, m11⟩ : TMod)).both (⟨s0, s1, s2⟩ : V3), hitsE (listC v0_0.length mkHit (genC v0_0))] = 0 then ((⟨m0, m1, m2, m3, m4, m5, m6, m7, m8, m9, m10, m11⟩ : TMod)).score (⟨s0, s1, s2⟩ : V3) (listC v0_0.length mkHit (genC v0_0)) else 0) == (0 : Int))))))) ((false = false) ∧ (post (.t (.c (.v (.bool false))))))))))))) ((false = false) ∧ (cond (v0_3 != (0 : Int)) (cond (v0_2 == v0_3) (post (.t (.c (.v (.bool ((((simL (⟨m0, m1, m2, m3, m4, m5, m6, m7, m8, m9, m10, m11⟩ : TMod) (⟨s0, s1, s2⟩ : V3) (listC ((([] : List (List CV)) ++ ((List.range l.length).map fun i => fwd ((plsC l) i) 0 3)).length) mkPl (genC (([] : List (List CV)) ++ ((List.range l.length).map fun i => fwd ((plsC l) i) 0 3))))).length : Nat) : Int) == (0 : Int))))))) ((false = false) ∧ (post (.t (.c (.v (.bool false))))))) (cond (v0_2 != (0 : Int)) ((true = true) ∧ (post (.t (.c (.v (.bool false)))))) ((numsP 5 ((simL (⟨m0, m1, m2, m3, m4, m5, m6, m7, m8, m9, m10, m11⟩ : TMod) (⟨s0, s1, s2⟩ : V3) (listC ((([] : List (List CV)) ++ ((List.range l.length).map fun i => fwd ((plsC l) i) 0 3)).length) mkPl (genC (([] : List (List CV)) ++ ((List.range l.length).map fun i => fwd ((plsC l) i) 0 3))))).length) (hitsC (simL (⟨m0, m1, m2, m3, m4, m5, m6, m7, m8, m9, m10, m11⟩ : TMod) (⟨s0, s1, s2⟩ : V3) (listC ((([] : List (List CV)) ++ ((List.range l.length).map fun i => fwd ((plsC l) i) 0 3)).length) mkPl (genC (([] : List (List CV)) ++ ((List.range l.length).map fun i => fwd ((plsC l) i) 0 3)))))) ∧ numsP 5 v0_0.length (genC v0_0) ∧ ((listC ((simL (⟨m0, m1, m2, m3, m4, m5, m6, m7, m8, m9, m10, m11⟩ : TMod) (⟨s0, s1, s2⟩ : V3) (listC ((([] : List (List CV)) ++ ((List.range l.length).map fun i => fwd ((plsC l) i) 0 3)).length) mkPl (genC (([] : List (List CV)) ++ ((List.range l.length).map fun i => fwd ((plsC l) i) 0 3))))).length) mkHit (hitsC (simL (⟨m0, m1, m2, m3, m4, m5, m6, m7, m8, m9, m10, m11⟩ : TMod) (⟨s0, s1, s2⟩ : V3) (listC ((([] : List (List CV)) ++ ((List.range l.length).map fun i => fwd ((plsC l) i) 0 3)).length) mkPl (genC (([] : List (List CV)) ++ ((List.range l.length).map fun i => fwd ((plsC l) i) 0 3)))))))).length ≤ 1000000) ∧ (cond (!(decide ((listC ((simL (⟨m0, m1, m2, m3, m4, m5, m6, m7, m8, m9, m10, m11⟩ : TMod) (⟨s0, s1, s2⟩ : V3) (listC ((([] : List (List CV)) ++ ((List.range l.length).map fun i => fwd ((plsC l) i) 0 3)).length) mkPl (genC (([] : List (List CV)) ++ ((List.range l.length).map fun i => fwd ((plsC l) i) 0 3))))).length) mkHit (hitsC (simL (⟨m0, m1, m2, m3, m4, m5, m6, m7, m8, m9, m10, m11⟩ : TMod) (⟨s0, s1, s2⟩ : V3) (listC ((([] : List (List CV)) ++ ((List.range l.length).map fun i => fwd ((plsC l) i) 0 3)).length) mkPl (genC (([] : List (List CV)) ++ ((List.range l.length).map fun i => fwd ((plsC l) i) 0 3))))))) = (listC v0_0.length mkHit (genC v0_0))))) (post (.t (.c (.v (.bool false))))) ((numsP 5 v0_0.length (genC v0_0)) ∧ (cond ((firstNZ [((⟨m0, m1, m2, m3, m4, m5, m6, m7, m8, m9, m10, m11⟩ : TMod)).both (⟨s0, s1, s2⟩ : V3), hitsE (listC v0_0.length mkHit (genC v0_0))]) == (0 : Int)) (post (.t (.c (.v (.bool ((if firstNZ [((⟨m0, m1, m2, m3, m4, m5, m6, m7, m8, m9, m10, m11⟩ : TMod)).both (⟨s0, s1, s2⟩ : V3), hitsE (listC v0_0.length mkHit (genC v0_0))] = 0 then ((⟨m0, m1, m2, m3, m4, m5, m6, m7, m8, m9, m10, m11⟩ : TMod)).score (⟨s0, s1, s2⟩ : V3) (listC v0_0.length mkHit (genC v0_0)) else 0) == (0 : Int))))))) ((false = false) ∧ (post (.t (.c (.v (.bool false)))))))))))))
theorem er_law05_TrackSimulated_0 (J : Inv) (m0 m1 m2 m3 m4 m5 m6 m7 m8 m9 m10 m11 : Int) (s0 s1 s2 : Int) (l : List V3) (v0_0 : List (List CV)) (v0_1 : Int) (v0_2 : Int) (v0_3 : Int) (nn0 : Nat) (post : DV → Prop) : round Try.prog tab S40 ann_law05_TrackSimulated J Try.f7 post 0 (nn0 :: []) (mk_law05_TrackSimulated_0 m0 m1 m2 m3 m4 m5 m6 m7 m8 m9 m10 m11 s0 s1 s2 l v0_0 v0_1 v0_2 v0_3) = rd_law05_TrackSimulated_0 J m0 m1 m2 m3 m4 m5 m6 m7 m8 m9 m10 m11 s0 s1 s2 l v0_0 v0_1 v0_2 v0_3 nn0 post := by kernel_rfl
theorem lp_law05_TrackSimulated (J : Inv) (post : DV → Prop) : AllG J (loopsFn Try.prog tab S40 ann_law05_TrackSimulated J Try.f7 post) = (((∀ F s, ¬ J 0 (0 :: F) s) ∧ ∀ n F s, J 0 ((n + 1) :: F) s → round Try.prog tab S40 ann_law05_TrackSimulated J Try.f7 post 0 (n :: F) s) ∧ True) := by kernel_rfl
def J_law05_TrackSimulated (m0 m1 m2 m3 m4 m5 m6 m7 m8 m9 m10 m11 : Int) (s0 s1 s2 : Int) (l : List V3) : Inv := fun b F s => match b, F with
  | 0, [nn0] => ∃ (v0_0 : List (List CV)) (v0_1 : Int) (v0_2 : Int) (v0_3 : Int), s = mk_law05_TrackSimulated_0 m0 m1 m2 m3 m4 m5 m6 m7 m8 m9 m10 m11 s0 s1 s2 l v0_0 v0_1 v0_2 v0_3 ∧ (v0_2 = simE (⟨m0, m1, m2, m3, m4, m5, m6, m7, m8, m9, m10, m11⟩ : TMod) (⟨s0, s1, s2⟩ : V3) l ∧ l.length ≤ 14 ∧ 0 ≤ v0_1 ∧ v0_1 ≤ l.length ∧ (nn0 : Int) + v0_1 = l.length + 1 ∧ (v0_0.length : Int) ≤ v0_1 ∧ ((v0_3 ≠ 0 ∧ v0_3 = simE (⟨m0, m1, m2, m3, m4, m5, m6, m7, m8, m9, m10, m11⟩ : TMod) (⟨s0, s1, s2⟩ : V3) l) ∨ (v0_3 = 0 ∧ firstNZ [(⟨m0, m1, m2, m3, m4, m5, m6, m7, m8, m9, m10, m11⟩ : TMod).both (⟨s0, s1, s2⟩ : V3), unl (decide (((l.length : Nat) : Int) ≤ (12 : Int))) (8 : Int)] = 0 ∧ (∀ j : Nat, (j : Int) < v0_1 → simAt (⟨m0, m1, m2, m3, m4, m5, m6, m7, m8, m9, m10, m11⟩ : TMod) (⟨s0, s1, s2⟩ : V3) (plAt l j) = 0) ∧ v0_0 = ((l.take v0_1.toNat).map (hitOf (⟨m0, m1, m2, m3, m4, m5, m6, m7, m8, m9, m10, m11⟩ : TMod) (⟨s0, s1, s2⟩ : V3))).map hitCv)))
  | _, _ => False
set_option maxHeartbeats 8000000 in
set_option maxRecDepth 100000 in
theorem rnd_law05_TrackSimulated_0 (m0 m1 m2 m3 m4 m5 m6 m7 m8 m9 m10 m11 : Int) (s0 s1 s2 : Int) (l : List V3) (v0_0 : List (List CV)) (v0_1 : Int) (v0_2 : Int) (v0_3 : Int) (nn0 : Nat) (hi : v0_2 = simE (⟨m0, m1, m2, m3, m4, m5, m6, m7, m8, m9, m10, m11⟩ : TMod) (⟨s0, s1, s2⟩ : V3) l ∧ l.length ≤ 14 ∧ 0 ≤ v0_1 ∧ v0_1 ≤ l.length ∧ ((nn0 + 1) : Int) + v0_1 = l.length + 1 ∧ (v0_0.length : Int) ≤ v0_1 ∧ ((v0_3 ≠ 0 ∧ v0_3 = simE (⟨m0, m1, m2, m3, m4, m5, m6, m7, m8, m9, m10, m11⟩ : TMod) (⟨s0, s1, s2⟩ : V3) l) ∨ (v0_3 = 0 ∧ firstNZ [(⟨m0, m1, m2, m3, m4, m5, m6, m7, m8, m9, m10, m11⟩ : TMod).both (⟨s0, s1, s2⟩ : V3), unl (decide (((l.length : Nat) : Int) ≤ (12 : Int))) (8 : Int)] = 0 ∧ (∀ j : Nat, (j : Int) < v0_1 → simAt (⟨m0, m1, m2, m3, m4, m5, m6, m7, m8, m9, m10, m11⟩ : TMod) (⟨s0, s1, s2⟩ : V3) (plAt l j) = 0) ∧ v0_0 = ((l.take v0_1.toNat).map (hitOf (⟨m0, m1, m2, m3, m4, m5, m6, m7, m8, m9, m10, m11⟩ : TMod) (⟨s0, s1, s2⟩ : V3))).map hitCv))) : rd_law05_TrackSimulated_0 (J_law05_TrackSimulated m0 m1 m2 m3 m4 m5 m6 m7 m8 m9 m10 m11 s0 s1 s2 l) m0 m1 m2 m3 m4 m5 m6 m7 m8 m9 m10 m11 s0 s1 s2 l v0_0 v0_1 v0_2 v0_3 nn0 (fun r => LeD r (.t (.c (.v (.bool true))))) := by
  obtain ⟨i1, i2, i3, i4, i5, i6, i7⟩ := hi
  obtain ⟨k, rfl⟩ : ∃ k : Nat, v0_1 = k := ⟨v0_1.toNat, by omega⟩
  have hk : (k : Int).toNat = k := rfl
  rw [hk] at i7
  have hE : firstNZ [(⟨m0, m1, m2, m3, m4, m5, m6, m7, m8, m9, m10, m11⟩ : TMod).both (⟨s0, s1, s2⟩ : V3), unl (decide (((l.length : Nat) : Int) ≤ (12 : Int))) (8 : Int)] = 0 → simE (⟨m0, m1, m2, m3, m4, m5, m6, m7, m8, m9, m10, m11⟩ : TMod) (⟨s0, s1, s2⟩ : V3) l = scan (fun i => simAt (⟨m0, m1, m2, m3, m4, m5, m6, m7, m8, m9, m10, m11⟩ : TMod) (⟨s0, s1, s2⟩ : V3) (plAt l i)) l.length := fun h => if_neg (by rw [h]; simp)
  unfold rd_law05_TrackSimulated_0
  rw [hk]
  refine cond_i (fun h => cond_i (fun e => ?_) (fun e => ?_)) (fun h => ⟨rfl, ?_⟩)
  · have hlt : k < l.length := by have := of_decide_eq_true h; omega
    have e : v0_3 = 0 := by simpa using e
    obtain ⟨i8, i9, i10⟩ : firstNZ [(⟨m0, m1, m2, m3, m4, m5, m6, m7, m8, m9, m10, m11⟩ : TMod).both (⟨s0, s1, s2⟩ : V3), unl (decide (((l.length : Nat) : Int) ≤ (12 : Int))) (8 : Int)] = 0 ∧ (∀ j : Nat, (j : Int) < (k : Int) → simAt (⟨m0, m1, m2, m3, m4, m5, m6, m7, m8, m9, m10, m11⟩ : TMod) (⟨s0, s1, s2⟩ : V3) (plAt l j) = 0) ∧ v0_0 = ((l.take k).map (hitOf (⟨m0, m1, m2, m3, m4, m5, m6, m7, m8, m9, m10, m11⟩ : TMod) (⟨s0, s1, s2⟩ : V3))).map hitCv := by
      rcases i7 with ⟨i7, _⟩ | ⟨_, i7⟩
      · exact (i7 e).elim
      · exact i7
    obtain ⟨f1, f2⟩ := fn2 i8
    obtain ⟨f3, f4⟩ := fn2 f1
    have ok := st_ok f4
    have hz : ∀ j, j < k → simAt (⟨m0, m1, m2, m3, m4, m5, m6, m7, m8, m9, m10, m11⟩ : TMod) (⟨s0, s1, s2⟩ : V3) (plAt l j) = 0 := fun j hj => i9 j (by omega)
    have hbad : ∀ c, c ≠ 0 → simAt (⟨m0, m1, m2, m3, m4, m5, m6, m7, m8, m9, m10, m11⟩ : TMod) (⟨s0, s1, s2⟩ : V3) (plAt l k) = c → c = simE (⟨m0, m1, m2, m3, m4, m5, m6, m7, m8, m9, m10, m11⟩ : TMod) (⟨s0, s1, s2⟩ : V3) l := fun c hc g => by
      rw [hE i8, scan_at hz hlt (by rw [g]; exact hc)]; exact g.symm
    have e0 : (⟨(plAt l k).x, (plAt l k).y, (plAt l k).z⟩ : V3) = plAt l k := rfl
    rw [e0]
    refine ⟨by omega, cond_i (fun q => lt_i fun x hx => ?_) (fun q => ⟨by omega, ⟨err_ok f3, ok.1, ok.2, ?_⟩, ?_⟩)⟩
    · have q : plE (plAt l k) ≠ 0 := by simpa using q
      rw [IntWalk.i64_in _ (by omega)] at hx
      subst hx
      exact ⟨_, _, _, _, rfl, i1, i2, by omega, by omega, by omega, by omega, Or.inl ⟨q, hbad _ q (if_pos q)⟩⟩
    · have q : plE (plAt l k) = 0 := by simpa using q
      unfold plE at q
      rw [unl_0 (by decide)] at q
      exact q
    · have q : plE (plAt l k) = 0 := by simpa using q
      have es : simAt (⟨m0, m1, m2, m3, m4, m5, m6, m7, m8, m9, m10, m11⟩ : TMod) (⟨s0, s1, s2⟩ : V3) (plAt l k) = if inB ((⟨m0, m1, m2, m3, m4, m5, m6, m7, m8, m9, m10, m11⟩ : TMod).first (⟨s0, s1, s2⟩ : V3) (plAt l k)) (-1000000) 1000000 = true ∧ tmE ((⟨m0, m1, m2, m3, m4, m5, m6, m7, m8, m9, m10, m11⟩ : TMod).first (⟨s0, s1, s2⟩ : V3) (plAt l k)) = 0 then 0 else 22 := if_neg (by rw [q]; simp)
      have room : ∀ (x : List CV), roomP 40 (v0_0.length + ([x] : List (List CV)).length) := fun x => by unfold roomP maxLen; simp; omega
      refine cond_i (fun p => ⟨rfl, by omega, room _, lt_i fun x hx => ?_⟩) (fun p => cond_i (fun p2 => ⟨by omega, room _, lt_i fun x hx => ?_⟩) (fun p2 => ⟨by omega, room _, lt_i fun x hx => ?_⟩))
      · have p : inB ((⟨m0, m1, m2, m3, m4, m5, m6, m7, m8, m9, m10, m11⟩ : TMod).first (⟨s0, s1, s2⟩ : V3) (plAt l k)) (-1000000) 1000000 = false := by simpa using p
        rw [IntWalk.i64_in _ (by omega)] at hx
        subst hx
        exact ⟨_, _, _, _, rfl, i1, i2, by omega, by omega, by omega, by simp; omega, Or.inl ⟨by decide, hbad 22 (by decide) (by rw [es, p]; simp)⟩⟩
      · have p : inB ((⟨m0, m1, m2, m3, m4, m5, m6, m7, m8, m9, m10, m11⟩ : TMod).first (⟨s0, s1, s2⟩ : V3) (plAt l k)) (-1000000) 1000000 = true := by simpa using p
        rw [p] at p2
        have p2 : tmE ((⟨m0, m1, m2, m3, m4, m5, m6, m7, m8, m9, m10, m11⟩ : TMod).first (⟨s0, s1, s2⟩ : V3) (plAt l k)) ≠ 0 := by simpa using p2
        rw [IntWalk.i64_in _ (by omega)] at hx
        subst hx
        exact ⟨_, _, _, _, rfl, i1, i2, by omega, by omega, by omega, by simp; omega, Or.inl ⟨by decide, hbad 22 (by decide) (by rw [es]; simp [p2])⟩⟩
      · have p : inB ((⟨m0, m1, m2, m3, m4, m5, m6, m7, m8, m9, m10, m11⟩ : TMod).first (⟨s0, s1, s2⟩ : V3) (plAt l k)) (-1000000) 1000000 = true := by simpa using p
        rw [p] at p2 ⊢
        have p2 : tmE ((⟨m0, m1, m2, m3, m4, m5, m6, m7, m8, m9, m10, m11⟩ : TMod).first (⟨s0, s1, s2⟩ : V3) (plAt l k)) = 0 := by simpa using p2
        rw [IntWalk.i64_in _ (by omega)] at hx
        subst hx
        refine ⟨_, _, _, _, rfl, i1, i2, by omega, by omega, by omega, by simp; omega, Or.inr ⟨q, i8, fun j hj => ?_, ?_⟩⟩
        · by_cases e3 : j = k
          · rw [e3, es]; simp [p, p2]
          · exact hz j (by omega)
        · rw [show ((k : Int) + 1).toNat = k + 1 by omega, i10, plAt_take hlt, List.map_append, List.map_append]; rfl
  · have e : v0_3 ≠ 0 := by simpa using e
    have i7 : (v0_3 ≠ 0 ∧ v0_3 = simE (⟨m0, m1, m2, m3, m4, m5, m6, m7, m8, m9, m10, m11⟩ : TMod) (⟨s0, s1, s2⟩ : V3) l) ∨ (v0_3 = 0 ∧ firstNZ [(⟨m0, m1, m2, m3, m4, m5, m6, m7, m8, m9, m10, m11⟩ : TMod).both (⟨s0, s1, s2⟩ : V3), unl (decide (((l.length : Nat) : Int) ≤ (12 : Int))) (8 : Int)] = 0 ∧ (∀ j : Nat, (j : Int) < ((l.length : Nat) : Int) → simAt (⟨m0, m1, m2, m3, m4, m5, m6, m7, m8, m9, m10, m11⟩ : TMod) (⟨s0, s1, s2⟩ : V3) (plAt l j) = 0) ∧ v0_0 = ((l.take l.length).map (hitOf (⟨m0, m1, m2, m3, m4, m5, m6, m7, m8, m9, m10, m11⟩ : TMod) (⟨s0, s1, s2⟩ : V3))).map hitCv) := by
      rcases i7 with i7 | ⟨i7, _⟩
      · exact Or.inl i7
      · exact (e i7).elim
    rw [pls_copy]
    refine cond_i (fun e => ?_) (fun q => by simp at q; exact (e q).elim)
    rcases i7 with ⟨_, i7⟩ | ⟨i7, _⟩
    · refine cond_i (fun q => leB ?_) (fun q => ?_)
      · rw [show simL (⟨m0, m1, m2, m3, m4, m5, m6, m7, m8, m9, m10, m11⟩ : TMod) (⟨s0, s1, s2⟩ : V3) l = [] from if_pos (by rw [← i7]; assumption)]; rfl
      · rw [i1, i7] at q; simp at q
    · contradiction
  · have hge : k = l.length := by have := of_decide_eq_false h; omega
    (
      rw [pls_copy]
      refine cond_i (fun e => ?_) (fun e => ?_)
      · have e : v0_3 ≠ 0 := by simpa using e
        rcases i7 with ⟨_, i7⟩ | ⟨i7, _⟩
        · refine cond_i (fun q => leB ?_) (fun q => ?_)
          · rw [show simL (⟨m0, m1, m2, m3, m4, m5, m6, m7, m8, m9, m10, m11⟩ : TMod) (⟨s0, s1, s2⟩ : V3) l = [] from if_pos (by rw [← i7]; exact e)]; rfl
          · rw [i1, i7] at q; simp at q
        · exact (e i7).elim
      · have e : v0_3 = 0 := by simpa using e
        rcases i7 with ⟨i7, _⟩ | ⟨_, i8, i9, i10⟩
        · exact (i7 e).elim
        · have e2 : simE (⟨m0, m1, m2, m3, m4, m5, m6, m7, m8, m9, m10, m11⟩ : TMod) (⟨s0, s1, s2⟩ : V3) l = 0 := by rw [hE i8]; exact scan_end fun j hj => i9 j (by omega)
          have ek : k = l.length := by omega
          obtain ⟨f1, f2⟩ := fn2 i8
          obtain ⟨f3, f4⟩ := fn2 f1
          rw [unl_0 (by decide)] at f2
          have hlen : l.length ≤ 12 := by have := of_decide_eq_true f2; omega
          have hz : ∀ j, j < l.length → simAt (⟨m0, m1, m2, m3, m4, m5, m6, m7, m8, m9, m10, m11⟩ : TMod) (⟨s0, s1, s2⟩ : V3) (plAt l j) = 0 := fun j hj => i9 j (by omega)
          have eL : simL (⟨m0, m1, m2, m3, m4, m5, m6, m7, m8, m9, m10, m11⟩ : TMod) (⟨s0, s1, s2⟩ : V3) l = l.map (hitOf (⟨m0, m1, m2, m3, m4, m5, m6, m7, m8, m9, m10, m11⟩ : TMod) (⟨s0, s1, s2⟩ : V3)) := if_neg (by rw [e2]; simp)
          have ew : v0_0 = (l.map (hitOf (⟨m0, m1, m2, m3, m4, m5, m6, m7, m8, m9, m10, m11⟩ : TMod) (⟨s0, s1, s2⟩ : V3))).map hitCv := by rw [i10, ek, List.take_length]
          have ewl : v0_0.length = (l.map (hitOf (⟨m0, m1, m2, m3, m4, m5, m6, m7, m8, m9, m10, m11⟩ : TMod) (⟨s0, s1, s2⟩ : V3))).length := by rw [ew]; simp
          have ewn : numsP 5 v0_0.length (genC v0_0) := by rw [ewl, ew]; exact numsP_hg _
          have ewc : listC v0_0.length mkHit (genC v0_0) = l.map (hitOf (⟨m0, m1, m2, m3, m4, m5, m6, m7, m8, m9, m10, m11⟩ : TMod) (⟨s0, s1, s2⟩ : V3)) := by rw [ewl, ew]; exact hg_listC _
          rw [ewc, eL, hits_listC]
          refine cond_i (fun q => ?_) (fun q => ⟨⟨numsP_hits _, ewn, by simp; omega⟩, cond_i (fun q2 => ?_) (fun q2 => ⟨ewn, cond_i (fun q3 => leB ?_) (fun q3 => ?_)⟩)⟩)
          · rw [i1, e2] at q; simp at q
          · simp at q2
          · rw [if_pos (by simpa using q3), sim_score f3 f4 hz]; rfl
          · rw [sim_hits hlen f1 hz] at q3; simp at q3)
theorem zero_law05_TrackSimulated_0 (m0 m1 m2 m3 m4 m5 m6 m7 m8 m9 m10 m11 : Int) (s0 s1 s2 : Int) (l : List V3) (v0_0 : List (List CV)) (v0_1 : Int) (v0_2 : Int) (v0_3 : Int)  (hi : v0_2 = simE (⟨m0, m1, m2, m3, m4, m5, m6, m7, m8, m9, m10, m11⟩ : TMod) (⟨s0, s1, s2⟩ : V3) l ∧ l.length ≤ 14 ∧ 0 ≤ v0_1 ∧ v0_1 ≤ l.length ∧ (0 : Int) + v0_1 = l.length + 1 ∧ (v0_0.length : Int) ≤ v0_1 ∧ ((v0_3 ≠ 0 ∧ v0_3 = simE (⟨m0, m1, m2, m3, m4, m5, m6, m7, m8, m9, m10, m11⟩ : TMod) (⟨s0, s1, s2⟩ : V3) l) ∨ (v0_3 = 0 ∧ firstNZ [(⟨m0, m1, m2, m3, m4, m5, m6, m7, m8, m9, m10, m11⟩ : TMod).both (⟨s0, s1, s2⟩ : V3), unl (decide (((l.length : Nat) : Int) ≤ (12 : Int))) (8 : Int)] = 0 ∧ (∀ j : Nat, (j : Int) < v0_1 → simAt (⟨m0, m1, m2, m3, m4, m5, m6, m7, m8, m9, m10, m11⟩ : TMod) (⟨s0, s1, s2⟩ : V3) (plAt l j) = 0) ∧ v0_0 = ((l.take v0_1.toNat).map (hitOf (⟨m0, m1, m2, m3, m4, m5, m6, m7, m8, m9, m10, m11⟩ : TMod) (⟨s0, s1, s2⟩ : V3))).map hitCv))) : False := by
  omega
set_option maxHeartbeats 8000000 in
set_option maxRecDepth 100000 in
theorem spec_law05_TrackSimulated (m0 m1 m2 m3 m4 m5 m6 m7 m8 m9 m10 m11 : Int) (s0 s1 s2 : Int) (l : List V3) : vc_law05_TrackSimulated (J_law05_TrackSimulated m0 m1 m2 m3 m4 m5 m6 m7 m8 m9 m10 m11 s0 s1 s2 l) m0 m1 m2 m3 m4 m5 m6 m7 m8 m9 m10 m11 s0 s1 s2 l (fun r => LeD r (.t (.c (.v (.bool true))))) := by
  unfold vc_law05_TrackSimulated
  rw [pls_copy]
  refine cond_i (fun h => LeD.refl _) (fun h => ⟨?_, lt_i fun x hx => ⟨pls_copyN l, cond_i (fun e => cond_i (fun q => ?_) (fun q => ?_)) (fun e => ⟨rfl, ?_⟩)⟩⟩)
  · have h := of_decide_eq_false h
    unfold roomP maxLen; simp; omega
  all_goals
    have h := of_decide_eq_false h
    refine ⟨l.length + 1, [], 0, x, _, rfl, hx.symm, by omega, by omega, by omega, by omega, by simp, ?_⟩
  · have q := of_decide_eq_true q
    have e : (⟨m0, m1, m2, m3, m4, m5, m6, m7, m8, m9, m10, m11⟩ : TMod).both (⟨s0, s1, s2⟩ : V3) = 0 := by simpa using e
    left
    refine ⟨by decide, ?_⟩
    have e3 : firstNZ [(⟨m0, m1, m2, m3, m4, m5, m6, m7, m8, m9, m10, m11⟩ : TMod).both (⟨s0, s1, s2⟩ : V3), unl (decide (((l.length : Nat) : Int) ≤ (12 : Int))) (8 : Int)] = 8 := by rw [e, decide_eq_false (by omega)]; rfl
    unfold simE
    rw [e3]; rfl
  · have q := of_decide_eq_false q
    have e : (⟨m0, m1, m2, m3, m4, m5, m6, m7, m8, m9, m10, m11⟩ : TMod).both (⟨s0, s1, s2⟩ : V3) = 0 := by simpa using e
    right
    exact ⟨e, by rw [e, decide_eq_true (by omega)]; rfl, fun j hj => by omega, rfl⟩
  · have e : (⟨m0, m1, m2, m3, m4, m5, m6, m7, m8, m9, m10, m11⟩ : TMod).both (⟨s0, s1, s2⟩ : V3) ≠ 0 := by simpa using e
    left
    refine ⟨e, ?_⟩
    have e3 : firstNZ [(⟨m0, m1, m2, m3, m4, m5, m6, m7, m8, m9, m10, m11⟩ : TMod).both (⟨s0, s1, s2⟩ : V3), unl (decide (((l.length : Nat) : Int) ≤ (12 : Int))) (8 : Int)] = (⟨m0, m1, m2, m3, m4, m5, m6, m7, m8, m9, m10, m11⟩ : TMod).both (⟨s0, s1, s2⟩ : V3) := by simp [firstNZ, e]
    unfold simE
    rw [e3, if_pos e]
theorem all_law05_TrackSimulated (m0 m1 m2 m3 m4 m5 m6 m7 m8 m9 m10 m11 : Int) (s0 s1 s2 : Int) (l : List V3) : AllG (J_law05_TrackSimulated m0 m1 m2 m3 m4 m5 m6 m7 m8 m9 m10 m11 s0 s1 s2 l) (loopsFn Try.prog tab S40 ann_law05_TrackSimulated (J_law05_TrackSimulated m0 m1 m2 m3 m4 m5 m6 m7 m8 m9 m10 m11 s0 s1 s2 l) Try.f7 (fun r => LeD r (.t (.c (.v (.bool true)))))) := by
  rw [lp_law05_TrackSimulated]
  refine ⟨⟨?_, ?_⟩, trivial⟩
  · intro F s h
    obtain _ | ⟨g, F⟩ := F
    case cons => exact h.elim
    obtain ⟨w0, w1, w2, w3, rfl, hi⟩ := h
    exact zero_law05_TrackSimulated_0 _ _ _ _ _ _ _ _ _ _ _ _ _ _ _ _ _ _ _ _ hi
  · intro n F s h
    obtain _ | ⟨g, F⟩ := F
    case cons => exact h.elim
    obtain ⟨w0, w1, w2, w3, rfl, hi⟩ := h
    rw [er_law05_TrackSimulated_0]
    exact rnd_law05_TrackSimulated_0 _ _ _ _ _ _ _ _ _ _ _ _ _ _ _ _ _ _ _ _ _ hi
theorem law_law05_TrackSimulated (m0 m1 m2 m3 m4 m5 m6 m7 m8 m9 m10 m11 : Int) (s0 s1 s2 : Int) (l : List V3) (W : World) (N : Nat → Prop) (vs : List Value) (h : All2 (RelD (RelF W N)) [.t (.a [.v (.int .i64 m0), .v (.int .i64 m1), .v (.int .i64 m2), .v (.int .i64 m3), .v (.int .i64 m4), .v (.int .i64 m5), .v (.int .i64 m6), .v (.int .i64 m7), .v (.int .i64 m8), .v (.int .i64 m9), .v (.int .i64 m10), .v (.int .i64 m11)]), .t (.a [.v (.int .i64 s0), .v (.int .i64 s1), .v (.int .i64 s2)]), .t (.c (.sl 3 l.length (plsC l)))] vs) : Calls Try.prog 7 vs.toArray W fun e w' => e = .returned (.bool true) ∧ Below W.heap.size W w' :=
  law_end (fn_sound mixed tabOK VS40 (ann := ann_law05_TrackSimulated) ValidIt.no (fn := Try.f7) (J := J_law05_TrackSimulated m0 m1 m2 m3 m4 m5 m6 m7 m8 m9 m10 m11 s0 s1 s2 l) (by kernel_rfl) fit_law05_TrackSimulated (args := [.t (.a [.v (.int .i64 m0), .v (.int .i64 m1), .v (.int .i64 m2), .v (.int .i64 m3), .v (.int .i64 m4), .v (.int .i64 m5), .v (.int .i64 m6), .v (.int .i64 m7), .v (.int .i64 m8), .v (.int .i64 m9), .v (.int .i64 m10), .v (.int .i64 m11)]), .t (.a [.v (.int .i64 s0), .v (.int .i64 s1), .v (.int .i64 s2)]), .t (.c (.sl 3 l.length (plsC l)))]) (post := (fun r => LeD r (.t (.c (.v (.bool true)))))) (by rw [ev_law05_TrackSimulated]; exact spec_law05_TrackSimulated m0 m1 m2 m3 m4 m5 m6 m7 m8 m9 m10 m11 s0 s1 s2 l) (all_law05_TrackSimulated m0 m1 m2 m3 m4 m5 m6 m7 m8 m9 m10 m11 s0 s1 s2 l) (Nat.le_of_ble_eq_true (by kernel_rfl)) W N vs h)
end Go.Proofs.Ytlmdmpjfehpjeaa

/- Tracks: the law of simulated hits, for each input. -/
set_option linter.unusedVariables false
set_option linter.unusedSimpArgs false
namespace Go.Proofs.Ytlmdmpjfehpjeaa
open Go.RowKit Ev

def plCell (p : V3) (j : Nat) : Value := match j with
  | 0 => .int .i64 p.x
  | 1 => .int .i64 p.y
  | _ => .int .i64 p.z
def PlsAt (w : World) (v : Value) (l : List V3) : Prop := SlAt w v l.length 3 fun i j => plCell (plAt l i) j
section
variable {H : Type} {enc : TypeId × Value → H} {w : World} {base : Nat} {spare : Nat → Bool} {held : Bool}
set_option maxRecDepth 100000 in
theorem pls_of_trod {fuel : Nat} {v : Value} {x : DataW H × List MemPlace} (h : DataW.trod enc Try.prog w base spare held fuel 87 [v] = some x) : ∃ l, PlsAt w v l := by
  obtain ⟨n, css, h1, h2⟩ := slAt_of_trod (sz := 3) Try.underlying87 (by kernel_rfl) (by omega) h
  have each : ∀ i, i < n → ∃ x : V3, ∀ j, j < 3 → (css i).getD j undef = plCell x j := by
    intro i hi
    obtain ⟨hl, m, y, hy⟩ := h2 i hi
    have hc := cells_of_trod 4 22 m _ _ (by kernel_rfl) hy
    have hn : Try.prog.cellsOf 22 = 3 := by kernel_rfl
    rw [hn] at hc
    obtain ⟨n0, e0, _⟩ := hc 0 (by omega)
    obtain ⟨n1, e1, _⟩ := hc 1 (by omega)
    obtain ⟨n2, e2, _⟩ := hc 2 (by omega)
    refine ⟨⟨n0, n1, n2⟩, fun j hj => ?_⟩
    rcases (by omega : j = 0 ∨ j = 1 ∨ j = 2) with rfl | rfl | rfl
    · simp only [List.getD, e0, Option.getD_some]; rfl
    · simp only [List.getD, e1, Option.getD_some]; rfl
    · simp only [List.getD, e2, Option.getD_some]; rfl
  obtain ⟨l, hl, hr⟩ := list_of (⟨0, 0, 0⟩ : V3) n each
  refine ⟨l, ?_⟩
  unfold PlsAt
  rw [hl]
  exact h1.congr fun i j hi hj => hr i hi j hj
end
theorem pls_rel {l : List V3} {v : Value} {W : World} (h : PlsAt W v l) : RelF W (fun _ => True) (.sl 3 l.length (plsC l)) v := by
  refine SlAt_sl h (fun _ _ => trivial) fun i j hi hj => ?_
  rcases (by omega : j = 0 ∨ j = 1 ∨ j = 2) with rfl | rfl | rfl <;> exact ⟨rfl, rfl⟩
theorem law_TrackSimulated (m : TMod) (s : V3) (l : List V3) (v : Value) (W : World) (h : PlsAt W v l) :
    Calls Try.prog 7 #[m.v, s.v, v] W fun e w' => e = .returned (.bool true) ∧ Below W.heap.size W w' := by
  obtain ⟨m0, m1, m2, m3, m4, m5, m6, m7, m8, m9, m10, m11⟩ := m
  obtain ⟨s0, s1, s2⟩ := s
  exact law_law05_TrackSimulated m0 m1 m2 m3 m4 m5 m6 m7 m8 m9 m10 m11 s0 s1 s2 l W (fun _ => True) [TMod.v ⟨m0, m1, m2, m3, m4, m5, m6, m7, m8, m9, m10, m11⟩, V3.v ⟨s0, s1, s2⟩, v] ⟨dvV_rel rfl, dvV_rel rfl, pls_rel h, trivial⟩
end Go.Proofs.Ytlmdmpjfehpjeaa
