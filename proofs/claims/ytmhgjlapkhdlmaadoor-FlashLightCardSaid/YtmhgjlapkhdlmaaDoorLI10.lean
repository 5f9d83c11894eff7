/- Texts of this claim, together. -/
import Derived.Test.YtmhgjlapkhdlmaaDoorLI9

set_option linter.unusedVariables false
set_option linter.unusedSimpArgs false
namespace Go.Proofs.YtmhgjlapkhdlmaaDoor
open Go.RowKit Ev
def dsF (p : P3) (h : FHit) : Int := rt (sqD p h.p)
theorem dsF_rg {p : P3} {h : FHit} (hp : p.bd 15000) (hh : h.p.bd 15000) : 0 ≤ dsF p h ∧ dsF p h ≤ 100000 := by
 have g := sqD_rg hp hh
 obtain ⟨g1, g2, g3, g4⟩ := rt_spec (n := sqD p h.p) (by omega) (by omega)
 refine ⟨g1, ?_⟩
 unfold dsF
 rcases Int.le_total (rt (sqD p h.p)) 100000 with h1 | h1
 ·exact h1
 ·have := Int.mul_le_mul h1 h1 (by decide) (by omega); omega
def fitB (t : List Knot) (p : P3) (e : Int) (h : FHit) : Bool := decide (lgtE t (dsF p h) e = 0) && (decide ((lgtV t (dsF p h) e).lo ≤ h.c.hi) && decide ((lgtV t (dsF p h) e).hi ≥ h.c.lo))
def fitsB (t : List Knot) (l : List FHit) (p : P3) (e : Int) : Bool := l.all (fitB t p e)
def okH (l : List FHit) : Prop := 0 < l.length ∧ l.length ≤ 8 ∧ ∀ h ∈ l, h.err = 0
theorem okH_iff {l : List FHit} : hitsE l = 0 ↔ okH l := by
 constructor
 ·intro h
  obtain ⟨⟨h1, h2⟩, h3⟩ := hitsE_ok h
  refine ⟨h1, h2, fun x hx => ?_⟩
  obtain ⟨i, hi, rfl⟩ := List.getElem_of_mem hx
  have := h3 i hi
  rwa [show hitAt l i = l[i] by simp [hitAt, List.getD, hi]] at this
 ·rintro ⟨h1, h2, h3⟩
  unfold hitsE
  have hc : cntE l.length 8 = 0 := by unfold cntE; rw [decide_eq_true (show (l.length : Int) > 0 by omega), decide_eq_true (show (l.length : Int) ≤ 8 by omega)]; rfl
  rw [if_pos hc]
  exact scan_end fun i hi => by rw [show hitAt l i = l[i] by simp [hitAt, List.getD, hi]]; exact h3 _ (List.getElem_mem hi)
theorem lgt_in {t : List Knot} {x e : Int} (ht : tabE t = 0) (hx : 0 ≤ x ∧ x ≤ 100000) (he : 0 ≤ e ∧ e ≤ 100000) : lgtE t x e = 0 ∧ lgtV t x e = lgtR t x e := by
 have e1 : lgtE t x e = 0 := by unfold lgtE; rw [ht, inB_true.2 hx, inB_true.2 he]; rfl
 exact ⟨e1, if_pos e1⟩
theorem lgtR_rg {t : List Knot} {x e : Int} (ht : tabE t = 0) (he : 0 ≤ e ∧ e ≤ 50000) : 0 ≤ (lgtR t x e).lo ∧ (lgtR t x e).lo ≤ (lgtR t x e).hi ∧ (lgtR t x e).hi ≤ (lgtR t x e).lo + 1 ∧ (lgtR t x e).hi ≤ 500000 := by
 have yr := yld_rg ht x
 have m1 := Int.mul_nonneg (a := e) (b := yldF x t) he.1 yr.1
 have m2 := Int.mul_le_mul (a := e) (b := yldF x t) (c := 50000) (d := 10000) he.2 yr.2 yr.1 (by decide)
 unfold lgtR
 simp only
 generalize e * yldF x t = m at *
 omega
theorem comm_iff : ∀ {l : List Rg} {e : Int}, 0 < l.length → ((comm l).lo ≤ e ∧ e ≤ (comm l).hi ↔ ∀ g ∈ l, g.lo ≤ e ∧ e ≤ g.hi) := by
 have key : ∀ (l : List Rg) (a : Rg) (e : Int), ((l.foldl meetR a).lo ≤ e ∧ e ≤ (l.foldl meetR a).hi ↔ (a.lo ≤ e ∧ e ≤ a.hi) ∧ ∀ g ∈ l, g.lo ≤ e ∧ e ≤ g.hi) := by
  intro l
  induction l with
  | nil => intro a e; simp
  | cons g l ih =>
   intro a e
   rw [List.foldl_cons, ih]
   simp only [List.mem_cons, forall_eq_or_imp]
   have : ((meetR a g).lo ≤ e ∧ e ≤ (meetR a g).hi) ↔ (a.lo ≤ e ∧ e ≤ a.hi) ∧ g.lo ≤ e ∧ e ≤ g.hi := by
    show (max a.lo g.lo ≤ e ∧ e ≤ min a.hi g.hi) ↔ _
    omega
   rw [this, and_assoc]
 intro l e h0
 cases l with
 | nil => simp at h0
 | cons g l =>
  have := key l g e
  simp only [List.mem_cons, forall_eq_or_imp]
  exact this
theorem fits_iff {t : List Knot} {l : List FHit} {p : P3} {e : Int} (ht : tabE t = 0) (hl : okH l) (hp : p.bd 15000) (he : 0 ≤ e ∧ e ≤ 100000) : fitsB t l p e = true ↔ (engR t l p).lo ≤ e ∧ e ≤ (engR t l p).hi := by
 unfold engR
 rw [comm_iff (by rw [List.length_map]; exact hl.1)]
 unfold fitsB
 rw [List.all_eq_true]
 simp only [List.mem_map, forall_exists_index, and_imp, forall_apply_eq_imp_iff₂]
 refine forall_congr' fun h => forall_congr' fun hh => ?_
 obtain ⟨b1, _, b3⟩ := hit_ok (hl.2.2 h hh)
 have yr := yld_rg ht (dsF p h)
 obtain ⟨l1, l2⟩ := lgt_in ht (dsF_rg hp (b1.mono (B := 15000) (by decide))) he
 unfold fitB
 rw [l1, l2]
 simp only [Bool.and_eq_true, decide_eq_true_eq, true_and]
 have k1 := fit_lo (c := h.c) yr.1 b3.1 he
 have k2 := fit_hi (c := h.c) yr.1 (show 0 ≤ h.c.hi by omega) he
 show (e * yldF (dsF p h) t / 1000 ≤ h.c.hi ∧ (e * yldF (dsF p h) t + 999) / 1000 ≥ h.c.lo) ↔ (fitG h.c (yldF (dsF p h) t)).lo ≤ e ∧ e ≤ (fitG h.c (yldF (dsF p h) t)).hi
 rw [k1]
 have k3 : e * yldF (dsF p h) t / 1000 ≤ h.c.hi ↔ e ≤ (fitG h.c (yldF (dsF p h) t)).hi := by
  rw [← Int.not_lt, ← Int.not_lt]
  exact not_congr k2
 rw [k3]
 omega
def owH (t : List Knot) (p : P3) (u : Int) (h : FHit) : FHit := ⟨h.p, h.t, ⟨(lgtR t (dsF p h) u).lo, (lgtR t (dsF p h) u).hi + mdF h.c.hi 3⟩⟩
def wiH (t : List Knot) (p : P3) (u : Int) (h : FHit) : FHit := ⟨h.p, h.t, ⟨max 0 ((lgtR t (dsF p h) u).lo - 5), (lgtR t (dsF p h) u).hi + mdF h.c.hi 3 + 5⟩⟩
theorem mdF_3 (a : Int) : 0 ≤ mdF a 3 ∧ mdF a 3 < 3 := by
 have h1 := Int.tmod_lt_of_pos a (show (0 : Int) < 3 by decide)
 have h2 : -3 < Int.tmod a 3 := by
  have := Int.tmod_lt_of_pos (-a) (show (0 : Int) < 3 by decide)
  rw [Int.neg_tmod] at this
  omega
 unfold mdF
 split
 ·rw [wi (by omega)]; omega
 ·omega
theorem err_c {h : FHit} {c : Rg} (e : h.err = 0) (hc : 0 ≤ c.lo ∧ c.lo ≤ c.hi ∧ c.hi ≤ 1000000) : (⟨h.p, h.t, c⟩ : FHit).err = 0 := by
 obtain ⟨b1, b2, b3⟩ := hit_ok e
 unfold FHit.err rgIn rgE
 simp only
 rw [posE_0.2 b1, (unl_0 (by decide)).2 (show (inB h.t.lo 0 1000000000 && inB h.t.hi 0 1000000000 && (inB c.lo 0 1000000 && inB c.hi 0 1000000)) = true by simp only [Bool.and_eq_true, inB_true]; omega), (unl_0 (by decide)).2 (decide_eq_true b2.2.1), (unl_0 (by decide)).2 (decide_eq_true hc.2.1)]
 rfl
theorem ow_ok {t : List Knot} {p : P3} {u : Int} {l : List FHit} (ht : tabE t = 0) (hu : 0 ≤ u ∧ u ≤ 50000) (hl : okH l) : okH (l.map (owH t p u)) ∧ okH (l.map (wiH t p u)) := by
 refine ⟨⟨by rw [List.length_map]; exact hl.1, by rw [List.length_map]; exact hl.2.1, fun x hx => ?_⟩, ⟨by rw [List.length_map]; exact hl.1, by rw [List.length_map]; exact hl.2.1, fun x hx => ?_⟩⟩
 all_goals
  obtain ⟨h, hh, rfl⟩ := List.mem_map.1 hx
  have r := lgtR_rg (x := dsF p h) ht hu
  have m := mdF_3 h.c.hi
  exact err_c (hl.2.2 h hh) (by simp only; omega)
theorem ow_fits {t : List Knot} {p : P3} {u : Int} {l : List FHit} (ht : tabE t = 0) (hu : 0 ≤ u ∧ u ≤ 50000) (hp : p.bd 15000) (hl : okH l) : fitsB t (l.map (owH t p u)) p u = true ∧ ∀ e, fitsB t (l.map (owH t p u)) p e = true → fitsB t (l.map (wiH t p u)) p e = true := by
 refine ⟨?_, fun e he => ?_⟩
 ·unfold fitsB
  rw [List.all_map, List.all_eq_true]
  intro h hh
  obtain ⟨b1, _, b3⟩ := hit_ok (hl.2.2 h hh)
  obtain ⟨l1, l2⟩ := lgt_in (e := u) ht (dsF_rg hp (b1.mono (B := 15000) (by decide))) (by omega)
  have r := lgtR_rg (x := dsF p h) ht hu
  have m := mdF_3 h.c.hi
  show fitB t p u (owH t p u h) = true
  unfold fitB
  rw [show dsF p (owH t p u h) = dsF p h from rfl, l1, l2]
  unfold owH
  simp only [Bool.and_eq_true, decide_eq_true_eq]
  refine ⟨trivial, ?_, ?_⟩ <;> omega
 ·unfold fitsB at *
  rw [List.all_map, List.all_eq_true] at *
  intro h hh
  have k := he h hh
  have m := mdF_3 h.c.hi
  have r := lgtR_rg (x := dsF p h) ht hu
  have k : fitB t p e (owH t p u h) = true := k
  show fitB t p e (wiH t p u h) = true
  unfold fitB at *
  rw [show dsF p (owH t p u h) = dsF p h from rfl] at k
  rw [show dsF p (wiH t p u h) = dsF p h from rfl]
  unfold owH at k
  unfold wiH
  simp only [Bool.and_eq_true, decide_eq_true_eq] at *
  omega
theorem light_law {t : List Knot} {p : P3} {u : Int} {l : List FHit} (ht : tabE t = 0) (hu : 0 ≤ u ∧ u ≤ 50000) (hq : posE p = 0) (hl : okH l) :
  (engE t (l.map (owH t p u)) p = 0 ∧ engE t (l.map (wiH t p u)) p = 0) ∧ ∃ r w : Rg, engV t (l.map (owH t p u)) p = r ∧ engV t (l.map (wiH t p u)) p = w ∧ (r.lo ≤ u ∧ u ≤ r.hi) ∧ (w.lo ≤ r.lo ∧ r.hi ≤ w.hi) ∧ (0 ≤ r.lo ∧ r.hi ≤ 100000) ∧
   ∀ e, 0 ≤ e → e ≤ 100000 → fitsB t (l.map (owH t p u)) p e = decide (r.lo ≤ e ∧ e ≤ r.hi) := by
 have hp := (posE_0.1 hq).mono (B := 15000) (by decide)
 obtain ⟨o1, o2⟩ := ow_ok (p := p) ht hu hl
 obtain ⟨f1, f2⟩ := ow_fits ht hu hp hl
 have i1 := fun e he => fits_iff (e := e) ht o1 hp he
 have i2 := fun e he => fits_iff (e := e) ht o2 hp he
 have u1 := (i1 u (by omega)).1 f1
 have u2 := (i2 u (by omega)).1 (f2 u f1)
 have e0 : ∀ L : List FHit, okH L → (engR t L p).lo ≤ u ∧ u ≤ (engR t L p).hi → engE t L p = 0 := fun L hL h => by
  have : engE0 t L p = 0 := by unfold engE0; rw [ht, okH_iff.2 hL, hq]; rfl
  rw [show engE t L p = _ from if_pos this, (unl_0 (by decide)).2 (decide_eq_true (by omega))]
 have g : ∀ L : List FHit, okH L → (engR t L p).hi ≤ 100000 ∧ 0 ≤ (engR t L p).lo := fun L hL => by
  refine comm_hi (by rw [List.length_map]; exact hL.1) fun g hg => ?_
  obtain ⟨x, hx, rfl⟩ := List.mem_map.1 hg
  obtain ⟨_, _, b3⟩ := hit_ok (hL.2.2 x hx)
  have := fitG_rg (c := x.c) (yld_rg ht (rt (sqD p x.p))).1 b3.1 (by omega)
  exact ⟨this.1, this.2.2⟩
 have g1 := g _ o1
 have z1 := e0 _ o1 u1
 have z2 := e0 _ o2 u2
 refine ⟨⟨z1, z2⟩, engR t (l.map (owH t p u)) p, engR t (l.map (wiH t p u)) p, if_pos z1, if_pos z2, u1, ?_, by omega, fun e h0 h1 => ?_⟩
 ·have a1 := (i2 _ (by omega)).1 (f2 _ ((i1 (engR t (l.map (owH t p u)) p).lo (by omega)).2 (by omega)))
  have a2 := (i2 _ (by omega)).1 (f2 _ ((i1 (engR t (l.map (owH t p u)) p).hi (by omega)).2 (by omega)))
  omega
 ·rw [Bool.eq_iff_iff, decide_eq_true_eq]
  exact i1 e ⟨h0, h1⟩
theorem set_next {g : FHit → FHit} {l : List FHit} {k : Nat} (hk : k < l.length) : (((l.take k).map g ++ l.drop k).map hitCv).set k (hitCv (g (hitAt l k))) = ((l.take (k + 1)).map g ++ l.drop (k + 1)).map hitCv := by
 have e : l.drop k = hitAt l k :: l.drop (k + 1) := by rw [List.drop_eq_getElem_cons hk]; simp [hitAt, List.getD, hk]
 have hl : (((l.take k).map g).map hitCv).length = k := by rw [List.length_map, List.length_map, List.length_take]; omega
 rw [List.map_append, List.set_append_right _ _ (by omega), hl, Nat.sub_self, e, List.map_cons, List.set_cons_zero, hitAt_take hk]
 simp
theorem get_next {g : FHit → FHit} {l : List FHit} {k : Nat} (hk : k < l.length) : (((l.take k).map g ++ l.drop k).map hitCv).getD k [] = hitCv (hitAt l k) := by
 have hl : ((l.take k).map g).length = k := by rw [List.length_map, List.length_take]; omega
 rw [List.getD_eq_getElem?_getD, List.getElem?_map, List.getElem?_append_right (by omega), hl, Nat.sub_self, List.getElem?_drop, Nat.add_zero]
 simp [hitAt, List.getD, hk]
theorem put_c (h : FHit) (a b : Int) : put (hitCv h) 5 [.v (.int .i64 a), .v (.int .i64 b)] = hitCv ⟨h.p, h.t, ⟨a, b⟩⟩ := rfl
theorem get_set {L : List (List CV)} {k : Nat} {x : List CV} (hk : k < L.length) (j : Nat) : genC (L.set k x) k j = x.getD j (.v (.bool false)) := by
 unfold genC
 have e : (L.set k x).getD k [] = x := by rw [List.getD_eq_getElem?_getD, List.getElem?_set_self hk]; rfl
 rw [e]
theorem next_len {g : FHit → FHit} {l : List FHit} {k : Nat} : (((l.take k).map g ++ l.drop k).map hitCv).length = l.length := by
 simp only [List.length_map, List.length_append, List.length_take, List.length_drop]; omega
end Go.Proofs.YtmhgjlapkhdlmaaDoor
set_option linter.unusedVariables false
set_option linter.unusedSimpArgs false
namespace Go.Proofs.YtmhgjlapkhdlmaaDoor
open Go.RowKit Ev
def vc_law06_distance (a0 a1 a2 : Int) (b0 b1 b2 : Int) (post : DV → Prop) : Prop := lt (IntKind.i64.wrap (a0 - b0)) fun x1 => lt (IntKind.i64.wrap (a1 - b1)) fun x2 => lt (IntKind.i64.wrap (a2 - b2)) fun x3 => lt (IntKind.i64.wrap (x1 * x1)) fun x4 => lt (IntKind.i64.wrap (x2 * x2)) fun x5 => lt (IntKind.i64.wrap (x4 + x5)) fun x6 => lt (IntKind.i64.wrap (x3 * x3)) fun x7 => lt (IntKind.i64.wrap (x6 + x7)) fun x8 => post (.t (.c (.v (.int .i64 x8))))
def ann_law06_distance : Ann := ⟨fun r => lookA r [(1, ([[], [0], [], [2], [0, 1, 2, 3], [], [5], [], [7], [5, 6, 7, 8], [], [10], [], [12], [10, 11, 12, 13], [0, 1, 2, 3, 4], [0, 1, 2, 3, 4, 5, 6, 7, 8, 9, 15], [0, 1, 2, 3, 4, 5, 6, 7, 8, 9, 10, 11, 12, 13, 14, 15, 16]], [[], [], [], [], [], [], [], [], [], [], [], [], [], [], [], [], [], []]))], fun _ => none, fun _ => [], noIt, false, fun _ => none, fun _ => none⟩
theorem ev_law06_distance (J : Inv) (a0 a1 a2 : Int) (b0 b1 b2 : Int) (post : DV → Prop) : evFn Tryd.prog tab Su120 ann_law06_distance J Tryd.f63 [.t (.a [.v (.int .i64 a0), .v (.int .i64 a1), .v (.int .i64 a2)]), .t (.a [.v (.int .i64 b0), .v (.int .i64 b1), .v (.int .i64 b2)])] post = vc_law06_distance a0 a1 a2 b0 b1 b2 post := by kernel_rfl
theorem fit_law06_distance : okFn ann_law06_distance Tryd.f63 = true := by kernel_rfl
theorem lp_law06_distance (J : Inv) (post : DV → Prop) : AllG J (loopsFn Tryd.prog tab Su120 ann_law06_distance J Tryd.f63 post) = (True) := by kernel_rfl
theorem spec_law06_distance (a0 a1 a2 : Int) (b0 b1 b2 : Int) (hp : ((⟨a0, a1, a2⟩ : P3)).bd 15000 ∧ ((⟨b0, b1, b2⟩ : P3)).bd 15000) : vc_law06_distance a0 a1 a2 b0 b1 b2 (fun r => LeD r (.t (.c (.v (.int .i64 (sqD (⟨a0, a1, a2⟩ : P3) (⟨b0, b1, b2⟩ : P3))))))) := by
 obtain ⟨⟨u1, u2, u3⟩, w1, w2, w3⟩ := hp
 simp only at u1 u2 u3 w1 w2 w3
 have q1 := sq_rg (d := a0 - b0) (K := 30000) (by omega)
 have q2 := sq_rg (d := a1 - b1) (K := 30000) (by omega)
 have q3 := sq_rg (d := a2 - b2) (K := 30000) (by omega)
 unfold vc_law06_distance
 refine lt_i fun x1 h1 => lt_i fun x2 h2 => lt_i fun x3 h3 => ?_
 rw [wi (by omega)] at h1 h2 h3
 subst h1 h2 h3
 refine lt_i fun x4 h4 => lt_i fun x5 h5 => lt_i fun x6 h6 => lt_i fun x7 h7 => lt_i fun x8 h8 => ?_
 rw [wi (by omega)] at h4 h5 h7
 subst h4 h5 h7
 rw [wi (by omega)] at h6
 subst h6
 rw [wi (by omega)] at h8
 subst h8
 exact LeD.refl _
def con_law06_distance : Con := fun args => match args with
 | [.t (.a [.v (.int .i64 a0), .v (.int .i64 a1), .v (.int .i64 a2)]), .t (.a [.v (.int .i64 b0), .v (.int .i64 b1), .v (.int .i64 b2)])] => some (.t (.c (.v (.int .i64 (sqD (⟨a0, a1, a2⟩ : P3) (⟨b0, b1, b2⟩ : P3))))), some (((⟨a0, a1, a2⟩ : P3)).bd 15000 ∧ ((⟨b0, b1, b2⟩ : P3)).bd 15000), false)
 | _ => none
theorem ok_law06_distance : Ok Tryd.prog 63 con_law06_distance := by
 refine Ok.fn (ann := ann_law06_distance) mixed tabOK VSu120 ValidIt.no (fn := Tryd.f63) (by kernel_rfl) (by kernel_rfl) fit_law06_distance fun args r pre fresh h hp => ?_
 unfold con_law06_distance at h
 split at h
 ·rename_i a0 a1 a2 b0 b1 b2
  cases h
  refine ⟨rfl, fun _ _ _ => False, _, LeA.refl _, Nat.le_of_ble_eq_true (by kernel_rfl), ?_, ?_⟩
  ·rw [ev_law06_distance]; exact spec_law06_distance a0 a1 a2 b0 b1 b2 hp
  ·rw [lp_law06_distance]; trivial
 ·cases h
noncomputable def Sw121 : Sum := addS Su120 63 con_law06_distance
theorem VSw121 : Valid Tryd.prog Sw121 := Valid.add VSu120 ok_law06_distance
def vc_ref06_TableErr (t : List Knot) (post : DV → Prop) : Prop := (numsP 2 t.length (knsC t)) ∧ (post (.t (.c (.v (.int .i64 (tabE (listC t.length mkKn (knsC t))))))))
def ann_ref06_TableErr : Ann := ⟨fun _ => none, fun _ => none, fun _ => [], noIt, false, fun _ => none, fun _ => none⟩
theorem ev_ref06_TableErr (J : Inv) (t : List Knot) (post : DV → Prop) : evFn Tryd.prog tab Sw121 ann_ref06_TableErr J Tryd.f61 [.t (.a [.sl 2 t.length (knsC t)])] post = vc_ref06_TableErr t post := by kernel_rfl
theorem fit_ref06_TableErr : okFn ann_ref06_TableErr Tryd.f61 = true := by kernel_rfl
theorem lp_ref06_TableErr (J : Inv) (post : DV → Prop) : AllG J (loopsFn Tryd.prog tab Sw121 ann_ref06_TableErr J Tryd.f61 post) = (True) := by kernel_rfl
theorem spec_ref06_TableErr (t : List Knot) : vc_ref06_TableErr t (fun r => LeD r (.t (.c (.v (.int .i64 (tabE t)))))) := by
 unfold vc_ref06_TableErr
 rw [kns_listC]
 exact ⟨numsP_kns t, LeD.refl _⟩
def con_ref06_TableErr : Con := fun args => match args with
 | [.t (.a [.sl 2 n_t c_t])] => some (.t (.c (.v (.int .i64 (tabE (listC n_t mkKn c_t))))), some (numsP 2 n_t c_t), false)
 | _ => none
theorem ok_ref06_TableErr : Ok Tryd.prog 61 con_ref06_TableErr := by
 refine Ok.fn (ann := ann_ref06_TableErr) mixed tabOK VSw121 ValidIt.no (fn := Tryd.f61) (by kernel_rfl) (by kernel_rfl) fit_ref06_TableErr fun args r pre fresh h hp => ?_
 unfold con_ref06_TableErr at h
 split at h
 ·rename_i n_t c_t
  cases h
  have hp0 := hp
  refine ⟨rfl, fun _ _ _ => False, [.t (.a [.sl 2 ((listC n_t mkKn c_t).length) (knsC (listC n_t mkKn c_t))])], ?_, Nat.le_of_ble_eq_true (by kernel_rfl), ?_, ?_⟩
  ·exact (LeA_cons (leT_a (LeCs.cons ((leL_Knot hp0)) LeCs.nil)) LeA_nil)
  ·rw [ev_ref06_TableErr]; exact spec_ref06_TableErr (listC n_t mkKn c_t)
  ·rw [lp_ref06_TableErr]; trivial
 ·cases h
noncomputable def Sw122 : Sum := addS Sw121 61 con_ref06_TableErr
theorem VSw122 : Valid Tryd.prog Sw122 := Valid.add VSw121 ok_ref06_TableErr
def mk_law06_fits_0 (t : List Knot) (l : List FHit) (p0 p1 p2 : Int) (u : Int) (v0_0 : Int) : DS := ⟨[none, some (.t (.c (.sl 7 l.length (hitsC l)))), none, some (.t (.c (.v (.int .i64 u)))), some (.t (.c (.p 4 0))), none, some (.t (.c (.p 6 0))), none, none, some (.t (.c (.v (.int .i64 v0_0)))), none, none, none, none, none, none, none, none, none, none, none, none, none, none, none, none, none, none, none, none, none, none, none, none, none, none, none, none, none, none, none, none, none, none, none, none, none, none, none, none, none, none, none, none, none, none, none], [none, none, none, none, some (.box 88 [.sl 2 t.length (knsC t)]), none, some (.box 24 [.v (.int .i64 p0), .v (.int .i64 p1), .v (.int .i64 p2)]), none, none, none, none, none, none, none, none, none, none, none, none, none, none, none, none, none, none, none, none, none, none, none, none, none, none, none, none, none, none, none, none, none, none, none, none, none, none, none, none, none, none, none, none, none, none, none, none, none, none]⟩
def vc_law06_fits (J : Inv) (t : List Knot) (l : List FHit) (p0 p1 p2 : Int) (u : Int) (post : DV → Prop) : Prop := ∃ n, J 0 (n :: []) (mk_law06_fits_0 t l p0 p1 p2 u 0)
def ann_law06_fits : Ann := ⟨fun r => lookA r [(4, ([[], [0], [], [], [], [3, 4], [3, 4, 5], [3, 4, 5, 6], [0, 1, 2, 3, 4, 5, 6, 7], [0, 1, 2, 3, 4, 5, 6, 7, 8], [], [0, 1, 2, 3, 4, 5, 6, 7, 8, 9, 10], [0, 1, 2, 3, 4, 5, 6, 7, 8, 9, 10, 11], [0, 1, 2, 3, 4, 5, 6, 7, 8, 9, 10, 11, 12], [0, 1, 2, 3, 4, 5, 6, 7, 8, 9, 10, 11, 12], [], [0, 1, 2, 3, 4, 5, 6, 7, 8, 9, 10, 11, 12, 13, 15], [0, 1, 2, 3, 4, 5, 6, 7, 8, 9, 10, 11, 12, 13, 14, 15, 16]], [[20, 27, 28, 30, 10], [27, 28, 30, 10], [20, 27, 28, 30, 10], [20, 27, 28, 30, 10], [20, 27, 28, 30, 10], [20, 27, 28, 30, 10], [20, 27, 28, 30, 10], [20, 27, 28, 30, 10], [28, 30, 10], [30, 10], [20, 27, 28, 30, 10], [10], [10], [10], [10], [20, 27, 28, 30], [], []])), (5, ([[], [0], [0, 1], [0, 1, 2], [0, 1, 2, 3], [0, 1, 2], [0, 1, 2], [0, 1, 2, 5, 6], [0, 1, 2, 5, 6, 7], [0, 1, 2, 5, 6, 7, 8], [0, 1, 2, 5, 6, 7, 8, 9], [0, 1, 2, 3, 4, 5, 6, 7, 8, 9, 10], [0, 1, 2, 3, 4, 5, 6, 7, 8, 9, 10, 11], [0, 1, 2, 3, 4, 5, 6, 7, 8, 9, 10, 11, 12], [0, 1, 2, 3, 4, 5, 6, 7, 8, 9, 10, 11, 12, 13], [0, 1, 2, 3, 4, 5, 6, 7, 8, 9, 10, 11, 12, 13, 14], [0, 1, 2, 3, 4, 5, 6, 7, 8, 9, 10, 11, 12, 13], [0, 1, 2, 3, 4, 5, 6, 7, 8, 9, 10, 11, 12, 13], [0, 1, 2, 3, 4, 5, 6, 7, 8, 9, 10, 11, 12, 13, 16, 17], [0, 1, 2, 3, 4, 5, 6, 7, 8, 9, 10, 11, 12, 13, 16, 17, 18], [0, 1, 2, 3, 4, 5, 6, 7, 8, 9, 10, 11, 12, 13, 16, 17, 18, 19], [0, 1, 2, 3, 4, 5, 6, 7, 8, 9, 10, 11, 12, 13, 16, 17, 18, 19, 20], [0, 1, 2, 3, 4, 5, 6, 7, 8, 9, 10, 11, 12, 13, 14, 15, 16, 17, 18, 19, 20, 21], [0, 1, 2, 3, 4, 5, 6, 7, 8, 9, 10, 11, 12, 13, 14, 15, 16, 17, 18, 19, 20, 21, 22]], [[], [], [], [], [], [], [], [], [], [], [], [], [], [], [], [], [], [], [], [], [], [], [], []]))], fun b => lookA b [(0, (none, some ⟨[1, 3, 4, 6, 9], [4, 6], []⟩))], fun _ => [], noIt, false, fun r => lookA r [(5, (3, [56]))], fun _ => none⟩
theorem ev_law06_fits (J : Inv) (t : List Knot) (l : List FHit) (p0 p1 p2 : Int) (u : Int) (post : DV → Prop) : evFn Tryd.prog tab Sw122 ann_law06_fits J Tryd.f64 [.t (.a [.sl 2 t.length (knsC t)]), .t (.c (.sl 7 l.length (hitsC l))), .t (.a [.v (.int .i64 p0), .v (.int .i64 p1), .v (.int .i64 p2)]), .t (.c (.v (.int .i64 u)))] post = vc_law06_fits J t l p0 p1 p2 u post := by kernel_rfl
theorem fit_law06_fits : okFn ann_law06_fits Tryd.f64 = true := by kernel_rfl
def rd_law06_fits_0 (J : Inv) (t : List Knot) (l : List FHit) (p0 p1 p2 : Int) (u : Int) (v0_0 : Int) (nn0 : Nat) (post : DV → Prop) : Prop := cond (decide (v0_0 < ((l.length : Nat) : Int))) ((numsP 2 t.length (knsC t) ∧ ((listC t.length mkKn (knsC t))).length ≤ 1000) ∧ ((0 ≤ v0_0 ∧ v0_0 < ((l.length : Nat) : Int)) ∧ ((((⟨p0, p1, p2⟩ : P3)).bd 15000 ∧ ((hitAt l v0_0.toNat).p).bd 15000) ∧ ((0 ≤ (sqD (⟨p0, p1, p2⟩ : P3) (hitAt l v0_0.toNat).p) ∧ (sqD (⟨p0, p1, p2⟩ : P3) (hitAt l v0_0.toNat).p) < 1099511627776) ∧ ((numsP 2 ((listC t.length mkKn (knsC t)).length) (knsC (listC t.length mkKn (knsC t)))) ∧ ((cond ((lgtE (listC ((listC t.length mkKn (knsC t)).length) mkKn (knsC (listC t.length mkKn (knsC t)))) (rt (sqD (⟨p0, p1, p2⟩ : P3) (hitAt l v0_0.toNat).p)) u) != (0 : Int)) ((true = true) ∧ ((true = true) ∧ (True))) ((0 ≤ v0_0 ∧ v0_0 < ((l.length : Nat) : Int)) ∧ (cond (decide (((lgtV (listC ((listC t.length mkKn (knsC t)).length) mkKn (knsC (listC t.length mkKn (knsC t)))) (rt (sqD (⟨p0, p1, p2⟩ : P3) (hitAt l v0_0.toNat).p)) u).lo) > ((hitAt l v0_0.toNat).c.hi))) ((true = true) ∧ (True)) ((0 ≤ v0_0 ∧ v0_0 < ((l.length : Nat) : Int)) ∧ (True))))) ∧ (lt ((bif ((lgtE (listC ((listC t.length mkKn (knsC t)).length) mkKn (knsC (listC t.length mkKn (knsC t)))) (rt (sqD (⟨p0, p1, p2⟩ : P3) (hitAt l v0_0.toNat).p)) u) != (0 : Int)) then true else (bif decide (((lgtV (listC ((listC t.length mkKn (knsC t)).length) mkKn (knsC (listC t.length mkKn (knsC t)))) (rt (sqD (⟨p0, p1, p2⟩ : P3) (hitAt l v0_0.toNat).p)) u).lo) > ((hitAt l v0_0.toNat).c.hi)) then true else decide (((lgtV (listC ((listC t.length mkKn (knsC t)).length) mkKn (knsC (listC t.length mkKn (knsC t)))) (rt (sqD (⟨p0, p1, p2⟩ : P3) (hitAt l v0_0.toNat).p)) u).hi) < ((hitAt l v0_0.toNat).c.lo))))) fun x1 => cond x1 (post (.t (.c (.v (.bool false))))) (lt (IntKind.i64.wrap (v0_0 + (1 : Int))) fun x2 => J 0 (nn0 :: []) (mk_law06_fits_0 t l p0 p1 p2 u x2))))))))) (post (.t (.c (.v (.bool true)))))
theorem er_law06_fits_0 (J : Inv) (t : List Knot) (l : List FHit) (p0 p1 p2 : Int) (u : Int) (v0_0 : Int) (nn0 : Nat) (post : DV → Prop) : round Tryd.prog tab Sw122 ann_law06_fits J Tryd.f64 post 0 (nn0 :: []) (mk_law06_fits_0 t l p0 p1 p2 u v0_0) = rd_law06_fits_0 J t l p0 p1 p2 u v0_0 nn0 post := by kernel_rfl
theorem lp_law06_fits (J : Inv) (post : DV → Prop) : AllG J (loopsFn Tryd.prog tab Sw122 ann_law06_fits J Tryd.f64 post) = (((∀ F s, ¬ J 0 (0 :: F) s) ∧ ∀ n F s, J 0 ((n + 1) :: F) s → round Tryd.prog tab Sw122 ann_law06_fits J Tryd.f64 post 0 (n :: F) s) ∧ True) := by kernel_rfl
def J_law06_fits (t : List Knot) (l : List FHit) (p0 p1 p2 : Int) (u : Int) : Inv := fun b F s => match b, F with
 | 0, [nn0] => ∃ (v0_0 : Int), s = mk_law06_fits_0 t l p0 p1 p2 u v0_0 ∧ (0 ≤ v0_0 ∧ v0_0 ≤ l.length ∧ (nn0 : Int) + v0_0 = l.length + 1 ∧ ∀ j : Nat, (j : Int) < v0_0 → fitB t (⟨p0, p1, p2⟩ : P3) u (hitAt l j) = true)
 | _, _ => False
theorem rnd_law06_fits_0 (t : List Knot) (l : List FHit) (p0 p1 p2 : Int) (u : Int) (v0_0 : Int) (nn0 : Nat) (hp : tabE t = 0 ∧ okH l ∧ ((⟨p0, p1, p2⟩ : P3)).bd 15000 ∧ 0 ≤ u ∧ u ≤ 100000) (hi : 0 ≤ v0_0 ∧ v0_0 ≤ l.length ∧ ((nn0 + 1) : Int) + v0_0 = l.length + 1 ∧ ∀ j : Nat, (j : Int) < v0_0 → fitB t (⟨p0, p1, p2⟩ : P3) u (hitAt l j) = true) : rd_law06_fits_0 (J_law06_fits t l p0 p1 p2 u) t l p0 p1 p2 u v0_0 nn0 (fun r => LeD r (.t (.c (.v (.bool (fitsB t l (⟨p0, p1, p2⟩ : P3) u)))))) := by
 obtain ⟨i1, i2, i3, i4⟩ := hi
 obtain ⟨k, rfl⟩ : ∃ k : Nat, v0_0 = k := ⟨v0_0.toNat, by omega⟩
 have hk : (k : Int).toNat = k := rfl
 obtain ⟨wp1, wp2, wp3, wp4, wp5⟩ := hp
 have wp6 := (tab_ok wp1).1
 unfold rd_law06_fits_0
 simp only [kns_listC]
 rw [hk]
 refine cond_i (fun h => ?_) (fun h => leB ?_)
 ·have hlt : k < l.length := by have := of_decide_eq_true h; omega
  have hz := hit_ok (wp2.2.2 _ (show hitAt l k ∈ l by rw [show hitAt l k = l[k] by simp [hitAt, List.getD, hlt]]; exact List.getElem_mem hlt))
  have l8 := wp2.2.1
  have b4 := hz.1.mono (B := 15000) (by decide)
  have dd := sqD_rg wp3 b4
  have dr := dsF_rg wp3 b4
  obtain ⟨l1, l2⟩ := lgt_in (e := u) wp1 dr ⟨wp4, wp5⟩
  have eD : rt (sqD (⟨p0, p1, p2⟩ : P3) (hitAt l k).p) = dsF (⟨p0, p1, p2⟩ : P3) (hitAt l k) := rfl
  rw [eD, l1, l2]
  have eB : fitB t (⟨p0, p1, p2⟩ : P3) u (hitAt l k) = (decide ((lgtR t (dsF (⟨p0, p1, p2⟩ : P3) (hitAt l k)) u).lo ≤ (hitAt l k).c.hi) && decide ((lgtR t (dsF (⟨p0, p1, p2⟩ : P3) (hitAt l k)) u).hi ≥ (hitAt l k).c.lo)) := by
   unfold fitB; rw [l1, l2]; rfl
  refine ⟨⟨numsP_kns t, by omega⟩, by omega, ⟨wp3, b4⟩, by omega, numsP_kns t, cond_i (fun e => by simp) (fun _ => ⟨by omega, cond_i (fun _ => by simp) (fun _ => ⟨by omega, trivial⟩)⟩), lt_i fun x1 h1 => cond_i (fun c => leB ?_) (fun c => lt_i fun x hx => ?_)⟩
  all_goals
   have eB2 : fitB t (⟨p0, p1, p2⟩ : P3) u (hitAt l k) = !x1 := by
    rw [eB, ← h1]
    by_cases z1 : (lgtR t (dsF (⟨p0, p1, p2⟩ : P3) (hitAt l k)) u).lo > (hitAt l k).c.hi
    ·rw [decide_eq_true z1, decide_eq_false (show ¬ (lgtR t (dsF (⟨p0, p1, p2⟩ : P3) (hitAt l k)) u).lo ≤ (hitAt l k).c.hi by omega)]; rfl
    ·rw [decide_eq_false z1, decide_eq_true (show (lgtR t (dsF (⟨p0, p1, p2⟩ : P3) (hitAt l k)) u).lo ≤ (hitAt l k).c.hi by omega)]
     by_cases z2 : (lgtR t (dsF (⟨p0, p1, p2⟩ : P3) (hitAt l k)) u).hi < (hitAt l k).c.lo
     ·rw [decide_eq_true z2, decide_eq_false (show ¬ (lgtR t (dsF (⟨p0, p1, p2⟩ : P3) (hitAt l k)) u).hi ≥ (hitAt l k).c.lo by omega)]; rfl
     ·rw [decide_eq_false z2, decide_eq_true (show (lgtR t (dsF (⟨p0, p1, p2⟩ : P3) (hitAt l k)) u).hi ≥ (hitAt l k).c.lo by omega)]; rfl
  ·rw [c] at eB2
   refine (Bool.eq_false_iff.2 fun q => ?_).symm
   unfold fitsB at q
   rw [List.all_eq_true] at q
   have := q (hitAt l k) (by rw [show hitAt l k = l[k] by simp [hitAt, List.getD, hlt]]; exact List.getElem_mem hlt)
   rw [eB2] at this
   cases this
  ·rw [wi (by omega)] at hx
   subst hx
   refine ⟨_, rfl, by omega, by omega, by omega, fun j hj => ?_⟩
   by_cases q : j = k
   ·rw [q, eB2, c]; rfl
   ·exact i4 j (by omega)
 ·have hge : k = l.length := by have := of_decide_eq_false h; omega
  unfold fitsB
  refine (List.all_eq_true.2 fun x hx => ?_).symm
  obtain ⟨i, hi, rfl⟩ := List.getElem_of_mem hx
  have := i4 i (by omega)
  rwa [show hitAt l i = l[i] by simp [hitAt, List.getD, hi]] at this
theorem zero_law06_fits_0 (t : List Knot) (l : List FHit) (p0 p1 p2 : Int) (u : Int) (v0_0 : Int)  (hi : 0 ≤ v0_0 ∧ v0_0 ≤ l.length ∧ (0 : Int) + v0_0 = l.length + 1 ∧ ∀ j : Nat, (j : Int) < v0_0 → fitB t (⟨p0, p1, p2⟩ : P3) u (hitAt l j) = true) : False := by
 omega
theorem spec_law06_fits (t : List Knot) (l : List FHit) (p0 p1 p2 : Int) (u : Int) (hp : tabE t = 0 ∧ okH l ∧ ((⟨p0, p1, p2⟩ : P3)).bd 15000 ∧ 0 ≤ u ∧ u ≤ 100000) : vc_law06_fits (J_law06_fits t l p0 p1 p2 u) t l p0 p1 p2 u (fun r => LeD r (.t (.c (.v (.bool (fitsB t l (⟨p0, p1, p2⟩ : P3) u)))))) := by
 unfold vc_law06_fits
 obtain ⟨wp1, wp2, wp3, wp4, wp5⟩ := hp
 exact ⟨l.length + 1, 0, rfl, by omega, by omega, by omega, fun j hj => by omega⟩
theorem all_law06_fits (t : List Knot) (l : List FHit) (p0 p1 p2 : Int) (u : Int) (hp : tabE t = 0 ∧ okH l ∧ ((⟨p0, p1, p2⟩ : P3)).bd 15000 ∧ 0 ≤ u ∧ u ≤ 100000) : AllG (J_law06_fits t l p0 p1 p2 u) (loopsFn Tryd.prog tab Sw122 ann_law06_fits (J_law06_fits t l p0 p1 p2 u) Tryd.f64 (fun r => LeD r (.t (.c (.v (.bool (fitsB t l (⟨p0, p1, p2⟩ : P3) u))))))) := by
 rw [lp_law06_fits]
 refine ⟨⟨?_, ?_⟩, trivial⟩
 ·intro F s h
  obtain _ | ⟨g, F⟩ := F
  case cons => exact h.elim
  obtain ⟨w0, rfl, hi⟩ := h
  exact zero_law06_fits_0 t l p0 p1 p2 u w0 hi
 ·intro n F s h
  obtain _ | ⟨g, F⟩ := F
  case cons => exact h.elim
  obtain ⟨w0, rfl, hi⟩ := h
  rw [er_law06_fits_0]
  exact rnd_law06_fits_0 t l p0 p1 p2 u _ _ hp hi
def con_law06_fits : Con := fun args => match args with
 | [.t (.a [.sl 2 n_t c_t]), .t (.c (.sl 7 n_l c_l)), .t (.a [.v (.int .i64 p0), .v (.int .i64 p1), .v (.int .i64 p2)]), .t (.c (.v (.int .i64 u)))] => some (.t (.c (.v (.bool (fitsB (listC n_t mkKn c_t) (listC n_l mkHit c_l) (⟨p0, p1, p2⟩ : P3) u)))), some (numsP 2 n_t c_t ∧ numsP 7 n_l c_l ∧ tabE (listC n_t mkKn c_t) = 0 ∧ okH (listC n_l mkHit c_l) ∧ ((⟨p0, p1, p2⟩ : P3)).bd 15000 ∧ 0 ≤ u ∧ u ≤ 100000), false)
 | _ => none
theorem ok_law06_fits : Ok Tryd.prog 64 con_law06_fits := by
 refine Ok.fn (ann := ann_law06_fits) mixed tabOK VSw122 ValidIt.no (fn := Tryd.f64) (by kernel_rfl) (by kernel_rfl) fit_law06_fits fun args r pre fresh h hp => ?_
 unfold con_law06_fits at h
 split at h
 ·rename_i n_t c_t n_l c_l p0 p1 p2 u
  cases h
  obtain ⟨hp0, hp1, hp⟩ := hp
  refine ⟨rfl, J_law06_fits (listC n_t mkKn c_t) (listC n_l mkHit c_l) p0 p1 p2 u, [.t (.a [.sl 2 ((listC n_t mkKn c_t).length) (knsC (listC n_t mkKn c_t))]), .t (.c (.sl 7 ((listC n_l mkHit c_l).length) (hitsC (listC n_l mkHit c_l)))), .t (.a [.v (.int .i64 p0), .v (.int .i64 p1), .v (.int .i64 p2)]), .t (.c (.v (.int .i64 u)))], ?_, Nat.le_of_ble_eq_true (by kernel_rfl), ?_, ?_⟩
  ·exact (LeA_cons (leT_a (LeCs.cons ((leL_Knot hp0)) LeCs.nil)) (LeA_cons (leT_c ((leL_FHit hp1))) (LeA_cons (LeD.refl _) (LeA_cons (LeD.refl _) LeA_nil))))
  ·rw [ev_law06_fits]; exact spec_law06_fits (listC n_t mkKn c_t) (listC n_l mkHit c_l) p0 p1 p2 u hp
  ·exact all_law06_fits (listC n_t mkKn c_t) (listC n_l mkHit c_l) p0 p1 p2 u hp
 ·cases h
noncomputable def Sw123 : Sum := addS Sw122 64 con_law06_fits
theorem VSw123 : Valid Tryd.prog Sw123 := Valid.add VSw122 ok_law06_fits
def vc_ref06_CopyHits_b (l : List FHit) (post : DV → Row → Prop) : Prop := (roomP 56 (([] : List (List CV)).length + ((List.range l.length).map fun i => fwd ((hitsC l) i) 0 7).length)) ∧ (post (.t (.c (.os 0))) (.gen 107 7 (([] : List (List CV)) ++ ((List.range l.length).map fun i => fwd ((hitsC l) i) 0 7))))
def ann_ref06_CopyHits_b : Ann := ⟨fun _ => none, fun _ => none, fun _ => [], noIt, false, fun _ => none, fun _ => none⟩
theorem ev_ref06_CopyHits_b (J : Inv) (l : List FHit) (post : DV → Row → Prop) : evFnO Tryd.prog tab Sw123 ann_ref06_CopyHits_b J Tryd.f18 [.t (.c (.sl 7 l.length (hitsC l)))] post = vc_ref06_CopyHits_b l post := by kernel_rfl
theorem fit_ref06_CopyHits_b : okFn ann_ref06_CopyHits_b Tryd.f18 = true := by kernel_rfl
theorem lp_ref06_CopyHits_b (J : Inv) (post : DV → Row → Prop) : AllG J (loopsFnO Tryd.prog tab Sw123 ann_ref06_CopyHits_b J Tryd.f18 post) = (True) := by kernel_rfl
theorem spec_ref06_CopyHits_b (l : List FHit) (hp : (l).length ≤ 1000) : vc_ref06_CopyHits_b l (fun r' R' => r' = (.t (.c (.os 0))) ∧ R' = (.gen 107 7 (l.map hitCv))) := by
 unfold vc_ref06_CopyHits_b
 rw [hits_fwd, List.nil_append]
 refine ⟨?_, rfl, rfl⟩
 unfold roomP maxLen
 simp
 omega
def con_ref06_CopyHits_b : Con := fun args => match args with
 | [.t (.c (.sl 7 n_l c_l))] => some (.t (.c (.os 0)), some (numsP 7 n_l c_l ∧ ((listC n_l mkHit c_l)).length ≤ 1000), .own (.gen 107 7 ((listC n_l mkHit c_l).map hitCv)))
 | _ => none
theorem ok_ref06_CopyHits_b : Ok Tryd.prog 18 con_ref06_CopyHits_b := by
 refine Ok.fnO (ann := ann_ref06_CopyHits_b) mixed tabOK VSw123 ValidIt.no (fn := Tryd.f18) (by kernel_rfl) (by kernel_rfl) fit_ref06_CopyHits_b fun args r pre fresh h hp => ?_
 unfold con_ref06_CopyHits_b at h
 split at h
 ·rename_i n_l c_l
  cases h
  obtain ⟨hp0, hp⟩ := hp
  refine ⟨_, rfl, plainR_hits _ _, fun _ _ _ => False, [.t (.c (.sl 7 ((listC n_l mkHit c_l).length) (hitsC (listC n_l mkHit c_l))))], ?_, Nat.le_of_ble_eq_true (by kernel_rfl), ?_, ?_⟩
  ·exact (LeA_cons (leT_c ((leL_FHit hp0))) LeA_nil)
  ·rw [ev_ref06_CopyHits_b]; exact spec_ref06_CopyHits_b (listC n_l mkHit c_l) hp
  ·rw [lp_ref06_CopyHits_b]; trivial
 ·cases h
noncomputable def Sw124 : Sum := addF Sw123 18 con_ref06_CopyHits_b
theorem VSw124 : Valid Tryd.prog Sw124 := Valid.addF VSw123 ok_ref06_CopyHits_b
def mk_law06_FlashLight_0 (t : List Knot) (l : List FHit) (x : Int) (u : Int) (p0 p1 p2 : Int) (v0_0 : List (List CV)) (v0_1 : List (List CV)) (v0_2 : Int) : DS := ⟨[none, some (.t (.c (.sl 7 l.length (hitsC l)))), none, some (.t (.c (.p 3 0))), none, some (.t (.c (.p 5 0))), none, some (.t (.c (.os 7))), some (.t (.c (.os 8))), some (.t (.c (.v (.int .i64 v0_2)))), none, none, none, none, none, none, none, none, none, none, none, none, none, none, none, none, none, none, none, none, none, none, none, none, none, none, none, none, none, none, none, none, none, none, none, none, none, none, none, none, none, none, none, none, none, none, none, none, none, none, none, none, none, none, none, none, none, none, none, none, none, none, none, none, none, none, none, none, none, none, none, none, none, none, none, none, none, none, none, none, none, none, none, none, none, none, none, none, none, none, none, none, none, none, none, none, none, none, none, none, none, none, none, none, none, none, none, none, none, none, none, none, none, none, none, none, none, none, none, none, none, none, none, none, none, none, none, none, none, none, none, none, none, none, none, none, none, none, none, none, none, none, none, none, none, none, none, none, none, none, none, none, none, none, none, none, none, none, none, none, none, none, none, none, none, none, none, none, none, none, none, none, none, none, none, none, none, none, none, none, none, none, none, none, none, none, none, none, none, none, none, none, none, none, none, none, none, none, none, none, none, none, none, none, none, none, none, none, none, none, none, none, none, none, none, none, none, none, none, none, none, none, none, none, none, none, none, none, none, none, none], [none, none, none, some (.box 88 [.sl 2 t.length (knsC t)]), none, some (.box 90 [.v (.int .i64 x), .v (.int .i64 u), .v (.int .i64 p0), .v (.int .i64 p1), .v (.int .i64 p2)]), none, some (.gen 107 7 v0_0), some (.gen 107 7 v0_1), none, none, none, none, none, none, none, none, none, none, none, none, none, none, none, none, none, none, none, none, none, none, none, none, none, none, none, none, none, none, none, none, none, none, none, none, none, none, none, none, none, none, none, none, none, none, none, none, none, none, none, none, none, none, none, none, none, none, none, none, none, none, none, none, none, none, none, none, none, none, none, none, none, none, none, none, none, none, none, none, none, none, none, none, none, none, none, none, none, none, none, none, none, none, none, none, none, none, none, none, none, none, none, none, none, none, none, none, none, none, none, none, none, none, none, none, none, none, none, none, none, none, none, none, none, none, none, none, none, none, none, none, none, none, none, none, none, none, none, none, none, none, none, none, none, none, none, none, none, none, none, none, none, none, none, none, none, none, none, none, none, none, none, none, none, none, none, none, none, none, none, none, none, none, none, none, none, none, none, none, none, none, none, none, none, none, none, none, none, none, none, none, none, none, none, none, none, none, none, none, none, none, none, none, none, none, none, none, none, none, none, none, none, none, none, none, none, none, none, none, none, none, none, none, none, none, none, none, none, none, none, none]⟩
def vc_law06_FlashLight (J : Inv) (t : List Knot) (l : List FHit) (x : Int) (u : Int) (p0 p1 p2 : Int) (post : DV → Prop) : Prop := (numsP 7 l.length (hitsC l)) ∧ (cond (!(decide (((listC l.length mkHit (hitsC l))).length ≤ 10))) ((true = true) ∧ ((true = true) ∧ ((true = true) ∧ ((true = true) ∧ ((true = true) ∧ (post (.t (.c (.v (.bool true)))))))))) (cond (decide (((t.length : Nat) : Int) > (10 : Int))) ((true = true) ∧ ((true = true) ∧ ((true = true) ∧ ((true = true) ∧ (post (.t (.c (.v (.bool true))))))))) ((numsP 2 t.length (knsC t)) ∧ (cond ((tabE (listC t.length mkKn (knsC t))) != (0 : Int)) ((true = true) ∧ ((true = true) ∧ ((true = true) ∧ (post (.t (.c (.v (.bool true)))))))) ((numsP 7 l.length (hitsC l)) ∧ (cond ((hitsE (listC l.length mkHit (hitsC l))) != (0 : Int)) ((true = true) ∧ ((true = true) ∧ (post (.t (.c (.v (.bool true))))))) (cond ((posE (⟨p0, p1, p2⟩ : P3)) != (0 : Int)) ((true = true) ∧ (post (.t (.c (.v (.bool true)))))) (cond (!(inB u (0 : Int) (50000 : Int))) (post (.t (.c (.v (.bool true))))) ((numsP 7 l.length (hitsC l) ∧ ((listC l.length mkHit (hitsC l))).length ≤ 1000) ∧ ((numsP 7 l.length (hitsC l) ∧ ((listC l.length mkHit (hitsC l))).length ≤ 1000) ∧ (∃ n, J 0 (n :: []) (mk_law06_FlashLight_0 t l x u p0 p1 p2 ((listC l.length mkHit (hitsC l)).map hitCv) ((listC l.length mkHit (hitsC l)).map hitCv) 0))))))))))))
def ann_law06_FlashLight : Ann := ⟨fun r => lookA r [(9, ([[], [0], [], [], [2, 3], [2, 3, 4], [2, 3, 4, 5], [0, 1, 2, 3, 4, 5, 6], [0, 1, 2, 3, 4, 5, 6, 7], [0, 1, 2, 3, 4, 5, 6, 7, 8]], [[67, 68], [67, 68], [67, 68], [67, 68], [67, 68], [67, 68], [67, 68], [68], [], []])), (10, ([[], [0], [], [], [3], [0, 1, 2, 3, 4], [0, 1, 2, 3, 4, 5], [0, 1, 2, 3, 4, 5, 6], [0, 1, 2, 3, 4, 5, 6], [], [0, 1, 2, 3, 4, 5, 6, 7, 9], [0, 1, 2, 3, 4, 5, 6, 7, 8, 9, 10]], [[71, 75, 11], [75, 11], [71, 75, 11], [71, 75, 11], [71, 75, 11], [11], [11], [11], [11], [71, 75], [], []])), (13, ([[], [], [], [2], [], [4], [], [], [6, 7], [6, 7, 8], [6, 7, 8, 9], [6, 7, 8, 9, 10], [6, 7, 8, 9, 10, 11], [4, 5, 6, 7, 8, 9, 10, 11, 12], [2, 3, 4, 5, 6, 7, 8, 9, 10, 11, 12, 13], [0, 1, 2, 3, 4, 5, 6, 7, 8, 9, 10, 11, 12, 13, 14], [0, 1, 2, 3, 4, 5, 6, 7, 8, 9, 10, 11, 12, 13, 14, 15], [0, 1, 2, 3, 4, 5, 6, 7, 8, 9, 10, 11, 12, 13, 14, 15, 16]], [[113], [113], [113], [113], [113], [113], [113], [113], [113], [113], [113], [113], [], [], [], [], [], []])), (14, ([[], [], [], [2], [2, 3], [2, 3, 4], [], [], [6, 7], [6, 7, 8], [6, 7, 8, 9], [6, 7, 8, 9, 10], [6, 7, 8, 9, 10, 11], [2, 3, 4, 5, 6, 7, 8, 9, 10, 11, 12], [0, 1, 2, 3, 4, 5, 6, 7, 8, 9, 10, 11, 12, 13], [0, 1, 2, 3, 4, 5, 6, 7, 8, 9, 10, 11, 12, 13, 14], [0, 1, 2, 3, 4, 5, 6, 7, 8, 9, 10, 11, 12, 13, 14, 15]], [[], [], [], [], [], [], [], [], [], [], [], [], [], [], [], [], []])), (15, ([[], [0], [], [0, 1, 2], [], [4], [0, 1, 2, 3, 4, 5], [0, 1, 2, 3, 4, 5, 6], [0, 1, 2, 3, 4, 5, 6, 7], [0, 1, 2, 3, 4, 5, 6, 7], [], [0, 1, 2, 3, 4, 5, 6, 7, 8, 10], [0, 1, 2, 3, 4, 5, 6, 7, 8, 9, 10, 11]], [[136, 138, 141, 13], [138, 141, 13], [136, 138, 141, 13], [141, 13], [136, 138, 141, 13], [136, 138, 141, 13], [13], [13], [13], [13], [136, 138, 141], [], []])), (16, ([[], [0], [], [], [3], [0, 1, 2, 3, 4], [0, 1, 2, 3, 4, 5], [0, 1, 2, 3, 4, 5, 6], [0, 1, 2, 3, 4, 5, 6], [], [0, 1, 2, 3, 4, 5, 6, 7, 9], [0, 1, 2, 3, 4, 5, 6, 7, 8, 9, 10]], [[146, 150, 15], [150, 15], [146, 150, 15], [146, 150, 15], [146, 150, 15], [15], [15], [15], [15], [146, 150], [], []]))], fun b => lookA b [(0, (none, some ⟨[1, 3, 5, 9], [3, 5], [(7, .gen 107 7 []), (8, .gen 107 7 [])]⟩))], fun _ => [], noIt, false, fun _ => none, fun _ => none⟩
theorem ev_law06_FlashLight (J : Inv) (t : List Knot) (l : List FHit) (x : Int) (u : Int) (p0 p1 p2 : Int) (post : DV → Prop) : evFn Tryd.prog tab Sw124 ann_law06_FlashLight J Tryd.f8 [.t (.a [.sl 2 t.length (knsC t)]), .t (.c (.sl 7 l.length (hitsC l))), .t (.a [.v (.int .i64 x), .v (.int .i64 u), .v (.int .i64 p0), .v (.int .i64 p1), .v (.int .i64 p2)])] post = vc_law06_FlashLight J t l x u p0 p1 p2 post := by kernel_rfl
theorem fit_law06_FlashLight : okFn ann_law06_FlashLight Tryd.f8 = true := by kernel_rfl
def rd_law06_FlashLight_0 (J : Inv) (t : List Knot) (l : List FHit) (x : Int) (u : Int) (p0 p1 p2 : Int) (v0_0 : List (List CV)) (v0_1 : List (List CV)) (v0_2 : Int) (nn0 : Nat) (post : DV → Prop) : Prop := cond (decide (v0_2 < ((l.length : Nat) : Int))) ((0 ≤ v0_2 ∧ v0_2 < ((l.length : Nat) : Int)) ∧ ((((⟨p0, p1, p2⟩ : P3)).bd 15000 ∧ ((hitAt l v0_2.toNat).p).bd 15000) ∧ ((0 ≤ (sqD (⟨p0, p1, p2⟩ : P3) (hitAt l v0_2.toNat).p) ∧ (sqD (⟨p0, p1, p2⟩ : P3) (hitAt l v0_2.toNat).p) < 1099511627776) ∧ ((numsP 2 t.length (knsC t) ∧ ((listC t.length mkKn (knsC t))).length ≤ 1000) ∧ ((numsP 2 ((listC t.length mkKn (knsC t)).length) (knsC (listC t.length mkKn (knsC t)))) ∧ (cond ((lgtE (listC ((listC t.length mkKn (knsC t)).length) mkKn (knsC (listC t.length mkKn (knsC t)))) (rt (sqD (⟨p0, p1, p2⟩ : P3) (hitAt l v0_2.toNat).p)) u) != (0 : Int)) ((true = true) ∧ ((true = true) ∧ ((true = true) ∧ (post (.t (.c (.v (.bool false)))))))) (cond (!(inB ((lgtV (listC ((listC t.length mkKn (knsC t)).length) mkKn (knsC (listC t.length mkKn (knsC t)))) (rt (sqD (⟨p0, p1, p2⟩ : P3) (hitAt l v0_2.toNat).p)) u).lo) (0 : Int) ((lgtV (listC ((listC t.length mkKn (knsC t)).length) mkKn (knsC (listC t.length mkKn (knsC t)))) (rt (sqD (⟨p0, p1, p2⟩ : P3) (hitAt l v0_2.toNat).p)) u).hi))) ((true = true) ∧ ((true = true) ∧ (post (.t (.c (.v (.bool false))))))) (lt (IntKind.i64.wrap (((lgtV (listC ((listC t.length mkKn (knsC t)).length) mkKn (knsC (listC t.length mkKn (knsC t)))) (rt (sqD (⟨p0, p1, p2⟩ : P3) (hitAt l v0_2.toNat).p)) u).lo) + (1 : Int))) fun x1 => cond (decide (((lgtV (listC ((listC t.length mkKn (knsC t)).length) mkKn (knsC (listC t.length mkKn (knsC t)))) (rt (sqD (⟨p0, p1, p2⟩ : P3) (hitAt l v0_2.toNat).p)) u).hi) > x1)) ((true = true) ∧ (post (.t (.c (.v (.bool false)))))) (cond (decide (((lgtV (listC ((listC t.length mkKn (knsC t)).length) mkKn (knsC (listC t.length mkKn (knsC t)))) (rt (sqD (⟨p0, p1, p2⟩ : P3) (hitAt l v0_2.toNat).p)) u).hi) > (500000 : Int))) (post (.t (.c (.v (.bool false))))) ((0 ≤ v0_2 ∧ v0_2 < ((l.length : Nat) : Int)) ∧ (((3 : Int) ≠ 0) ∧ (lt (IntKind.i64.wrap (((lgtV (listC ((listC t.length mkKn (knsC t)).length) mkKn (knsC (listC t.length mkKn (knsC t)))) (rt (sqD (⟨p0, p1, p2⟩ : P3) (hitAt l v0_2.toNat).p)) u).hi) + (mdF ((hitAt l v0_2.toNat).c.hi) (3 : Int)))) fun x2 => (0 ≤ v0_2 ∧ v0_2 < ((v0_0.length : Nat) : Int)) ∧ (((v0_2).toNat < v0_0.length) ∧ (lt (IntKind.i64.wrap (((lgtV (listC ((listC t.length mkKn (knsC t)).length) mkKn (knsC (listC t.length mkKn (knsC t)))) (rt (sqD (⟨p0, p1, p2⟩ : P3) (hitAt l v0_2.toNat).p)) u).lo) - (5 : Int))) fun x3 => lt ((if x3 > (0 : Int) then x3 else (0 : Int))) fun x4 => (0 ≤ v0_2 ∧ v0_2 < (((v0_0.set (v0_2).toNat (put (v0_0.getD (v0_2).toNat []) 5 [.v (.int .i64 ((lgtV (listC ((listC t.length mkKn (knsC t)).length) mkKn (knsC (listC t.length mkKn (knsC t)))) (rt (sqD (⟨p0, p1, p2⟩ : P3) (hitAt l v0_2.toNat).p)) u).lo)), .v (.int .i64 x2)])).length : Nat) : Int)) ∧ (((v0_2).toNat < (v0_0.set (v0_2).toNat (put (v0_0.getD (v0_2).toNat []) 5 [.v (.int .i64 ((lgtV (listC ((listC t.length mkKn (knsC t)).length) mkKn (knsC (listC t.length mkKn (knsC t)))) (rt (sqD (⟨p0, p1, p2⟩ : P3) (hitAt l v0_2.toNat).p)) u).lo)), .v (.int .i64 x2)])).length ∧ (((genC (v0_0.set (v0_2).toNat (put (v0_0.getD (v0_2).toNat []) 5 [.v (.int .i64 ((lgtV (listC ((listC t.length mkKn (knsC t)).length) mkKn (knsC (listC t.length mkKn (knsC t)))) (rt (sqD (⟨p0, p1, p2⟩ : P3) (hitAt l v0_2.toNat).p)) u).lo)), .v (.int .i64 x2)])) (v0_2).toNat 6) = .v (.int .i64 (cvInt (genC (v0_0.set (v0_2).toNat (put (v0_0.getD (v0_2).toNat []) 5 [.v (.int .i64 ((lgtV (listC ((listC t.length mkKn (knsC t)).length) mkKn (knsC (listC t.length mkKn (knsC t)))) (rt (sqD (⟨p0, p1, p2⟩ : P3) (hitAt l v0_2.toNat).p)) u).lo)), .v (.int .i64 x2)])) (v0_2).toNat 6)))) ∧ (True))) ∧ (lt (IntKind.i64.wrap ((cvInt (genC (v0_0.set (v0_2).toNat (put (v0_0.getD (v0_2).toNat []) 5 [.v (.int .i64 ((lgtV (listC ((listC t.length mkKn (knsC t)).length) mkKn (knsC (listC t.length mkKn (knsC t)))) (rt (sqD (⟨p0, p1, p2⟩ : P3) (hitAt l v0_2.toNat).p)) u).lo)), .v (.int .i64 x2)])) (v0_2).toNat 6)) + (5 : Int))) fun x5 => (0 ≤ v0_2 ∧ v0_2 < ((v0_1.length : Nat) : Int)) ∧ (((v0_2).toNat < v0_1.length) ∧ (lt (IntKind.i64.wrap (v0_2 + (1 : Int))) fun x6 => J 0 (nn0 :: []) (mk_law06_FlashLight_0 t l x u p0 p1 p2 (v0_0.set (v0_2).toNat (put (v0_0.getD (v0_2).toNat []) 5 [.v (.int .i64 ((lgtV (listC ((listC t.length mkKn (knsC t)).length) mkKn (knsC (listC t.length mkKn (knsC t)))) (rt (sqD (⟨p0, p1, p2⟩ : P3) (hitAt l v0_2.toNat).p)) u).lo)), .v (.int .i64 x2)])) (v0_1.set (v0_2).toNat (put (v0_1.getD (v0_2).toNat []) 5 [.v (.int .i64 x4), .v (.int .i64 x5)])) x6))))))))))))))))))) ((numsP 2 t.length (knsC t) ∧ ((listC t.length mkKn (knsC t))).length ≤ 1000) ∧ ((numsP 7 v0_0.length (genC v0_0) ∧ ((listC v0_0.length mkHit (genC v0_0))).length ≤ 1000) ∧ ((numsP 2 ((listC t.length mkKn (knsC t)).length) (knsC (listC t.length mkKn (knsC t))) ∧ numsP 7 (((listC v0_0.length mkHit (genC v0_0)).map hitCv).length) (genC ((listC v0_0.length mkHit (genC v0_0)).map hitCv))) ∧ ((numsP 2 t.length (knsC t) ∧ ((listC t.length mkKn (knsC t))).length ≤ 1000) ∧ ((numsP 2 ((listC t.length mkKn (knsC t)).length) (knsC (listC t.length mkKn (knsC t))) ∧ numsP 7 v0_1.length (genC v0_1)) ∧ (cond ((engE (listC ((listC t.length mkKn (knsC t)).length) mkKn (knsC (listC t.length mkKn (knsC t)))) (listC (((listC v0_0.length mkHit (genC v0_0)).map hitCv).length) mkHit (genC ((listC v0_0.length mkHit (genC v0_0)).map hitCv))) (⟨p0, p1, p2⟩ : P3)) != (0 : Int)) ((true = true) ∧ ((true = true) ∧ ((true = true) ∧ ((true = true) ∧ ((true = true) ∧ ((true = true) ∧ (post (.t (.c (.v (.bool false))))))))))) (cond ((engE (listC ((listC t.length mkKn (knsC t)).length) mkKn (knsC (listC t.length mkKn (knsC t)))) (listC v0_1.length mkHit (genC v0_1)) (⟨p0, p1, p2⟩ : P3)) != (0 : Int)) ((true = true) ∧ ((true = true) ∧ ((true = true) ∧ ((true = true) ∧ ((true = true) ∧ (post (.t (.c (.v (.bool false)))))))))) (cond (!(inB u ((engV (listC ((listC t.length mkKn (knsC t)).length) mkKn (knsC (listC t.length mkKn (knsC t)))) (listC (((listC v0_0.length mkHit (genC v0_0)).map hitCv).length) mkHit (genC ((listC v0_0.length mkHit (genC v0_0)).map hitCv))) (⟨p0, p1, p2⟩ : P3)).lo) ((engV (listC ((listC t.length mkKn (knsC t)).length) mkKn (knsC (listC t.length mkKn (knsC t)))) (listC (((listC v0_0.length mkHit (genC v0_0)).map hitCv).length) mkHit (genC ((listC v0_0.length mkHit (genC v0_0)).map hitCv))) (⟨p0, p1, p2⟩ : P3)).hi))) ((true = true) ∧ ((true = true) ∧ ((true = true) ∧ ((true = true) ∧ (post (.t (.c (.v (.bool false))))))))) (cond (decide (((engV (listC ((listC t.length mkKn (knsC t)).length) mkKn (knsC (listC t.length mkKn (knsC t)))) (listC v0_1.length mkHit (genC v0_1)) (⟨p0, p1, p2⟩ : P3)).lo) > ((engV (listC ((listC t.length mkKn (knsC t)).length) mkKn (knsC (listC t.length mkKn (knsC t)))) (listC (((listC v0_0.length mkHit (genC v0_0)).map hitCv).length) mkHit (genC ((listC v0_0.length mkHit (genC v0_0)).map hitCv))) (⟨p0, p1, p2⟩ : P3)).lo))) ((true = true) ∧ ((true = true) ∧ ((true = true) ∧ (post (.t (.c (.v (.bool false)))))))) (cond (decide (((engV (listC ((listC t.length mkKn (knsC t)).length) mkKn (knsC (listC t.length mkKn (knsC t)))) (listC v0_1.length mkHit (genC v0_1)) (⟨p0, p1, p2⟩ : P3)).hi) < ((engV (listC ((listC t.length mkKn (knsC t)).length) mkKn (knsC (listC t.length mkKn (knsC t)))) (listC (((listC v0_0.length mkHit (genC v0_0)).map hitCv).length) mkHit (genC ((listC v0_0.length mkHit (genC v0_0)).map hitCv))) (⟨p0, p1, p2⟩ : P3)).hi))) ((true = true) ∧ ((true = true) ∧ (post (.t (.c (.v (.bool false))))))) (cond (decide (((engV (listC ((listC t.length mkKn (knsC t)).length) mkKn (knsC (listC t.length mkKn (knsC t)))) (listC (((listC v0_0.length mkHit (genC v0_0)).map hitCv).length) mkHit (genC ((listC v0_0.length mkHit (genC v0_0)).map hitCv))) (⟨p0, p1, p2⟩ : P3)).lo) < (0 : Int))) ((true = true) ∧ (post (.t (.c (.v (.bool false)))))) (cond (decide (((engV (listC ((listC t.length mkKn (knsC t)).length) mkKn (knsC (listC t.length mkKn (knsC t)))) (listC (((listC v0_0.length mkHit (genC v0_0)).map hitCv).length) mkHit (genC ((listC v0_0.length mkHit (genC v0_0)).map hitCv))) (⟨p0, p1, p2⟩ : P3)).hi) > (100000 : Int))) (post (.t (.c (.v (.bool false))))) ((numsP 2 t.length (knsC t) ∧ numsP 7 v0_0.length (genC v0_0) ∧ tabE (listC t.length mkKn (knsC t)) = 0 ∧ okH (listC v0_0.length mkHit (genC v0_0)) ∧ ((⟨p0, p1, p2⟩ : P3)).bd 15000 ∧ 0 ≤ ((engV (listC ((listC t.length mkKn (knsC t)).length) mkKn (knsC (listC t.length mkKn (knsC t)))) (listC (((listC v0_0.length mkHit (genC v0_0)).map hitCv).length) mkHit (genC ((listC v0_0.length mkHit (genC v0_0)).map hitCv))) (⟨p0, p1, p2⟩ : P3)).lo) ∧ ((engV (listC ((listC t.length mkKn (knsC t)).length) mkKn (knsC (listC t.length mkKn (knsC t)))) (listC (((listC v0_0.length mkHit (genC v0_0)).map hitCv).length) mkHit (genC ((listC v0_0.length mkHit (genC v0_0)).map hitCv))) (⟨p0, p1, p2⟩ : P3)).lo) ≤ 100000) ∧ (cond (fitsB (listC t.length mkKn (knsC t)) (listC v0_0.length mkHit (genC v0_0)) (⟨p0, p1, p2⟩ : P3) ((engV (listC ((listC t.length mkKn (knsC t)).length) mkKn (knsC (listC t.length mkKn (knsC t)))) (listC (((listC v0_0.length mkHit (genC v0_0)).map hitCv).length) mkHit (genC ((listC v0_0.length mkHit (genC v0_0)).map hitCv))) (⟨p0, p1, p2⟩ : P3)).lo)) ((numsP 2 t.length (knsC t) ∧ numsP 7 v0_0.length (genC v0_0) ∧ tabE (listC t.length mkKn (knsC t)) = 0 ∧ okH (listC v0_0.length mkHit (genC v0_0)) ∧ ((⟨p0, p1, p2⟩ : P3)).bd 15000 ∧ 0 ≤ ((engV (listC ((listC t.length mkKn (knsC t)).length) mkKn (knsC (listC t.length mkKn (knsC t)))) (listC (((listC v0_0.length mkHit (genC v0_0)).map hitCv).length) mkHit (genC ((listC v0_0.length mkHit (genC v0_0)).map hitCv))) (⟨p0, p1, p2⟩ : P3)).hi) ∧ ((engV (listC ((listC t.length mkKn (knsC t)).length) mkKn (knsC (listC t.length mkKn (knsC t)))) (listC (((listC v0_0.length mkHit (genC v0_0)).map hitCv).length) mkHit (genC ((listC v0_0.length mkHit (genC v0_0)).map hitCv))) (⟨p0, p1, p2⟩ : P3)).hi) ≤ 100000) ∧ (cond (fitsB (listC t.length mkKn (knsC t)) (listC v0_0.length mkHit (genC v0_0)) (⟨p0, p1, p2⟩ : P3) ((engV (listC ((listC t.length mkKn (knsC t)).length) mkKn (knsC (listC t.length mkKn (knsC t)))) (listC (((listC v0_0.length mkHit (genC v0_0)).map hitCv).length) mkHit (genC ((listC v0_0.length mkHit (genC v0_0)).map hitCv))) (⟨p0, p1, p2⟩ : P3)).hi)) (cond (((engV (listC ((listC t.length mkKn (knsC t)).length) mkKn (knsC (listC t.length mkKn (knsC t)))) (listC (((listC v0_0.length mkHit (genC v0_0)).map hitCv).length) mkHit (genC ((listC v0_0.length mkHit (genC v0_0)).map hitCv))) (⟨p0, p1, p2⟩ : P3)).lo) == (0 : Int)) ((true = true) ∧ (cond (((engV (listC ((listC t.length mkKn (knsC t)).length) mkKn (knsC (listC t.length mkKn (knsC t)))) (listC (((listC v0_0.length mkHit (genC v0_0)).map hitCv).length) mkHit (genC ((listC v0_0.length mkHit (genC v0_0)).map hitCv))) (⟨p0, p1, p2⟩ : P3)).hi) == (100000 : Int)) ((true = true) ∧ (post (.t (.c (.v (.bool true)))))) (lt (IntKind.i64.wrap (((engV (listC ((listC t.length mkKn (knsC t)).length) mkKn (knsC (listC t.length mkKn (knsC t)))) (listC (((listC v0_0.length mkHit (genC v0_0)).map hitCv).length) mkHit (genC ((listC v0_0.length mkHit (genC v0_0)).map hitCv))) (⟨p0, p1, p2⟩ : P3)).hi) + (1 : Int))) fun x7 => (numsP 2 t.length (knsC t) ∧ numsP 7 v0_0.length (genC v0_0) ∧ tabE (listC t.length mkKn (knsC t)) = 0 ∧ okH (listC v0_0.length mkHit (genC v0_0)) ∧ ((⟨p0, p1, p2⟩ : P3)).bd 15000 ∧ 0 ≤ x7 ∧ x7 ≤ 100000) ∧ (post (.t (.c (.v (.bool (!(fitsB (listC t.length mkKn (knsC t)) (listC v0_0.length mkHit (genC v0_0)) (⟨p0, p1, p2⟩ : P3) x7)))))))))) (lt (IntKind.i64.wrap (((engV (listC ((listC t.length mkKn (knsC t)).length) mkKn (knsC (listC t.length mkKn (knsC t)))) (listC (((listC v0_0.length mkHit (genC v0_0)).map hitCv).length) mkHit (genC ((listC v0_0.length mkHit (genC v0_0)).map hitCv))) (⟨p0, p1, p2⟩ : P3)).lo) - (1 : Int))) fun x8 => (numsP 2 t.length (knsC t) ∧ numsP 7 v0_0.length (genC v0_0) ∧ tabE (listC t.length mkKn (knsC t)) = 0 ∧ okH (listC v0_0.length mkHit (genC v0_0)) ∧ ((⟨p0, p1, p2⟩ : P3)).bd 15000 ∧ 0 ≤ x8 ∧ x8 ≤ 100000) ∧ (cond (!(fitsB (listC t.length mkKn (knsC t)) (listC v0_0.length mkHit (genC v0_0)) (⟨p0, p1, p2⟩ : P3) x8)) (cond (((engV (listC ((listC t.length mkKn (knsC t)).length) mkKn (knsC (listC t.length mkKn (knsC t)))) (listC (((listC v0_0.length mkHit (genC v0_0)).map hitCv).length) mkHit (genC ((listC v0_0.length mkHit (genC v0_0)).map hitCv))) (⟨p0, p1, p2⟩ : P3)).hi) == (100000 : Int)) ((true = true) ∧ (post (.t (.c (.v (.bool true)))))) (lt (IntKind.i64.wrap (((engV (listC ((listC t.length mkKn (knsC t)).length) mkKn (knsC (listC t.length mkKn (knsC t)))) (listC (((listC v0_0.length mkHit (genC v0_0)).map hitCv).length) mkHit (genC ((listC v0_0.length mkHit (genC v0_0)).map hitCv))) (⟨p0, p1, p2⟩ : P3)).hi) + (1 : Int))) fun x9 => (numsP 2 t.length (knsC t) ∧ numsP 7 v0_0.length (genC v0_0) ∧ tabE (listC t.length mkKn (knsC t)) = 0 ∧ okH (listC v0_0.length mkHit (genC v0_0)) ∧ ((⟨p0, p1, p2⟩ : P3)).bd 15000 ∧ 0 ≤ x9 ∧ x9 ≤ 100000) ∧ (post (.t (.c (.v (.bool (!(fitsB (listC t.length mkKn (knsC t)) (listC v0_0.length mkHit (genC v0_0)) (⟨p0, p1, p2⟩ : P3) x9))))))))) ((false = false) ∧ (post (.t (.c (.v (.bool false))))))))) ((false = false) ∧ ((false = false) ∧ (post (.t (.c (.v (.bool false))))))))) ((false = false) ∧ ((false = false) ∧ ((false = false) ∧ (post (.t (.c (.v (.bool false))))))))))))))))))))))
theorem er_law06_FlashLight_0 (J : Inv) (t : List Knot) (l : List FHit) (x : Int) (u : Int) (p0 p1 p2 : Int) (v0_0 : List (List CV)) (v0_1 : List (List CV)) (v0_2 : Int) (nn0 : Nat) (post : DV → Prop) : round Tryd.prog tab Sw124 ann_law06_FlashLight J Tryd.f8 post 0 (nn0 :: []) (mk_law06_FlashLight_0 t l x u p0 p1 p2 v0_0 v0_1 v0_2) = rd_law06_FlashLight_0 J t l x u p0 p1 p2 v0_0 v0_1 v0_2 nn0 post := by kernel_rfl
theorem lp_law06_FlashLight (J : Inv) (post : DV → Prop) : AllG J (loopsFn Tryd.prog tab Sw124 ann_law06_FlashLight J Tryd.f8 post) = (((∀ F s, ¬ J 0 (0 :: F) s) ∧ ∀ n F s, J 0 ((n + 1) :: F) s → round Tryd.prog tab Sw124 ann_law06_FlashLight J Tryd.f8 post 0 (n :: F) s) ∧ True) := by kernel_rfl
def J_law06_FlashLight (t : List Knot) (l : List FHit) (x : Int) (u : Int) (p0 p1 p2 : Int) : Inv := fun b F s => match b, F with
 | 0, [nn0] => ∃ (v0_0 : List (List CV)) (v0_1 : List (List CV)) (v0_2 : Int), s = mk_law06_FlashLight_0 t l x u p0 p1 p2 v0_0 v0_1 v0_2 ∧ ((tabE t = 0 ∧ okH l ∧ posE (⟨p0, p1, p2⟩ : P3) = 0 ∧ 0 ≤ u ∧ u ≤ 50000) ∧ 0 ≤ v0_2 ∧ v0_2 ≤ l.length ∧ (nn0 : Int) + v0_2 = l.length + 1 ∧ v0_0 = ((l.take v0_2.toNat).map (owH t (⟨p0, p1, p2⟩ : P3) u) ++ l.drop v0_2.toNat).map hitCv ∧ v0_1 = ((l.take v0_2.toNat).map (wiH t (⟨p0, p1, p2⟩ : P3) u) ++ l.drop v0_2.toNat).map hitCv)
 | _, _ => False
set_option maxHeartbeats 8000000 in
set_option maxRecDepth 100000 in
theorem rnd_law06_FlashLight_0 (t : List Knot) (l : List FHit) (x : Int) (u : Int) (p0 p1 p2 : Int) (v0_0 : List (List CV)) (v0_1 : List (List CV)) (v0_2 : Int) (nn0 : Nat) (hi : (tabE t = 0 ∧ okH l ∧ posE (⟨p0, p1, p2⟩ : P3) = 0 ∧ 0 ≤ u ∧ u ≤ 50000) ∧ 0 ≤ v0_2 ∧ v0_2 ≤ l.length ∧ ((nn0 + 1) : Int) + v0_2 = l.length + 1 ∧ v0_0 = ((l.take v0_2.toNat).map (owH t (⟨p0, p1, p2⟩ : P3) u) ++ l.drop v0_2.toNat).map hitCv ∧ v0_1 = ((l.take v0_2.toNat).map (wiH t (⟨p0, p1, p2⟩ : P3) u) ++ l.drop v0_2.toNat).map hitCv) : rd_law06_FlashLight_0 (J_law06_FlashLight t l x u p0 p1 p2) t l x u p0 p1 p2 v0_0 v0_1 v0_2 nn0 (fun r => LeD r (.t (.c (.v (.bool true))))) := by
 obtain ⟨⟨q1, q2, q3, q4⟩, i1, i2, i3, i4, i5⟩ := hi
 obtain ⟨k, rfl⟩ : ∃ k : Nat, v0_2 = k := ⟨v0_2.toNat, by omega⟩
 have hk : (k : Int).toNat = k := rfl
 rw [hk] at i4 i5
 have pb := (posE_0.1 q3).mono (B := 15000) (by decide)
 have l8 := q2.2.1
 have t8 := (tab_ok q1).1
 have d0 := numsP_kns t
 have c2 : t.length ≤ 1000 := by omega
 unfold rd_law06_FlashLight_0
 simp only [nums_ints, hd_eq, kns_listC, hits_listC]
 rw [hk]
 refine cond_i (fun h => ?_) (fun h => ?_)
 ·have hlt : k < l.length := by have := of_decide_eq_true h; omega
  have hz := hit_ok (q2.2.2 _ (show hitAt l k ∈ l by rw [show hitAt l k = l[k] by simp [hitAt, List.getD, hlt]]; exact List.getElem_mem hlt))
  have b4 := hz.1.mono (B := 15000) (by decide)
  have dd := sqD_rg pb b4
  have dr := dsF_rg pb b4
  obtain ⟨l1, l2⟩ := lgt_in (e := u) q1 dr (by omega)
  have r := lgtR_rg (x := dsF (⟨p0, p1, p2⟩ : P3) (hitAt l k)) q1 q4
  have m := mdF_3 (hitAt l k).c.hi
  have eD : rt (sqD (⟨p0, p1, p2⟩ : P3) (hitAt l k).p) = dsF (⟨p0, p1, p2⟩ : P3) (hitAt l k) := rfl
  have n1 : v0_0.length = l.length := by rw [i4]; exact next_len
  have n2 : v0_1.length = l.length := by rw [i5]; exact next_len
  have k1 : v0_0.getD k [] = hitCv (hitAt l k) := by rw [i4]; exact get_next hlt
  have k2 : v0_1.getD k [] = hitCv (hitAt l k) := by rw [i5]; exact get_next hlt
  simp only [eD, l1, l2, bne_self_eq_false, _root_.cond_false]
  refine ⟨by omega, ⟨pb, b4⟩, by omega, ⟨d0, c2⟩, d0, ?_⟩
  have b1 : (!(inB (lgtR t (dsF (⟨p0, p1, p2⟩ : P3) (hitAt l k)) u).lo 0 (lgtR t (dsF (⟨p0, p1, p2⟩ : P3) (hitAt l k)) u).hi)) = false := by rw [inB_true.2 (by omega)]; rfl
  rw [b1]
  simp only [_root_.cond_false]
  refine lt_i fun x1 h1 => ?_
  rw [wi (by omega)] at h1
  subst h1
  rw [decide_eq_false (show ¬ (lgtR t (dsF (⟨p0, p1, p2⟩ : P3) (hitAt l k)) u).hi > (lgtR t (dsF (⟨p0, p1, p2⟩ : P3) (hitAt l k)) u).lo + 1 by omega), decide_eq_false (show ¬ (lgtR t (dsF (⟨p0, p1, p2⟩ : P3) (hitAt l k)) u).hi > 500000 by omega)]
  simp only [_root_.cond_false]
  refine ⟨by omega, by simp, lt_i fun x2 h2 => ?_⟩
  rw [wi (by omega)] at h2
  rw [k1, k2, put_c]
  refine ⟨by omega, by omega, lt_i fun x3 h3 => lt_i fun x4 h4 => ?_⟩
  rw [wi (by omega)] at h3
  rw [get_set (by omega), List.length_set]
  refine ⟨by omega, ⟨by omega, rfl, trivial⟩, lt_i fun x5 h5 => ?_⟩
  have h5 : IntKind.i64.wrap (x2 + 5) = x5 := h5
  rw [wi (by omega)] at h5
  rw [put_c]
  refine ⟨by omega, by omega, lt_i fun x6 h6 => ?_⟩
  rw [wi (by omega)] at h6
  subst h6
  rw [mx_if] at h4
  have w1 : hitCv ⟨(hitAt l k).p, (hitAt l k).t, ⟨(lgtR t (dsF (⟨p0, p1, p2⟩ : P3) (hitAt l k)) u).lo, x2⟩⟩ = hitCv ((owH t (⟨p0, p1, p2⟩ : P3) u) (hitAt l k)) := by rw [← h2]; rfl
  have w2 : hitCv ⟨(hitAt l k).p, (hitAt l k).t, ⟨x4, x5⟩⟩ = hitCv ((wiH t (⟨p0, p1, p2⟩ : P3) u) (hitAt l k)) := by rw [← h4, ← h3, ← h5, ← h2]; rfl
  rw [w1, w2, i4, i5, set_next hlt, set_next hlt]
  refine ⟨_, _, _, rfl, ⟨q1, q2, q3, q4⟩, by omega, by omega, by omega, ?_, ?_⟩
  all_goals rw [show ((k : Int) + 1).toNat = k + 1 by omega]
 ·have hge : k = l.length := by have := of_decide_eq_false h; omega
  subst hge
  rw [List.take_length, List.drop_length, List.append_nil] at i4 i5
  subst i4 i5
  obtain ⟨o1, o2⟩ := ow_ok (p := (⟨p0, p1, p2⟩ : P3)) q1 q4 q2
  obtain ⟨⟨z1, z2⟩, r, w, y1, y2, u1, u2, u3, u4⟩ := light_law q1 q4 q3 q2
  have n1 : (l.map (owH t (⟨p0, p1, p2⟩ : P3) u)).length ≤ 1000 := by rw [List.length_map]; omega
  have n2 : (l.map (owH t (⟨p0, p1, p2⟩ : P3) u)).length ≤ 10 := by rw [List.length_map]; omega
  have v1 := numsP_hitg (l.map (owH t (⟨p0, p1, p2⟩ : P3) u))
  have v2 := numsP_hitg (l.map (wiH t (⟨p0, p1, p2⟩ : P3) u))
  simp only [hitg_listC, z1, z2, y1, y2, bne_self_eq_false, _root_.cond_false]
  rw [inB_true.2 u1, decide_eq_false (show ¬ w.lo > r.lo by omega), decide_eq_false (show ¬ w.hi < r.hi by omega), decide_eq_false (show ¬ r.lo < 0 by omega), decide_eq_false (show ¬ r.hi > 100000 by omega), u4 r.lo (by omega) (by omega), u4 r.hi (by omega) (by omega), decide_eq_true (show r.lo ≤ r.lo ∧ r.lo ≤ r.hi by omega), decide_eq_true (show r.lo ≤ r.hi ∧ r.hi ≤ r.hi by omega)]
  simp only [Bool.not_true, _root_.cond_true, _root_.cond_false]
  have hup : ∀ x9, r.hi ≠ 100000 → IntKind.i64.wrap (r.hi + 1) = x9 → (0 ≤ x9 ∧ x9 ≤ 100000) ∧ fitsB t (l.map (owH t (⟨p0, p1, p2⟩ : P3) u)) (⟨p0, p1, p2⟩ : P3) x9 = false := fun x9 hr h9 => by
   rw [wi (by omega)] at h9
   subst h9
   exact ⟨by omega, by rw [u4 _ (by omega) (by omega)]; exact decide_eq_false (by omega)⟩
  have hlo : ∀ x8, r.lo ≠ 0 → IntKind.i64.wrap (r.lo - 1) = x8 → (0 ≤ x8 ∧ x8 ≤ 100000) ∧ fitsB t (l.map (owH t (⟨p0, p1, p2⟩ : P3) u)) (⟨p0, p1, p2⟩ : P3) x8 = false := fun x8 hr h8 => by
   rw [wi (by omega)] at h8
   subst h8
   exact ⟨by omega, by rw [u4 _ (by omega) (by omega)]; exact decide_eq_false (by omega)⟩
  refine ⟨⟨d0, c2⟩, ⟨v1, n1⟩, ⟨d0, v1⟩, ⟨d0, c2⟩, ⟨d0, v2⟩, ⟨d0, v1, q1, o1, pb, by omega, by omega⟩, ⟨d0, v1, q1, o1, pb, by omega, by omega⟩, cond_i (fun s => ⟨trivial, ?_⟩) (fun s => lt_i fun x8 h8 => ?_)⟩
  ·refine cond_i (fun s2 => ⟨trivial, LeD.refl _⟩) (fun s2 => lt_i fun x9 h9 => ?_)
   obtain ⟨j1, j2⟩ := hup x9 (by simpa using s2) h9
   exact ⟨⟨d0, v1, q1, o1, pb, j1⟩, leB (by rw [j2]; rfl)⟩
  ·obtain ⟨j3, j4⟩ := hlo x8 (by simpa using s) h8
   rw [j4]
   refine ⟨⟨d0, v1, q1, o1, pb, j3⟩, ?_⟩
   simp only [Bool.not_false, _root_.cond_true]
   refine cond_i (fun s2 => ⟨trivial, LeD.refl _⟩) (fun s2 => lt_i fun x9 h9 => ?_)
   obtain ⟨j1, j2⟩ := hup x9 (by simpa using s2) h9
   exact ⟨⟨d0, v1, q1, o1, pb, j1⟩, leB (by rw [j2]; rfl)⟩
theorem zero_law06_FlashLight_0 (t : List Knot) (l : List FHit) (x : Int) (u : Int) (p0 p1 p2 : Int) (v0_0 : List (List CV)) (v0_1 : List (List CV)) (v0_2 : Int)  (hi : (tabE t = 0 ∧ okH l ∧ posE (⟨p0, p1, p2⟩ : P3) = 0 ∧ 0 ≤ u ∧ u ≤ 50000) ∧ 0 ≤ v0_2 ∧ v0_2 ≤ l.length ∧ (0 : Int) + v0_2 = l.length + 1 ∧ v0_0 = ((l.take v0_2.toNat).map (owH t (⟨p0, p1, p2⟩ : P3) u) ++ l.drop v0_2.toNat).map hitCv ∧ v0_1 = ((l.take v0_2.toNat).map (wiH t (⟨p0, p1, p2⟩ : P3) u) ++ l.drop v0_2.toNat).map hitCv) : False := by
 omega
set_option maxHeartbeats 8000000 in
set_option maxRecDepth 100000 in
theorem spec_law06_FlashLight (t : List Knot) (l : List FHit) (x : Int) (u : Int) (p0 p1 p2 : Int) : vc_law06_FlashLight (J_law06_FlashLight t l x u p0 p1 p2) t l x u p0 p1 p2 (fun r => LeD r (.t (.c (.v (.bool true))))) := by
 unfold vc_law06_FlashLight
 simp only [nums_ints, hd_eq, kns_listC, hits_listC]
 have d0 := numsP_kns t
 have d1 := numsP_hits l
 refine ⟨d1, cond_i (fun _ => (by (repeat' first | exact LeD.refl _ | trivial | (refine And.intro ?_ ?_)))) (fun e1 => cond_i (fun _ => (by (repeat' first | exact LeD.refl _ | trivial | (refine And.intro ?_ ?_)))) (fun e2 => ⟨d0, cond_i (fun _ => (by (repeat' first | exact LeD.refl _ | trivial | (refine And.intro ?_ ?_)))) (fun e3 => ⟨d1, cond_i (fun _ => (by (repeat' first | exact LeD.refl _ | trivial | (refine And.intro ?_ ?_)))) (fun e4 => cond_i (fun _ => (by (repeat' first | exact LeD.refl _ | trivial | (refine And.intro ?_ ?_)))) (fun e5 => cond_i (fun _ => LeD.refl _) (fun e6 => ?_)))⟩)⟩))⟩
 have a1 : tabE t = 0 := by simpa using e3
 have a2 : okH l := okH_iff.1 (by simpa using e4)
 have a3 : posE (⟨p0, p1, p2⟩ : P3) = 0 := by simpa using e5
 have a4 : 0 ≤ u ∧ u ≤ 50000 := inB_true.1 (by simpa using e6)
 have l8 := a2.2.1
 have c1 : l.length ≤ 1000 := by omega
 exact ⟨⟨d1, c1⟩, ⟨d1, c1⟩, l.length + 1, _, _, 0, rfl, ⟨a1, a2, a3, a4⟩, by omega, by omega, by omega, rfl, rfl⟩
theorem all_law06_FlashLight (t : List Knot) (l : List FHit) (x : Int) (u : Int) (p0 p1 p2 : Int) : AllG (J_law06_FlashLight t l x u p0 p1 p2) (loopsFn Tryd.prog tab Sw124 ann_law06_FlashLight (J_law06_FlashLight t l x u p0 p1 p2) Tryd.f8 (fun r => LeD r (.t (.c (.v (.bool true)))))) := by
 rw [lp_law06_FlashLight]
 refine ⟨⟨?_, ?_⟩, trivial⟩
 ·intro F s h
  obtain _ | ⟨g, F⟩ := F
  case cons => exact h.elim
  obtain ⟨w0, w1, w2, rfl, hi⟩ := h
  exact zero_law06_FlashLight_0 t l x u p0 p1 p2 w0 w1 w2 hi
 ·intro n F s h
  obtain _ | ⟨g, F⟩ := F
  case cons => exact h.elim
  obtain ⟨w0, w1, w2, rfl, hi⟩ := h
  rw [er_law06_FlashLight_0]
  exact rnd_law06_FlashLight_0 t l x u p0 p1 p2 _ _ _ _ hi
theorem law_law06_FlashLight (t : List Knot) (l : List FHit) (x : Int) (u : Int) (p0 p1 p2 : Int) (W : World) (N : Nat → Prop) (vs : List Value) (hG : Gd W) (h : All2 (RelD (RelF W N)) [.t (.a [.sl 2 t.length (knsC t)]), .t (.c (.sl 7 l.length (hitsC l))), .t (.a [.v (.int .i64 x), .v (.int .i64 u), .v (.int .i64 p0), .v (.int .i64 p1), .v (.int .i64 p2)])] vs) : Calls Tryd.prog 8 vs.toArray W fun e w' => e = .returned (.bool true) ∧ Below W.heap.size W w' :=
 law_end (fn_sound mixed tabOK VSw124 (ann := ann_law06_FlashLight) ValidIt.no (fn := Tryd.f8) (J := J_law06_FlashLight t l x u p0 p1 p2) (by kernel_rfl) fit_law06_FlashLight (args := [.t (.a [.sl 2 t.length (knsC t)]), .t (.c (.sl 7 l.length (hitsC l))), .t (.a [.v (.int .i64 x), .v (.int .i64 u), .v (.int .i64 p0), .v (.int .i64 p1), .v (.int .i64 p2)])]) (post := (fun r => LeD r (.t (.c (.v (.bool true)))))) (by rw [ev_law06_FlashLight]; exact spec_law06_FlashLight t l x u p0 p1 p2) (all_law06_FlashLight t l x u p0 p1 p2) (Nat.le_of_ble_eq_true (by kernel_rfl)) W N vs hG h)
end Go.Proofs.YtmhgjlapkhdlmaaDoor