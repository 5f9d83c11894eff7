/- Texts of this claim, together. -/
import Derived.Test.YtlmdmpjfehpjeaaN10
import Derived.Test.YtlmdmpjfehpjeaaN7
import Derived.Test.YtlmdmpjfehpjeaaN5
import Derived.Test.YtlmdmpjfehpjeaaN6

set_option linter.unusedVariables false
set_option linter.unusedSimpArgs false
namespace Go.Proofs.Ytlmdmpjfehpjeaa
open Go.RowKit Ev
def smallB (b : TBox) : Bool := decide (b.err ≠ 0) || decide (b.count ≤ 120)
theorem stE_of {m : TMod} {b : TBox} {s : V3} (h : s ∈ m.steps b) (hl : b.lo.inS 20 = true) (hh : b.hi.inS 20 = true) : m.stE s = 0 := by
 obtain ⟨h1, h2⟩ := mem_steps.1 h
 obtain ⟨a1, a2, a3⟩ := inS_iff.1 hl
 obtain ⟨c1, c2, c3⟩ := inS_iff.1 hh
 unfold TBox.has TBox.rx TBox.ry TBox.rz Rg.has at h1
 simp only at h1
 have e1 : s.inS 20 = true := inS_iff.2 (by omega)
 unfold TMod.stE
 rw [e1, permB_iff.2 h2]; rfl
theorem half_err {b : TBox} (h : b.err = 0) (hc : b.count ≠ 1) : b.half1.err = 0 ∧ b.half2.err = 0 ∧ b.half1.sub b ∧ b.half2.sub b := by
 have ho := box_ok h
 have hin := box_in h
 have hne : b.lo.x < b.hi.x ∨ b.lo.y < b.hi.y ∨ b.lo.z < b.hi.z := by
  have h1 := count_one ho
  obtain ⟨o1, o2, o3⟩ := ho
  simp only [TBox.rx, TBox.ry, TBox.rz, Rg.ok] at o1 o2 o3
  have h2 : ¬ (b.lo.x = b.hi.x ∧ b.lo.y = b.hi.y ∧ b.lo.z = b.hi.z) := fun q => hc (h1.2 (v3_ext.2 q))
  omega
 obtain ⟨s1, o1, s2, o2⟩ := halves_sub ho hne
 have key : ∀ c : TBox, c.sub b → c.ok → c.err = 0 := by
  intro c hs hk
  have hcm := count_mono hs hk
  obtain ⟨a1, a2, a3⟩ := inS_iff.1 hin.1
  obtain ⟨c1, c2, c3⟩ := inS_iff.1 hin.2
  have hs' := hs
  have hk' := hk
  unfold TBox.sub TBox.rx TBox.ry TBox.rz Rg.sub at hs'
  unfold TBox.ok TBox.rx TBox.ry TBox.rz Rg.ok at hk'
  simp only at hs' hk'
  have e1 : c.lo.inS 20 = true := inS_iff.2 (by omega)
  have e2 : c.hi.inS 20 = true := inS_iff.2 (by omega)
  have hb := h
  unfold TBox.err at hb ⊢
  rw [firstNZ_cons, firstNZ_cons, firstNZ_cons] at hb ⊢
  obtain ⟨_, _, h3, h4⟩ := hb
  rw [unl_0 (by decide), decide_eq_true_eq] at h3
  refine ⟨by rw [e1, e2]; rfl, ?_, ?_, h4⟩
  ·rw [unl_0 (by decide)]; simp only [Bool.and_eq_true, decide_eq_true_eq]; exact ⟨⟨hk'.1, hk'.2.1⟩, hk'.2.2⟩
  ·rw [unl_0 (by decide), decide_eq_true_eq]; omega
 exact ⟨key _ s1 o1, key _ s2 o2, s1, s2⟩
structure ExH (m : TMod) (b : TBox) (l : List THit) (p : V3) (t : Int) : Prop where
 hm : m.err = 0
 hb : b.err = 0
 hh : hitsE l = 0
 hq : momE p t = 0
theorem ExH.w {m : TMod} {b : TBox} {l : List THit} {p : V3} {t : Int} (h : ExH m b l p t) : ∀ x ∈ l, 0 ≤ x.w := by
 intro x hx
 obtain ⟨i, hi, e⟩ := List.getElem_of_mem hx
 have := (hitsE_ok h.hh).2 i hi
 rw [show hitAt l i = x by simp [hitAt, List.getD, hi, e]] at this
 exact this.w.1
theorem ExH.ans {m : TMod} {b : TBox} {l : List THit} {p : V3} {t : Int} (h : ExH m b l p t) : firstNZ [firstNZ [m.err, b.err], momE p t, unl (canW m b) 12] = unl (canW m b) 12 := by
 rw [h.hm, h.hb, h.hq]; cases canW m b <;> rfl
theorem ExH.sc {m : TMod} {b : TBox} {l : List THit} {p : V3} {t : Int} (h : ExH m b l p t) : firstNZ [firstNZ [firstNZ [m.err, b.err], hitsE l], unl (canW m b) 12] = unl (canW m b) 12 := by
 rw [h.hm, h.hb, h.hh]; cases canW m b <;> rfl
theorem ExH.can {m : TMod} {b : TBox} {l : List THit} {p : V3} {t : Int} (h : ExH m b l p t) : canW m b = true ↔ m.canBe b := by
 have hb := box_in h.hb
 rw [canW_eq hb.1 hb.2]; exact canB_iff
theorem ExH.steps {m : TMod} {b : TBox} {l : List THit} {p : V3} {t : Int} (h : ExH m b l p t) : stepsL m b = m.steps b ∧ firstNZ [m.err, b.err] = 0 := by
 have e : firstNZ [m.err, b.err] = 0 := by rw [h.hm, h.hb]; rfl
 exact ⟨if_neg (by rw [e]; simp), e⟩
theorem ExH.len {m : TMod} {b : TBox} {l : List THit} {p : V3} {t : Int} (h : ExH m b l p t) : ((m.steps b).length : Int) ≤ b.count := by
 have h1 := List.length_filter_le m.permB b.all
 have h2 := len_all (box_ok h.hb)
 unfold TMod.steps
 omega
theorem ExH.none {m : TMod} {b : TBox} {l : List THit} {p : V3} {t : Int} (h : ExH m b l p t) (hc : canW m b = false) : m.steps b = [] := by
 rw [List.eq_nil_iff_forall_not_mem]
 intro s hs
 obtain ⟨h1, h2⟩ := mem_steps.1 hs
 rw [h.can.2 (canBe_of h1 h2)] at hc
 cases hc
theorem ExH.step {m : TMod} {b : TBox} {l : List THit} {p : V3} {t : Int} (h : ExH m b l p t) {s : V3} (hs : s ∈ m.steps b) : m.stE s = 0 ∧ m.both s = 0 ∧ (m.ans b p t = 2 → m.reached s p t = true) ∧ (m.ans b p t = 0 → m.reached s p t = false) ∧ inB (m.score s l) (m.scores b l).lo (m.scores b l).hi = true := by
 have hin := box_in h.hb
 have h0 := stE_of hs hin.1 hin.2
 obtain ⟨h1, h2⟩ := mem_steps.1 hs
 have ho := err_ok h.hm
 have ha := ans_sure (p := p) (t := t) h1 h2 ho.slo
 refine ⟨h0, ?_, ha.1, ha.2, ?_⟩
 ·unfold TMod.both
  rw [h0, h.hm]; rfl
 ·have := score_has h1 h2 ho.slp ho.slo ⟨ho.ea.1, ho.la.1⟩ ⟨ho.mi.1, ho.no.1⟩ h.w
  rw [inB_true]; exact this
theorem ExH.part {m : TMod} {b c : TBox} {l : List THit} {p : V3} {t : Int} (h : ExH m b l p t) (hc : ExH m c l p t) (hs : c.sub b) (hb : canW m c = true) : (m.ans b p t = 2 → m.ans c p t = 2) ∧ (m.ans b p t = 0 → m.ans c p t = 0) ∧ (m.scores c l).hi ≤ (m.scores b l).hi ∧ (0 < (m.steps c).length → (m.scores b l).lo ≤ (m.scores c l).lo) := by
 have ho := err_ok h.hm
 have hk := box_ok hc.hb
 have h1 := ans_part (p := p) (t := t) hs hk (hc.can.1 hb) ho.ord ho.slo
 have h2 := scores_part (l := l) hs hk (hc.can.1 hb) ho.ord ho.slp ho.slo ⟨ho.ea.1, ho.la.1⟩ ⟨ho.mi.1, ho.no.1⟩ h.w
 refine ⟨h1.1, h1.2, h2.1, fun hl => h2.2 ?_⟩
 have hm := plAt_in hl
 exact ⟨_, mem_steps.1 hm⟩
def vc_law05_small (b0 b1 b2 b3 b4 b5 : Int) (post : DV → Prop) : Prop := (cond ((((⟨⟨b0, b1, b2⟩, ⟨b3, b4, b5⟩⟩ : TBox)).err) != (0 : Int)) ((true = true) ∧ (True)) ((((⟨⟨b0, b1, b2⟩, ⟨b3, b4, b5⟩⟩ : TBox)).lo.inS 20 = true ∧ ((⟨⟨b0, b1, b2⟩, ⟨b3, b4, b5⟩⟩ : TBox)).hi.inS 20 = true) ∧ (True))) ∧ (lt ((bif ((((⟨⟨b0, b1, b2⟩, ⟨b3, b4, b5⟩⟩ : TBox)).err) != (0 : Int)) then true else decide ((((⟨⟨b0, b1, b2⟩, ⟨b3, b4, b5⟩⟩ : TBox)).count) ≤ (120 : Int)))) fun x1 => post (.t (.c (.v (.bool x1)))))
def ann_law05_small : Ann := ⟨fun _ => none, fun _ => none, fun _ => [], I49, false, fun r => lookA r [(1, (4, [2]))], fun _ => none⟩
theorem ev_law05_small (J : Inv) (b0 b1 b2 b3 b4 b5 : Int) (post : DV → Prop) : evFn Try.prog tab S57 ann_law05_small J Try.f53 [.t (.a [.v (.int .i64 b0), .v (.int .i64 b1), .v (.int .i64 b2), .v (.int .i64 b3), .v (.int .i64 b4), .v (.int .i64 b5)])] post = vc_law05_small b0 b1 b2 b3 b4 b5 post := by kernel_rfl
theorem fit_law05_small : okFn ann_law05_small Try.f53 = true := by kernel_rfl
theorem lp_law05_small (J : Inv) (post : DV → Prop) : AllG J (loopsFn Try.prog tab S57 ann_law05_small J Try.f53 post) = (True) := by kernel_rfl
theorem spec_law05_small (b0 b1 b2 b3 b4 b5 : Int) : vc_law05_small b0 b1 b2 b3 b4 b5 (fun r => LeD r (.t (.c (.v (.bool (smallB (⟨⟨b0, b1, b2⟩, ⟨b3, b4, b5⟩⟩ : TBox))))))) := by
 unfold vc_law05_small
 refine ⟨cond_i (fun h => ⟨rfl, trivial⟩) (fun h => ⟨?_, trivial⟩), lt_i fun x hx => leB ?_⟩
 ·exact box_in (by simpa using h)
 ·rw [← hx]
  unfold smallB
  by_cases h : (⟨⟨b0, b1, b2⟩, ⟨b3, b4, b5⟩⟩ : TBox).err = 0
  ·simp [h]
  ·have h2 : ((⟨⟨b0, b1, b2⟩, ⟨b3, b4, b5⟩⟩ : TBox).err != (0 : Int)) = true := by simpa using h
   rw [h2]; simp [h]
def con_law05_small : Con := fun args => match args with
 | [.t (.a [.v (.int .i64 b0), .v (.int .i64 b1), .v (.int .i64 b2), .v (.int .i64 b3), .v (.int .i64 b4), .v (.int .i64 b5)])] => some (.t (.c (.v (.bool (smallB (⟨⟨b0, b1, b2⟩, ⟨b3, b4, b5⟩⟩ : TBox))))), none, false)
 | _ => none
theorem ok_law05_small : Ok Try.prog 53 con_law05_small := by
 refine Ok.fn (ann := ann_law05_small) mixed tabOK VS57 VI49 (fn := Try.f53) (by kernel_rfl) (by kernel_rfl) fit_law05_small fun args r pre fresh h hp => ?_
 unfold con_law05_small at h
 split at h
 ·rename_i b0 b1 b2 b3 b4 b5
  cases h
  refine ⟨rfl, fun _ _ _ => False, _, LeA.refl _, Nat.le_of_ble_eq_true (by kernel_rfl), ?_, ?_⟩
  ·rw [ev_law05_small]; exact spec_law05_small b0 b1 b2 b3 b4 b5
  ·rw [lp_law05_small]; trivial
 ·cases h
def S58 : Sum := addS S57 53 con_law05_small
theorem VS58 : Valid Try.prog S58 := Valid.add VS57 ok_law05_small
def con_ref05_StepErr : Con := fun args => match args with
 | [.t (.a [.v (.int .i64 m0), .v (.int .i64 m1), .v (.int .i64 m2), .v (.int .i64 m3), .v (.int .i64 m4), .v (.int .i64 m5), .v (.int .i64 m6), .v (.int .i64 m7), .v (.int .i64 m8), .v (.int .i64 m9), .v (.int .i64 m10), .v (.int .i64 m11)]), .t (.a [.v (.int .i64 s0), .v (.int .i64 s1), .v (.int .i64 s2)])] => some (.t (.c (.v (.int .i64 (((⟨m0, m1, m2, m3, m4, m5, m6, m7, m8, m9, m10, m11⟩ : TMod)).stE (⟨s0, s1, s2⟩ : V3))))), none, false)
 | _ => none
theorem ok_ref05_StepErr : Ok Try.prog 55 con_ref05_StepErr := by
 refine Ok.oldG (Enters.of (fn := Try.f55) (by kernel_rfl) (by kernel_rfl) (by kernel_rfl)) fun args r pre fresh h hp => ?_
 unfold con_ref05_StepErr at h
 split at h
 ·rename_i m0 m1 m2 m3 m4 m5 m6 m7 m8 m9 m10 m11 s0 s1 s2
  cases h
  refine ⟨rfl, _, rfl, fun W N vs hv => ?_⟩
  obtain ⟨u0, ws0, k0, g0, hv0⟩ := hv.cons_inv
  subst k0
  have e0 := plain_arg rfl g0
  subst e0
  obtain ⟨u1, ws1, k1, g1, hv1⟩ := hv0.cons_inv
  subst k1
  have e1 := plain_arg rfl g1
  subst e1
  have ev := hv1.nil_inv
  subst ev
  exact ref_StepErr (⟨m0, m1, m2, m3, m4, m5, m6, m7, m8, m9, m10, m11⟩ : TMod) (⟨s0, s1, s2⟩ : V3) W
 ·cases h
def S59 : Sum := addS S58 55 con_ref05_StepErr
theorem VS59 : Valid Try.prog S59 := Valid.add VS58 ok_ref05_StepErr
def con_track_ReachedBy : Con := fun args => match args with
 | [.t (.a [.v (.int .i64 m0), .v (.int .i64 m1), .v (.int .i64 m2), .v (.int .i64 m3), .v (.int .i64 m4), .v (.int .i64 m5), .v (.int .i64 m6), .v (.int .i64 m7), .v (.int .i64 m8), .v (.int .i64 m9), .v (.int .i64 m10), .v (.int .i64 m11)]), .t (.a [.v (.int .i64 s0), .v (.int .i64 s1), .v (.int .i64 s2)]), .t (.a [.v (.int .i64 q0), .v (.int .i64 q1), .v (.int .i64 q2), .v (.int .i64 q3)])] => some (.tu [.c (.v (.bool (if firstNZ [((⟨m0, m1, m2, m3, m4, m5, m6, m7, m8, m9, m10, m11⟩ : TMod)).both (⟨s0, s1, s2⟩ : V3), momE ⟨q0, q1, q2⟩ q3] = 0 then ((⟨m0, m1, m2, m3, m4, m5, m6, m7, m8, m9, m10, m11⟩ : TMod)).reached (⟨s0, s1, s2⟩ : V3) ⟨q0, q1, q2⟩ q3 else false))), .c (.v (.int .i64 (firstNZ [((⟨m0, m1, m2, m3, m4, m5, m6, m7, m8, m9, m10, m11⟩ : TMod)).both (⟨s0, s1, s2⟩ : V3), momE ⟨q0, q1, q2⟩ q3])))], none, false)
 | _ => none
theorem ok_track_ReachedBy : Ok Try.prog 15 con_track_ReachedBy := by
 refine Ok.oldG (Enters.of (fn := Try.f15) (by kernel_rfl) (by kernel_rfl) (by kernel_rfl)) fun args r pre fresh h hp => ?_
 unfold con_track_ReachedBy at h
 split at h
 ·rename_i m0 m1 m2 m3 m4 m5 m6 m7 m8 m9 m10 m11 s0 s1 s2 q0 q1 q2 q3
  cases h
  refine ⟨rfl, _, rfl, fun W N vs hv => ?_⟩
  obtain ⟨u0, ws0, k0, g0, hv0⟩ := hv.cons_inv
  subst k0
  have e0 := plain_arg rfl g0
  subst e0
  obtain ⟨u1, ws1, k1, g1, hv1⟩ := hv0.cons_inv
  subst k1
  have e1 := plain_arg rfl g1
  subst e1
  obtain ⟨u2, ws2, k2, g2, hv2⟩ := hv1.cons_inv
  subst k2
  have e2 := plain_arg rfl g2
  subst e2
  have ev := hv2.nil_inv
  subst ev
  exact by
   refine (track_ReachedBy (⟨m0, m1, m2, m3, m4, m5, m6, m7, m8, m9, m10, m11⟩ : TMod) (⟨s0, s1, s2⟩ : V3) ⟨q0, q1, q2⟩ q3 W).mono fun e w' h => ⟨?_, h.2.2⟩
   by_cases hq : firstNZ [TMod.both (⟨m0, m1, m2, m3, m4, m5, m6, m7, m8, m9, m10, m11⟩ : TMod) (⟨s0, s1, s2⟩ : V3), momE ⟨q0, q1, q2⟩ q3] = 0
   ·rw [h.1 hq, if_pos hq, hq]
   ·rw [h.2.1 hq, if_neg hq]
 ·cases h
def S60 : Sum := addS S59 15 con_track_ReachedBy
theorem VS60 : Valid Try.prog S60 := Valid.add VS59 ok_track_ReachedBy
end Go.Proofs.Ytlmdmpjfehpjeaa
set_option linter.unusedVariables false
set_option linter.unusedSimpArgs false
namespace Go.Proofs.Ytlmdmpjfehpjeaa
open Go.RowKit Ev
theorem or_f {a b : Bool} (h : (bif a then true else b) = false) : a = false ∧ b = false := by cases a <;> simp_all
theorem part_false {m : TMod} {b c : TBox} {l : List THit} {p : V3} {t : Int} (H : ExH m b l p t) (Hc : ExH m c l p t) (hs : c.sub b) (x3 x4 x5 x6 x7 v0 v1 v3 : Int)
  (h3 : (if unl (canW m c) 12 ≠ 0 then 0 else m.ans c p t) = x3) (h4 : unl (canW m c) 12 = x4) (h5 : (if unl (canW m c) 12 ≠ 0 then 0 else (m.scores c l).lo) = x5) (h6 : (if unl (canW m c) 12 ≠ 0 then 0 else (m.scores c l).hi) = x6) (h7 : unl (canW m c) 12 = x7)
  (i1 : v0 = (m.scores b l).lo) (i2 : v1 = (m.scores b l).hi) (i3 : v3 = m.ans b p t) :
  (bif (x4 != x7) then true else (bif (x4 != (0 : Int)) then (bif (x4 != (12 : Int)) then true else (bif (x4 == (0 : Int)) then (bif (v3 != (1 : Int)) then (bif (x3 != v3) then true else decide (x6 > v1)) else decide (x6 > v1)) else false)) else (bif (x4 == (0 : Int)) then (bif (v3 != (1 : Int)) then (bif (x3 != v3) then true else decide (x6 > v1)) else decide (x6 > v1)) else false))) = false ∧
  (bif false then true else (bif decide ((((m.steps c).length : Nat) : Int) > (0 : Int)) then (bif (x4 != (0 : Int)) then true else decide (x5 < v0)) else false)) = false := by
 cases hc : canW m c with
 | false =>
  rw [hc] at h3 h4 h5 h6 h7
  have e : unl false 12 = 12 := rfl
  rw [e] at h3 h4 h5 h6 h7
  have hn := Hc.none hc
  rw [hn]
  subst h4 h7
  refine ⟨rfl, rfl⟩
 | true =>
  rw [hc] at h3 h4 h5 h6 h7
  have e : unl true 12 = 0 := rfl
  rw [e] at h3 h4 h5 h6 h7
  rw [if_neg (by simp)] at h3 h5 h6
  obtain ⟨r1, r2, r3, r4⟩ := H.part Hc hs hc
  subst h4 h7
  have d6 : decide (x6 > v1) = false := decide_eq_false (by rw [← h6, i2]; omega)
  constructor
  ·rw [d6]
   rcases ans_val m b p t with q | q | q
   ·rw [i3, q, ← h3, r2 q]; rfl
   ·rw [i3, q]; rfl
   ·rw [i3, q, ← h3, r1 q]; rfl
  ·by_cases hp : 0 < (m.steps c).length
   ·have := r4 hp
    rw [decide_eq_true (show (((m.steps c).length : Nat) : Int) > 0 by omega), decide_eq_false (show ¬ x5 < v0 by rw [← h5, i1]; omega)]; rfl
   ·rw [decide_eq_false (show ¬ (((m.steps c).length : Nat) : Int) > 0 by omega)]; rfl
def mk_law05_TrackNeverExcluded_0 (m0 m1 m2 m3 m4 m5 m6 m7 m8 m9 m10 m11 : Int) (b0 b1 b2 b3 b4 b5 : Int) (q0 q1 q2 q3 : Int) (l : List THit) (v0_0 : Int) (v0_1 : Int) (v0_2 : Int) (v0_3 : Int) : DS := ⟨[none, none, none, some (.t (.c (.p 3 0))), some (.t (.c (.p 4 0))), some (.t (.c (.p 5 0))), none, some (.t (.c (.v (.int .i64 v0_3)))), none, some (.t (.c (.p 9 0))), none, some (.t (.c (.sl 3 ((stepsL (⟨m0, m1, m2, m3, m4, m5, m6, m7, m8, m9, m10, m11⟩ : TMod) (⟨⟨b0, b1, b2⟩, ⟨b3, b4, b5⟩⟩ : TBox)).length) (plsC (stepsL (⟨m0, m1, m2, m3, m4, m5, m6, m7, m8, m9, m10, m11⟩ : TMod) (⟨⟨b0, b1, b2⟩, ⟨b3, b4, b5⟩⟩ : TBox)))))), none, some (.t (.c (.v (.int .i64 v0_2)))), none, none, none, none, none, none, none, none, none, none, none, none, none, none, none, none, none, none, none, none, none, none, none, none, none, none, none, none, none, none, none, none, none, none, none, none, none, none, none, none, none, none, none, none, none, none, none, none, none, none, none, none, none, none, none, none, none, none, none, none, none, none, none, none, none, none, none, none, none, none, none, none, none, none, none, none, none, none, none, none, none, none, none, none, none, none, none, none, none, none, none, none, none, none, none, none, none, none, none, none, none, none, none, none, none, none, none, none, none, none, none, none, none, none, none, none, none, none, none, none, none, none, none, none, none, none, none, none, none, none, none, none, none, none, none, none, none, none, none, none, none, none, none, none, none, none, none, none, none, none, none, none, none, none, none, none, none, none, none, none, none, none, none, none, none, none, none, none, none, none, none, none, none, none, none, none, none, none, none, none, none, none, none, none, none, none, none, none, none, none, none, none, none, none, none, none, none, none, none, none, none, none, none, none, none, none, none, none, none, none, none, none, none, none, none, none, none, none, none, none, none, none, none, none, none, none, none, none, none, none, none, none, none, none, none, none, none, none, none, none, none, none, none, none, none, none, none, none, none, none, none, none, none, none, none, none, none, none, none, none], [none, none, none, some (.box 26 [.v (.int .i64 m0), .v (.int .i64 m1), .v (.int .i64 m2), .v (.int .i64 m3), .v (.int .i64 m4), .v (.int .i64 m5), .v (.int .i64 m6), .v (.int .i64 m7), .v (.int .i64 m8), .v (.int .i64 m9), .v (.int .i64 m10), .v (.int .i64 m11)]), some (.box 75 [.v (.int .i64 b0), .v (.int .i64 b1), .v (.int .i64 b2), .v (.int .i64 b3), .v (.int .i64 b4), .v (.int .i64 b5)]), some (.box 77 [.v (.int .i64 q0), .v (.int .i64 q1), .v (.int .i64 q2), .v (.int .i64 q3), .sl 5 l.length (hitsC l)]), none, none, none, some (.box 24 [.v (.int .i64 v0_0), .v (.int .i64 v0_1)]), none, none, none, none, none, none, none, none, none, none, none, none, none, none, none, none, none, none, none, none, none, none, none, none, none, none, none, none, none, none, none, none, none, none, none, none, none, none, none, none, none, none, none, none, none, none, none, none, none, none, none, none, none, none, none, none, none, none, none, none, none, none, none, none, none, none, none, none, none, none, none, none, none, none, none, none, none, none, none, none, none, none, none, none, none, none, none, none, none, none, none, none, none, none, none, none, none, none, none, none, none, none, none, none, none, none, none, none, none, none, none, none, none, none, none, none, none, none, none, none, none, none, none, none, none, none, none, none, none, none, none, none, none, none, none, none, none, none, none, none, none, none, none, none, none, none, none, none, none, none, none, none, none, none, none, none, none, none, none, none, none, none, none, none, none, none, none, none, none, none, none, none, none, none, none, none, none, none, none, none, none, none, none, none, none, none, none, none, none, none, none, none, none, none, none, none, none, none, none, none, none, none, none, none, none, none, none, none, none, none, none, none, none, none, none, none, none, none, none, none, none, none, none, none, none, none, none, none, none, none, none, none, none, none, none, none, none, none, none, none, none, none, none, none, none, none, none, none, none, none, none, none, none, none, none, none, none, none, none, none, none, none, none, none]⟩
def mk_law05_TrackNeverExcluded_2 (m0 m1 m2 m3 m4 m5 m6 m7 m8 m9 m10 m11 : Int) (b0 b1 b2 b3 b4 b5 : Int) (q0 q1 q2 q3 : Int) (l : List THit) (v2_0 : Int) (v2_1 : Int) (v2_2 : Int) (v2_3 : Int) (v2_4 : Int) (v2_5 : Int) (v2_6 : Int) (v2_7 : Int) (v2_8 : Int) (v2_9 : Int) (v2_10 : Int) (v2_11 : Int) (v2_12 : Int) (v2_13 : Int) (v2_14 : Int) (v2_15 : Int) : DS := ⟨[none, none, none, some (.t (.c (.p 3 0))), none, some (.t (.c (.p 5 0))), none, some (.t (.c (.v (.int .i64 v2_15)))), none, some (.t (.c (.p 9 0))), none, none, none, none, none, none, none, none, some (.t (.c (.p 18 0))), none, some (.t (.c (.v (.int .i64 v2_14)))), none, none, none, none, none, none, none, none, none, none, none, none, none, none, none, none, none, none, none, none, none, none, none, none, none, none, none, none, none, none, none, none, none, none, none, none, none, none, none, none, none, none, none, none, none, none, none, none, none, none, none, none, none, none, none, none, none, none, none, none, none, none, none, none, none, none, none, none, none, none, none, none, none, none, none, none, none, none, none, none, none, none, none, none, none, none, none, none, none, none, none, none, none, none, none, none, none, none, none, none, none, none, none, none, none, none, none, none, none, none, none, none, none, none, none, none, none, none, none, none, none, none, none, none, none, none, none, none, none, none, none, none, none, none, none, none, none, none, none, none, none, none, none, none, none, none, none, none, none, none, none, none, none, none, none, none, none, none, none, none, none, none, none, none, none, none, none, none, none, none, none, none, none, none, none, none, none, none, none, none, none, none, none, none, none, none, none, none, none, none, none, none, none, none, none, none, none, none, none, none, none, none, none, none, none, none, none, none, none, none, none, none, none, none, none, none, none, none, none, none, none, none, none, none, none, none, none, none, none, none, none, none, none, none, none, none, none, none, none, none, none, none, none, none, none, none, none, none, none, none, none, none, none], [none, none, none, some (.box 26 [.v (.int .i64 m0), .v (.int .i64 m1), .v (.int .i64 m2), .v (.int .i64 m3), .v (.int .i64 m4), .v (.int .i64 m5), .v (.int .i64 m6), .v (.int .i64 m7), .v (.int .i64 m8), .v (.int .i64 m9), .v (.int .i64 m10), .v (.int .i64 m11)]), none, some (.box 77 [.v (.int .i64 q0), .v (.int .i64 q1), .v (.int .i64 q2), .v (.int .i64 q3), .sl 5 l.length (hitsC l)]), none, none, none, some (.box 24 [.v (.int .i64 v2_12), .v (.int .i64 v2_13)]), none, none, none, none, none, none, none, none, some (.box 98 [.v (.int .i64 v2_0), .v (.int .i64 v2_1), .v (.int .i64 v2_4), .v (.int .i64 v2_5), .v (.int .i64 v2_6), .v (.int .i64 v2_7), .v (.int .i64 v2_8), .v (.int .i64 v2_9), .v (.int .i64 v2_10), .v (.int .i64 v2_11), .v (.int .i64 v2_2), .v (.int .i64 v2_3)]), none, none, none, none, none, none, none, none, none, none, none, none, none, none, none, none, none, none, none, none, none, none, none, none, none, none, none, none, none, none, none, none, none, none, none, none, none, none, none, none, none, none, none, none, none, none, none, none, none, none, none, none, none, none, none, none, none, none, none, none, none, none, none, none, none, none, none, none, none, none, none, none, none, none, none, none, none, none, none, none, none, none, none, none, none, none, none, none, none, none, none, none, none, none, none, none, none, none, none, none, none, none, none, none, none, none, none, none, none, none, none, none, none, none, none, none, none, none, none, none, none, none, none, none, none, none, none, none, none, none, none, none, none, none, none, none, none, none, none, none, none, none, none, none, none, none, none, none, none, none, none, none, none, none, none, none, none, none, none, none, none, none, none, none, none, none, none, none, none, none, none, none, none, none, none, none, none, none, none, none, none, none, none, none, none, none, none, none, none, none, none, none, none, none, none, none, none, none, none, none, none, none, none, none, none, none, none, none, none, none, none, none, none, none, none, none, none, none, none, none, none, none, none, none, none, none, none, none, none, none, none, none, none, none, none, none, none, none, none, none, none, none, none, none, none, none, none, none, none, none, none, none, none, none, none]⟩
def vc_law05_TrackNeverExcluded (J : Inv) (m0 m1 m2 m3 m4 m5 m6 m7 m8 m9 m10 m11 : Int) (b0 b1 b2 b3 b4 b5 : Int) (q0 q1 q2 q3 : Int) (l : List THit) (post : DV → Prop) : Prop := (fun (Z1 : TMod) (Z2 : TBox) (Z3 : List THit) => (numsP 5 l.length (hitsC l)) ∧ ((cond (!(decide ((Z3).length ≤ 14))) ((true = true) ∧ ((true = true) ∧ ((true = true) ∧ ((true = true) ∧ ((true = true) ∧ (True)))))) (cond (((Z1).err) != (0 : Int)) ((true = true) ∧ ((true = true) ∧ ((true = true) ∧ ((true = true) ∧ (True))))) (lt ((Z2).err) fun x3 => cond (x3 != (0 : Int)) ((true = true) ∧ ((true = true) ∧ ((true = true) ∧ (True)))) (cond (!(smallB Z2)) ((true = true) ∧ ((true = true) ∧ (True))) (cond ((momE ⟨q0, q1, q2⟩ q3) != (0 : Int)) ((true = true) ∧ (True)) ((numsP 5 l.length (hitsC l)) ∧ (True))))))) ∧ (lt ((bif (!(decide ((Z3).length ≤ 14))) then true else (bif (((Z1).err) != (0 : Int)) then true else (bif (((Z2).err) != (0 : Int)) then true else (bif (!(smallB Z2)) then true else (bif ((momE ⟨q0, q1, q2⟩ q3) != (0 : Int)) then true else ((hitsE Z3) != (0 : Int)))))))) fun x4 => cond x4 (post (.t (.c (.v (.bool true))))) (lt (if (firstNZ [firstNZ [(Z1).err, (Z2).err], momE ⟨q0, q1, q2⟩ q3, unl (canW Z1 Z2) 12]) ≠ 0 then 0 else (Z1).ans Z2 ⟨q0, q1, q2⟩ q3) fun x5 => lt ((firstNZ [firstNZ [(Z1).err, (Z2).err], momE ⟨q0, q1, q2⟩ q3, unl (canW Z1 Z2) 12])) fun x6 => (numsP 5 l.length (hitsC l) ∧ (Z3).length ≤ 1000000) ∧ (lt (if (firstNZ [firstNZ [firstNZ [(Z1).err, (Z2).err], hitsE (listC (Z3.length) mkHit (hitsC Z3))], unl (canW Z1 Z2) 12]) ≠ 0 then 0 else ((Z1).scores Z2 (listC (Z3.length) mkHit (hitsC Z3))).lo) fun x7 => lt (if (firstNZ [firstNZ [firstNZ [(Z1).err, (Z2).err], hitsE (listC (Z3.length) mkHit (hitsC Z3))], unl (canW Z1 Z2) 12]) ≠ 0 then 0 else ((Z1).scores Z2 (listC (Z3.length) mkHit (hitsC Z3))).hi) fun x8 => lt ((firstNZ [firstNZ [firstNZ [(Z1).err, (Z2).err], hitsE (listC (Z3.length) mkHit (hitsC Z3))], unl (canW Z1 Z2) 12])) fun x9 => (numsP 5 (Z3.length) (hitsC Z3)) ∧ ((cond (x6 != x9) ((true = true) ∧ ((true = true) ∧ ((true = true) ∧ (True)))) (cond ((firstNZ [(Z1).err, (Z2).err]) != (0 : Int)) ((true = true) ∧ ((true = true) ∧ (True))) (cond (x6 != (0 : Int)) (cond (x6 != (12 : Int)) ((true = true) ∧ ((true = true) ∧ (True))) (cond ((((stepsL Z1 Z2).length : Nat) : Int) != (0 : Int)) ((true = true) ∧ (True)) (((Z2).lo.inS 20 = true ∧ (Z2).hi.inS 20 = true) ∧ (True)))) ((false = false) ∧ (((Z2).lo.inS 20 = true ∧ (Z2).hi.inS 20 = true) ∧ (True)))))) ∧ (lt ((bif (x6 != x9) then true else (bif ((firstNZ [(Z1).err, (Z2).err]) != (0 : Int)) then true else (bif (x6 != (0 : Int)) then (bif (x6 != (12 : Int)) then true else (bif ((((stepsL Z1 Z2).length : Nat) : Int) != (0 : Int)) then true else decide ((((stepsL Z1 Z2).length : Nat) : Int) > ((Z2).count)))) else decide ((((stepsL Z1 Z2).length : Nat) : Int) > ((Z2).count)))))) fun x10 => cond x10 (post (.t (.c (.v (.bool false))))) (cond (x6 != (0 : Int)) (post (.t (.c (.v (.bool true))))) (∃ n, J 0 (n :: []) (mk_law05_TrackNeverExcluded_0 m0 m1 m2 m3 m4 m5 m6 m7 m8 m9 m10 m11 b0 b1 b2 b3 b4 b5 q0 q1 q2 q3 l x7 x8 0 x5)))))))))) (⟨m0, m1, m2, m3, m4, m5, m6, m7, m8, m9, m10, m11⟩ : TMod) (⟨⟨b0, b1, b2⟩, ⟨b3, b4, b5⟩⟩ : TBox) (listC l.length mkHit (hitsC l))
def ann_law05_TrackNeverExcluded : Ann := ⟨fun r => lookA r [(6, ([[], [], [], [2], [2, 3], [0, 1, 2, 3, 4], [0, 1, 2, 3, 4, 5], [0, 1, 2, 3, 4, 5, 6], [0, 1, 2, 3, 4, 5, 6], [], [0, 1, 2, 3, 4, 5, 6, 7, 9], [0, 1, 2, 3, 4, 5, 6, 7, 8, 9, 10]], [[73, 74, 9], [73, 74, 9], [73, 74, 9], [73, 74, 9], [74, 9], [9], [9], [9], [9], [73, 74], [], []])), (15, ([[], [], [], [1, 2], [1, 2, 3], [0, 1, 2, 3, 4], [0, 1, 2, 3, 4, 5]], [[123], [123], [123], [123], [123], [], []])), (17, ([[], [], [], [1, 2], [1, 2, 3], [], [5], [0, 1, 2, 3, 4, 5, 6], [0, 1, 2, 3, 4, 5, 6, 7], [0, 1, 2, 3, 4, 5, 6, 7, 8], [0, 1, 2, 3, 4, 5, 6, 7, 8], [0, 1, 2, 3, 4, 5, 6, 7, 8, 9], [0, 1, 2, 3, 4, 5, 6, 7, 8, 9, 10, 11]], [[133], [133], [133], [133], [133], [133], [133], [], [], [], [], [], []])), (18, ([[], [], [], [1, 2], [1, 2, 3], [], [5], [5, 6], [0, 1, 2, 3, 4, 5, 6, 7], [0, 1, 2, 3, 4, 5, 6, 7, 8], [0, 1, 2, 3, 4, 5, 6, 7, 8, 9], [0, 1, 2, 3, 4, 5, 6, 7, 8, 9], [0, 1, 2, 3, 4, 5, 6, 7, 8, 9, 10], [0, 1, 2, 3, 4, 5, 6, 7, 8, 9, 10, 11, 12]], [[144, 145], [144, 145], [144, 145], [144, 145], [144, 145], [144, 145], [144, 145], [145], [], [], [], [], [], []])), (29, ([[], [], [1], [1, 2], [], [4], [0, 1, 2, 3, 4, 5], [0, 1, 2, 3, 4, 5, 6], [0, 1, 2, 3, 4, 5, 6, 7], [0, 1, 2, 3, 4, 5, 6, 7], [0, 1, 2, 3, 4, 5, 6, 7, 8], [0, 1, 2, 3, 4, 5, 6, 7, 8, 9, 10]], [[203], [203], [203], [203], [203], [203], [], [], [], [], [], []])), (30, ([[], [], [1], [1, 2], [], [4], [4, 5], [0, 1, 2, 3, 4, 5, 6], [0, 1, 2, 3, 4, 5, 6, 7], [0, 1, 2, 3, 4, 5, 6, 7, 8], [0, 1, 2, 3, 4, 5, 6, 7, 8], [], [0, 1, 2, 3, 4, 5, 6, 7, 8, 9, 11], [0, 1, 2, 3, 4, 5, 6, 7, 8, 9, 10, 11, 12]], [[213, 214, 23], [213, 214, 23], [213, 214, 23], [213, 214, 23], [213, 214, 23], [213, 214, 23], [214, 23], [23], [23], [23], [23], [213, 214], [], []])), (33, ([[], [], [1], [1, 2], [0, 1, 2, 3], [0, 1, 2, 3, 4], [0, 1, 2, 3, 4, 5], [0, 1, 2, 3, 4, 5], [0, 1, 2, 3, 4, 5, 6], [0, 1, 2, 3, 4, 5, 6, 7, 8]], [[253], [253], [253], [253], [], [], [], [], [], []]))], fun b => lookA b [(0, (none, some ⟨[3, 4, 5, 7, 9, 11, 13], [3, 4, 5, 9], []⟩)), (2, (none, some ⟨[3, 5, 7, 9, 18, 20], [3, 5, 9, 18], []⟩))], fun _ => [], I49, false, fun r => lookA r [(3, (5, [59])), (8, (4, [109])), (19, (3, [177])), (31, (4, [247])), (34, (3, [273]))], fun _ => none⟩
theorem ev_law05_TrackNeverExcluded (J : Inv) (m0 m1 m2 m3 m4 m5 m6 m7 m8 m9 m10 m11 : Int) (b0 b1 b2 b3 b4 b5 : Int) (q0 q1 q2 q3 : Int) (l : List THit) (post : DV → Prop) : evFn Try.prog tab S60 ann_law05_TrackNeverExcluded J Try.f9 [.t (.a [.v (.int .i64 m0), .v (.int .i64 m1), .v (.int .i64 m2), .v (.int .i64 m3), .v (.int .i64 m4), .v (.int .i64 m5), .v (.int .i64 m6), .v (.int .i64 m7), .v (.int .i64 m8), .v (.int .i64 m9), .v (.int .i64 m10), .v (.int .i64 m11)]), .t (.a [.v (.int .i64 b0), .v (.int .i64 b1), .v (.int .i64 b2), .v (.int .i64 b3), .v (.int .i64 b4), .v (.int .i64 b5)]), .t (.a [.v (.int .i64 q0), .v (.int .i64 q1), .v (.int .i64 q2), .v (.int .i64 q3), .sl 5 l.length (hitsC l)])] post = vc_law05_TrackNeverExcluded J m0 m1 m2 m3 m4 m5 m6 m7 m8 m9 m10 m11 b0 b1 b2 b3 b4 b5 q0 q1 q2 q3 l post := by kernel_rfl
theorem fit_law05_TrackNeverExcluded : okFn ann_law05_TrackNeverExcluded Try.f9 = true := by kernel_rfl
def rd_law05_TrackNeverExcluded_0 (J : Inv) (m0 m1 m2 m3 m4 m5 m6 m7 m8 m9 m10 m11 : Int) (b0 b1 b2 b3 b4 b5 : Int) (q0 q1 q2 q3 : Int) (l : List THit) (v0_0 : Int) (v0_1 : Int) (v0_2 : Int) (v0_3 : Int) (nn0 : Nat) (post : DV → Prop) : Prop := (fun (Z1 : TMod) (Z2 : TBox) (Z3 : List THit) => cond (decide (v0_2 < (((stepsL Z1 Z2).length : Nat) : Int))) ((0 ≤ v0_2 ∧ v0_2 < (((stepsL Z1 Z2).length : Nat) : Int)) ∧ (cond (((Z1).stE (plAt (stepsL Z1 Z2) v0_2.toNat)) != (0 : Int)) (post (.t (.c (.v (.bool false))))) ((0 ≤ v0_2 ∧ v0_2 < (((stepsL Z1 Z2).length : Nat) : Int)) ∧ ((0 ≤ v0_2 ∧ v0_2 < (((stepsL Z1 Z2).length : Nat) : Int)) ∧ ((numsP 5 l.length (hitsC l) ∧ (Z3).length ≤ 1000000) ∧ ((numsP 5 (Z3.length) (hitsC Z3)) ∧ ((cond ((firstNZ [(Z1).both (plAt (stepsL Z1 Z2) v0_2.toNat), momE ⟨q0, q1, q2⟩ q3]) != (0 : Int)) ((true = true) ∧ ((true = true) ∧ ((true = true) ∧ ((true = true) ∧ (True))))) (cond ((firstNZ [(Z1).both (plAt (stepsL Z1 Z2) v0_2.toNat), hitsE (listC (Z3.length) mkHit (hitsC Z3))]) != (0 : Int)) ((true = true) ∧ ((true = true) ∧ ((true = true) ∧ (True)))) (cond (v0_3 == (2 : Int)) (cond (!(if firstNZ [(Z1).both (plAt (stepsL Z1 Z2) v0_2.toNat), momE ⟨q0, q1, q2⟩ q3] = 0 then (Z1).reached (plAt (stepsL Z1 Z2) v0_2.toNat) ⟨q0, q1, q2⟩ q3 else false)) ((true = true) ∧ ((true = true) ∧ (True))) (cond (v0_3 == (0 : Int)) (cond (if firstNZ [(Z1).both (plAt (stepsL Z1 Z2) v0_2.toNat), momE ⟨q0, q1, q2⟩ q3] = 0 then (Z1).reached (plAt (stepsL Z1 Z2) v0_2.toNat) ⟨q0, q1, q2⟩ q3 else false) ((true = true) ∧ (True)) (True)) ((false = false) ∧ (True)))) ((false = false) ∧ (cond (v0_3 == (0 : Int)) (cond (if firstNZ [(Z1).both (plAt (stepsL Z1 Z2) v0_2.toNat), momE ⟨q0, q1, q2⟩ q3] = 0 then (Z1).reached (plAt (stepsL Z1 Z2) v0_2.toNat) ⟨q0, q1, q2⟩ q3 else false) ((true = true) ∧ (True)) (True)) ((false = false) ∧ (True))))))) ∧ (lt ((bif ((firstNZ [(Z1).both (plAt (stepsL Z1 Z2) v0_2.toNat), momE ⟨q0, q1, q2⟩ q3]) != (0 : Int)) then true else (bif ((firstNZ [(Z1).both (plAt (stepsL Z1 Z2) v0_2.toNat), hitsE (listC (Z3.length) mkHit (hitsC Z3))]) != (0 : Int)) then true else (bif (v0_3 == (2 : Int)) then (bif (!(if firstNZ [(Z1).both (plAt (stepsL Z1 Z2) v0_2.toNat), momE ⟨q0, q1, q2⟩ q3] = 0 then (Z1).reached (plAt (stepsL Z1 Z2) v0_2.toNat) ⟨q0, q1, q2⟩ q3 else false)) then true else (bif (v0_3 == (0 : Int)) then (bif if firstNZ [(Z1).both (plAt (stepsL Z1 Z2) v0_2.toNat), momE ⟨q0, q1, q2⟩ q3] = 0 then (Z1).reached (plAt (stepsL Z1 Z2) v0_2.toNat) ⟨q0, q1, q2⟩ q3 else false then true else (!(inB (if firstNZ [(Z1).both (plAt (stepsL Z1 Z2) v0_2.toNat), hitsE (listC (Z3.length) mkHit (hitsC Z3))] = 0 then (Z1).score (plAt (stepsL Z1 Z2) v0_2.toNat) (listC (Z3.length) mkHit (hitsC Z3)) else 0) v0_0 v0_1))) else (!(inB (if firstNZ [(Z1).both (plAt (stepsL Z1 Z2) v0_2.toNat), hitsE (listC (Z3.length) mkHit (hitsC Z3))] = 0 then (Z1).score (plAt (stepsL Z1 Z2) v0_2.toNat) (listC (Z3.length) mkHit (hitsC Z3)) else 0) v0_0 v0_1)))) else (bif (v0_3 == (0 : Int)) then (bif if firstNZ [(Z1).both (plAt (stepsL Z1 Z2) v0_2.toNat), momE ⟨q0, q1, q2⟩ q3] = 0 then (Z1).reached (plAt (stepsL Z1 Z2) v0_2.toNat) ⟨q0, q1, q2⟩ q3 else false then true else (!(inB (if firstNZ [(Z1).both (plAt (stepsL Z1 Z2) v0_2.toNat), hitsE (listC (Z3.length) mkHit (hitsC Z3))] = 0 then (Z1).score (plAt (stepsL Z1 Z2) v0_2.toNat) (listC (Z3.length) mkHit (hitsC Z3)) else 0) v0_0 v0_1))) else (!(inB (if firstNZ [(Z1).both (plAt (stepsL Z1 Z2) v0_2.toNat), hitsE (listC (Z3.length) mkHit (hitsC Z3))] = 0 then (Z1).score (plAt (stepsL Z1 Z2) v0_2.toNat) (listC (Z3.length) mkHit (hitsC Z3)) else 0) v0_0 v0_1))))))) fun x1 => cond x1 (post (.t (.c (.v (.bool false))))) (lt (IntKind.i64.wrap (v0_2 + (1 : Int))) fun x2 => J 0 (nn0 :: []) (mk_law05_TrackNeverExcluded_0 m0 m1 m2 m3 m4 m5 m6 m7 m8 m9 m10 m11 b0 b1 b2 b3 b4 b5 q0 q1 q2 q3 l v0_0 v0_1 x2 v0_3)))))))))) (lt ((dv1 Z2).lo.x) fun x3 => lt ((dv1 Z2).lo.y) fun x4 => lt ((dv1 Z2).lo.z) fun x5 => lt ((dv1 Z2).hi.x) fun x6 => lt ((dv1 Z2).hi.y) fun x7 => lt ((dv1 Z2).hi.z) fun x8 => lt ((dv2 Z2).lo.x) fun x9 => lt ((dv2 Z2).lo.y) fun x10 => lt ((dv2 Z2).lo.z) fun x11 => lt ((dv2 Z2).hi.x) fun x12 => lt ((dv2 Z2).hi.y) fun x13 => lt ((dv2 Z2).hi.z) fun x14 => lt (divE Z2) fun x15 => cond (x15 != (0 : Int)) (post (.t (.c (.v (.bool (x15 == (12 : Int))))))) (∃ n, J 2 (n :: []) (mk_law05_TrackNeverExcluded_2 m0 m1 m2 m3 m4 m5 m6 m7 m8 m9 m10 m11 b0 b1 b2 b3 b4 b5 q0 q1 q2 q3 l x3 x4 x13 x14 x5 x6 x7 x8 x9 x10 x11 x12 v0_0 v0_1 0 v0_3)))) (⟨m0, m1, m2, m3, m4, m5, m6, m7, m8, m9, m10, m11⟩ : TMod) (⟨⟨b0, b1, b2⟩, ⟨b3, b4, b5⟩⟩ : TBox) (listC l.length mkHit (hitsC l))
theorem er_law05_TrackNeverExcluded_0 (J : Inv) (m0 m1 m2 m3 m4 m5 m6 m7 m8 m9 m10 m11 : Int) (b0 b1 b2 b3 b4 b5 : Int) (q0 q1 q2 q3 : Int) (l : List THit) (v0_0 : Int) (v0_1 : Int) (v0_2 : Int) (v0_3 : Int) (nn0 : Nat) (post : DV → Prop) : round Try.prog tab S60 ann_law05_TrackNeverExcluded J Try.f9 post 0 (nn0 :: []) (mk_law05_TrackNeverExcluded_0 m0 m1 m2 m3 m4 m5 m6 m7 m8 m9 m10 m11 b0 b1 b2 b3 b4 b5 q0 q1 q2 q3 l v0_0 v0_1 v0_2 v0_3) = rd_law05_TrackNeverExcluded_0 J m0 m1 m2 m3 m4 m5 m6 m7 m8 m9 m10 m11 b0 b1 b2 b3 b4 b5 q0 q1 q2 q3 l v0_0 v0_1 v0_2 v0_3 nn0 post := by kernel_rfl
def rd_law05_TrackNeverExcluded_2_0 (J : Inv) (m0 m1 m2 m3 m4 m5 m6 m7 m8 m9 m10 m11 : Int) (b0 b1 b2 b3 b4 b5 : Int) (q0 q1 q2 q3 : Int) (l : List THit) (v2_0 : Int) (v2_1 : Int) (v2_2 : Int) (v2_3 : Int) (v2_4 : Int) (v2_5 : Int) (v2_6 : Int) (v2_7 : Int) (v2_8 : Int) (v2_9 : Int) (v2_10 : Int) (v2_11 : Int) (v2_12 : Int) (v2_13 : Int) (v2_15 : Int) (nn2 : Nat) (post : DV → Prop) : Prop := (fun (Z1 : TMod) (Z2 : TBox) (Z3 : List THit) => (0 ≤ (0 : Int) ∧ (0 : Int) < ((2 : Nat) : Int)) ∧ (lt ((Z2).err) fun x1 => cond (x1 != (0 : Int)) (post (.t (.c (.v (.bool false))))) ((0 ≤ (0 : Int) ∧ (0 : Int) < ((2 : Nat) : Int)) ∧ (lt (if (firstNZ [firstNZ [(Z1).err, (Z2).err], momE ⟨q0, q1, q2⟩ q3, unl (canW Z1 Z2) 12]) ≠ 0 then 0 else (Z1).ans Z2 ⟨q0, q1, q2⟩ q3) fun x2 => lt ((firstNZ [firstNZ [(Z1).err, (Z2).err], momE ⟨q0, q1, q2⟩ q3, unl (canW Z1 Z2) 12])) fun x3 => (0 ≤ (0 : Int) ∧ (0 : Int) < ((2 : Nat) : Int)) ∧ ((numsP 5 l.length (hitsC l) ∧ (Z3).length ≤ 1000000) ∧ (lt (if (firstNZ [firstNZ [firstNZ [(Z1).err, (Z2).err], hitsE (listC (Z3.length) mkHit (hitsC Z3))], unl (canW Z1 Z2) 12]) ≠ 0 then 0 else ((Z1).scores Z2 (listC (Z3.length) mkHit (hitsC Z3))).lo) fun x4 => lt (if (firstNZ [firstNZ [firstNZ [(Z1).err, (Z2).err], hitsE (listC (Z3.length) mkHit (hitsC Z3))], unl (canW Z1 Z2) 12]) ≠ 0 then 0 else ((Z1).scores Z2 (listC (Z3.length) mkHit (hitsC Z3))).hi) fun x5 => lt ((firstNZ [firstNZ [firstNZ [(Z1).err, (Z2).err], hitsE (listC (Z3.length) mkHit (hitsC Z3))], unl (canW Z1 Z2) 12])) fun x6 => (numsP 5 (Z3.length) (hitsC Z3)) ∧ ((cond (x3 != x6) ((true = true) ∧ ((true = true) ∧ (True))) (cond (x3 != (0 : Int)) (cond (x3 != (12 : Int)) ((true = true) ∧ (True)) (cond (x3 == (0 : Int)) (cond (v2_15 != (1 : Int)) (cond (x2 != v2_15) ((true = true) ∧ (True)) (True)) ((false = false) ∧ (True))) ((false = false) ∧ (True)))) ((false = false) ∧ (cond (x3 == (0 : Int)) (cond (v2_15 != (1 : Int)) (cond (x2 != v2_15) ((true = true) ∧ (True)) (True)) ((false = false) ∧ (True))) ((false = false) ∧ (True)))))) ∧ (lt ((bif (x3 != x6) then true else (bif (x3 != (0 : Int)) then (bif (x3 != (12 : Int)) then true else (bif (x3 == (0 : Int)) then (bif (v2_15 != (1 : Int)) then (bif (x2 != v2_15) then true else decide (x5 > v2_13)) else decide (x5 > v2_13)) else false)) else (bif (x3 == (0 : Int)) then (bif (v2_15 != (1 : Int)) then (bif (x2 != v2_15) then true else decide (x5 > v2_13)) else decide (x5 > v2_13)) else false)))) fun x7 => cond x7 (post (.t (.c (.v (.bool false))))) ((0 ≤ (0 : Int) ∧ (0 : Int) < ((2 : Nat) : Int)) ∧ ((cond ((firstNZ [(Z1).err, (Z2).err]) != (0 : Int)) ((true = true) ∧ (True)) (cond (decide ((((stepsL Z1 Z2).length : Nat) : Int) > (0 : Int))) (cond (x3 != (0 : Int)) ((true = true) ∧ (True)) (True)) ((false = false) ∧ (True)))) ∧ (lt ((bif ((firstNZ [(Z1).err, (Z2).err]) != (0 : Int)) then true else (bif decide ((((stepsL Z1 Z2).length : Nat) : Int) > (0 : Int)) then (bif (x3 != (0 : Int)) then true else decide (x4 < v2_12)) else false))) fun x8 => cond x8 (post (.t (.c (.v (.bool false))))) (J 2 (nn2 :: []) (mk_law05_TrackNeverExcluded_2 m0 m1 m2 m3 m4 m5 m6 m7 m8 m9 m10 m11 b0 b1 b2 b3 b4 b5 q0 q1 q2 q3 l v2_0 v2_1 v2_2 v2_3 v2_4 v2_5 v2_6 v2_7 v2_8 v2_9 v2_10 v2_11 v2_12 v2_13 1 v2_15))))))))))))) (⟨m0, m1, m2, m3, m4, m5, m6, m7, m8, m9, m10, m11⟩ : TMod) (⟨⟨v2_0, v2_1, v2_4⟩, ⟨v2_5, v2_6, v2_7⟩⟩ : TBox) (listC l.length mkHit (hitsC l))
theorem er_law05_TrackNeverExcluded_2_0 (J : Inv) (m0 m1 m2 m3 m4 m5 m6 m7 m8 m9 m10 m11 : Int) (b0 b1 b2 b3 b4 b5 : Int) (q0 q1 q2 q3 : Int) (l : List THit) (v2_0 : Int) (v2_1 : Int) (v2_2 : Int) (v2_3 : Int) (v2_4 : Int) (v2_5 : Int) (v2_6 : Int) (v2_7 : Int) (v2_8 : Int) (v2_9 : Int) (v2_10 : Int) (v2_11 : Int) (v2_12 : Int) (v2_13 : Int) (v2_15 : Int) (nn2 : Nat) (post : DV → Prop) : round Try.prog tab S60 ann_law05_TrackNeverExcluded J Try.f9 post 1 (nn2 :: []) (mk_law05_TrackNeverExcluded_2 m0 m1 m2 m3 m4 m5 m6 m7 m8 m9 m10 m11 b0 b1 b2 b3 b4 b5 q0 q1 q2 q3 l v2_0 v2_1 v2_2 v2_3 v2_4 v2_5 v2_6 v2_7 v2_8 v2_9 v2_10 v2_11 v2_12 v2_13 0 v2_15) = rd_law05_TrackNeverExcluded_2_0 J m0 m1 m2 m3 m4 m5 m6 m7 m8 m9 m10 m11 b0 b1 b2 b3 b4 b5 q0 q1 q2 q3 l v2_0 v2_1 v2_2 v2_3 v2_4 v2_5 v2_6 v2_7 v2_8 v2_9 v2_10 v2_11 v2_12 v2_13 v2_15 nn2 post := by kernel_rfl
def rd_law05_TrackNeverExcluded_2_1 (J : Inv) (m0 m1 m2 m3 m4 m5 m6 m7 m8 m9 m10 m11 : Int) (b0 b1 b2 b3 b4 b5 : Int) (q0 q1 q2 q3 : Int) (l : List THit) (v2_0 : Int) (v2_1 : Int) (v2_2 : Int) (v2_3 : Int) (v2_4 : Int) (v2_5 : Int) (v2_6 : Int) (v2_7 : Int) (v2_8 : Int) (v2_9 : Int) (v2_10 : Int) (v2_11 : Int) (v2_12 : Int) (v2_13 : Int) (v2_15 : Int) (nn2 : Nat) (post : DV → Prop) : Prop := (fun (Z1 : TMod) (Z2 : TBox) (Z3 : List THit) => (0 ≤ (1 : Int) ∧ (1 : Int) < ((2 : Nat) : Int)) ∧ (lt ((Z2).err) fun x1 => cond (x1 != (0 : Int)) (post (.t (.c (.v (.bool false))))) ((0 ≤ (1 : Int) ∧ (1 : Int) < ((2 : Nat) : Int)) ∧ (lt (if (firstNZ [firstNZ [(Z1).err, (Z2).err], momE ⟨q0, q1, q2⟩ q3, unl (canW Z1 Z2) 12]) ≠ 0 then 0 else (Z1).ans Z2 ⟨q0, q1, q2⟩ q3) fun x2 => lt ((firstNZ [firstNZ [(Z1).err, (Z2).err], momE ⟨q0, q1, q2⟩ q3, unl (canW Z1 Z2) 12])) fun x3 => (0 ≤ (1 : Int) ∧ (1 : Int) < ((2 : Nat) : Int)) ∧ ((numsP 5 l.length (hitsC l) ∧ (Z3).length ≤ 1000000) ∧ (lt (if (firstNZ [firstNZ [firstNZ [(Z1).err, (Z2).err], hitsE (listC (Z3.length) mkHit (hitsC Z3))], unl (canW Z1 Z2) 12]) ≠ 0 then 0 else ((Z1).scores Z2 (listC (Z3.length) mkHit (hitsC Z3))).lo) fun x4 => lt (if (firstNZ [firstNZ [firstNZ [(Z1).err, (Z2).err], hitsE (listC (Z3.length) mkHit (hitsC Z3))], unl (canW Z1 Z2) 12]) ≠ 0 then 0 else ((Z1).scores Z2 (listC (Z3.length) mkHit (hitsC Z3))).hi) fun x5 => lt ((firstNZ [firstNZ [firstNZ [(Z1).err, (Z2).err], hitsE (listC (Z3.length) mkHit (hitsC Z3))], unl (canW Z1 Z2) 12])) fun x6 => (numsP 5 (Z3.length) (hitsC Z3)) ∧ ((cond (x3 != x6) ((true = true) ∧ ((true = true) ∧ (True))) (cond (x3 != (0 : Int)) (cond (x3 != (12 : Int)) ((true = true) ∧ (True)) (cond (x3 == (0 : Int)) (cond (v2_15 != (1 : Int)) (cond (x2 != v2_15) ((true = true) ∧ (True)) (True)) ((false = false) ∧ (True))) ((false = false) ∧ (True)))) ((false = false) ∧ (cond (x3 == (0 : Int)) (cond (v2_15 != (1 : Int)) (cond (x2 != v2_15) ((true = true) ∧ (True)) (True)) ((false = false) ∧ (True))) ((false = false) ∧ (True)))))) ∧ (lt ((bif (x3 != x6) then true else (bif (x3 != (0 : Int)) then (bif (x3 != (12 : Int)) then true else (bif (x3 == (0 : Int)) then (bif (v2_15 != (1 : Int)) then (bif (x2 != v2_15) then true else decide (x5 > v2_13)) else decide (x5 > v2_13)) else false)) else (bif (x3 == (0 : Int)) then (bif (v2_15 != (1 : Int)) then (bif (x2 != v2_15) then true else decide (x5 > v2_13)) else decide (x5 > v2_13)) else false)))) fun x7 => cond x7 (post (.t (.c (.v (.bool false))))) ((0 ≤ (1 : Int) ∧ (1 : Int) < ((2 : Nat) : Int)) ∧ ((cond ((firstNZ [(Z1).err, (Z2).err]) != (0 : Int)) ((true = true) ∧ (True)) (cond (decide ((((stepsL Z1 Z2).length : Nat) : Int) > (0 : Int))) (cond (x3 != (0 : Int)) ((true = true) ∧ (True)) (True)) ((false = false) ∧ (True)))) ∧ (lt ((bif ((firstNZ [(Z1).err, (Z2).err]) != (0 : Int)) then true else (bif decide ((((stepsL Z1 Z2).length : Nat) : Int) > (0 : Int)) then (bif (x3 != (0 : Int)) then true else decide (x4 < v2_12)) else false))) fun x8 => cond x8 (post (.t (.c (.v (.bool false))))) (J 2 (nn2 :: []) (mk_law05_TrackNeverExcluded_2 m0 m1 m2 m3 m4 m5 m6 m7 m8 m9 m10 m11 b0 b1 b2 b3 b4 b5 q0 q1 q2 q3 l v2_0 v2_1 v2_2 v2_3 v2_4 v2_5 v2_6 v2_7 v2_8 v2_9 v2_10 v2_11 v2_12 v2_13 2 v2_15))))))))))))) (⟨m0, m1, m2, m3, m4, m5, m6, m7, m8, m9, m10, m11⟩ : TMod) (⟨⟨v2_8, v2_9, v2_10⟩, ⟨v2_11, v2_2, v2_3⟩⟩ : TBox) (listC l.length mkHit (hitsC l))
theorem er_law05_TrackNeverExcluded_2_1 (J : Inv) (m0 m1 m2 m3 m4 m5 m6 m7 m8 m9 m10 m11 : Int) (b0 b1 b2 b3 b4 b5 : Int) (q0 q1 q2 q3 : Int) (l : List THit) (v2_0 : Int) (v2_1 : Int) (v2_2 : Int) (v2_3 : Int) (v2_4 : Int) (v2_5 : Int) (v2_6 : Int) (v2_7 : Int) (v2_8 : Int) (v2_9 : Int) (v2_10 : Int) (v2_11 : Int) (v2_12 : Int) (v2_13 : Int) (v2_15 : Int) (nn2 : Nat) (post : DV → Prop) : round Try.prog tab S60 ann_law05_TrackNeverExcluded J Try.f9 post 1 (nn2 :: []) (mk_law05_TrackNeverExcluded_2 m0 m1 m2 m3 m4 m5 m6 m7 m8 m9 m10 m11 b0 b1 b2 b3 b4 b5 q0 q1 q2 q3 l v2_0 v2_1 v2_2 v2_3 v2_4 v2_5 v2_6 v2_7 v2_8 v2_9 v2_10 v2_11 v2_12 v2_13 1 v2_15) = rd_law05_TrackNeverExcluded_2_1 J m0 m1 m2 m3 m4 m5 m6 m7 m8 m9 m10 m11 b0 b1 b2 b3 b4 b5 q0 q1 q2 q3 l v2_0 v2_1 v2_2 v2_3 v2_4 v2_5 v2_6 v2_7 v2_8 v2_9 v2_10 v2_11 v2_12 v2_13 v2_15 nn2 post := by kernel_rfl
def rd_law05_TrackNeverExcluded_2_2 (J : Inv) (m0 m1 m2 m3 m4 m5 m6 m7 m8 m9 m10 m11 : Int) (b0 b1 b2 b3 b4 b5 : Int) (q0 q1 q2 q3 : Int) (l : List THit) (v2_0 : Int) (v2_1 : Int) (v2_2 : Int) (v2_3 : Int) (v2_4 : Int) (v2_5 : Int) (v2_6 : Int) (v2_7 : Int) (v2_8 : Int) (v2_9 : Int) (v2_10 : Int) (v2_11 : Int) (v2_12 : Int) (v2_13 : Int) (v2_15 : Int) (nn2 : Nat) (post : DV → Prop) : Prop := post (.t (.c (.v (.bool true))))
theorem er_law05_TrackNeverExcluded_2_2 (J : Inv) (m0 m1 m2 m3 m4 m5 m6 m7 m8 m9 m10 m11 : Int) (b0 b1 b2 b3 b4 b5 : Int) (q0 q1 q2 q3 : Int) (l : List THit) (v2_0 : Int) (v2_1 : Int) (v2_2 : Int) (v2_3 : Int) (v2_4 : Int) (v2_5 : Int) (v2_6 : Int) (v2_7 : Int) (v2_8 : Int) (v2_9 : Int) (v2_10 : Int) (v2_11 : Int) (v2_12 : Int) (v2_13 : Int) (v2_15 : Int) (nn2 : Nat) (post : DV → Prop) : round Try.prog tab S60 ann_law05_TrackNeverExcluded J Try.f9 post 1 (nn2 :: []) (mk_law05_TrackNeverExcluded_2 m0 m1 m2 m3 m4 m5 m6 m7 m8 m9 m10 m11 b0 b1 b2 b3 b4 b5 q0 q1 q2 q3 l v2_0 v2_1 v2_2 v2_3 v2_4 v2_5 v2_6 v2_7 v2_8 v2_9 v2_10 v2_11 v2_12 v2_13 2 v2_15) = rd_law05_TrackNeverExcluded_2_2 J m0 m1 m2 m3 m4 m5 m6 m7 m8 m9 m10 m11 b0 b1 b2 b3 b4 b5 q0 q1 q2 q3 l v2_0 v2_1 v2_2 v2_3 v2_4 v2_5 v2_6 v2_7 v2_8 v2_9 v2_10 v2_11 v2_12 v2_13 v2_15 nn2 post := by kernel_rfl
theorem lp_law05_TrackNeverExcluded (J : Inv) (post : DV → Prop) : AllG J (loopsFn Try.prog tab S60 ann_law05_TrackNeverExcluded J Try.f9 post) = (((∀ F s, ¬ J 0 (0 :: F) s) ∧ ∀ n F s, J 0 ((n + 1) :: F) s → round Try.prog tab S60 ann_law05_TrackNeverExcluded J Try.f9 post 0 (n :: F) s) ∧ ((∀ F s, ¬ J 2 (0 :: F) s) ∧ ∀ n F s, J 2 ((n + 1) :: F) s → round Try.prog tab S60 ann_law05_TrackNeverExcluded J Try.f9 post 1 (n :: F) s) ∧ True) := by kernel_rfl
def J_law05_TrackNeverExcluded (m0 m1 m2 m3 m4 m5 m6 m7 m8 m9 m10 m11 : Int) (b0 b1 b2 b3 b4 b5 : Int) (q0 q1 q2 q3 : Int) (l : List THit) : Inv := fun b F s => match b, F with
 | 0, [nn0] => ∃ (v0_0 : Int) (v0_1 : Int) (v0_2 : Int) (v0_3 : Int), s = mk_law05_TrackNeverExcluded_0 m0 m1 m2 m3 m4 m5 m6 m7 m8 m9 m10 m11 b0 b1 b2 b3 b4 b5 q0 q1 q2 q3 l v0_0 v0_1 v0_2 v0_3 ∧ (ExH (⟨m0, m1, m2, m3, m4, m5, m6, m7, m8, m9, m10, m11⟩ : TMod) (⟨⟨b0, b1, b2⟩, ⟨b3, b4, b5⟩⟩ : TBox) l (⟨q0, q1, q2⟩ : V3) q3 ∧ canW (⟨m0, m1, m2, m3, m4, m5, m6, m7, m8, m9, m10, m11⟩ : TMod) (⟨⟨b0, b1, b2⟩, ⟨b3, b4, b5⟩⟩ : TBox) = true ∧ v0_0 = ((⟨m0, m1, m2, m3, m4, m5, m6, m7, m8, m9, m10, m11⟩ : TMod).scores (⟨⟨b0, b1, b2⟩, ⟨b3, b4, b5⟩⟩ : TBox) l).lo ∧ v0_1 = ((⟨m0, m1, m2, m3, m4, m5, m6, m7, m8, m9, m10, m11⟩ : TMod).scores (⟨⟨b0, b1, b2⟩, ⟨b3, b4, b5⟩⟩ : TBox) l).hi ∧ v0_3 = (⟨m0, m1, m2, m3, m4, m5, m6, m7, m8, m9, m10, m11⟩ : TMod).ans (⟨⟨b0, b1, b2⟩, ⟨b3, b4, b5⟩⟩ : TBox) (⟨q0, q1, q2⟩ : V3) q3 ∧ 0 ≤ v0_2 ∧ v0_2 ≤ ((⟨m0, m1, m2, m3, m4, m5, m6, m7, m8, m9, m10, m11⟩ : TMod).steps (⟨⟨b0, b1, b2⟩, ⟨b3, b4, b5⟩⟩ : TBox)).length ∧ (nn0 : Int) + v0_2 = ((⟨m0, m1, m2, m3, m4, m5, m6, m7, m8, m9, m10, m11⟩ : TMod).steps (⟨⟨b0, b1, b2⟩, ⟨b3, b4, b5⟩⟩ : TBox)).length + 1)
 | 2, [nn2] => ∃ (v2_0 : Int) (v2_1 : Int) (v2_2 : Int) (v2_3 : Int) (v2_4 : Int) (v2_5 : Int) (v2_6 : Int) (v2_7 : Int) (v2_8 : Int) (v2_9 : Int) (v2_10 : Int) (v2_11 : Int) (v2_12 : Int) (v2_13 : Int) (v2_14 : Int) (v2_15 : Int), s = mk_law05_TrackNeverExcluded_2 m0 m1 m2 m3 m4 m5 m6 m7 m8 m9 m10 m11 b0 b1 b2 b3 b4 b5 q0 q1 q2 q3 l v2_0 v2_1 v2_2 v2_3 v2_4 v2_5 v2_6 v2_7 v2_8 v2_9 v2_10 v2_11 v2_12 v2_13 v2_14 v2_15 ∧ (ExH (⟨m0, m1, m2, m3, m4, m5, m6, m7, m8, m9, m10, m11⟩ : TMod) (⟨⟨b0, b1, b2⟩, ⟨b3, b4, b5⟩⟩ : TBox) l (⟨q0, q1, q2⟩ : V3) q3 ∧ divE (⟨⟨b0, b1, b2⟩, ⟨b3, b4, b5⟩⟩ : TBox) = 0 ∧ (⟨⟨v2_0, v2_1, v2_4⟩, ⟨v2_5, v2_6, v2_7⟩⟩ : TBox) = dv1 (⟨⟨b0, b1, b2⟩, ⟨b3, b4, b5⟩⟩ : TBox) ∧ (⟨⟨v2_8, v2_9, v2_10⟩, ⟨v2_11, v2_2, v2_3⟩⟩ : TBox) = dv2 (⟨⟨b0, b1, b2⟩, ⟨b3, b4, b5⟩⟩ : TBox) ∧ v2_12 = ((⟨m0, m1, m2, m3, m4, m5, m6, m7, m8, m9, m10, m11⟩ : TMod).scores (⟨⟨b0, b1, b2⟩, ⟨b3, b4, b5⟩⟩ : TBox) l).lo ∧ v2_13 = ((⟨m0, m1, m2, m3, m4, m5, m6, m7, m8, m9, m10, m11⟩ : TMod).scores (⟨⟨b0, b1, b2⟩, ⟨b3, b4, b5⟩⟩ : TBox) l).hi ∧ v2_15 = (⟨m0, m1, m2, m3, m4, m5, m6, m7, m8, m9, m10, m11⟩ : TMod).ans (⟨⟨b0, b1, b2⟩, ⟨b3, b4, b5⟩⟩ : TBox) (⟨q0, q1, q2⟩ : V3) q3 ∧ 0 ≤ v2_14 ∧ v2_14 ≤ 2 ∧ (nn2 : Int) + v2_14 = 3)
 | _, _ => False
set_option maxHeartbeats 8000000 in
set_option maxRecDepth 100000 in
theorem rnd_law05_TrackNeverExcluded_0 (m0 m1 m2 m3 m4 m5 m6 m7 m8 m9 m10 m11 : Int) (b0 b1 b2 b3 b4 b5 : Int) (q0 q1 q2 q3 : Int) (l : List THit) (v0_0 : Int) (v0_1 : Int) (v0_2 : Int) (v0_3 : Int) (nn0 : Nat) (hi : ExH (⟨m0, m1, m2, m3, m4, m5, m6, m7, m8, m9, m10, m11⟩ : TMod) (⟨⟨b0, b1, b2⟩, ⟨b3, b4, b5⟩⟩ : TBox) l (⟨q0, q1, q2⟩ : V3) q3 ∧ canW (⟨m0, m1, m2, m3, m4, m5, m6, m7, m8, m9, m10, m11⟩ : TMod) (⟨⟨b0, b1, b2⟩, ⟨b3, b4, b5⟩⟩ : TBox) = true ∧ v0_0 = ((⟨m0, m1, m2, m3, m4, m5, m6, m7, m8, m9, m10, m11⟩ : TMod).scores (⟨⟨b0, b1, b2⟩, ⟨b3, b4, b5⟩⟩ : TBox) l).lo ∧ v0_1 = ((⟨m0, m1, m2, m3, m4, m5, m6, m7, m8, m9, m10, m11⟩ : TMod).scores (⟨⟨b0, b1, b2⟩, ⟨b3, b4, b5⟩⟩ : TBox) l).hi ∧ v0_3 = (⟨m0, m1, m2, m3, m4, m5, m6, m7, m8, m9, m10, m11⟩ : TMod).ans (⟨⟨b0, b1, b2⟩, ⟨b3, b4, b5⟩⟩ : TBox) (⟨q0, q1, q2⟩ : V3) q3 ∧ 0 ≤ v0_2 ∧ v0_2 ≤ ((⟨m0, m1, m2, m3, m4, m5, m6, m7, m8, m9, m10, m11⟩ : TMod).steps (⟨⟨b0, b1, b2⟩, ⟨b3, b4, b5⟩⟩ : TBox)).length ∧ ((nn0 + 1) : Int) + v0_2 = ((⟨m0, m1, m2, m3, m4, m5, m6, m7, m8, m9, m10, m11⟩ : TMod).steps (⟨⟨b0, b1, b2⟩, ⟨b3, b4, b5⟩⟩ : TBox)).length + 1) : rd_law05_TrackNeverExcluded_0 (J_law05_TrackNeverExcluded m0 m1 m2 m3 m4 m5 m6 m7 m8 m9 m10 m11 b0 b1 b2 b3 b4 b5 q0 q1 q2 q3 l) m0 m1 m2 m3 m4 m5 m6 m7 m8 m9 m10 m11 b0 b1 b2 b3 b4 b5 q0 q1 q2 q3 l v0_0 v0_1 v0_2 v0_3 nn0 (fun r => LeD r (.t (.c (.v (.bool true))))) := by
 obtain ⟨H, hcw, i1, i2, i3, i4, i5, i6⟩ := hi
 obtain ⟨k, rfl⟩ : ∃ k : Nat, v0_2 = k := ⟨v0_2.toNat, by omega⟩
 have hk : (k : Int).toNat = k := rfl
 have hlen : l.length ≤ 1000000 := by have := (hitsE_ok H.hh).1; omega
 unfold rd_law05_TrackNeverExcluded_0
 simp only [hits_listC]
 rw [hk]
 simp only [H.steps.1, H.steps.2]
 refine cond_i (fun h => ?_) (fun h => ?_)
 ·have hlt : k < ((⟨m0, m1, m2, m3, m4, m5, m6, m7, m8, m9, m10, m11⟩ : TMod).steps (⟨⟨b0, b1, b2⟩, ⟨b3, b4, b5⟩⟩ : TBox)).length := by have := of_decide_eq_true h; omega
  obtain ⟨f1, f2, f3, f4, f5⟩ := H.step (plAt_in hlt)
  rw [f1, f2, H.hq, H.hh]
  have e0 : firstNZ [0, 0] = 0 := rfl
  simp only [bne_self_eq_false, cond_false, e0, if_true]
  refine ⟨by omega, by omega, by omega, ⟨numsP_hits l, hlen⟩, numsP_hits l, ?_, lt_i fun x1 h1 => ?_⟩
  ·(repeat' first | exact trivial | exact rfl | (refine lt_i fun _ _ => ?_) | (refine cond_i ?_ ?_ <;> intro _) | (refine And.intro ?_ ?_))
  have e1 : x1 = false := by
   rw [← h1, i1, i2, f5]
   rcases ans_val (⟨m0, m1, m2, m3, m4, m5, m6, m7, m8, m9, m10, m11⟩ : TMod) (⟨⟨b0, b1, b2⟩, ⟨b3, b4, b5⟩⟩ : TBox) (⟨q0, q1, q2⟩ : V3) q3 with h2 | h2 | h2
   ·rw [i3, h2, f4 h2]; rfl
   ·rw [i3, h2]; rfl
   ·rw [i3, h2, f3 h2]; rfl
  rw [e1]
  refine cond_i (fun e => by cases e) (fun _ => lt_i fun x2 h2 => ?_)
  have hln := H.len
  have hcn := (boxErr_ok H.hb).2.2.2
  rw [IntWalk.i64_in _ (by omega)] at h2
  exact ⟨_, _, _, _, rfl, H, hcw, i1, i2, i3, by omega, by omega, by omega⟩
 ·refine lt_i fun x3 h3 => lt_i fun x4 h4 => lt_i fun x5 h5 => lt_i fun x6 h6 => lt_i fun x7 h7 => lt_i fun x8 h8 => lt_i fun x9 h9 => lt_i fun x10 h10 => lt_i fun x11 h11 => lt_i fun x12 h12 => lt_i fun x13 h13 => lt_i fun x14 h14 => lt_i fun x15 h15 => ?_
  subst h3 h4 h5 h6 h7 h8 h9 h10 h11 h12 h13 h14 h15
  refine cond_i (fun e => leB ?_) (fun e => ?_)
  ·have e : divE (⟨⟨b0, b1, b2⟩, ⟨b3, b4, b5⟩⟩ : TBox) ≠ 0 := by simpa using e
   have e2 : divE (⟨⟨b0, b1, b2⟩, ⟨b3, b4, b5⟩⟩ : TBox) = 12 := by
    unfold divE at e ⊢
    rw [if_neg (by rw [H.hb]; simp)] at e ⊢
    split at e
    ·rename_i q; rw [if_pos q]
    ·exact (e rfl).elim
   rw [e2]; rfl
  have e : divE (⟨⟨b0, b1, b2⟩, ⟨b3, b4, b5⟩⟩ : TBox) = 0 := by simpa using e
  exact ⟨3, _, _, _, _, _, _, _, _, _, _, _, _, _, _, _, _,  rfl, H, e, rfl, rfl, i1, i2, i3, by omega, by omega, by omega⟩
theorem zero_law05_TrackNeverExcluded_0 (m0 m1 m2 m3 m4 m5 m6 m7 m8 m9 m10 m11 : Int) (b0 b1 b2 b3 b4 b5 : Int) (q0 q1 q2 q3 : Int) (l : List THit) (v0_0 : Int) (v0_1 : Int) (v0_2 : Int) (v0_3 : Int)  (hi : ExH (⟨m0, m1, m2, m3, m4, m5, m6, m7, m8, m9, m10, m11⟩ : TMod) (⟨⟨b0, b1, b2⟩, ⟨b3, b4, b5⟩⟩ : TBox) l (⟨q0, q1, q2⟩ : V3) q3 ∧ canW (⟨m0, m1, m2, m3, m4, m5, m6, m7, m8, m9, m10, m11⟩ : TMod) (⟨⟨b0, b1, b2⟩, ⟨b3, b4, b5⟩⟩ : TBox) = true ∧ v0_0 = ((⟨m0, m1, m2, m3, m4, m5, m6, m7, m8, m9, m10, m11⟩ : TMod).scores (⟨⟨b0, b1, b2⟩, ⟨b3, b4, b5⟩⟩ : TBox) l).lo ∧ v0_1 = ((⟨m0, m1, m2, m3, m4, m5, m6, m7, m8, m9, m10, m11⟩ : TMod).scores (⟨⟨b0, b1, b2⟩, ⟨b3, b4, b5⟩⟩ : TBox) l).hi ∧ v0_3 = (⟨m0, m1, m2, m3, m4, m5, m6, m7, m8, m9, m10, m11⟩ : TMod).ans (⟨⟨b0, b1, b2⟩, ⟨b3, b4, b5⟩⟩ : TBox) (⟨q0, q1, q2⟩ : V3) q3 ∧ 0 ≤ v0_2 ∧ v0_2 ≤ ((⟨m0, m1, m2, m3, m4, m5, m6, m7, m8, m9, m10, m11⟩ : TMod).steps (⟨⟨b0, b1, b2⟩, ⟨b3, b4, b5⟩⟩ : TBox)).length ∧ (0 : Int) + v0_2 = ((⟨m0, m1, m2, m3, m4, m5, m6, m7, m8, m9, m10, m11⟩ : TMod).steps (⟨⟨b0, b1, b2⟩, ⟨b3, b4, b5⟩⟩ : TBox)).length + 1) : False := by
 omega
set_option maxHeartbeats 8000000 in
set_option maxRecDepth 100000 in
theorem rnd_law05_TrackNeverExcluded_2_0 (m0 m1 m2 m3 m4 m5 m6 m7 m8 m9 m10 m11 : Int) (b0 b1 b2 b3 b4 b5 : Int) (q0 q1 q2 q3 : Int) (l : List THit) (v2_0 : Int) (v2_1 : Int) (v2_2 : Int) (v2_3 : Int) (v2_4 : Int) (v2_5 : Int) (v2_6 : Int) (v2_7 : Int) (v2_8 : Int) (v2_9 : Int) (v2_10 : Int) (v2_11 : Int) (v2_12 : Int) (v2_13 : Int) (v2_15 : Int) (nn2 : Nat) (hi : ExH (⟨m0, m1, m2, m3, m4, m5, m6, m7, m8, m9, m10, m11⟩ : TMod) (⟨⟨b0, b1, b2⟩, ⟨b3, b4, b5⟩⟩ : TBox) l (⟨q0, q1, q2⟩ : V3) q3 ∧ divE (⟨⟨b0, b1, b2⟩, ⟨b3, b4, b5⟩⟩ : TBox) = 0 ∧ (⟨⟨v2_0, v2_1, v2_4⟩, ⟨v2_5, v2_6, v2_7⟩⟩ : TBox) = dv1 (⟨⟨b0, b1, b2⟩, ⟨b3, b4, b5⟩⟩ : TBox) ∧ (⟨⟨v2_8, v2_9, v2_10⟩, ⟨v2_11, v2_2, v2_3⟩⟩ : TBox) = dv2 (⟨⟨b0, b1, b2⟩, ⟨b3, b4, b5⟩⟩ : TBox) ∧ v2_12 = ((⟨m0, m1, m2, m3, m4, m5, m6, m7, m8, m9, m10, m11⟩ : TMod).scores (⟨⟨b0, b1, b2⟩, ⟨b3, b4, b5⟩⟩ : TBox) l).lo ∧ v2_13 = ((⟨m0, m1, m2, m3, m4, m5, m6, m7, m8, m9, m10, m11⟩ : TMod).scores (⟨⟨b0, b1, b2⟩, ⟨b3, b4, b5⟩⟩ : TBox) l).hi ∧ v2_15 = (⟨m0, m1, m2, m3, m4, m5, m6, m7, m8, m9, m10, m11⟩ : TMod).ans (⟨⟨b0, b1, b2⟩, ⟨b3, b4, b5⟩⟩ : TBox) (⟨q0, q1, q2⟩ : V3) q3 ∧ 0 ≤ (0 : Int) ∧ (0 : Int) ≤ 2 ∧ ((nn2 + 1) : Int) + (0 : Int) = 3) : rd_law05_TrackNeverExcluded_2_0 (J_law05_TrackNeverExcluded m0 m1 m2 m3 m4 m5 m6 m7 m8 m9 m10 m11 b0 b1 b2 b3 b4 b5 q0 q1 q2 q3 l) m0 m1 m2 m3 m4 m5 m6 m7 m8 m9 m10 m11 b0 b1 b2 b3 b4 b5 q0 q1 q2 q3 l v2_0 v2_1 v2_2 v2_3 v2_4 v2_5 v2_6 v2_7 v2_8 v2_9 v2_10 v2_11 v2_12 v2_13 v2_15 nn2 (fun r => LeD r (.t (.c (.v (.bool true))))) := by
 obtain ⟨H, hd, j1, j2, i1, i2, i3, i4, i5, i6⟩ := hi
 have hlen : l.length ≤ 1000000 := by have := (hitsE_ok H.hh).1; omega
 have hd1 : dv1 (⟨⟨b0, b1, b2⟩, ⟨b3, b4, b5⟩⟩ : TBox) = (⟨⟨b0, b1, b2⟩, ⟨b3, b4, b5⟩⟩ : TBox).half1 := if_pos hd
 have hd2 : dv2 (⟨⟨b0, b1, b2⟩, ⟨b3, b4, b5⟩⟩ : TBox) = (⟨⟨b0, b1, b2⟩, ⟨b3, b4, b5⟩⟩ : TBox).half2 := if_pos hd
 have hc : (⟨⟨b0, b1, b2⟩, ⟨b3, b4, b5⟩⟩ : TBox).count ≠ 1 := by
  intro q
  unfold divE at hd
  rw [if_neg (by rw [H.hb]; simp), if_pos q] at hd
  cases hd
 obtain ⟨b1, b2, s1, s2⟩ := half_err H.hb hc
 rw [← hd1, ← j1] at b1 s1
 rw [← hd2, ← j2] at b2 s2
 have H1 : ExH (⟨m0, m1, m2, m3, m4, m5, m6, m7, m8, m9, m10, m11⟩ : TMod) (⟨⟨v2_0, v2_1, v2_4⟩, ⟨v2_5, v2_6, v2_7⟩⟩ : TBox) l (⟨q0, q1, q2⟩ : V3) q3 := ⟨H.hm, b1, H.hh, H.hq⟩
 have P1 := part_false H H1 s1
 have z1 := H1.ans
 have z2 := H1.sc
 have z5 := H1.steps.2
 rw [b1] at z1 z2 z5
 rw [z5] at z1 z2
 unfold rd_law05_TrackNeverExcluded_2_0
 simp only [hits_listC]
 rw [b1]
 simp only [z1, z2, z5, H1.steps.1]
 refine ⟨by omega, lt_i fun y1 g1 => ?_⟩
 subst g1
 refine cond_i (fun e => by simp at e) (fun _ => ⟨by omega, lt_i fun y3 g3 => lt_i fun y4 g4 => ⟨by omega, ⟨numsP_hits l, hlen⟩, lt_i fun y5 g5 => lt_i fun y6 g6 => lt_i fun y7 g7 => ⟨numsP_hits l, ?_, lt_i fun y8 g8 => ?_⟩⟩⟩)
 ·(repeat' first | exact trivial | exact rfl | (refine lt_i fun _ _ => ?_) | (refine cond_i ?_ ?_ <;> intro _) | (refine And.intro ?_ ?_))
 obtain ⟨r8, r9⟩ := P1 y3 y4 y5 y6 y7 v2_12 v2_13 v2_15 g3 g4 g5 g6 g7 i1 i2 i3
 have e8 : y8 = false := by rw [← g8]; exact r8
 rw [e8]
 refine cond_i (fun e => by cases e) (fun _ => ⟨by omega, ?_, lt_i fun y9 g9 => ?_⟩)
 ·(repeat' first | exact trivial | exact rfl | (refine lt_i fun _ _ => ?_) | (refine cond_i ?_ ?_ <;> intro _) | (refine And.intro ?_ ?_))
 have e9 : y9 = false := by rw [← g9]; simpa using r9
 rw [e9]
 refine cond_i (fun e => by cases e) (fun _ => ?_)
 exact ⟨_, _, _, _, _, _, _, _, _, _, _, _, _, _, _, _,  rfl, H, hd, j1, j2, i1, i2, i3, by omega, by omega, by omega⟩
set_option maxHeartbeats 8000000 in
set_option maxRecDepth 100000 in
theorem rnd_law05_TrackNeverExcluded_2_1 (m0 m1 m2 m3 m4 m5 m6 m7 m8 m9 m10 m11 : Int) (b0 b1 b2 b3 b4 b5 : Int) (q0 q1 q2 q3 : Int) (l : List THit) (v2_0 : Int) (v2_1 : Int) (v2_2 : Int) (v2_3 : Int) (v2_4 : Int) (v2_5 : Int) (v2_6 : Int) (v2_7 : Int) (v2_8 : Int) (v2_9 : Int) (v2_10 : Int) (v2_11 : Int) (v2_12 : Int) (v2_13 : Int) (v2_15 : Int) (nn2 : Nat) (hi : ExH (⟨m0, m1, m2, m3, m4, m5, m6, m7, m8, m9, m10, m11⟩ : TMod) (⟨⟨b0, b1, b2⟩, ⟨b3, b4, b5⟩⟩ : TBox) l (⟨q0, q1, q2⟩ : V3) q3 ∧ divE (⟨⟨b0, b1, b2⟩, ⟨b3, b4, b5⟩⟩ : TBox) = 0 ∧ (⟨⟨v2_0, v2_1, v2_4⟩, ⟨v2_5, v2_6, v2_7⟩⟩ : TBox) = dv1 (⟨⟨b0, b1, b2⟩, ⟨b3, b4, b5⟩⟩ : TBox) ∧ (⟨⟨v2_8, v2_9, v2_10⟩, ⟨v2_11, v2_2, v2_3⟩⟩ : TBox) = dv2 (⟨⟨b0, b1, b2⟩, ⟨b3, b4, b5⟩⟩ : TBox) ∧ v2_12 = ((⟨m0, m1, m2, m3, m4, m5, m6, m7, m8, m9, m10, m11⟩ : TMod).scores (⟨⟨b0, b1, b2⟩, ⟨b3, b4, b5⟩⟩ : TBox) l).lo ∧ v2_13 = ((⟨m0, m1, m2, m3, m4, m5, m6, m7, m8, m9, m10, m11⟩ : TMod).scores (⟨⟨b0, b1, b2⟩, ⟨b3, b4, b5⟩⟩ : TBox) l).hi ∧ v2_15 = (⟨m0, m1, m2, m3, m4, m5, m6, m7, m8, m9, m10, m11⟩ : TMod).ans (⟨⟨b0, b1, b2⟩, ⟨b3, b4, b5⟩⟩ : TBox) (⟨q0, q1, q2⟩ : V3) q3 ∧ 0 ≤ (1 : Int) ∧ (1 : Int) ≤ 2 ∧ ((nn2 + 1) : Int) + (1 : Int) = 3) : rd_law05_TrackNeverExcluded_2_1 (J_law05_TrackNeverExcluded m0 m1 m2 m3 m4 m5 m6 m7 m8 m9 m10 m11 b0 b1 b2 b3 b4 b5 q0 q1 q2 q3 l) m0 m1 m2 m3 m4 m5 m6 m7 m8 m9 m10 m11 b0 b1 b2 b3 b4 b5 q0 q1 q2 q3 l v2_0 v2_1 v2_2 v2_3 v2_4 v2_5 v2_6 v2_7 v2_8 v2_9 v2_10 v2_11 v2_12 v2_13 v2_15 nn2 (fun r => LeD r (.t (.c (.v (.bool true))))) := by
 obtain ⟨H, hd, j1, j2, i1, i2, i3, i4, i5, i6⟩ := hi
 have hlen : l.length ≤ 1000000 := by have := (hitsE_ok H.hh).1; omega
 have hd1 : dv1 (⟨⟨b0, b1, b2⟩, ⟨b3, b4, b5⟩⟩ : TBox) = (⟨⟨b0, b1, b2⟩, ⟨b3, b4, b5⟩⟩ : TBox).half1 := if_pos hd
 have hd2 : dv2 (⟨⟨b0, b1, b2⟩, ⟨b3, b4, b5⟩⟩ : TBox) = (⟨⟨b0, b1, b2⟩, ⟨b3, b4, b5⟩⟩ : TBox).half2 := if_pos hd
 have hc : (⟨⟨b0, b1, b2⟩, ⟨b3, b4, b5⟩⟩ : TBox).count ≠ 1 := by
  intro q
  unfold divE at hd
  rw [if_neg (by rw [H.hb]; simp), if_pos q] at hd
  cases hd
 obtain ⟨b1, b2, s1, s2⟩ := half_err H.hb hc
 rw [← hd1, ← j1] at b1 s1
 rw [← hd2, ← j2] at b2 s2
 have H1 : ExH (⟨m0, m1, m2, m3, m4, m5, m6, m7, m8, m9, m10, m11⟩ : TMod) (⟨⟨v2_8, v2_9, v2_10⟩, ⟨v2_11, v2_2, v2_3⟩⟩ : TBox) l (⟨q0, q1, q2⟩ : V3) q3 := ⟨H.hm, b2, H.hh, H.hq⟩
 have P1 := part_false H H1 s2
 have z1 := H1.ans
 have z2 := H1.sc
 have z5 := H1.steps.2
 rw [b2] at z1 z2 z5
 rw [z5] at z1 z2
 unfold rd_law05_TrackNeverExcluded_2_1
 simp only [hits_listC]
 rw [b2]
 simp only [z1, z2, z5, H1.steps.1]
 refine ⟨by omega, lt_i fun y1 g1 => ?_⟩
 subst g1
 refine cond_i (fun e => by simp at e) (fun _ => ⟨by omega, lt_i fun y3 g3 => lt_i fun y4 g4 => ⟨by omega, ⟨numsP_hits l, hlen⟩, lt_i fun y5 g5 => lt_i fun y6 g6 => lt_i fun y7 g7 => ⟨numsP_hits l, ?_, lt_i fun y8 g8 => ?_⟩⟩⟩)
 ·(repeat' first | exact trivial | exact rfl | (refine lt_i fun _ _ => ?_) | (refine cond_i ?_ ?_ <;> intro _) | (refine And.intro ?_ ?_))
 obtain ⟨r8, r9⟩ := P1 y3 y4 y5 y6 y7 v2_12 v2_13 v2_15 g3 g4 g5 g6 g7 i1 i2 i3
 have e8 : y8 = false := by rw [← g8]; exact r8
 rw [e8]
 refine cond_i (fun e => by cases e) (fun _ => ⟨by omega, ?_, lt_i fun y9 g9 => ?_⟩)
 ·(repeat' first | exact trivial | exact rfl | (refine lt_i fun _ _ => ?_) | (refine cond_i ?_ ?_ <;> intro _) | (refine And.intro ?_ ?_))
 have e9 : y9 = false := by rw [← g9]; simpa using r9
 rw [e9]
 refine cond_i (fun e => by cases e) (fun _ => ?_)
 exact ⟨_, _, _, _, _, _, _, _, _, _, _, _, _, _, _, _,  rfl, H, hd, j1, j2, i1, i2, i3, by omega, by omega, by omega⟩
set_option maxHeartbeats 8000000 in
set_option maxRecDepth 100000 in
theorem rnd_law05_TrackNeverExcluded_2_2 (m0 m1 m2 m3 m4 m5 m6 m7 m8 m9 m10 m11 : Int) (b0 b1 b2 b3 b4 b5 : Int) (q0 q1 q2 q3 : Int) (l : List THit) (v2_0 : Int) (v2_1 : Int) (v2_2 : Int) (v2_3 : Int) (v2_4 : Int) (v2_5 : Int) (v2_6 : Int) (v2_7 : Int) (v2_8 : Int) (v2_9 : Int) (v2_10 : Int) (v2_11 : Int) (v2_12 : Int) (v2_13 : Int) (v2_15 : Int) (nn2 : Nat) (hi : ExH (⟨m0, m1, m2, m3, m4, m5, m6, m7, m8, m9, m10, m11⟩ : TMod) (⟨⟨b0, b1, b2⟩, ⟨b3, b4, b5⟩⟩ : TBox) l (⟨q0, q1, q2⟩ : V3) q3 ∧ divE (⟨⟨b0, b1, b2⟩, ⟨b3, b4, b5⟩⟩ : TBox) = 0 ∧ (⟨⟨v2_0, v2_1, v2_4⟩, ⟨v2_5, v2_6, v2_7⟩⟩ : TBox) = dv1 (⟨⟨b0, b1, b2⟩, ⟨b3, b4, b5⟩⟩ : TBox) ∧ (⟨⟨v2_8, v2_9, v2_10⟩, ⟨v2_11, v2_2, v2_3⟩⟩ : TBox) = dv2 (⟨⟨b0, b1, b2⟩, ⟨b3, b4, b5⟩⟩ : TBox) ∧ v2_12 = ((⟨m0, m1, m2, m3, m4, m5, m6, m7, m8, m9, m10, m11⟩ : TMod).scores (⟨⟨b0, b1, b2⟩, ⟨b3, b4, b5⟩⟩ : TBox) l).lo ∧ v2_13 = ((⟨m0, m1, m2, m3, m4, m5, m6, m7, m8, m9, m10, m11⟩ : TMod).scores (⟨⟨b0, b1, b2⟩, ⟨b3, b4, b5⟩⟩ : TBox) l).hi ∧ v2_15 = (⟨m0, m1, m2, m3, m4, m5, m6, m7, m8, m9, m10, m11⟩ : TMod).ans (⟨⟨b0, b1, b2⟩, ⟨b3, b4, b5⟩⟩ : TBox) (⟨q0, q1, q2⟩ : V3) q3 ∧ 0 ≤ (2 : Int) ∧ (2 : Int) ≤ 2 ∧ ((nn2 + 1) : Int) + (2 : Int) = 3) : rd_law05_TrackNeverExcluded_2_2 (J_law05_TrackNeverExcluded m0 m1 m2 m3 m4 m5 m6 m7 m8 m9 m10 m11 b0 b1 b2 b3 b4 b5 q0 q1 q2 q3 l) m0 m1 m2 m3 m4 m5 m6 m7 m8 m9 m10 m11 b0 b1 b2 b3 b4 b5 q0 q1 q2 q3 l v2_0 v2_1 v2_2 v2_3 v2_4 v2_5 v2_6 v2_7 v2_8 v2_9 v2_10 v2_11 v2_12 v2_13 v2_15 nn2 (fun r => LeD r (.t (.c (.v (.bool true))))) := by
 exact LeD.refl _
theorem zero_law05_TrackNeverExcluded_2 (m0 m1 m2 m3 m4 m5 m6 m7 m8 m9 m10 m11 : Int) (b0 b1 b2 b3 b4 b5 : Int) (q0 q1 q2 q3 : Int) (l : List THit) (v2_0 : Int) (v2_1 : Int) (v2_2 : Int) (v2_3 : Int) (v2_4 : Int) (v2_5 : Int) (v2_6 : Int) (v2_7 : Int) (v2_8 : Int) (v2_9 : Int) (v2_10 : Int) (v2_11 : Int) (v2_12 : Int) (v2_13 : Int) (v2_14 : Int) (v2_15 : Int)  (hi : ExH (⟨m0, m1, m2, m3, m4, m5, m6, m7, m8, m9, m10, m11⟩ : TMod) (⟨⟨b0, b1, b2⟩, ⟨b3, b4, b5⟩⟩ : TBox) l (⟨q0, q1, q2⟩ : V3) q3 ∧ divE (⟨⟨b0, b1, b2⟩, ⟨b3, b4, b5⟩⟩ : TBox) = 0 ∧ (⟨⟨v2_0, v2_1, v2_4⟩, ⟨v2_5, v2_6, v2_7⟩⟩ : TBox) = dv1 (⟨⟨b0, b1, b2⟩, ⟨b3, b4, b5⟩⟩ : TBox) ∧ (⟨⟨v2_8, v2_9, v2_10⟩, ⟨v2_11, v2_2, v2_3⟩⟩ : TBox) = dv2 (⟨⟨b0, b1, b2⟩, ⟨b3, b4, b5⟩⟩ : TBox) ∧ v2_12 = ((⟨m0, m1, m2, m3, m4, m5, m6, m7, m8, m9, m10, m11⟩ : TMod).scores (⟨⟨b0, b1, b2⟩, ⟨b3, b4, b5⟩⟩ : TBox) l).lo ∧ v2_13 = ((⟨m0, m1, m2, m3, m4, m5, m6, m7, m8, m9, m10, m11⟩ : TMod).scores (⟨⟨b0, b1, b2⟩, ⟨b3, b4, b5⟩⟩ : TBox) l).hi ∧ v2_15 = (⟨m0, m1, m2, m3, m4, m5, m6, m7, m8, m9, m10, m11⟩ : TMod).ans (⟨⟨b0, b1, b2⟩, ⟨b3, b4, b5⟩⟩ : TBox) (⟨q0, q1, q2⟩ : V3) q3 ∧ 0 ≤ v2_14 ∧ v2_14 ≤ 2 ∧ (0 : Int) + v2_14 = 3) : False := by
 omega
set_option maxHeartbeats 8000000 in
set_option maxRecDepth 100000 in
theorem spec_law05_TrackNeverExcluded (m0 m1 m2 m3 m4 m5 m6 m7 m8 m9 m10 m11 : Int) (b0 b1 b2 b3 b4 b5 : Int) (q0 q1 q2 q3 : Int) (l : List THit) : vc_law05_TrackNeverExcluded (J_law05_TrackNeverExcluded m0 m1 m2 m3 m4 m5 m6 m7 m8 m9 m10 m11 b0 b1 b2 b3 b4 b5 q0 q1 q2 q3 l) m0 m1 m2 m3 m4 m5 m6 m7 m8 m9 m10 m11 b0 b1 b2 b3 b4 b5 q0 q1 q2 q3 l (fun r => LeD r (.t (.c (.v (.bool true))))) := by
 unfold vc_law05_TrackNeverExcluded
 simp only [hits_listC]
 refine ⟨numsP_hits l, ?_, lt_i fun x1 h1 => cond_i (fun _ => LeD.refl _) (fun e1 => ?_)⟩
 ·(repeat' first | exact trivial | exact rfl | (refine lt_i fun _ _ => ?_) | (refine cond_i ?_ ?_ <;> intro _) | (refine And.intro ?_ ?_))
  exact numsP_hits l
 rw [e1] at h1
 obtain ⟨p1, h1⟩ := or_f h1
 obtain ⟨p2, h1⟩ := or_f h1
 obtain ⟨p3, h1⟩ := or_f h1
 obtain ⟨p4, h1⟩ := or_f h1
 obtain ⟨p5, p6⟩ := or_f h1
 have H : ExH (⟨m0, m1, m2, m3, m4, m5, m6, m7, m8, m9, m10, m11⟩ : TMod) (⟨⟨b0, b1, b2⟩, ⟨b3, b4, b5⟩⟩ : TBox) l (⟨q0, q1, q2⟩ : V3) q3 := ⟨by simpa using p2, by simpa using p3, by simpa using p6, by simpa using p5⟩
 have hin := box_in H.hb
 have hlen : l.length ≤ 1000000 := by have := (hitsE_ok H.hh).1; omega
 have zA := H.ans
 have zB := H.sc
 have zC := H.steps.2
 rw [zC] at zA zB
 simp only [zA, zB, zC, H.steps.1]
 refine lt_i fun x2 h2 => lt_i fun x3 h3 => ⟨⟨numsP_hits l, hlen⟩, lt_i fun x4 h4 => lt_i fun x5 h5 => lt_i fun x6 h6 => ⟨numsP_hits l, ?_, lt_i fun x7 h7 => ?_⟩⟩
 ·(repeat' first | exact trivial | exact rfl | (refine lt_i fun _ _ => ?_) | (refine cond_i ?_ ?_ <;> intro _) | (refine And.intro ?_ ?_))
  all_goals first | exact hin.1 | exact hin.2
 have hl := H.len
 have e7 : x7 = false := by
  rw [← h7]
  cases hc : canW (⟨m0, m1, m2, m3, m4, m5, m6, m7, m8, m9, m10, m11⟩ : TMod) (⟨⟨b0, b1, b2⟩, ⟨b3, b4, b5⟩⟩ : TBox) with
  | true =>
   have e3 : x3 = 0 := by rw [← h3, hc]; rfl
   have e6 : x6 = 0 := by rw [← h6, hc]; rfl
   rw [e3, e6]
   simpa using hl
  | false =>
   have e3 : x3 = 12 := by rw [← h3, hc]; rfl
   have e6 : x6 = 12 := by rw [← h6, hc]; rfl
   have hn := H.none hc
   rw [hn] at hl
   rw [e3, e6, hn]
   simpa using hl
 rw [e7]
 refine cond_i (fun e => by cases e) (fun _ => cond_i (fun _ => LeD.refl _) (fun e => ?_))
 have e3 : unl (canW (⟨m0, m1, m2, m3, m4, m5, m6, m7, m8, m9, m10, m11⟩ : TMod) (⟨⟨b0, b1, b2⟩, ⟨b3, b4, b5⟩⟩ : TBox)) 12 = 0 := by rw [h3]; simpa using e
 rw [e3] at h2 h4 h5
 have hc : canW (⟨m0, m1, m2, m3, m4, m5, m6, m7, m8, m9, m10, m11⟩ : TMod) (⟨⟨b0, b1, b2⟩, ⟨b3, b4, b5⟩⟩ : TBox) = true := by
  cases hc : canW (⟨m0, m1, m2, m3, m4, m5, m6, m7, m8, m9, m10, m11⟩ : TMod) (⟨⟨b0, b1, b2⟩, ⟨b3, b4, b5⟩⟩ : TBox) with
  | true => rfl
  | false => rw [hc] at e3; cases e3
 exact ⟨((⟨m0, m1, m2, m3, m4, m5, m6, m7, m8, m9, m10, m11⟩ : TMod).steps (⟨⟨b0, b1, b2⟩, ⟨b3, b4, b5⟩⟩ : TBox)).length + 1, _, _, _, _, rfl, H, hc, h4.symm, h5.symm, h2.symm, by omega, by omega, by omega⟩
set_option maxHeartbeats 8000000 in
set_option maxRecDepth 100000 in
theorem all_law05_TrackNeverExcluded (m0 m1 m2 m3 m4 m5 m6 m7 m8 m9 m10 m11 : Int) (b0 b1 b2 b3 b4 b5 : Int) (q0 q1 q2 q3 : Int) (l : List THit) : AllG (J_law05_TrackNeverExcluded m0 m1 m2 m3 m4 m5 m6 m7 m8 m9 m10 m11 b0 b1 b2 b3 b4 b5 q0 q1 q2 q3 l) (loopsFn Try.prog tab S60 ann_law05_TrackNeverExcluded (J_law05_TrackNeverExcluded m0 m1 m2 m3 m4 m5 m6 m7 m8 m9 m10 m11 b0 b1 b2 b3 b4 b5 q0 q1 q2 q3 l) Try.f9 (fun r => LeD r (.t (.c (.v (.bool true)))))) := by
 rw [lp_law05_TrackNeverExcluded]
 refine ⟨⟨?_, ?_⟩, ⟨?_, ?_⟩, trivial⟩
 ·intro F s h
  obtain _ | ⟨g, F⟩ := F
  case cons => exact h.elim
  obtain ⟨w0, w1, w2, w3, rfl, hi⟩ := h
  exact zero_law05_TrackNeverExcluded_0 m0 m1 m2 m3 m4 m5 m6 m7 m8 m9 m10 m11 b0 b1 b2 b3 b4 b5 q0 q1 q2 q3 l _ _ _ _ hi
 ·intro n F s h
  obtain _ | ⟨g, F⟩ := F
  case cons => exact h.elim
  obtain ⟨w0, w1, w2, w3, rfl, hi⟩ := h
  rw [er_law05_TrackNeverExcluded_0]
  exact rnd_law05_TrackNeverExcluded_0 m0 m1 m2 m3 m4 m5 m6 m7 m8 m9 m10 m11 b0 b1 b2 b3 b4 b5 q0 q1 q2 q3 l _ _ _ _ _ hi
 ·intro F s h
  obtain _ | ⟨g, F⟩ := F
  case cons => exact h.elim
  obtain ⟨w0, w1, w2, w3, w4, w5, w6, w7, w8, w9, w10, w11, w12, w13, w14, w15, rfl, hi⟩ := h
  exact zero_law05_TrackNeverExcluded_2 m0 m1 m2 m3 m4 m5 m6 m7 m8 m9 m10 m11 b0 b1 b2 b3 b4 b5 q0 q1 q2 q3 l _ _ _ _ _ _ _ _ _ _ _ _ _ _ _ _ hi
 ·intro n F s h
  obtain _ | ⟨g, F⟩ := F
  case cons => exact h.elim
  obtain ⟨w0, w1, w2, w3, w4, w5, w6, w7, w8, w9, w10, w11, w12, w13, w14, w15, rfl, hi⟩ := h
  rcases (by omega : w14 = 0 ∨ w14 = 1 ∨ w14 = 2) with rfl | rfl | rfl
  ·rw [er_law05_TrackNeverExcluded_2_0]
   exact rnd_law05_TrackNeverExcluded_2_0 m0 m1 m2 m3 m4 m5 m6 m7 m8 m9 m10 m11 b0 b1 b2 b3 b4 b5 q0 q1 q2 q3 l _ _ _ _ _ _ _ _ _ _ _ _ _ _ _ _ hi
  ·rw [er_law05_TrackNeverExcluded_2_1]
   exact rnd_law05_TrackNeverExcluded_2_1 m0 m1 m2 m3 m4 m5 m6 m7 m8 m9 m10 m11 b0 b1 b2 b3 b4 b5 q0 q1 q2 q3 l _ _ _ _ _ _ _ _ _ _ _ _ _ _ _ _ hi
  ·rw [er_law05_TrackNeverExcluded_2_2]
   exact rnd_law05_TrackNeverExcluded_2_2 m0 m1 m2 m3 m4 m5 m6 m7 m8 m9 m10 m11 b0 b1 b2 b3 b4 b5 q0 q1 q2 q3 l _ _ _ _ _ _ _ _ _ _ _ _ _ _ _ _ hi
theorem law_law05_TrackNeverExcluded (m0 m1 m2 m3 m4 m5 m6 m7 m8 m9 m10 m11 : Int) (b0 b1 b2 b3 b4 b5 : Int) (q0 q1 q2 q3 : Int) (l : List THit) (W : World) (N : Nat → Prop) (vs : List Value) (h : All2 (RelD (RelF W N)) [.t (.a [.v (.int .i64 m0), .v (.int .i64 m1), .v (.int .i64 m2), .v (.int .i64 m3), .v (.int .i64 m4), .v (.int .i64 m5), .v (.int .i64 m6), .v (.int .i64 m7), .v (.int .i64 m8), .v (.int .i64 m9), .v (.int .i64 m10), .v (.int .i64 m11)]), .t (.a [.v (.int .i64 b0), .v (.int .i64 b1), .v (.int .i64 b2), .v (.int .i64 b3), .v (.int .i64 b4), .v (.int .i64 b5)]), .t (.a [.v (.int .i64 q0), .v (.int .i64 q1), .v (.int .i64 q2), .v (.int .i64 q3), .sl 5 l.length (hitsC l)])] vs) : Calls Try.prog 9 vs.toArray W fun e w' => e = .returned (.bool true) ∧ Below W.heap.size W w' :=
 law_end (fn_sound mixed tabOK VS60 (ann := ann_law05_TrackNeverExcluded) VI49 (fn := Try.f9) (J := J_law05_TrackNeverExcluded m0 m1 m2 m3 m4 m5 m6 m7 m8 m9 m10 m11 b0 b1 b2 b3 b4 b5 q0 q1 q2 q3 l) (by kernel_rfl) fit_law05_TrackNeverExcluded (args := [.t (.a [.v (.int .i64 m0), .v (.int .i64 m1), .v (.int .i64 m2), .v (.int .i64 m3), .v (.int .i64 m4), .v (.int .i64 m5), .v (.int .i64 m6), .v (.int .i64 m7), .v (.int .i64 m8), .v (.int .i64 m9), .v (.int .i64 m10), .v (.int .i64 m11)]), .t (.a [.v (.int .i64 b0), .v (.int .i64 b1), .v (.int .i64 b2), .v (.int .i64 b3), .v (.int .i64 b4), .v (.int .i64 b5)]), .t (.a [.v (.int .i64 q0), .v (.int .i64 q1), .v (.int .i64 q2), .v (.int .i64 q3), .sl 5 l.length (hitsC l)])]) (post := (fun r => LeD r (.t (.c (.v (.bool true)))))) (by rw [ev_law05_TrackNeverExcluded]; exact spec_law05_TrackNeverExcluded m0 m1 m2 m3 m4 m5 m6 m7 m8 m9 m10 m11 b0 b1 b2 b3 b4 b5 q0 q1 q2 q3 l) (all_law05_TrackNeverExcluded m0 m1 m2 m3 m4 m5 m6 m7 m8 m9 m10 m11 b0 b1 b2 b3 b4 b5 q0 q1 q2 q3 l) (Nat.le_of_ble_eq_true (by kernel_rfl)) W N vs h)
end Go.Proofs.Ytlmdmpjfehpjeaa
set_option linter.unusedVariables false
set_option linter.unusedSimpArgs false
namespace Go.Proofs.Ytlmdmpjfehpjeaa.Ev
open Go.RowKit
inductive CK where
 | int (k : IntKind)
 | bool
 | str
 | sl (e : TypeId)
def findF (P : Program) (go : TypeId → Nat → Option CK) (j : Nat) : List Field → Option CK
 | [] => none
 | f :: l => bif Nat.ble f.offset j && Nat.blt j (f.offset + P.cellsOf f.type) then go f.type (j - f.offset) else findF P go j l
def kindAt (P : Program) : Nat → TypeId → Nat → Option CK
 | 0, _, _ => none
 | k + 1, t, j => match P.underlying t with
  | some (.int ik) => bif Nat.beq j 0 then some (.int ik) else none
  | some .bool => bif Nat.beq j 0 then some .bool else none
  | some .string => bif Nat.beq j 0 then some .str else none
  | some (.slice e) => bif Nat.beq j 0 then some (.sl e) else none
  | some (.array n e) => bif Nat.blt j (n * P.cellsOf e) then kindAt P k e (j % P.cellsOf e) else none
  | some (.struct fs) => findF P (kindAt P k) j fs.toList
  | _ => none
def kindB (P : Program) : Nat → TypeId → Bool
 | 0, _ => false
 | d + 1, t => (List.range (P.cellsOf t)).all fun j => match kindAt P 20 t j with
  | some (.sl e) => Nat.blt 0 (P.cellsOf e) && kindB P d e
  | some _ => true
  | none => false
def okK (P : Program) : Nat → CK → CV → Prop
 | _, .int ik, c => ∃ n, c = .v (.int ik n) ∧ (Lit.int ik n).wf = true
 | _, .bool, c => ∃ b, c = .v (.bool b)
 | _, .str, c => ∃ s, c = .v (.string s) ∧ s.size ≤ maxLen
 | 0, .sl e, c => False
 | d + 1, .sl e, c => ∃ n cc, c = .sl (P.cellsOf e) n cc ∧ n ≤ maxLen ∧ ∀ i j, i < n → j < P.cellsOf e → ∃ κ, kindAt P 20 e j = some κ ∧ okK P d κ (cc i j)
section
variable {H : Type} {enc : TypeId × Value → H} {P : Program} {w : World} {base : Nat} {spare : Nat → Bool} {held : Bool}
def leaf (H : Type) (enc : TypeId × Value → H) (P : Program) (w : World) (base : Nat) (spare : Nat → Bool) (held : Bool) : CK → Value → Prop
 | .int ik, u => ∃ n, u = .int ik n ∧ (Lit.int ik n).wf = true
 | .bool, u => ∃ b, u = .bool b
 | .str, u => ∃ s : ByteArray, u = .string s ∧ s.size ≤ maxLen
 | .sl e, u => ∃ t m y, P.underlying t = some (.slice e) ∧ DataW.trod enc P w base spare held m t [u] = some y
theorem leaf_of : ∀ (k : Nat) (t : TypeId) (fuel : Nat) (cs : List Value) (x : DataW H × List MemPlace) (j : Nat) (κ : CK), kindAt P k t j = some κ → DataW.trod enc P w base spare held fuel t cs = some x → ∃ u, cs[j]? = some u ∧ leaf H enc P w base spare held κ u := by
 intro k
 induction k with
 | zero => intro t fuel cs x j κ h; cases h
 | succ k ih =>
  intro t fuel cs x j κ hk h
  unfold kindAt at hk
  have zero : ∀ {κ' : CK}, (bif Nat.beq j 0 then some κ' else none) = some κ → j = 0 ∧ κ' = κ := by
   intro κ' e
   cases hb : Nat.beq j 0 with
   | false => rw [hb] at e; cases e
   | true => rw [hb] at e; cases e; exact ⟨Nat.eq_of_beq_eq_true hb, rfl⟩
  split at hk
  ·rename_i ik ht
   obtain ⟨rfl, rfl⟩ := zero hk
   obtain ⟨n, rfl, _, h2⟩ := DataW.trod_int ht h
   exact ⟨_, rfl, n, rfl, h2⟩
  ·rename_i ht
   obtain ⟨rfl, rfl⟩ := zero hk
   obtain ⟨b, rfl, _⟩ := DataW.trod_bool ht h
   exact ⟨_, rfl, b, rfl⟩
  ·rename_i ht
   obtain ⟨rfl, rfl⟩ := zero hk
   obtain ⟨s, rfl, _, h2⟩ := DataW.trod_string ht h
   exact ⟨_, rfl, s, rfl, h2⟩
  ·rename_i e ht
   obtain ⟨rfl, rfl⟩ := zero hk
   rcases DataW.trod_slice ht h with ⟨rfl, _⟩ | ⟨a, len, cap, elems, rest, m, _, rfl, _⟩
   ·exact ⟨_, rfl, t, fuel, x, ht, h⟩
   ·exact ⟨_, rfl, t, fuel, x, ht, h⟩
  ·rename_i n e ht
   cases hb : Nat.blt j (n * P.cellsOf e) with
   | false => rw [hb] at hk; cases hk
   | true =>
    rw [hb] at hk
    simp only [cond_true] at hk
    have hj : j < n * P.cellsOf e := Nat.le_of_ble_eq_true hb
    have hpos : 0 < P.cellsOf e := by
     rcases Nat.eq_zero_or_pos (P.cellsOf e) with q | q
     ·rw [q, Nat.mul_zero] at hj; omega
     ·exact q
    obtain ⟨xs, m, _, _, hl, hxs, hf⟩ := DataW.trod_array ht h
    have hi : j / P.cellsOf e < n := Nat.div_lt_of_lt_mul (by rwa [Nat.mul_comm])
    have h5 := hf _ hi
    rw [show xs[j / P.cellsOf e]? = some xs[j / P.cellsOf e] from List.getElem?_eq_getElem (by omega)] at h5
    obtain ⟨u, h6, h7⟩ := ih e _ _ _ _ _ hk h5
    refine ⟨u, ?_, h7⟩
    rw [List.getElem?_take, if_pos (Nat.mod_lt _ hpos), List.getElem?_drop] at h6
    rwa [Nat.div_add_mod' j (P.cellsOf e)] at h6
  ·rename_i fs ht
   obtain ⟨xs, m, _, _, hl, hxs, hf⟩ := DataW.trod_struct ht h
   have find : ∀ l : List Field, (∀ f ∈ l, ∃ i : Nat, fs[i]? = some f) → findF P (kindAt P k) j l = some κ → ∃ (f : Field) (i : Nat), fs[i]? = some f ∧ f.offset ≤ j ∧ j < f.offset + P.cellsOf f.type ∧ kindAt P k f.type (j - f.offset) = some κ := by
    intro l
    induction l with
    | nil => intro _ h; cases h
    | cons f l ihl =>
     intro hm h
     unfold findF at h
     cases hb : (Nat.ble f.offset j && Nat.blt j (f.offset + P.cellsOf f.type)) with
     | false => rw [hb] at h; exact ihl (fun g hg => hm g (by simp [hg])) h
     | true =>
      rw [hb] at h
      simp only [Bool.and_eq_true] at hb
      obtain ⟨i, hi⟩ := hm f (by simp)
      exact ⟨f, i, hi, Nat.le_of_ble_eq_true hb.1, Nat.le_of_ble_eq_true hb.2, h⟩
   obtain ⟨f, i, hi, h1, h2, h3⟩ := find fs.toList (fun f hf => by
    obtain ⟨i, hi, e⟩ := List.getElem_of_mem hf
    exact ⟨i, by rw [← e]; simp at hi ⊢⟩) hk
   have h5 := hf i f hi
   have hlt : i < fs.size := by
    rcases Nat.lt_or_ge i fs.size with q | q
    ·exact q
    ·rw [Array.getElem?_eq_none q] at hi; cases hi
   rw [show xs[i]? = some xs[i] from List.getElem?_eq_getElem (by omega)] at h5
   obtain ⟨u, h6, h7⟩ := ih _ _ _ _ _ _ h3 h5
   refine ⟨u, ?_, h7⟩
   rw [List.getElem?_take, if_pos (by omega), List.getElem?_drop] at h6
   rwa [show f.offset + (j - f.offset) = j by omega] at h6
  ·cases hk
theorem open_cell : ∀ (d : Nat) (t : TypeId) (fuel : Nat) (cs : List Value) (x : DataW H × List MemPlace), kindB P d t = true → DataW.trod enc P w base spare held fuel t cs = some x → ∀ j, j < P.cellsOf t → ∃ κ c u, kindAt P 20 t j = some κ ∧ cs[j]? = some u ∧ RelF w (fun _ => True) c u ∧ okK P d κ c := by
 intro d
 induction d with
 | zero => intro t fuel cs x h; cases h
 | succ d ih =>
  intro t fuel cs x hB h j hj
  have hB' := hB
  unfold kindB at hB
  have h1 := List.all_eq_true.1 hB j (List.mem_range.2 hj)
  cases hk : kindAt P 20 t j with
  | none => rw [hk] at h1; cases h1
  | some κ =>
   rw [hk] at h1
   obtain ⟨u, h2, h3⟩ := leaf_of 20 t fuel cs x j κ hk h
   cases κ with
   | int ik =>
    obtain ⟨n, rfl, hw⟩ := h3
    exact ⟨_, .v (.int ik n), _, rfl, h2, ⟨rfl, rfl⟩, by simp only [okK]; exact ⟨n, rfl, hw⟩⟩
   | bool =>
    obtain ⟨b, rfl⟩ := h3
    exact ⟨_, .v (.bool b), _, rfl, h2, ⟨rfl, rfl⟩, by simp only [okK]; exact ⟨b, rfl⟩⟩
   | str =>
    obtain ⟨s, rfl, hs⟩ := h3
    exact ⟨_, .v (.string s), _, rfl, h2, ⟨rfl, rfl⟩, by simp only [okK]; exact ⟨s, rfl, hs⟩⟩
   | sl e =>
    simp only [Bool.and_eq_true] at h1
    have hpos : 0 < P.cellsOf e := Nat.le_of_ble_eq_true h1.1
    obtain ⟨t', m, y, ht, hy⟩ := h3
    obtain ⟨n, css, ⟨ao, cap, rfl, g1, g2, g3, g4⟩, hel⟩ := slAt_of_trod ht rfl hpos hy
    have each : ∀ i j, i < n → j < P.cellsOf e → ∃ c : CV, ∃ κ u, kindAt P 20 e j = some κ ∧ (css i)[j]? = some u ∧ RelF w (fun _ => True) c u ∧ okK P d κ c := by
     intro i j hi hj
     obtain ⟨_, m', y', h6⟩ := hel i hi
     obtain ⟨κ, c, u, q⟩ := ih e m' (css i) y' h1.2 h6 j hj
     exact ⟨c, κ, u, q⟩
    classical
    let cc : Nat → Nat → CV := fun i j => if h : i < n ∧ j < P.cellsOf e then Classical.choose (each i j h.1 h.2) else .v (.bool false)
    have hcc : ∀ i j, i < n → j < P.cellsOf e → ∃ κ u, kindAt P 20 e j = some κ ∧ (css i)[j]? = some u ∧ RelF w (fun _ => True) (cc i j) u ∧ okK P d κ (cc i j) := by
     intro i j hi hj
     have : cc i j = Classical.choose (each i j hi hj) := dif_pos ⟨hi, hj⟩
     rw [this]
     exact Classical.choose_spec (each i j hi hj)
    refine ⟨_, .sl (P.cellsOf e) n cc, _, rfl, h2, ⟨ao, cap, rfl, g1, g2, g4, fun h0 => ?_⟩, by
     simp only [okK]
     exact ⟨n, cc, rfl, Nat.le_trans g1 g2, fun i j hi hj => by obtain ⟨κ, u, q1, _, _, q4⟩ := hcc i j hi hj; exact ⟨κ, q1, q4⟩⟩⟩
    obtain ⟨b, off, e1, hlt, hc⟩ := g3 h0
    refine ⟨b, off, e1, hlt, trivial, fun i j hi hj => ?_⟩
    obtain ⟨κ, u, q1, q2, q3, _⟩ := hcc i j hi hj
    refine ⟨u, ?_, q3⟩
    rw [hc i j hi hj]
    simp [List.getD, q2]
theorem open_cells {d : Nat} {t : TypeId} {fuel : Nat} {cs : List Value} {x : DataW H × List MemPlace} (hB : kindB P d t = true) (hl : cs.length = P.cellsOf t) (h : DataW.trod enc P w base spare held fuel t cs = some x) :
  ∃ l : List CV, l.length = P.cellsOf t ∧ All2 (RelF w (fun _ => True)) l cs ∧ ∀ j, j < P.cellsOf t → ∃ κ, kindAt P 20 t j = some κ ∧ okK P d κ (l.getD j (.v (.bool false))) := by
 have each := open_cell d t fuel cs x hB h
 obtain ⟨l, h1, h2⟩ := list_of (CV.v (.bool false)) (P.cellsOf t) (R := fun j c => ∃ κ u, kindAt P 20 t j = some κ ∧ cs[j]? = some u ∧ RelF w (fun _ => True) c u ∧ okK P d κ c) (fun j hj => by obtain ⟨κ, c, u, q⟩ := each j hj; exact ⟨c, κ, u, q⟩)
 refine ⟨l, h1, All2.of_get (by omega) fun i a b ha hb => ?_, fun j hj => ?_⟩
 ·have hi : i < P.cellsOf t := by
   rcases Nat.lt_or_ge i l.length with q | q
   ·omega
   ·rw [List.getElem?_eq_none q] at ha; cases ha
  obtain ⟨κ, u, _, q2, q3, _⟩ := h2 i hi
  rw [hb] at q2
  cases q2
  rw [show l.getD i (.v (.bool false)) = a by simp [List.getD, ha]] at q3
  exact q3
 ·obtain ⟨κ, u, q1, _, _, q4⟩ := h2 j hj
  exact ⟨κ, q1, q4⟩
theorem open_agg {d : Nat} {t : TypeId} {cs : Array Value} {y : DataW H} {ps : List MemPlace} (hB : kindB P d t = true) (hl : cs.size = P.cellsOf t) (h : DataW.Trod enc P w base spare held t (.agg cs) y ps) :
  ∃ l : List CV, l.length = P.cellsOf t ∧ All2 (RelF w (fun _ => True)) l cs.toList ∧ ∀ j, j < P.cellsOf t → ∃ κ, kindAt P 20 t j = some κ ∧ okK P d κ (l.getD j (.v (.bool false))) := by
 obtain ⟨fuel, hf⟩ := h
 exact open_cells hB (by simpa using hl) (by simpa [Value.cells] using hf)
end
theorem open_i64 {P : Program} {d : Nat} {t : TypeId} {j : Nat} {c : CV} (hk : kindAt P 20 t j = some (.int .i64)) (h : ∃ κ, kindAt P 20 t j = some κ ∧ okK P d κ c) : ∃ n : Int, c = .v (.int .i64 n) ∧ -9223372036854775808 ≤ n ∧ n ≤ 9223372036854775807 := by
 obtain ⟨κ, h1, h2⟩ := h
 rw [hk] at h1
 cases h1
 have h3 : ∃ n, c = .v (.int .i64 n) ∧ (Lit.int .i64 n).wf = true := by cases d <;> exact h2
 obtain ⟨n, e, hw⟩ := h3
 have := bounds_i64 hw
 exact ⟨n, e, this.1, this.2⟩
theorem open_sl {P : Program} {d : Nat} {t e : TypeId} {j : Nat} {c : CV} (hk : kindAt P 20 t j = some (.sl e)) (h : ∃ κ, kindAt P 20 t j = some κ ∧ okK P (d + 1) κ c) : ∃ n cc, c = .sl (P.cellsOf e) n cc ∧ n ≤ maxLen ∧ ∀ i j, i < n → j < P.cellsOf e → ∃ κ, kindAt P 20 e j = some κ ∧ okK P d κ (cc i j) := by
 obtain ⟨κ, h1, h2⟩ := h
 rw [hk] at h1
 cases h1
 exact h2
def allI (P : Program) (e : TypeId) : Bool := (List.range (P.cellsOf e)).all fun j => match kindAt P 20 e j with
 | some (.int .i64) => true
 | _ => false
theorem nums_of {P : Program} {d : Nat} {e : TypeId} {n : Nat} {cc : Nat → Nat → CV} (hk : allI P e = true) (h : ∀ i j, i < n → j < P.cellsOf e → ∃ κ, kindAt P 20 e j = some κ ∧ okK P d κ (cc i j)) : numsP (P.cellsOf e) n cc := by
 intro i j hi hj
 have h1 := List.all_eq_true.1 hk j (List.mem_range.2 hj)
 split at h1
 ·rename_i hq
  obtain ⟨m, e1, _⟩ := open_i64 hq (h i j hi hj)
  rw [e1]; rfl
 ·cases h1
end Go.Proofs.Ytlmdmpjfehpjeaa.Ev