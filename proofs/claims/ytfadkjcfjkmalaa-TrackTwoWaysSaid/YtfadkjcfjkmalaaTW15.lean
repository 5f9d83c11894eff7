/- Texts of this claim, together. -/
import Derived.Test.YtfadkjcfjkmalaaTW14
import Derived.Test.YtfadkjcfjkmalaaTW6
import Derived.Test.YtfadkjcfjkmalaaTW7

set_option linter.unusedVariables false
set_option linter.unusedSimpArgs false
namespace Go.Proofs.Ytfadkjcfjkmalaa
open Go.RowKit Ev
structure TW (m : TMod) (b : TBox) (l : List THit) (K : Int) : Prop where
 hm : m.err = 0
 hb : b.err = 0
 hh : hitsE l = 0
 hl : l.length ≤ 14
 k0 : 0 ≤ K
 k1 : K ≤ 1000
 hs : m.steps b ≠ []
theorem any_take {L : List V3} {k : Nat} (p : V3 → Bool) (h : k < L.length) : (L.take (k + 1)).any p = ((L.take k).any p || p (plAt L k)) := by
 rw [plAt_take h, List.any_append, List.any_cons, List.any_nil, Bool.or_false]
theorem eq3 (p s : V3) : (bif (p.x == s.x) then (bif (p.y == s.y) then (bif (p.z == s.z) then true else false) else false) else false) = decide (p = s) := by
 rw [Bool.eq_iff_iff, decide_eq_true_eq, v3_ext]
 by_cases h1 : p.x = s.x <;> by_cases h2 : p.y = s.y <;> by_cases h3 : p.z = s.z <;> simp [h1, h2, h3]
theorem cover_no {m : TMod} {b : TBox} {l : List THit} {n K : Int} {c : List TBox} (hm : m.err = 0) (hb : b.err = 0) (hh : hitsE l = 0) (hne : m.steps b ≠ []) (hc : m.covers l n b c) (hK : bestS m b l < K) : (cvR m b l c K).2 = 19 := by
 have ho := err_ok hm
 have h := cover_acc hm hb hh hc
 unfold cvR at h ⊢
 by_cases e0 : cvE0 m b l c ≠ 0
 ·rw [if_pos e0] at h; exact (e0 (congrArg Prod.snd h)).elim
 rw [if_neg e0] at h ⊢
 by_cases e1 : scan (bxE b c) c.length ≠ 0
 ·rw [if_pos e1] at h; exact (e1 (congrArg Prod.snd h)).elim
 rw [if_neg e1, if_neg (by rw [hc.count]; omega), if_pos]
 have e := idxP_any (p := fun a => !provB m l K a) (l := c)
 by_cases q : 0 ≤ idxP (fun a => !provB m l K a) c
 ·exact q
 rw [decide_eq_false q, List.any_eq_false] at e
 have hc2 : m.covers l K b c := ⟨fun d hd => by
  obtain ⟨a1, a2, _⟩ := hc.each d hd
  exact ⟨a1, a2, (provB_iff (sub_err hb a2 a1)).1 (by simpa using e d hd)⟩, hc.apart, hc.count⟩
 obtain ⟨q1, q2⟩ := best_is (l := l) hne
 obtain ⟨g1, g2⟩ := mem_steps.1 q1.1
 have := covers_ge hc2 (box_ok hb) g1 g2 ho.slp ho.slo ⟨ho.ea.1, ho.la.1⟩ ⟨ho.mi.1, ho.no.1⟩ (hits_w hh)
 omega
namespace TW
variable {m : TMod} {b : TBox} {l : List THit} {K : Int} (h : TW m b l K)
include h
theorem f1 : firstNZ [m.err, b.err] = 0 := by rw [h.hm, h.hb]; rfl
theorem f2 : firstNZ [firstNZ [m.err, b.err], hitsE l] = 0 := by rw [h.f1, h.hh]; rfl
theorem sl : stepsL m b = m.steps b := if_neg (by rw [h.f1]; simp)
theorem st {k : Nat} (hk : k < (m.steps b).length) : m.stE (plAt (m.steps b) k) = 0 := by
 obtain ⟨h1, h2⟩ := steps_ok h.hb (plAt_in hk)
 unfold TMod.stE
 rw [h1, permB_iff.2 h2]; rfl
theorem sE {k : Nat} (hk : k < (m.steps b).length) : m.sE (plAt (m.steps b) k) l = 0 := by
 unfold TMod.sE TMod.both
 rw [h.st hk, h.hm, h.hh]; rfl
theorem sV {k : Nat} (hk : k < (m.steps b).length) : m.sV (plAt (m.steps b) k) l = m.score (plAt (m.steps b) k) l := if_pos (h.sE hk)
theorem rg : -120000 ≤ bestS m b l ∧ bestS m b l ≤ 120000 := best_rg (err_ok h.hm) h.hh
theorem cv : (covR m l (bestS m b l) b).2 = true := by
 cases e : (covR m l (bestS m b l) b).2 with
 | true => rfl
 | false => have := ((cover_iff h.hm h.hb h.hh).1 e).2; omega
theorem cv1 : (covR m l (bestS m b l + 1) b).2 = false := (cover_iff h.hm h.hb h.hh).2 ⟨h.hs, by omega⟩
theorem cov : m.covers l (bestS m b l) b (covR m l (bestS m b l) b).1 := (covR_spec h.hm h.hh b.count.toNat b h.hb (by omega)).1 h.cv
theorem cc : cvR m b l (covR m l (bestS m b l) b).1 (bestS m b l) = (0, 0) := cover_acc h.hm h.hb h.hh h.cov
theorem cc1 : (cvR m b l (covR m l (bestS m b l) b).1 (bestS m b l + 1)).2 = 19 := cover_no h.hm h.hb h.hh h.hs h.cov (by omega)
theorem len : (covR m l (bestS m b l) b).1.length ≤ 700 := covR_len h.hm h.hb h.hh
theorem cE {n : Int} (h0 : 0 ≤ n) (h1 : n ≤ 120000) : cnE m b l n = 0 := (cnE_3 h.f2 (inB_true.2 ⟨h0, h1⟩)).trans (bi_3 h.f2 h.hs).1
theorem cL {n : Int} (h0 : 0 ≤ n) (h1 : n ≤ 120000) : cnL m b l n = coL m b l n := if_pos (h.cE h0 h1)
theorem slen : (m.steps b).length ≤ 700 := steps_len h.hb
theorem mem {n : Int} (h0 : 0 ≤ n) : bestV m b l ∈ coL m b l n := by
 obtain ⟨q1, q2⟩ := best_is (l := l) h.hs
 refine List.mem_filter.2 ⟨q1.1, ?_⟩
 unfold coQ
 rw [decide_eq_true_eq]; omega
theorem uniq {k : Nat} (hk : k < (m.steps b).length) (hf : ((m.steps b).take k).any (fun s => m.score s l == bestS m b l) = false) (he : m.score (plAt (m.steps b) k) l = bestS m b l) : plAt (m.steps b) k = bestV m b l := by
 obtain ⟨q1, q2⟩ := best_is (l := l) h.hs
 rcases q1.2 _ (plAt_in hk) with e | e | ⟨_, e⟩
 ·exact e
 ·omega
 ·obtain ⟨j, hj, ej⟩ := List.getElem_of_mem q1.1
  have ea : plAt (m.steps b) k = (m.steps b)[k] := by simp [plAt, List.getD, hk]
  rcases Nat.lt_trichotomy j k with c | c | c
  ·rw [List.any_eq_false] at hf
   exact (hf (bestV m b l) (List.mem_take_iff_getElem.2 ⟨j, by omega, ej⟩) (by rw [q2]; simp)).elim
  ·subst c; rw [ea, ej]
  ·have := List.pairwise_iff_getElem.1 (steps_sorted m b) k j hk hj c
   rw [ej, ← ea] at this
   exact (lexB_irr _ (lexB_trans this e)).elim
theorem first {k : Nat} (hk : k < (m.steps b).length) {f : Bool} (hf : f = ((m.steps b).take k).any (fun s => m.score s l == bestS m b l)) :
  (bif decide (m.score (plAt (m.steps b) k) l < bestS m b l) then true else (bif (m.score (plAt (m.steps b) k) l == bestS m b l) then (bif (!f) then (!(bif ((plAt (m.steps b) k).x == (bestV m b l).x) then (bif ((plAt (m.steps b) k).y == (bestV m b l).y) then (bif ((plAt (m.steps b) k).z == (bestV m b l).z) then true else false) else false) else false)) else false) else false)) = false := by
 have h1 := best_le (l := l) (plAt_in hk)
 rw [decide_eq_false (by omega), eq3]
 cases f with
 | true => cases (m.score (plAt (m.steps b) k) l == bestS m b l) <;> rfl
 | false =>
  by_cases e : m.score (plAt (m.steps b) k) l = bestS m b l
  ·rw [decide_eq_true (h.uniq hk hf.symm e)]; simp
  ·rw [show (m.score (plAt (m.steps b) k) l == bestS m b l) = false by simpa using e]; rfl
theorem found : (m.steps b).any (fun s => m.score s l == bestS m b l) = true := by
 obtain ⟨q1, q2⟩ := best_is (l := l) h.hs
 exact List.any_eq_true.2 ⟨_, q1.1, by rw [q2]; simp⟩
end TW
theorem TW.clen {m : TMod} {b : TBox} {l : List THit} {K : Int} (_ : TW m b l K) (n : Int) : (coL m b l n).length ≤ (m.steps b).length := List.length_filter_le _ _
theorem TW.sub {m : TMod} {b : TBox} {l : List THit} {K : Int} (_ : TW m b l K) {s : V3} {n : Int} (hm : s ∈ coL m b l n) : s ∈ coL m b l (n + 1) := by
 obtain ⟨q1, q2⟩ := List.mem_filter.1 hm
 refine List.mem_filter.2 ⟨q1, ?_⟩
 unfold coQ at q2 ⊢
 rw [decide_eq_true_eq] at q2 ⊢; omega
def mk_law05_TrackTwoWays_0 (m0 m1 m2 m3 m4 m5 m6 m7 m8 m9 m10 m11 : Int) (b0 b1 b2 b3 b4 b5 : Int) (l : List THit) (K : Int) (v0_0 : Int) (v0_1 : Int) (v0_2 : Int) (v0_3 : Bool) (v0_4 : Int) (v0_5 : Int) : DS := ⟨[none, none, some (.t (.c (.v (.int .i64 K)))), some (.t (.c (.p 3 0))), some (.t (.c (.p 4 0))), none, none, some (.t (.c (.p 7 0))), some (.t (.c (.v (.int .i64 v0_5)))), none, some (.t (.c (.sl 3 ((stepsL (⟨m0, m1, m2, m3, m4, m5, m6, m7, m8, m9, m10, m11⟩ : TMod) (⟨⟨b0, b1, b2⟩, ⟨b3, b4, b5⟩⟩ : TBox)).length) (plsC (stepsL (⟨m0, m1, m2, m3, m4, m5, m6, m7, m8, m9, m10, m11⟩ : TMod) (⟨⟨b0, b1, b2⟩, ⟨b3, b4, b5⟩⟩ : TBox)))))), none, some (.t (.c (.v (.bool v0_3)))), some (.t (.c (.v (.int .i64 v0_4)))), none, none, none, none, none, none, none, none, none, none, none, none, none, none, none, none, none, none, none, none, none, none, none, none, none, none, none, none, none, none, none, none, none, none, none, none, none, none, none, none, none, none, none, none, none, none, none, none, none, none, none, none, none, none, none, none, none, none, none, none, none, none, none, none, none, none, none, none, none, none, none, none, none, none, none, none, none, none, none, none, none, none, none, none, none, none, none, none, none, none, none, none, none, none, none, none, none, none, none, none, none, none, none, none, none, none, none, none, none, none, none, none, none, none, none, none, none, none, none, none, none, none, none, none, none, none, none, none, none, none, none, none, none, none, none, none, none, none, none, none, none, none, none, none, none, none, none, none, none, none, none, none, none, none, none, none, none, none, none, none, none, none, none, none, none, none, none, none, none, none, none, none, none, none, none, none, none, none, none, none, none, none, none, none, none, none, none, none, none, none, none, none, none, none, none, none, none, none, none, none, none, none, none, none, none, none, none, none, none, none, none, none, none, none, none, none, none, none, none, none, none, none, none, none, none, none, none, none, none, none, none, none, none, none, none, none, none, none, none, none, none, none, none, none, none, none, none, none, none, none, none, none, none, none, none, none, none, none, none, none, none, none, none, none, none, none, none, none, none, none, none, none, none, none, none, none, none, none, none, none, none, none, none, none], [none, none, none, some (.box 26 [.v (.int .i64 m0), .v (.int .i64 m1), .v (.int .i64 m2), .v (.int .i64 m3), .v (.int .i64 m4), .v (.int .i64 m5), .v (.int .i64 m6), .v (.int .i64 m7), .v (.int .i64 m8), .v (.int .i64 m9), .v (.int .i64 m10), .v (.int .i64 m11)]), some (.box 31 [.v (.int .i64 b0), .v (.int .i64 b1), .v (.int .i64 b2), .v (.int .i64 b3), .v (.int .i64 b4), .v (.int .i64 b5), .sl 5 l.length (hitsC l)]), none, none, some (.box 22 [.v (.int .i64 v0_0), .v (.int .i64 v0_1), .v (.int .i64 v0_2)]), none, none, none, none, none, none, none, none, none, none, none, none, none, none, none, none, none, none, none, none, none, none, none, none, none, none, none, none, none, none, none, none, none, none, none, none, none, none, none, none, none, none, none, none, none, none, none, none, none, none, none, none, none, none, none, none, none, none, none, none, none, none, none, none, none, none, none, none, none, none, none, none, none, none, none, none, none, none, none, none, none, none, none, none, none, none, none, none, none, none, none, none, none, none, none, none, none, none, none, none, none, none, none, none, none, none, none, none, none, none, none, none, none, none, none, none, none, none, none, none, none, none, none, none, none, none, none, none, none, none, none, none, none, none, none, none, none, none, none, none, none, none, none, none, none, none, none, none, none, none, none, none, none, none, none, none, none, none, none, none, none, none, none, none, none, none, none, none, none, none, none, none, none, none, none, none, none, none, none, none, none, none, none, none, none, none, none, none, none, none, none, none, none, none, none, none, none, none, none, none, none, none, none, none, none, none, none, none, none, none, none, none, none, none, none, none, none, none, none, none, none, none, none, none, none, none, none, none, none, none, none, none, none, none, none, none, none, none, none, none, none, none, none, none, none, none, none, none, none, none, none, none, none, none, none, none, none, none, none, none, none, none, none, none, none, none, none, none, none, none, none, none, none, none, none, none, none, none, none, none, none, none, none, none, none, none, none, none, none, none]⟩
def mk_law05_TrackTwoWays_2 (m0 m1 m2 m3 m4 m5 m6 m7 m8 m9 m10 m11 : Int) (b0 b1 b2 b3 b4 b5 : Int) (l : List THit) (K : Int) (v2_0 : Int) (v2_1 : Int) (v2_2 : Int) (v2_3 : (List V3)) (v2_4 : Bool) (v2_5 : Int) : DS := ⟨[none, none, none, none, none, none, none, some (.t (.c (.p 7 0))), none, none, none, none, none, none, none, none, none, none, none, none, none, none, none, none, some (.t (.c (.sl 3 ((cnL (⟨m0, m1, m2, m3, m4, m5, m6, m7, m8, m9, m10, m11⟩ : TMod) (⟨⟨b0, b1, b2⟩, ⟨b3, b4, b5⟩⟩ : TBox) (listC ((listC l.length mkHit (hitsC l)).length) mkHit (hitsC (listC l.length mkHit (hitsC l)))) K).length) (plsC (cnL (⟨m0, m1, m2, m3, m4, m5, m6, m7, m8, m9, m10, m11⟩ : TMod) (⟨⟨b0, b1, b2⟩, ⟨b3, b4, b5⟩⟩ : TBox) (listC ((listC l.length mkHit (hitsC l)).length) mkHit (hitsC (listC l.length mkHit (hitsC l)))) K))))), none, some (.t (.c (.sl 3 v2_3.length (plsC v2_3)))), none, some (.t (.c (.v (.bool v2_4)))), some (.t (.c (.v (.int .i64 v2_5)))), none, none, none, none, none, none, none, none, none, none, none, none, none, none, none, none, none, none, none, none, none, none, none, none, none, none, none, none, none, none, none, none, none, none, none, none, none, none, none, none, none, none, none, none, none, none, none, none, none, none, none, none, none, none, none, none, none, none, none, none, none, none, none, none, none, none, none, none, none, none, none, none, none, none, none, none, none, none, none, none, none, none, none, none, none, none, none, none, none, none, none, none, none, none, none, none, none, none, none, none, none, none, none, none, none, none, none, none, none, none, none, none, none, none, none, none, none, none, none, none, none, none, none, none, none, none, none, none, none, none, none, none, none, none, none, none, none, none, none, none, none, none, none, none, none, none, none, none, none, none, none, none, none, none, none, none, none, none, none, none, none, none, none, none, none, none, none, none, none, none, none, none, none, none, none, none, none, none, none, none, none, none, none, none, none, none, none, none, none, none, none, none, none, none, none, none, none, none, none, none, none, none, none, none, none, none, none, none, none, none, none, none, none, none, none, none, none, none, none, none, none, none, none, none, none, none, none, none, none, none, none, none, none, none, none, none, none, none, none, none, none, none, none, none, none, none, none, none, none, none, none, none, none, none, none, none, none, none, none, none, none, none, none, none, none, none, none, none], [none, none, none, none, none, none, none, some (.box 22 [.v (.int .i64 v2_0), .v (.int .i64 v2_1), .v (.int .i64 v2_2)]), none, none, none, none, none, none, none, none, none, none, none, none, none, none, none, none, none, none, none, none, none, none, none, none, none, none, none, none, none, none, none, none, none, none, none, none, none, none, none, none, none, none, none, none, none, none, none, none, none, none, none, none, none, none, none, none, none, none, none, none, none, none, none, none, none, none, none, none, none, none, none, none, none, none, none, none, none, none, none, none, none, none, none, none, none, none, none, none, none, none, none, none, none, none, none, none, none, none, none, none, none, none, none, none, none, none, none, none, none, none, none, none, none, none, none, none, none, none, none, none, none, none, none, none, none, none, none, none, none, none, none, none, none, none, none, none, none, none, none, none, none, none, none, none, none, none, none, none, none, none, none, none, none, none, none, none, none, none, none, none, none, none, none, none, none, none, none, none, none, none, none, none, none, none, none, none, none, none, none, none, none, none, none, none, none, none, none, none, none, none, none, none, none, none, none, none, none, none, none, none, none, none, none, none, none, none, none, none, none, none, none, none, none, none, none, none, none, none, none, none, none, none, none, none, none, none, none, none, none, none, none, none, none, none, none, none, none, none, none, none, none, none, none, none, none, none, none, none, none, none, none, none, none, none, none, none, none, none, none, none, none, none, none, none, none, none, none, none, none, none, none, none, none, none, none, none, none, none, none, none, none, none, none, none, none, none, none, none, none, none]⟩
def mk_law05_TrackTwoWays_4 (m0 m1 m2 m3 m4 m5 m6 m7 m8 m9 m10 m11 : Int) (b0 b1 b2 b3 b4 b5 : Int) (l : List THit) (K : Int) (v4_0 : Int) (v4_1 : Int) (v4_2 : Int) (v4_3 : (List V3)) (v4_4 : Bool) (v4_5 : Int) (v4_6 : Bool) (v4_7 : Int) : DS := ⟨[none, none, none, none, none, none, none, some (.t (.c (.p 7 0))), none, none, none, none, none, none, none, none, none, none, none, none, none, none, none, none, some (.t (.c (.sl 3 ((cnL (⟨m0, m1, m2, m3, m4, m5, m6, m7, m8, m9, m10, m11⟩ : TMod) (⟨⟨b0, b1, b2⟩, ⟨b3, b4, b5⟩⟩ : TBox) (listC ((listC l.length mkHit (hitsC l)).length) mkHit (hitsC (listC l.length mkHit (hitsC l)))) K).length) (plsC (cnL (⟨m0, m1, m2, m3, m4, m5, m6, m7, m8, m9, m10, m11⟩ : TMod) (⟨⟨b0, b1, b2⟩, ⟨b3, b4, b5⟩⟩ : TBox) (listC ((listC l.length mkHit (hitsC l)).length) mkHit (hitsC (listC l.length mkHit (hitsC l)))) K))))), none, some (.t (.c (.sl 3 v4_3.length (plsC v4_3)))), none, some (.t (.c (.v (.bool v4_4)))), some (.t (.c (.v (.int .i64 v4_5)))), some (.t (.c (.v (.bool v4_6)))), some (.t (.c (.v (.int .i64 v4_7)))), none, none, none, none, none, none, none, none, none, none, none, none, none, none, none, none, none, none, none, none, none, none, none, none, none, none, none, none, none, none, none, none, none, none, none, none, none, none, none, none, none, none, none, none, none, none, none, none, none, none, none, none, none, none, none, none, none, none, none, none, none, none, none, none, none, none, none, none, none, none, none, none, none, none, none, none, none, none, none, none, none, none, none, none, none, none, none, none, none, none, none, none, none, none, none, none, none, none, none, none, none, none, none, none, none, none, none, none, none, none, none, none, none, none, none, none, none, none, none, none, none, none, none, none, none, none, none, none, none, none, none, none, none, none, none, none, none, none, none, none, none, none, none, none, none, none, none, none, none, none, none, none, none, none, none, none, none, none, none, none, none, none, none, none, none, none, none, none, none, none, none, none, none, none, none, none, none, none, none, none, none, none, none, none, none, none, none, none, none, none, none, none, none, none, none, none, none, none, none, none, none, none, none, none, none, none, none, none, none, none, none, none, none, none, none, none, none, none, none, none, none, none, none, none, none, none, none, none, none, none, none, none, none, none, none, none, none, none, none, none, none, none, none, none, none, none, none, none, none, none, none, none, none, none, none, none, none, none, none, none, none, none, none, none, none, none], [none, none, none, none, none, none, none, some (.box 22 [.v (.int .i64 v4_0), .v (.int .i64 v4_1), .v (.int .i64 v4_2)]), none, none, none, none, none, none, none, none, none, none, none, none, none, none, none, none, none, none, none, none, none, none, none, none, none, none, none, none, none, none, none, none, none, none, none, none, none, none, none, none, none, none, none, none, none, none, none, none, none, none, none, none, none, none, none, none, none, none, none, none, none, none, none, none, none, none, none, none, none, none, none, none, none, none, none, none, none, none, none, none, none, none, none, none, none, none, none, none, none, none, none, none, none, none, none, none, none, none, none, none, none, none, none, none, none, none, none, none, none, none, none, none, none, none, none, none, none, none, none, none, none, none, none, none, none, none, none, none, none, none, none, none, none, none, none, none, none, none, none, none, none, none, none, none, none, none, none, none, none, none, none, none, none, none, none, none, none, none, none, none, none, none, none, none, none, none, none, none, none, none, none, none, none, none, none, none, none, none, none, none, none, none, none, none, none, none, none, none, none, none, none, none, none, none, none, none, none, none, none, none, none, none, none, none, none, none, none, none, none, none, none, none, none, none, none, none, none, none, none, none, none, none, none, none, none, none, none, none, none, none, none, none, none, none, none, none, none, none, none, none, none, none, none, none, none, none, none, none, none, none, none, none, none, none, none, none, none, none, none, none, none, none, none, none, none, none, none, none, none, none, none, none, none, none, none, none, none, none, none, none, none, none, none, none, none, none, none, none, none, none]⟩
def vc_law05_TrackTwoWays (J : Inv) (m0 m1 m2 m3 m4 m5 m6 m7 m8 m9 m10 m11 : Int) (b0 b1 b2 b3 b4 b5 : Int) (l : List THit) (K : Int) (post : DV → Prop) : Prop := (numsP 5 l.length (hitsC l)) ∧ ((cond (!(decide (((listC l.length mkHit (hitsC l))).length ≤ 14))) ((true = true) ∧ ((true = true) ∧ ((true = true) ∧ ((true = true) ∧ (True))))) (cond (!(smallB (⟨⟨b0, b1, b2⟩, ⟨b3, b4, b5⟩⟩ : TBox))) ((true = true) ∧ ((true = true) ∧ ((true = true) ∧ (True)))) (lt (((⟨m0, m1, m2, m3, m4, m5, m6, m7, m8, m9, m10, m11⟩ : TMod)).err) fun x7 => cond (x7 != (0 : Int)) ((true = true) ∧ ((true = true) ∧ (True))) (lt (firstNZ [((⟨⟨b0, b1, b2⟩, ⟨b3, b4, b5⟩⟩ : TBox)).err, hitsE (listC l.length mkHit (hitsC l))]) fun x8 => (numsP 5 l.length (hitsC l)) ∧ (cond (x8 != (0 : Int)) ((true = true) ∧ (True)) (True)))))) ∧ (lt ((bif (!(decide (((listC l.length mkHit (hitsC l))).length ≤ 14))) then true else (bif (!(smallB (⟨⟨b0, b1, b2⟩, ⟨b3, b4, b5⟩⟩ : TBox))) then true else (bif ((((⟨m0, m1, m2, m3, m4, m5, m6, m7, m8, m9, m10, m11⟩ : TMod)).err) != (0 : Int)) then true else (bif ((firstNZ [((⟨⟨b0, b1, b2⟩, ⟨b3, b4, b5⟩⟩ : TBox)).err, hitsE (listC l.length mkHit (hitsC l))]) != (0 : Int)) then true else (!(inB K (0 : Int) (1000 : Int)))))))) fun x9 => cond x9 (post (.t (.c (.v (.bool true))))) ((numsP 5 l.length (hitsC l) ∧ ((listC l.length mkHit (hitsC l))).length ≤ 1000000) ∧ (lt ((biV (⟨m0, m1, m2, m3, m4, m5, m6, m7, m8, m9, m10, m11⟩ : TMod) (⟨⟨b0, b1, b2⟩, ⟨b3, b4, b5⟩⟩ : TBox) (listC ((listC l.length mkHit (hitsC l)).length) mkHit (hitsC (listC l.length mkHit (hitsC l))))).x) fun x10 => lt ((biV (⟨m0, m1, m2, m3, m4, m5, m6, m7, m8, m9, m10, m11⟩ : TMod) (⟨⟨b0, b1, b2⟩, ⟨b3, b4, b5⟩⟩ : TBox) (listC ((listC l.length mkHit (hitsC l)).length) mkHit (hitsC (listC l.length mkHit (hitsC l))))).y) fun x11 => lt ((biV (⟨m0, m1, m2, m3, m4, m5, m6, m7, m8, m9, m10, m11⟩ : TMod) (⟨⟨b0, b1, b2⟩, ⟨b3, b4, b5⟩⟩ : TBox) (listC ((listC l.length mkHit (hitsC l)).length) mkHit (hitsC (listC l.length mkHit (hitsC l))))).z) fun x12 => lt (biS (⟨m0, m1, m2, m3, m4, m5, m6, m7, m8, m9, m10, m11⟩ : TMod) (⟨⟨b0, b1, b2⟩, ⟨b3, b4, b5⟩⟩ : TBox) (listC ((listC l.length mkHit (hitsC l)).length) mkHit (hitsC (listC l.length mkHit (hitsC l))))) fun x13 => lt (biE (⟨m0, m1, m2, m3, m4, m5, m6, m7, m8, m9, m10, m11⟩ : TMod) (⟨⟨b0, b1, b2⟩, ⟨b3, b4, b5⟩⟩ : TBox) (listC ((listC l.length mkHit (hitsC l)).length) mkHit (hitsC (listC l.length mkHit (hitsC l))))) fun x14 => (numsP 5 ((listC l.length mkHit (hitsC l)).length) (hitsC (listC l.length mkHit (hitsC l)))) ∧ (lt (firstNZ [((⟨m0, m1, m2, m3, m4, m5, m6, m7, m8, m9, m10, m11⟩ : TMod)).err, ((⟨⟨b0, b1, b2⟩, ⟨b3, b4, b5⟩⟩ : TBox)).err]) fun x15 => (cond (x15 != (0 : Int)) ((true = true) ∧ ((true = true) ∧ ((true = true) ∧ (True)))) ((((⟨⟨b0, b1, b2⟩, ⟨b3, b4, b5⟩⟩ : TBox)).lo.inS 20 = true ∧ ((⟨⟨b0, b1, b2⟩, ⟨b3, b4, b5⟩⟩ : TBox)).hi.inS 20 = true) ∧ (cond (decide ((((stepsL (⟨m0, m1, m2, m3, m4, m5, m6, m7, m8, m9, m10, m11⟩ : TMod) (⟨⟨b0, b1, b2⟩, ⟨b3, b4, b5⟩⟩ : TBox)).length : Nat) : Int) > (((⟨⟨b0, b1, b2⟩, ⟨b3, b4, b5⟩⟩ : TBox)).count))) ((true = true) ∧ ((true = true) ∧ (True))) (cond ((x14 == (0 : Int)) != (decide ((((stepsL (⟨m0, m1, m2, m3, m4, m5, m6, m7, m8, m9, m10, m11⟩ : TMod) (⟨⟨b0, b1, b2⟩, ⟨b3, b4, b5⟩⟩ : TBox)).length : Nat) : Int) > (0 : Int)))) ((true = true) ∧ (True)) (cond (x14 != (0 : Int)) (True) ((false = false) ∧ (True))))))) ∧ (lt ((bif (x15 != (0 : Int)) then true else (bif decide ((((stepsL (⟨m0, m1, m2, m3, m4, m5, m6, m7, m8, m9, m10, m11⟩ : TMod) (⟨⟨b0, b1, b2⟩, ⟨b3, b4, b5⟩⟩ : TBox)).length : Nat) : Int) > (((⟨⟨b0, b1, b2⟩, ⟨b3, b4, b5⟩⟩ : TBox)).count)) then true else (bif ((x14 == (0 : Int)) != (decide ((((stepsL (⟨m0, m1, m2, m3, m4, m5, m6, m7, m8, m9, m10, m11⟩ : TMod) (⟨⟨b0, b1, b2⟩, ⟨b3, b4, b5⟩⟩ : TBox)).length : Nat) : Int) > (0 : Int)))) then true else (bif (x14 != (0 : Int)) then (x14 != (12 : Int)) else false))))) fun x16 => cond x16 (post (.t (.c (.v (.bool false))))) (cond (x14 != (0 : Int)) (post (.t (.c (.v (.bool true))))) (∃ n, J 0 (n :: []) (mk_law05_TrackTwoWays_0 m0 m1 m2 m3 m4 m5 m6 m7 m8 m9 m10 m11 b0 b1 b2 b3 b4 b5 l K x10 x11 x12 false 0 x13)))))))))
def ann_law05_TrackTwoWays : Ann := ⟨fun r => lookA r [(5, ([[], [], [1], [], [3], [3, 4], [0, 1, 2, 3, 4, 5], [0, 1, 2, 3, 4, 5, 6], [0, 1, 2, 3, 4, 5, 6, 7], [0, 1, 2, 3, 4, 5, 6, 7], [0, 1, 2, 3, 4, 5, 6, 7], [], [0, 1, 2, 3, 4, 5, 6, 7, 8, 11], [0, 1, 2, 3, 4, 5, 6, 7, 8, 9, 11, 12], [0, 1, 2, 3, 4, 5, 6, 7, 8, 9, 10, 11, 12, 13]], [[65, 66, 7], [65, 66, 7], [65, 66, 7], [65, 66, 7], [65, 66, 7], [66, 7], [7], [7], [7], [7], [7], [65, 66], [], [], []])), (15, ([[], [], [], [1, 2], [1, 2, 3], [0, 1, 2, 3, 4], [0, 1, 2, 3, 4, 5]], [[116], [116], [116], [116], [116], [], []])), (17, ([[], [], [], [1, 2], [1, 2, 3], [], [5], [5, 6], [0, 1, 2, 3, 4, 5, 6, 7], [0, 1, 2, 3, 4, 5, 6, 7, 8], [0, 1, 2, 3, 4, 5, 6, 7, 8, 9], [0, 1, 2, 3, 4, 5, 6, 7, 8, 9], [0, 1, 2, 3, 4, 5, 6, 7, 8, 9, 10], [0, 1, 2, 3, 4, 5, 6, 7, 8, 9, 10, 11, 12]], [[126, 127], [126, 127], [126, 127], [126, 127], [126, 127], [126, 127], [126, 127], [127], [], [], [], [], [], []])), (18, ([[], [0], [0, 1], [0, 1, 2], [0, 1, 2], [0, 1, 2, 3, 4], [0, 1, 2, 3, 4, 5], [0, 1, 2, 3, 4, 5, 6], [0, 1, 2, 3, 4, 5, 6, 7], [0, 1, 2, 3, 4, 5, 6, 7], [0, 1, 2, 3, 4, 5, 6, 7, 8, 9], [0, 1, 2, 3, 4, 5, 6, 7, 8, 9, 10], [0, 1, 2, 3, 4, 5, 6, 7, 8, 9, 10, 11], [0, 1, 2, 3, 4, 5, 6, 7, 8, 9, 10, 11, 12], [0, 1, 2, 3, 4, 5, 6, 7, 8, 9, 10, 11, 12, 13], [0, 1, 2, 3, 4, 5, 6, 7, 8, 9, 10, 11, 12, 13, 14], [0, 1, 2, 3, 4, 5, 6, 7, 8, 9, 10, 11, 12, 13, 14, 15], [0, 1, 2, 3, 4, 5, 6, 7, 8, 9, 10, 11, 12, 13, 14, 15], [0, 1, 2, 3, 4, 5, 6, 7, 8, 9, 10, 11, 12, 13, 14, 15, 16, 17], [0, 1, 2, 3, 4, 5, 6, 7, 8, 9, 10, 11, 12, 13, 14, 15, 16, 17, 18], [0, 1, 2, 3, 4, 5, 6, 7, 8, 9, 10, 11, 12, 13, 14, 15], [0, 1, 2, 3, 4, 5, 6, 7, 8, 9, 10, 11, 12, 13, 14, 15, 16, 17, 18, 19, 20], [0, 1, 2, 3, 4, 5, 6, 7, 8, 9, 10, 11, 12, 13, 14, 15, 16, 17, 18, 19, 20, 21], [0, 1, 2, 3, 4, 5, 6, 7, 8, 9, 10, 11, 12, 13, 14, 15, 16, 17, 18, 19, 20, 21, 22]], [[], [], [], [], [], [], [], [], [], [], [], [], [], [], [], [], [], [], [], [], [], [], [], []])), (21, ([[], [], [1], [], [0, 1, 2, 3], [0, 1, 2, 3, 4], [0, 1, 2, 3, 4, 5], [0, 1, 2, 3, 4, 5], [0, 1, 2, 3, 4, 5, 6], [0, 1, 2, 3, 4, 5, 6, 7, 8]], [[163, 165], [163, 165], [165], [163, 165], [], [], [], [], [], []])), (22, ([[], [], [1], [], [3], [0, 1, 2, 3, 4], [0, 1, 2, 3, 4, 5], [0, 1, 2, 3, 4, 5, 6], [0, 1, 2, 3, 4, 5, 6], [0, 1, 2, 3, 4, 5, 6, 7], [0, 1, 2, 3, 4, 5, 6, 7, 8, 9]], [[171, 174], [171, 174], [174], [171, 174], [171, 174], [], [], [], [], [], []])), (25, ([[], [], [1], [], [], [3, 4], [0, 1, 2, 3, 4, 5], [0, 1, 2, 3, 4, 5, 6], [0, 1, 2, 3, 4, 5, 6, 7], [0, 1, 2, 3, 4, 5, 6, 7], [0, 1, 2, 3, 4, 5, 6, 7, 8], [0, 1, 2, 3, 4, 5, 6, 7, 8, 9, 10]], [[195, 199], [195, 199], [199], [195, 199], [195, 199], [195, 199], [], [], [], [], [], []])), (26, ([[], [], [1], [], [], [1, 2, 3, 4], [], [6], [1, 2, 3, 4, 5, 6, 7], [0, 1, 2, 3, 4, 5, 6, 7, 8], [0, 1, 2, 3, 4, 5, 6, 7, 8, 9], [0, 1, 2, 3, 4, 5, 6, 7, 8, 9, 10], [0, 1, 2, 3, 4, 5, 6, 7, 8, 9, 10], [0, 1, 2, 3, 4, 5, 6, 7, 8, 9, 10, 11], [0, 1, 2, 3, 4, 5, 6, 7, 8, 9, 10, 11, 12, 13]], [[205, 206, 208, 212], [205, 206, 212], [206, 212], [205, 212], [205, 206, 212], [9999, 206, 208], [205, 206, 212], [205, 206, 212], [212], [], [], [], [], [], []])), (29, ([[], [], [1], [], [0, 1, 2, 3], [0, 1, 2, 3, 4], [0, 1, 2, 3, 4, 5], [0, 1, 2, 3, 4, 5], [0, 1, 2, 3, 4, 5, 6], [0, 1, 2, 3, 4, 5, 6, 7, 8]], [[228, 230], [228, 230], [230], [228, 230], [], [], [], [], [], []])), (30, ([[], [], [1], [], [3], [0, 1, 2, 3, 4], [0, 1, 2, 3, 4, 5], [0, 1, 2, 3, 4, 5, 6], [0, 1, 2, 3, 4, 5, 6], [0, 1, 2, 3, 4, 5, 6, 7], [0, 1, 2, 3, 4, 5, 6, 7, 8, 9]], [[236, 239], [236, 239], [239], [236, 239], [236, 239], [], [], [], [], [], []])), (37, ([[], [0], [0, 1], [0, 1], [0, 1, 2, 3], [0, 1, 2, 3, 4], [0, 1], [0, 1, 2, 3, 4, 5, 6], [0, 1, 2, 3, 4, 5, 6, 7], [0, 1, 2, 3, 4, 5, 6, 7, 8]], [[], [], [], [], [], [], [], [], [], []])), (42, ([[], [0], [0, 1], [0, 1], [0, 1, 2, 3], [0, 1, 2, 3, 4], [0, 1], [0, 1], [0, 1, 6, 7], [0, 1, 6, 7, 8], [0, 1, 2, 3, 4, 5, 6, 7, 8, 9], [0, 1, 2, 3, 4, 5, 6, 7, 8, 9, 10], [0, 1, 2, 3, 4, 5, 6, 7, 8, 9, 10, 11]], [[], [], [], [], [], [], [], [], [], [], [], [], []]))], fun b => lookA b [(0, (none, some ⟨[2, 3, 4, 7, 8, 10, 12, 13], [3, 4, 7], []⟩)), (2, (none, some ⟨[7, 24, 26, 28, 29], [7], []⟩)), (4, (none, some ⟨[7, 24, 26, 28, 29, 30, 31], [7], []⟩))], fun _ => [], Ikv51, false, fun r => lookA r [(3, (5, [58])), (7, (3, [102])), (18, (3, [153])), (20, (2, [12])), (23, (3, [191])), (27, (3, [224])), (31, (3, [261])), (37, (2, [28])), (42, (2, [30]))], fun _ => none⟩
theorem ev_law05_TrackTwoWays (J : Inv) (m0 m1 m2 m3 m4 m5 m6 m7 m8 m9 m10 m11 : Int) (b0 b1 b2 b3 b4 b5 : Int) (l : List THit) (K : Int) (post : DV → Prop) : evFn Try.prog tab Ski98 ann_law05_TrackTwoWays J Try.f4 [.t (.a [.v (.int .i64 m0), .v (.int .i64 m1), .v (.int .i64 m2), .v (.int .i64 m3), .v (.int .i64 m4), .v (.int .i64 m5), .v (.int .i64 m6), .v (.int .i64 m7), .v (.int .i64 m8), .v (.int .i64 m9), .v (.int .i64 m10), .v (.int .i64 m11)]), .t (.a [.v (.int .i64 b0), .v (.int .i64 b1), .v (.int .i64 b2), .v (.int .i64 b3), .v (.int .i64 b4), .v (.int .i64 b5), .sl 5 l.length (hitsC l)]), .t (.c (.v (.int .i64 K)))] post = vc_law05_TrackTwoWays J m0 m1 m2 m3 m4 m5 m6 m7 m8 m9 m10 m11 b0 b1 b2 b3 b4 b5 l K post := by kernel_rfl
theorem fit_law05_TrackTwoWays : okFn ann_law05_TrackTwoWays Try.f4 = true := by kernel_rfl
def rd_law05_TrackTwoWays_0 (J : Inv) (m0 m1 m2 m3 m4 m5 m6 m7 m8 m9 m10 m11 : Int) (b0 b1 b2 b3 b4 b5 : Int) (l : List THit) (K : Int) (v0_0 : Int) (v0_1 : Int) (v0_2 : Int) (v0_3 : Bool) (v0_4 : Int) (v0_5 : Int) (nn0 : Nat) (post : DV → Prop) : Prop := cond (decide (v0_4 < (((stepsL (⟨m0, m1, m2, m3, m4, m5, m6, m7, m8, m9, m10, m11⟩ : TMod) (⟨⟨b0, b1, b2⟩, ⟨b3, b4, b5⟩⟩ : TBox)).length : Nat) : Int))) ((0 ≤ v0_4 ∧ v0_4 < (((stepsL (⟨m0, m1, m2, m3, m4, m5, m6, m7, m8, m9, m10, m11⟩ : TMod) (⟨⟨b0, b1, b2⟩, ⟨b3, b4, b5⟩⟩ : TBox)).length : Nat) : Int)) ∧ (lt (((⟨m0, m1, m2, m3, m4, m5, m6, m7, m8, m9, m10, m11⟩ : TMod)).stE (plAt (stepsL (⟨m0, m1, m2, m3, m4, m5, m6, m7, m8, m9, m10, m11⟩ : TMod) (⟨⟨b0, b1, b2⟩, ⟨b3, b4, b5⟩⟩ : TBox)) v0_4.toNat)) fun x1 => cond (x1 != (0 : Int)) (post (.t (.c (.v (.bool false))))) ((0 ≤ v0_4 ∧ v0_4 < (((stepsL (⟨m0, m1, m2, m3, m4, m5, m6, m7, m8, m9, m10, m11⟩ : TMod) (⟨⟨b0, b1, b2⟩, ⟨b3, b4, b5⟩⟩ : TBox)).length : Nat) : Int)) ∧ ((numsP 5 l.length (hitsC l) ∧ ((listC l.length mkHit (hitsC l))).length ≤ 1000000) ∧ (lt (((⟨m0, m1, m2, m3, m4, m5, m6, m7, m8, m9, m10, m11⟩ : TMod)).sV (plAt (stepsL (⟨m0, m1, m2, m3, m4, m5, m6, m7, m8, m9, m10, m11⟩ : TMod) (⟨⟨b0, b1, b2⟩, ⟨b3, b4, b5⟩⟩ : TBox)) v0_4.toNat) (listC ((listC l.length mkHit (hitsC l)).length) mkHit (hitsC (listC l.length mkHit (hitsC l))))) fun x2 => lt (((⟨m0, m1, m2, m3, m4, m5, m6, m7, m8, m9, m10, m11⟩ : TMod)).sE (plAt (stepsL (⟨m0, m1, m2, m3, m4, m5, m6, m7, m8, m9, m10, m11⟩ : TMod) (⟨⟨b0, b1, b2⟩, ⟨b3, b4, b5⟩⟩ : TBox)) v0_4.toNat) (listC ((listC l.length mkHit (hitsC l)).length) mkHit (hitsC (listC l.length mkHit (hitsC l))))) fun x3 => (numsP 5 ((listC l.length mkHit (hitsC l)).length) (hitsC (listC l.length mkHit (hitsC l)))) ∧ ((cond (x3 != (0 : Int)) ((true = true) ∧ ((true = true) ∧ (True))) (cond (decide (x2 < v0_5)) ((true = true) ∧ (True)) (cond (x2 == v0_5) (cond (!v0_3) ((0 ≤ v0_4 ∧ v0_4 < (((stepsL (⟨m0, m1, m2, m3, m4, m5, m6, m7, m8, m9, m10, m11⟩ : TMod) (⟨⟨b0, b1, b2⟩, ⟨b3, b4, b5⟩⟩ : TBox)).length : Nat) : Int)) ∧ (True)) ((false = false) ∧ (True))) ((false = false) ∧ ((false = false) ∧ (True)))))) ∧ (lt ((bif (x3 != (0 : Int)) then true else (bif decide (x2 < v0_5) then true else (bif (x2 == v0_5) then (bif (!v0_3) then (!(bif (((plAt (stepsL (⟨m0, m1, m2, m3, m4, m5, m6, m7, m8, m9, m10, m11⟩ : TMod) (⟨⟨b0, b1, b2⟩, ⟨b3, b4, b5⟩⟩ : TBox)) v0_4.toNat).x) == v0_0) then (bif (((plAt (stepsL (⟨m0, m1, m2, m3, m4, m5, m6, m7, m8, m9, m10, m11⟩ : TMod) (⟨⟨b0, b1, b2⟩, ⟨b3, b4, b5⟩⟩ : TBox)) v0_4.toNat).y) == v0_1) then (bif (((plAt (stepsL (⟨m0, m1, m2, m3, m4, m5, m6, m7, m8, m9, m10, m11⟩ : TMod) (⟨⟨b0, b1, b2⟩, ⟨b3, b4, b5⟩⟩ : TBox)) v0_4.toNat).z) == v0_2) then true else false) else false) else false)) else false) else false)))) fun x4 => cond x4 (post (.t (.c (.v (.bool false))))) ((cond v0_3 ((true = true) ∧ (True)) (True)) ∧ (lt ((bif v0_3 then true else (x2 == v0_5))) fun x5 => lt (IntKind.i64.wrap (v0_4 + (1 : Int))) fun x6 => J 0 (nn0 :: []) (mk_law05_TrackTwoWays_0 m0 m1 m2 m3 m4 m5 m6 m7 m8 m9 m10 m11 b0 b1 b2 b3 b4 b5 l K v0_0 v0_1 v0_2 x5 x6 v0_5)))))))))) ((numsP 5 l.length (hitsC l) ∧ ((listC l.length mkHit (hitsC l))).length ≤ 1000000) ∧ (lt (if firstNZ [firstNZ [((⟨m0, m1, m2, m3, m4, m5, m6, m7, m8, m9, m10, m11⟩ : TMod)).err, ((⟨⟨b0, b1, b2⟩, ⟨b3, b4, b5⟩⟩ : TBox)).err], hitsE (listC ((listC l.length mkHit (hitsC l)).length) mkHit (hitsC (listC l.length mkHit (hitsC l))))] = 0 then unl (covR (⟨m0, m1, m2, m3, m4, m5, m6, m7, m8, m9, m10, m11⟩ : TMod) (listC ((listC l.length mkHit (hitsC l)).length) mkHit (hitsC (listC l.length mkHit (hitsC l)))) v0_5 (⟨⟨b0, b1, b2⟩, ⟨b3, b4, b5⟩⟩ : TBox)).2 12 else firstNZ [firstNZ [((⟨m0, m1, m2, m3, m4, m5, m6, m7, m8, m9, m10, m11⟩ : TMod)).err, ((⟨⟨b0, b1, b2⟩, ⟨b3, b4, b5⟩⟩ : TBox)).err], hitsE (listC ((listC l.length mkHit (hitsC l)).length) mkHit (hitsC (listC l.length mkHit (hitsC l))))]) fun x7 => (numsP 5 ((listC l.length mkHit (hitsC l)).length) (hitsC (listC l.length mkHit (hitsC l)))) ∧ ((numsP 5 l.length (hitsC l) ∧ ((listC l.length mkHit (hitsC l))).length ≤ 1000000) ∧ (lt (IntKind.i64.wrap (v0_5 + (1 : Int))) fun x8 => lt (if firstNZ [firstNZ [((⟨m0, m1, m2, m3, m4, m5, m6, m7, m8, m9, m10, m11⟩ : TMod)).err, ((⟨⟨b0, b1, b2⟩, ⟨b3, b4, b5⟩⟩ : TBox)).err], hitsE (listC ((listC l.length mkHit (hitsC l)).length) mkHit (hitsC (listC l.length mkHit (hitsC l))))] = 0 then unl (covR (⟨m0, m1, m2, m3, m4, m5, m6, m7, m8, m9, m10, m11⟩ : TMod) (listC ((listC l.length mkHit (hitsC l)).length) mkHit (hitsC (listC l.length mkHit (hitsC l)))) x8 (⟨⟨b0, b1, b2⟩, ⟨b3, b4, b5⟩⟩ : TBox)).2 12 else firstNZ [firstNZ [((⟨m0, m1, m2, m3, m4, m5, m6, m7, m8, m9, m10, m11⟩ : TMod)).err, ((⟨⟨b0, b1, b2⟩, ⟨b3, b4, b5⟩⟩ : TBox)).err], hitsE (listC ((listC l.length mkHit (hitsC l)).length) mkHit (hitsC (listC l.length mkHit (hitsC l))))]) fun x9 => (numsP 5 ((listC l.length mkHit (hitsC l)).length) (hitsC (listC l.length mkHit (hitsC l)))) ∧ ((cond (!v0_3) ((true = true) ∧ ((true = true) ∧ ((true = true) ∧ (True)))) (cond (x7 != (0 : Int)) ((true = true) ∧ ((true = true) ∧ (True))) (cond (decide ((((if firstNZ [firstNZ [((⟨m0, m1, m2, m3, m4, m5, m6, m7, m8, m9, m10, m11⟩ : TMod)).err, ((⟨⟨b0, b1, b2⟩, ⟨b3, b4, b5⟩⟩ : TBox)).err], hitsE (listC ((listC l.length mkHit (hitsC l)).length) mkHit (hitsC (listC l.length mkHit (hitsC l))))] = 0 then (covR (⟨m0, m1, m2, m3, m4, m5, m6, m7, m8, m9, m10, m11⟩ : TMod) (listC ((listC l.length mkHit (hitsC l)).length) mkHit (hitsC (listC l.length mkHit (hitsC l)))) v0_5 (⟨⟨b0, b1, b2⟩, ⟨b3, b4, b5⟩⟩ : TBox)).1 else []).length : Nat) : Int) > (700 : Int))) ((true = true) ∧ (True)) (True)))) ∧ (lt ((bif (!v0_3) then true else (bif (x7 != (0 : Int)) then true else (bif decide ((((if firstNZ [firstNZ [((⟨m0, m1, m2, m3, m4, m5, m6, m7, m8, m9, m10, m11⟩ : TMod)).err, ((⟨⟨b0, b1, b2⟩, ⟨b3, b4, b5⟩⟩ : TBox)).err], hitsE (listC ((listC l.length mkHit (hitsC l)).length) mkHit (hitsC (listC l.length mkHit (hitsC l))))] = 0 then (covR (⟨m0, m1, m2, m3, m4, m5, m6, m7, m8, m9, m10, m11⟩ : TMod) (listC ((listC l.length mkHit (hitsC l)).length) mkHit (hitsC (listC l.length mkHit (hitsC l)))) v0_5 (⟨⟨b0, b1, b2⟩, ⟨b3, b4, b5⟩⟩ : TBox)).1 else []).length : Nat) : Int) > (700 : Int)) then true else (x9 != (12 : Int)))))) fun x10 => cond x10 (post (.t (.c (.v (.bool false))))) ((numsP 5 l.length (hitsC l) ∧ ((listC l.length mkHit (hitsC l))).length ≤ 1000000) ∧ (lt ((cvR (⟨m0, m1, m2, m3, m4, m5, m6, m7, m8, m9, m10, m11⟩ : TMod) (⟨⟨b0, b1, b2⟩, ⟨b3, b4, b5⟩⟩ : TBox) (listC ((listC l.length mkHit (hitsC l)).length) mkHit (hitsC (listC l.length mkHit (hitsC l)))) (listC ((if firstNZ [firstNZ [((⟨m0, m1, m2, m3, m4, m5, m6, m7, m8, m9, m10, m11⟩ : TMod)).err, ((⟨⟨b0, b1, b2⟩, ⟨b3, b4, b5⟩⟩ : TBox)).err], hitsE (listC ((listC l.length mkHit (hitsC l)).length) mkHit (hitsC (listC l.length mkHit (hitsC l))))] = 0 then (covR (⟨m0, m1, m2, m3, m4, m5, m6, m7, m8, m9, m10, m11⟩ : TMod) (listC ((listC l.length mkHit (hitsC l)).length) mkHit (hitsC (listC l.length mkHit (hitsC l)))) v0_5 (⟨⟨b0, b1, b2⟩, ⟨b3, b4, b5⟩⟩ : TBox)).1 else []).length) mkBx (bxsC (if firstNZ [firstNZ [((⟨m0, m1, m2, m3, m4, m5, m6, m7, m8, m9, m10, m11⟩ : TMod)).err, ((⟨⟨b0, b1, b2⟩, ⟨b3, b4, b5⟩⟩ : TBox)).err], hitsE (listC ((listC l.length mkHit (hitsC l)).length) mkHit (hitsC (listC l.length mkHit (hitsC l))))] = 0 then (covR (⟨m0, m1, m2, m3, m4, m5, m6, m7, m8, m9, m10, m11⟩ : TMod) (listC ((listC l.length mkHit (hitsC l)).length) mkHit (hitsC (listC l.length mkHit (hitsC l)))) v0_5 (⟨⟨b0, b1, b2⟩, ⟨b3, b4, b5⟩⟩ : TBox)).1 else []))) v0_5).1) fun x11 => lt ((cvR (⟨m0, m1, m2, m3, m4, m5, m6, m7, m8, m9, m10, m11⟩ : TMod) (⟨⟨b0, b1, b2⟩, ⟨b3, b4, b5⟩⟩ : TBox) (listC ((listC l.length mkHit (hitsC l)).length) mkHit (hitsC (listC l.length mkHit (hitsC l)))) (listC ((if firstNZ [firstNZ [((⟨m0, m1, m2, m3, m4, m5, m6, m7, m8, m9, m10, m11⟩ : TMod)).err, ((⟨⟨b0, b1, b2⟩, ⟨b3, b4, b5⟩⟩ : TBox)).err], hitsE (listC ((listC l.length mkHit (hitsC l)).length) mkHit (hitsC (listC l.length mkHit (hitsC l))))] = 0 then (covR (⟨m0, m1, m2, m3, m4, m5, m6, m7, m8, m9, m10, m11⟩ : TMod) (listC ((listC l.length mkHit (hitsC l)).length) mkHit (hitsC (listC l.length mkHit (hitsC l)))) v0_5 (⟨⟨b0, b1, b2⟩, ⟨b3, b4, b5⟩⟩ : TBox)).1 else []).length) mkBx (bxsC (if firstNZ [firstNZ [((⟨m0, m1, m2, m3, m4, m5, m6, m7, m8, m9, m10, m11⟩ : TMod)).err, ((⟨⟨b0, b1, b2⟩, ⟨b3, b4, b5⟩⟩ : TBox)).err], hitsE (listC ((listC l.length mkHit (hitsC l)).length) mkHit (hitsC (listC l.length mkHit (hitsC l))))] = 0 then (covR (⟨m0, m1, m2, m3, m4, m5, m6, m7, m8, m9, m10, m11⟩ : TMod) (listC ((listC l.length mkHit (hitsC l)).length) mkHit (hitsC (listC l.length mkHit (hitsC l)))) v0_5 (⟨⟨b0, b1, b2⟩, ⟨b3, b4, b5⟩⟩ : TBox)).1 else []))) v0_5).2) fun x12 => (numsP 5 ((listC l.length mkHit (hitsC l)).length) (hitsC (listC l.length mkHit (hitsC l))) ∧ numsP 6 ((if firstNZ [firstNZ [((⟨m0, m1, m2, m3, m4, m5, m6, m7, m8, m9, m10, m11⟩ : TMod)).err, ((⟨⟨b0, b1, b2⟩, ⟨b3, b4, b5⟩⟩ : TBox)).err], hitsE (listC ((listC l.length mkHit (hitsC l)).length) mkHit (hitsC (listC l.length mkHit (hitsC l))))] = 0 then (covR (⟨m0, m1, m2, m3, m4, m5, m6, m7, m8, m9, m10, m11⟩ : TMod) (listC ((listC l.length mkHit (hitsC l)).length) mkHit (hitsC (listC l.length mkHit (hitsC l)))) v0_5 (⟨⟨b0, b1, b2⟩, ⟨b3, b4, b5⟩⟩ : TBox)).1 else []).length) (bxsC (if firstNZ [firstNZ [((⟨m0, m1, m2, m3, m4, m5, m6, m7, m8, m9, m10, m11⟩ : TMod)).err, ((⟨⟨b0, b1, b2⟩, ⟨b3, b4, b5⟩⟩ : TBox)).err], hitsE (listC ((listC l.length mkHit (hitsC l)).length) mkHit (hitsC (listC l.length mkHit (hitsC l))))] = 0 then (covR (⟨m0, m1, m2, m3, m4, m5, m6, m7, m8, m9, m10, m11⟩ : TMod) (listC ((listC l.length mkHit (hitsC l)).length) mkHit (hitsC (listC l.length mkHit (hitsC l)))) v0_5 (⟨⟨b0, b1, b2⟩, ⟨b3, b4, b5⟩⟩ : TBox)).1 else []))) ∧ ((numsP 5 l.length (hitsC l) ∧ ((listC l.length mkHit (hitsC l))).length ≤ 1000000) ∧ ((roomP 48 (([] : List (List CV)).length + ((List.range ((if firstNZ [firstNZ [((⟨m0, m1, m2, m3, m4, m5, m6, m7, m8, m9, m10, m11⟩ : TMod)).err, ((⟨⟨b0, b1, b2⟩, ⟨b3, b4, b5⟩⟩ : TBox)).err], hitsE (listC ((listC l.length mkHit (hitsC l)).length) mkHit (hitsC (listC l.length mkHit (hitsC l))))] = 0 then (covR (⟨m0, m1, m2, m3, m4, m5, m6, m7, m8, m9, m10, m11⟩ : TMod) (listC ((listC l.length mkHit (hitsC l)).length) mkHit (hitsC (listC l.length mkHit (hitsC l)))) v0_5 (⟨⟨b0, b1, b2⟩, ⟨b3, b4, b5⟩⟩ : TBox)).1 else []).length)).map fun i => fwd ((bxsC (if firstNZ [firstNZ [((⟨m0, m1, m2, m3, m4, m5, m6, m7, m8, m9, m10, m11⟩ : TMod)).err, ((⟨⟨b0, b1, b2⟩, ⟨b3, b4, b5⟩⟩ : TBox)).err], hitsE (listC ((listC l.length mkHit (hitsC l)).length) mkHit (hitsC (listC l.length mkHit (hitsC l))))] = 0 then (covR (⟨m0, m1, m2, m3, m4, m5, m6, m7, m8, m9, m10, m11⟩ : TMod) (listC ((listC l.length mkHit (hitsC l)).length) mkHit (hitsC (listC l.length mkHit (hitsC l)))) v0_5 (⟨⟨b0, b1, b2⟩, ⟨b3, b4, b5⟩⟩ : TBox)).1 else [])) i) 0 6).length)) ∧ (lt (IntKind.i64.wrap (v0_5 + (1 : Int))) fun x13 => lt ((cvR (⟨m0, m1, m2, m3, m4, m5, m6, m7, m8, m9, m10, m11⟩ : TMod) (⟨⟨b0, b1, b2⟩, ⟨b3, b4, b5⟩⟩ : TBox) (listC ((listC l.length mkHit (hitsC l)).length) mkHit (hitsC (listC l.length mkHit (hitsC l)))) (listC ((([] : List (List CV)) ++ ((List.range ((if firstNZ [firstNZ [((⟨m0, m1, m2, m3, m4, m5, m6, m7, m8, m9, m10, m11⟩ : TMod)).err, ((⟨⟨b0, b1, b2⟩, ⟨b3, b4, b5⟩⟩ : TBox)).err], hitsE (listC ((listC l.length mkHit (hitsC l)).length) mkHit (hitsC (listC l.length mkHit (hitsC l))))] = 0 then (covR (⟨m0, m1, m2, m3, m4, m5, m6, m7, m8, m9, m10, m11⟩ : TMod) (listC ((listC l.length mkHit (hitsC l)).length) mkHit (hitsC (listC l.length mkHit (hitsC l)))) v0_5 (⟨⟨b0, b1, b2⟩, ⟨b3, b4, b5⟩⟩ : TBox)).1 else []).length)).map fun i => fwd ((bxsC (if firstNZ [firstNZ [((⟨m0, m1, m2, m3, m4, m5, m6, m7, m8, m9, m10, m11⟩ : TMod)).err, ((⟨⟨b0, b1, b2⟩, ⟨b3, b4, b5⟩⟩ : TBox)).err], hitsE (listC ((listC l.length mkHit (hitsC l)).length) mkHit (hitsC (listC l.length mkHit (hitsC l))))] = 0 then (covR (⟨m0, m1, m2, m3, m4, m5, m6, m7, m8, m9, m10, m11⟩ : TMod) (listC ((listC l.length mkHit (hitsC l)).length) mkHit (hitsC (listC l.length mkHit (hitsC l)))) v0_5 (⟨⟨b0, b1, b2⟩, ⟨b3, b4, b5⟩⟩ : TBox)).1 else [])) i) 0 6)).length) mkBx (genC (([] : List (List CV)) ++ ((List.range ((if firstNZ [firstNZ [((⟨m0, m1, m2, m3, m4, m5, m6, m7, m8, m9, m10, m11⟩ : TMod)).err, ((⟨⟨b0, b1, b2⟩, ⟨b3, b4, b5⟩⟩ : TBox)).err], hitsE (listC ((listC l.length mkHit (hitsC l)).length) mkHit (hitsC (listC l.length mkHit (hitsC l))))] = 0 then (covR (⟨m0, m1, m2, m3, m4, m5, m6, m7, m8, m9, m10, m11⟩ : TMod) (listC ((listC l.length mkHit (hitsC l)).length) mkHit (hitsC (listC l.length mkHit (hitsC l)))) v0_5 (⟨⟨b0, b1, b2⟩, ⟨b3, b4, b5⟩⟩ : TBox)).1 else []).length)).map fun i => fwd ((bxsC (if firstNZ [firstNZ [((⟨m0, m1, m2, m3, m4, m5, m6, m7, m8, m9, m10, m11⟩ : TMod)).err, ((⟨⟨b0, b1, b2⟩, ⟨b3, b4, b5⟩⟩ : TBox)).err], hitsE (listC ((listC l.length mkHit (hitsC l)).length) mkHit (hitsC (listC l.length mkHit (hitsC l))))] = 0 then (covR (⟨m0, m1, m2, m3, m4, m5, m6, m7, m8, m9, m10, m11⟩ : TMod) (listC ((listC l.length mkHit (hitsC l)).length) mkHit (hitsC (listC l.length mkHit (hitsC l)))) v0_5 (⟨⟨b0, b1, b2⟩, ⟨b3, b4, b5⟩⟩ : TBox)).1 else [])) i) 0 6)))) x13).1) fun x14 => lt ((cvR (⟨m0, m1, m2, m3, m4, m5, m6, m7, m8, m9, m10, m11⟩ : TMod) (⟨⟨b0, b1, b2⟩, ⟨b3, b4, b5⟩⟩ : TBox) (listC ((listC l.length mkHit (hitsC l)).length) mkHit (hitsC (listC l.length mkHit (hitsC l)))) (listC ((([] : List (List CV)) ++ ((List.range ((if firstNZ [firstNZ [((⟨m0, m1, m2, m3, m4, m5, m6, m7, m8, m9, m10, m11⟩ : TMod)).err, ((⟨⟨b0, b1, b2⟩, ⟨b3, b4, b5⟩⟩ : TBox)).err], hitsE (listC ((listC l.length mkHit (hitsC l)).length) mkHit (hitsC (listC l.length mkHit (hitsC l))))] = 0 then (covR (⟨m0, m1, m2, m3, m4, m5, m6, m7, m8, m9, m10, m11⟩ : TMod) (listC ((listC l.length mkHit (hitsC l)).length) mkHit (hitsC (listC l.length mkHit (hitsC l)))) v0_5 (⟨⟨b0, b1, b2⟩, ⟨b3, b4, b5⟩⟩ : TBox)).1 else []).length)).map fun i => fwd ((bxsC (if firstNZ [firstNZ [((⟨m0, m1, m2, m3, m4, m5, m6, m7, m8, m9, m10, m11⟩ : TMod)).err, ((⟨⟨b0, b1, b2⟩, ⟨b3, b4, b5⟩⟩ : TBox)).err], hitsE (listC ((listC l.length mkHit (hitsC l)).length) mkHit (hitsC (listC l.length mkHit (hitsC l))))] = 0 then (covR (⟨m0, m1, m2, m3, m4, m5, m6, m7, m8, m9, m10, m11⟩ : TMod) (listC ((listC l.length mkHit (hitsC l)).length) mkHit (hitsC (listC l.length mkHit (hitsC l)))) v0_5 (⟨⟨b0, b1, b2⟩, ⟨b3, b4, b5⟩⟩ : TBox)).1 else [])) i) 0 6)).length) mkBx (genC (([] : List (List CV)) ++ ((List.range ((if firstNZ [firstNZ [((⟨m0, m1, m2, m3, m4, m5, m6, m7, m8, m9, m10, m11⟩ : TMod)).err, ((⟨⟨b0, b1, b2⟩, ⟨b3, b4, b5⟩⟩ : TBox)).err], hitsE (listC ((listC l.length mkHit (hitsC l)).length) mkHit (hitsC (listC l.length mkHit (hitsC l))))] = 0 then (covR (⟨m0, m1, m2, m3, m4, m5, m6, m7, m8, m9, m10, m11⟩ : TMod) (listC ((listC l.length mkHit (hitsC l)).length) mkHit (hitsC (listC l.length mkHit (hitsC l)))) v0_5 (⟨⟨b0, b1, b2⟩, ⟨b3, b4, b5⟩⟩ : TBox)).1 else []).length)).map fun i => fwd ((bxsC (if firstNZ [firstNZ [((⟨m0, m1, m2, m3, m4, m5, m6, m7, m8, m9, m10, m11⟩ : TMod)).err, ((⟨⟨b0, b1, b2⟩, ⟨b3, b4, b5⟩⟩ : TBox)).err], hitsE (listC ((listC l.length mkHit (hitsC l)).length) mkHit (hitsC (listC l.length mkHit (hitsC l))))] = 0 then (covR (⟨m0, m1, m2, m3, m4, m5, m6, m7, m8, m9, m10, m11⟩ : TMod) (listC ((listC l.length mkHit (hitsC l)).length) mkHit (hitsC (listC l.length mkHit (hitsC l)))) v0_5 (⟨⟨b0, b1, b2⟩, ⟨b3, b4, b5⟩⟩ : TBox)).1 else [])) i) 0 6)))) x13).2) fun x15 => (numsP 5 ((listC l.length mkHit (hitsC l)).length) (hitsC (listC l.length mkHit (hitsC l))) ∧ numsP 6 ((([] : List (List CV)) ++ ((List.range ((if firstNZ [firstNZ [((⟨m0, m1, m2, m3, m4, m5, m6, m7, m8, m9, m10, m11⟩ : TMod)).err, ((⟨⟨b0, b1, b2⟩, ⟨b3, b4, b5⟩⟩ : TBox)).err], hitsE (listC ((listC l.length mkHit (hitsC l)).length) mkHit (hitsC (listC l.length mkHit (hitsC l))))] = 0 then (covR (⟨m0, m1, m2, m3, m4, m5, m6, m7, m8, m9, m10, m11⟩ : TMod) (listC ((listC l.length mkHit (hitsC l)).length) mkHit (hitsC (listC l.length mkHit (hitsC l)))) v0_5 (⟨⟨b0, b1, b2⟩, ⟨b3, b4, b5⟩⟩ : TBox)).1 else []).length)).map fun i => fwd ((bxsC (if firstNZ [firstNZ [((⟨m0, m1, m2, m3, m4, m5, m6, m7, m8, m9, m10, m11⟩ : TMod)).err, ((⟨⟨b0, b1, b2⟩, ⟨b3, b4, b5⟩⟩ : TBox)).err], hitsE (listC ((listC l.length mkHit (hitsC l)).length) mkHit (hitsC (listC l.length mkHit (hitsC l))))] = 0 then (covR (⟨m0, m1, m2, m3, m4, m5, m6, m7, m8, m9, m10, m11⟩ : TMod) (listC ((listC l.length mkHit (hitsC l)).length) mkHit (hitsC (listC l.length mkHit (hitsC l)))) v0_5 (⟨⟨b0, b1, b2⟩, ⟨b3, b4, b5⟩⟩ : TBox)).1 else [])) i) 0 6)).length) (genC (([] : List (List CV)) ++ ((List.range ((if firstNZ [firstNZ [((⟨m0, m1, m2, m3, m4, m5, m6, m7, m8, m9, m10, m11⟩ : TMod)).err, ((⟨⟨b0, b1, b2⟩, ⟨b3, b4, b5⟩⟩ : TBox)).err], hitsE (listC ((listC l.length mkHit (hitsC l)).length) mkHit (hitsC (listC l.length mkHit (hitsC l))))] = 0 then (covR (⟨m0, m1, m2, m3, m4, m5, m6, m7, m8, m9, m10, m11⟩ : TMod) (listC ((listC l.length mkHit (hitsC l)).length) mkHit (hitsC (listC l.length mkHit (hitsC l)))) v0_5 (⟨⟨b0, b1, b2⟩, ⟨b3, b4, b5⟩⟩ : TBox)).1 else []).length)).map fun i => fwd ((bxsC (if firstNZ [firstNZ [((⟨m0, m1, m2, m3, m4, m5, m6, m7, m8, m9, m10, m11⟩ : TMod)).err, ((⟨⟨b0, b1, b2⟩, ⟨b3, b4, b5⟩⟩ : TBox)).err], hitsE (listC ((listC l.length mkHit (hitsC l)).length) mkHit (hitsC (listC l.length mkHit (hitsC l))))] = 0 then (covR (⟨m0, m1, m2, m3, m4, m5, m6, m7, m8, m9, m10, m11⟩ : TMod) (listC ((listC l.length mkHit (hitsC l)).length) mkHit (hitsC (listC l.length mkHit (hitsC l)))) v0_5 (⟨⟨b0, b1, b2⟩, ⟨b3, b4, b5⟩⟩ : TBox)).1 else [])) i) 0 6)))) ∧ ((cond (x12 != (0 : Int)) ((true = true) ∧ ((true = true) ∧ (True))) (cond (x11 != (0 : Int)) ((true = true) ∧ (True)) (True))) ∧ (lt ((bif (x12 != (0 : Int)) then true else (bif (x11 != (0 : Int)) then true else (x15 != (19 : Int))))) fun x16 => cond x16 (post (.t (.c (.v (.bool false))))) ((numsP 5 l.length (hitsC l) ∧ ((listC l.length mkHit (hitsC l))).length ≤ 1000000) ∧ (lt (cnE (⟨m0, m1, m2, m3, m4, m5, m6, m7, m8, m9, m10, m11⟩ : TMod) (⟨⟨b0, b1, b2⟩, ⟨b3, b4, b5⟩⟩ : TBox) (listC ((listC l.length mkHit (hitsC l)).length) mkHit (hitsC (listC l.length mkHit (hitsC l)))) K) fun x17 => (numsP 5 ((listC l.length mkHit (hitsC l)).length) (hitsC (listC l.length mkHit (hitsC l)))) ∧ ((numsP 5 l.length (hitsC l) ∧ ((listC l.length mkHit (hitsC l))).length ≤ 1000000) ∧ (lt (IntKind.i64.wrap (K + (1 : Int))) fun x18 => lt (cnE (⟨m0, m1, m2, m3, m4, m5, m6, m7, m8, m9, m10, m11⟩ : TMod) (⟨⟨b0, b1, b2⟩, ⟨b3, b4, b5⟩⟩ : TBox) (listC ((listC l.length mkHit (hitsC l)).length) mkHit (hitsC (listC l.length mkHit (hitsC l)))) x18) fun x19 => (numsP 5 ((listC l.length mkHit (hitsC l)).length) (hitsC (listC l.length mkHit (hitsC l)))) ∧ ((cond (x17 != (0 : Int)) ((true = true) ∧ ((true = true) ∧ ((true = true) ∧ (True)))) (cond (x19 != (0 : Int)) ((true = true) ∧ ((true = true) ∧ (True))) (cond (decide ((((cnL (⟨m0, m1, m2, m3, m4, m5, m6, m7, m8, m9, m10, m11⟩ : TMod) (⟨⟨b0, b1, b2⟩, ⟨b3, b4, b5⟩⟩ : TBox) (listC ((listC l.length mkHit (hitsC l)).length) mkHit (hitsC (listC l.length mkHit (hitsC l)))) K).length : Nat) : Int) > (((stepsL (⟨m0, m1, m2, m3, m4, m5, m6, m7, m8, m9, m10, m11⟩ : TMod) (⟨⟨b0, b1, b2⟩, ⟨b3, b4, b5⟩⟩ : TBox)).length : Nat) : Int))) ((true = true) ∧ (True)) (True)))) ∧ (lt ((bif (x17 != (0 : Int)) then true else (bif (x19 != (0 : Int)) then true else (bif decide ((((cnL (⟨m0, m1, m2, m3, m4, m5, m6, m7, m8, m9, m10, m11⟩ : TMod) (⟨⟨b0, b1, b2⟩, ⟨b3, b4, b5⟩⟩ : TBox) (listC ((listC l.length mkHit (hitsC l)).length) mkHit (hitsC (listC l.length mkHit (hitsC l)))) K).length : Nat) : Int) > (((stepsL (⟨m0, m1, m2, m3, m4, m5, m6, m7, m8, m9, m10, m11⟩ : TMod) (⟨⟨b0, b1, b2⟩, ⟨b3, b4, b5⟩⟩ : TBox)).length : Nat) : Int)) then true else decide ((((cnL (⟨m0, m1, m2, m3, m4, m5, m6, m7, m8, m9, m10, m11⟩ : TMod) (⟨⟨b0, b1, b2⟩, ⟨b3, b4, b5⟩⟩ : TBox) (listC ((listC l.length mkHit (hitsC l)).length) mkHit (hitsC (listC l.length mkHit (hitsC l)))) x18).length : Nat) : Int) > (((stepsL (⟨m0, m1, m2, m3, m4, m5, m6, m7, m8, m9, m10, m11⟩ : TMod) (⟨⟨b0, b1, b2⟩, ⟨b3, b4, b5⟩⟩ : TBox)).length : Nat) : Int)))))) fun x20 => cond x20 (post (.t (.c (.v (.bool false))))) (∃ n, J 2 (n :: []) (mk_law05_TrackTwoWays_2 m0 m1 m2 m3 m4 m5 m6 m7 m8 m9 m10 m11 b0 b1 b2 b3 b4 b5 l K v0_0 v0_1 v0_2 (cnL (⟨m0, m1, m2, m3, m4, m5, m6, m7, m8, m9, m10, m11⟩ : TMod) (⟨⟨b0, b1, b2⟩, ⟨b3, b4, b5⟩⟩ : TBox) (listC ((listC l.length mkHit (hitsC l)).length) mkHit (hitsC (listC l.length mkHit (hitsC l)))) x18) false 0)))))))))))))))))))))
theorem er_law05_TrackTwoWays_0 (J : Inv) (m0 m1 m2 m3 m4 m5 m6 m7 m8 m9 m10 m11 : Int) (b0 b1 b2 b3 b4 b5 : Int) (l : List THit) (K : Int) (v0_0 : Int) (v0_1 : Int) (v0_2 : Int) (v0_3 : Bool) (v0_4 : Int) (v0_5 : Int) (nn0 : Nat) (post : DV → Prop) : round Try.prog tab Ski98 ann_law05_TrackTwoWays J Try.f4 post 0 (nn0 :: []) (mk_law05_TrackTwoWays_0 m0 m1 m2 m3 m4 m5 m6 m7 m8 m9 m10 m11 b0 b1 b2 b3 b4 b5 l K v0_0 v0_1 v0_2 v0_3 v0_4 v0_5) = rd_law05_TrackTwoWays_0 J m0 m1 m2 m3 m4 m5 m6 m7 m8 m9 m10 m11 b0 b1 b2 b3 b4 b5 l K v0_0 v0_1 v0_2 v0_3 v0_4 v0_5 nn0 post := by kernel_rfl
def rd_law05_TrackTwoWays_2 (J : Inv) (m0 m1 m2 m3 m4 m5 m6 m7 m8 m9 m10 m11 : Int) (b0 b1 b2 b3 b4 b5 : Int) (l : List THit) (K : Int) (v2_0 : Int) (v2_1 : Int) (v2_2 : Int) (v2_3 : (List V3)) (v2_4 : Bool) (v2_5 : Int) (nn2 : Nat) (post : DV → Prop) : Prop := cond (decide (v2_5 < (((cnL (⟨m0, m1, m2, m3, m4, m5, m6, m7, m8, m9, m10, m11⟩ : TMod) (⟨⟨b0, b1, b2⟩, ⟨b3, b4, b5⟩⟩ : TBox) (listC ((listC l.length mkHit (hitsC l)).length) mkHit (hitsC (listC l.length mkHit (hitsC l)))) K).length : Nat) : Int))) ((cond v2_4 ((true = true) ∧ (True)) ((0 ≤ v2_5 ∧ v2_5 < (((cnL (⟨m0, m1, m2, m3, m4, m5, m6, m7, m8, m9, m10, m11⟩ : TMod) (⟨⟨b0, b1, b2⟩, ⟨b3, b4, b5⟩⟩ : TBox) (listC ((listC l.length mkHit (hitsC l)).length) mkHit (hitsC (listC l.length mkHit (hitsC l)))) K).length : Nat) : Int)) ∧ (True))) ∧ (lt ((bif v2_4 then true else (bif (((plAt (cnL (⟨m0, m1, m2, m3, m4, m5, m6, m7, m8, m9, m10, m11⟩ : TMod) (⟨⟨b0, b1, b2⟩, ⟨b3, b4, b5⟩⟩ : TBox) (listC ((listC l.length mkHit (hitsC l)).length) mkHit (hitsC (listC l.length mkHit (hitsC l)))) K) v2_5.toNat).x) == v2_0) then (bif (((plAt (cnL (⟨m0, m1, m2, m3, m4, m5, m6, m7, m8, m9, m10, m11⟩ : TMod) (⟨⟨b0, b1, b2⟩, ⟨b3, b4, b5⟩⟩ : TBox) (listC ((listC l.length mkHit (hitsC l)).length) mkHit (hitsC (listC l.length mkHit (hitsC l)))) K) v2_5.toNat).y) == v2_1) then (bif (((plAt (cnL (⟨m0, m1, m2, m3, m4, m5, m6, m7, m8, m9, m10, m11⟩ : TMod) (⟨⟨b0, b1, b2⟩, ⟨b3, b4, b5⟩⟩ : TBox) (listC ((listC l.length mkHit (hitsC l)).length) mkHit (hitsC (listC l.length mkHit (hitsC l)))) K) v2_5.toNat).z) == v2_2) then true else false) else false) else false))) fun x1 => ∃ n, J 4 (n :: nn2 :: []) (mk_law05_TrackTwoWays_4 m0 m1 m2 m3 m4 m5 m6 m7 m8 m9 m10 m11 b0 b1 b2 b3 b4 b5 l K v2_0 v2_1 v2_2 v2_3 x1 v2_5 false 0))) (post (.t (.c (.v (.bool v2_4)))))
theorem er_law05_TrackTwoWays_2 (J : Inv) (m0 m1 m2 m3 m4 m5 m6 m7 m8 m9 m10 m11 : Int) (b0 b1 b2 b3 b4 b5 : Int) (l : List THit) (K : Int) (v2_0 : Int) (v2_1 : Int) (v2_2 : Int) (v2_3 : (List V3)) (v2_4 : Bool) (v2_5 : Int) (nn2 : Nat) (post : DV → Prop) : round Try.prog tab Ski98 ann_law05_TrackTwoWays J Try.f4 post 1 (nn2 :: []) (mk_law05_TrackTwoWays_2 m0 m1 m2 m3 m4 m5 m6 m7 m8 m9 m10 m11 b0 b1 b2 b3 b4 b5 l K v2_0 v2_1 v2_2 v2_3 v2_4 v2_5) = rd_law05_TrackTwoWays_2 J m0 m1 m2 m3 m4 m5 m6 m7 m8 m9 m10 m11 b0 b1 b2 b3 b4 b5 l K v2_0 v2_1 v2_2 v2_3 v2_4 v2_5 nn2 post := by kernel_rfl
def rd_law05_TrackTwoWays_4 (J : Inv) (m0 m1 m2 m3 m4 m5 m6 m7 m8 m9 m10 m11 : Int) (b0 b1 b2 b3 b4 b5 : Int) (l : List THit) (K : Int) (v4_0 : Int) (v4_1 : Int) (v4_2 : Int) (v4_3 : (List V3)) (v4_4 : Bool) (v4_5 : Int) (v4_6 : Bool) (v4_7 : Int) (nn4 nn2 : Nat) (post : DV → Prop) : Prop := cond (decide (v4_7 < ((v4_3.length : Nat) : Int))) ((cond v4_6 ((true = true) ∧ (True)) ((0 ≤ v4_5 ∧ v4_5 < (((cnL (⟨m0, m1, m2, m3, m4, m5, m6, m7, m8, m9, m10, m11⟩ : TMod) (⟨⟨b0, b1, b2⟩, ⟨b3, b4, b5⟩⟩ : TBox) (listC ((listC l.length mkHit (hitsC l)).length) mkHit (hitsC (listC l.length mkHit (hitsC l)))) K).length : Nat) : Int)) ∧ ((0 ≤ v4_7 ∧ v4_7 < ((v4_3.length : Nat) : Int)) ∧ (True)))) ∧ (lt ((bif v4_6 then true else (bif (((plAt (cnL (⟨m0, m1, m2, m3, m4, m5, m6, m7, m8, m9, m10, m11⟩ : TMod) (⟨⟨b0, b1, b2⟩, ⟨b3, b4, b5⟩⟩ : TBox) (listC ((listC l.length mkHit (hitsC l)).length) mkHit (hitsC (listC l.length mkHit (hitsC l)))) K) v4_5.toNat).x) == ((plAt v4_3 v4_7.toNat).x)) then (bif (((plAt (cnL (⟨m0, m1, m2, m3, m4, m5, m6, m7, m8, m9, m10, m11⟩ : TMod) (⟨⟨b0, b1, b2⟩, ⟨b3, b4, b5⟩⟩ : TBox) (listC ((listC l.length mkHit (hitsC l)).length) mkHit (hitsC (listC l.length mkHit (hitsC l)))) K) v4_5.toNat).y) == ((plAt v4_3 v4_7.toNat).y)) then (bif (((plAt (cnL (⟨m0, m1, m2, m3, m4, m5, m6, m7, m8, m9, m10, m11⟩ : TMod) (⟨⟨b0, b1, b2⟩, ⟨b3, b4, b5⟩⟩ : TBox) (listC ((listC l.length mkHit (hitsC l)).length) mkHit (hitsC (listC l.length mkHit (hitsC l)))) K) v4_5.toNat).z) == ((plAt v4_3 v4_7.toNat).z)) then true else false) else false) else false))) fun x1 => lt (IntKind.i64.wrap (v4_7 + (1 : Int))) fun x2 => J 4 (nn4 :: nn2 :: []) (mk_law05_TrackTwoWays_4 m0 m1 m2 m3 m4 m5 m6 m7 m8 m9 m10 m11 b0 b1 b2 b3 b4 b5 l K v4_0 v4_1 v4_2 v4_3 v4_4 v4_5 x1 x2))) (cond (!v4_6) (post (.t (.c (.v (.bool false))))) (lt (IntKind.i64.wrap (v4_5 + (1 : Int))) fun x3 => J 2 (nn2 :: []) (mk_law05_TrackTwoWays_2 m0 m1 m2 m3 m4 m5 m6 m7 m8 m9 m10 m11 b0 b1 b2 b3 b4 b5 l K v4_0 v4_1 v4_2 v4_3 v4_4 x3)))
theorem er_law05_TrackTwoWays_4 (J : Inv) (m0 m1 m2 m3 m4 m5 m6 m7 m8 m9 m10 m11 : Int) (b0 b1 b2 b3 b4 b5 : Int) (l : List THit) (K : Int) (v4_0 : Int) (v4_1 : Int) (v4_2 : Int) (v4_3 : (List V3)) (v4_4 : Bool) (v4_5 : Int) (v4_6 : Bool) (v4_7 : Int) (nn4 nn2 : Nat) (post : DV → Prop) : round Try.prog tab Ski98 ann_law05_TrackTwoWays J Try.f4 post 2 (nn4 :: nn2 :: []) (mk_law05_TrackTwoWays_4 m0 m1 m2 m3 m4 m5 m6 m7 m8 m9 m10 m11 b0 b1 b2 b3 b4 b5 l K v4_0 v4_1 v4_2 v4_3 v4_4 v4_5 v4_6 v4_7) = rd_law05_TrackTwoWays_4 J m0 m1 m2 m3 m4 m5 m6 m7 m8 m9 m10 m11 b0 b1 b2 b3 b4 b5 l K v4_0 v4_1 v4_2 v4_3 v4_4 v4_5 v4_6 v4_7 nn4 nn2 post := by kernel_rfl
theorem lp_law05_TrackTwoWays (J : Inv) (post : DV → Prop) : AllG J (loopsFn Try.prog tab Ski98 ann_law05_TrackTwoWays J Try.f4 post) = (((∀ F s, ¬ J 0 (0 :: F) s) ∧ ∀ n F s, J 0 ((n + 1) :: F) s → round Try.prog tab Ski98 ann_law05_TrackTwoWays J Try.f4 post 0 (n :: F) s) ∧ ((∀ F s, ¬ J 2 (0 :: F) s) ∧ ∀ n F s, J 2 ((n + 1) :: F) s → round Try.prog tab Ski98 ann_law05_TrackTwoWays J Try.f4 post 1 (n :: F) s) ∧ ((∀ F s, ¬ J 4 (0 :: F) s) ∧ ∀ n F s, J 4 ((n + 1) :: F) s → round Try.prog tab Ski98 ann_law05_TrackTwoWays J Try.f4 post 2 (n :: F) s) ∧ True) := by kernel_rfl
def J_law05_TrackTwoWays (m0 m1 m2 m3 m4 m5 m6 m7 m8 m9 m10 m11 : Int) (b0 b1 b2 b3 b4 b5 : Int) (l : List THit) (K : Int) : Inv := fun b F s => match b, F with
 | 0, [nn0] => ∃ (v0_0 : Int) (v0_1 : Int) (v0_2 : Int) (v0_3 : Bool) (v0_4 : Int) (v0_5 : Int), s = mk_law05_TrackTwoWays_0 m0 m1 m2 m3 m4 m5 m6 m7 m8 m9 m10 m11 b0 b1 b2 b3 b4 b5 l K v0_0 v0_1 v0_2 v0_3 v0_4 v0_5 ∧ (TW (⟨m0, m1, m2, m3, m4, m5, m6, m7, m8, m9, m10, m11⟩ : TMod) (⟨⟨b0, b1, b2⟩, ⟨b3, b4, b5⟩⟩ : TBox) l K ∧ v0_0 = (bestV (⟨m0, m1, m2, m3, m4, m5, m6, m7, m8, m9, m10, m11⟩ : TMod) (⟨⟨b0, b1, b2⟩, ⟨b3, b4, b5⟩⟩ : TBox) l).x ∧ v0_1 = (bestV (⟨m0, m1, m2, m3, m4, m5, m6, m7, m8, m9, m10, m11⟩ : TMod) (⟨⟨b0, b1, b2⟩, ⟨b3, b4, b5⟩⟩ : TBox) l).y ∧ v0_2 = (bestV (⟨m0, m1, m2, m3, m4, m5, m6, m7, m8, m9, m10, m11⟩ : TMod) (⟨⟨b0, b1, b2⟩, ⟨b3, b4, b5⟩⟩ : TBox) l).z ∧ v0_5 = bestS (⟨m0, m1, m2, m3, m4, m5, m6, m7, m8, m9, m10, m11⟩ : TMod) (⟨⟨b0, b1, b2⟩, ⟨b3, b4, b5⟩⟩ : TBox) l ∧ 0 ≤ v0_4 ∧ v0_4 ≤ (((⟨m0, m1, m2, m3, m4, m5, m6, m7, m8, m9, m10, m11⟩ : TMod)).steps (⟨⟨b0, b1, b2⟩, ⟨b3, b4, b5⟩⟩ : TBox)).length ∧ (nn0 : Int) + v0_4 = (((⟨m0, m1, m2, m3, m4, m5, m6, m7, m8, m9, m10, m11⟩ : TMod)).steps (⟨⟨b0, b1, b2⟩, ⟨b3, b4, b5⟩⟩ : TBox)).length + 1 ∧ v0_3 = ((((⟨m0, m1, m2, m3, m4, m5, m6, m7, m8, m9, m10, m11⟩ : TMod)).steps (⟨⟨b0, b1, b2⟩, ⟨b3, b4, b5⟩⟩ : TBox)).take v0_4.toNat).any (fun s => ((⟨m0, m1, m2, m3, m4, m5, m6, m7, m8, m9, m10, m11⟩ : TMod)).score s l == bestS (⟨m0, m1, m2, m3, m4, m5, m6, m7, m8, m9, m10, m11⟩ : TMod) (⟨⟨b0, b1, b2⟩, ⟨b3, b4, b5⟩⟩ : TBox) l))
 | 2, [nn2] => ∃ (v2_0 : Int) (v2_1 : Int) (v2_2 : Int) (v2_3 : (List V3)) (v2_4 : Bool) (v2_5 : Int), s = mk_law05_TrackTwoWays_2 m0 m1 m2 m3 m4 m5 m6 m7 m8 m9 m10 m11 b0 b1 b2 b3 b4 b5 l K v2_0 v2_1 v2_2 v2_3 v2_4 v2_5 ∧ (TW (⟨m0, m1, m2, m3, m4, m5, m6, m7, m8, m9, m10, m11⟩ : TMod) (⟨⟨b0, b1, b2⟩, ⟨b3, b4, b5⟩⟩ : TBox) l K ∧ v2_0 = (bestV (⟨m0, m1, m2, m3, m4, m5, m6, m7, m8, m9, m10, m11⟩ : TMod) (⟨⟨b0, b1, b2⟩, ⟨b3, b4, b5⟩⟩ : TBox) l).x ∧ v2_1 = (bestV (⟨m0, m1, m2, m3, m4, m5, m6, m7, m8, m9, m10, m11⟩ : TMod) (⟨⟨b0, b1, b2⟩, ⟨b3, b4, b5⟩⟩ : TBox) l).y ∧ v2_2 = (bestV (⟨m0, m1, m2, m3, m4, m5, m6, m7, m8, m9, m10, m11⟩ : TMod) (⟨⟨b0, b1, b2⟩, ⟨b3, b4, b5⟩⟩ : TBox) l).z ∧ v2_3 = coL (⟨m0, m1, m2, m3, m4, m5, m6, m7, m8, m9, m10, m11⟩ : TMod) (⟨⟨b0, b1, b2⟩, ⟨b3, b4, b5⟩⟩ : TBox) l (K + 1) ∧ 0 ≤ v2_5 ∧ v2_5 ≤ (coL (⟨m0, m1, m2, m3, m4, m5, m6, m7, m8, m9, m10, m11⟩ : TMod) (⟨⟨b0, b1, b2⟩, ⟨b3, b4, b5⟩⟩ : TBox) l K).length ∧ (nn2 : Int) + v2_5 = (coL (⟨m0, m1, m2, m3, m4, m5, m6, m7, m8, m9, m10, m11⟩ : TMod) (⟨⟨b0, b1, b2⟩, ⟨b3, b4, b5⟩⟩ : TBox) l K).length + 1 ∧ v2_4 = ((coL (⟨m0, m1, m2, m3, m4, m5, m6, m7, m8, m9, m10, m11⟩ : TMod) (⟨⟨b0, b1, b2⟩, ⟨b3, b4, b5⟩⟩ : TBox) l K).take v2_5.toNat).any (fun s => decide (s = bestV (⟨m0, m1, m2, m3, m4, m5, m6, m7, m8, m9, m10, m11⟩ : TMod) (⟨⟨b0, b1, b2⟩, ⟨b3, b4, b5⟩⟩ : TBox) l)))
 | 4, [nn4, nn2] => ∃ (v4_0 : Int) (v4_1 : Int) (v4_2 : Int) (v4_3 : (List V3)) (v4_4 : Bool) (v4_5 : Int) (v4_6 : Bool) (v4_7 : Int), s = mk_law05_TrackTwoWays_4 m0 m1 m2 m3 m4 m5 m6 m7 m8 m9 m10 m11 b0 b1 b2 b3 b4 b5 l K v4_0 v4_1 v4_2 v4_3 v4_4 v4_5 v4_6 v4_7 ∧ (TW (⟨m0, m1, m2, m3, m4, m5, m6, m7, m8, m9, m10, m11⟩ : TMod) (⟨⟨b0, b1, b2⟩, ⟨b3, b4, b5⟩⟩ : TBox) l K ∧ v4_0 = (bestV (⟨m0, m1, m2, m3, m4, m5, m6, m7, m8, m9, m10, m11⟩ : TMod) (⟨⟨b0, b1, b2⟩, ⟨b3, b4, b5⟩⟩ : TBox) l).x ∧ v4_1 = (bestV (⟨m0, m1, m2, m3, m4, m5, m6, m7, m8, m9, m10, m11⟩ : TMod) (⟨⟨b0, b1, b2⟩, ⟨b3, b4, b5⟩⟩ : TBox) l).y ∧ v4_2 = (bestV (⟨m0, m1, m2, m3, m4, m5, m6, m7, m8, m9, m10, m11⟩ : TMod) (⟨⟨b0, b1, b2⟩, ⟨b3, b4, b5⟩⟩ : TBox) l).z ∧ v4_3 = coL (⟨m0, m1, m2, m3, m4, m5, m6, m7, m8, m9, m10, m11⟩ : TMod) (⟨⟨b0, b1, b2⟩, ⟨b3, b4, b5⟩⟩ : TBox) l (K + 1) ∧ 0 ≤ v4_5 ∧ v4_5 < (coL (⟨m0, m1, m2, m3, m4, m5, m6, m7, m8, m9, m10, m11⟩ : TMod) (⟨⟨b0, b1, b2⟩, ⟨b3, b4, b5⟩⟩ : TBox) l K).length ∧ (nn2 : Int) + v4_5 = (coL (⟨m0, m1, m2, m3, m4, m5, m6, m7, m8, m9, m10, m11⟩ : TMod) (⟨⟨b0, b1, b2⟩, ⟨b3, b4, b5⟩⟩ : TBox) l K).length ∧ v4_4 = ((coL (⟨m0, m1, m2, m3, m4, m5, m6, m7, m8, m9, m10, m11⟩ : TMod) (⟨⟨b0, b1, b2⟩, ⟨b3, b4, b5⟩⟩ : TBox) l K).take (v4_5.toNat + 1)).any (fun s => decide (s = bestV (⟨m0, m1, m2, m3, m4, m5, m6, m7, m8, m9, m10, m11⟩ : TMod) (⟨⟨b0, b1, b2⟩, ⟨b3, b4, b5⟩⟩ : TBox) l)) ∧ 0 ≤ v4_7 ∧ v4_7 ≤ (coL (⟨m0, m1, m2, m3, m4, m5, m6, m7, m8, m9, m10, m11⟩ : TMod) (⟨⟨b0, b1, b2⟩, ⟨b3, b4, b5⟩⟩ : TBox) l (K + 1)).length ∧ (nn4 : Int) + v4_7 = (coL (⟨m0, m1, m2, m3, m4, m5, m6, m7, m8, m9, m10, m11⟩ : TMod) (⟨⟨b0, b1, b2⟩, ⟨b3, b4, b5⟩⟩ : TBox) l (K + 1)).length + 1 ∧ v4_6 = ((coL (⟨m0, m1, m2, m3, m4, m5, m6, m7, m8, m9, m10, m11⟩ : TMod) (⟨⟨b0, b1, b2⟩, ⟨b3, b4, b5⟩⟩ : TBox) l (K + 1)).take v4_7.toNat).any (fun s => decide (plAt (coL (⟨m0, m1, m2, m3, m4, m5, m6, m7, m8, m9, m10, m11⟩ : TMod) (⟨⟨b0, b1, b2⟩, ⟨b3, b4, b5⟩⟩ : TBox) l K) v4_5.toNat = s)))
 | _, _ => False
set_option maxHeartbeats 8000000 in
set_option maxRecDepth 100000 in
theorem rnd_law05_TrackTwoWays_0 (m0 m1 m2 m3 m4 m5 m6 m7 m8 m9 m10 m11 : Int) (b0 b1 b2 b3 b4 b5 : Int) (l : List THit) (K : Int) (v0_0 : Int) (v0_1 : Int) (v0_2 : Int) (v0_3 : Bool) (v0_4 : Int) (v0_5 : Int) (nn0 : Nat) (hi : TW (⟨m0, m1, m2, m3, m4, m5, m6, m7, m8, m9, m10, m11⟩ : TMod) (⟨⟨b0, b1, b2⟩, ⟨b3, b4, b5⟩⟩ : TBox) l K ∧ v0_0 = (bestV (⟨m0, m1, m2, m3, m4, m5, m6, m7, m8, m9, m10, m11⟩ : TMod) (⟨⟨b0, b1, b2⟩, ⟨b3, b4, b5⟩⟩ : TBox) l).x ∧ v0_1 = (bestV (⟨m0, m1, m2, m3, m4, m5, m6, m7, m8, m9, m10, m11⟩ : TMod) (⟨⟨b0, b1, b2⟩, ⟨b3, b4, b5⟩⟩ : TBox) l).y ∧ v0_2 = (bestV (⟨m0, m1, m2, m3, m4, m5, m6, m7, m8, m9, m10, m11⟩ : TMod) (⟨⟨b0, b1, b2⟩, ⟨b3, b4, b5⟩⟩ : TBox) l).z ∧ v0_5 = bestS (⟨m0, m1, m2, m3, m4, m5, m6, m7, m8, m9, m10, m11⟩ : TMod) (⟨⟨b0, b1, b2⟩, ⟨b3, b4, b5⟩⟩ : TBox) l ∧ 0 ≤ v0_4 ∧ v0_4 ≤ (((⟨m0, m1, m2, m3, m4, m5, m6, m7, m8, m9, m10, m11⟩ : TMod)).steps (⟨⟨b0, b1, b2⟩, ⟨b3, b4, b5⟩⟩ : TBox)).length ∧ ((nn0 + 1) : Int) + v0_4 = (((⟨m0, m1, m2, m3, m4, m5, m6, m7, m8, m9, m10, m11⟩ : TMod)).steps (⟨⟨b0, b1, b2⟩, ⟨b3, b4, b5⟩⟩ : TBox)).length + 1 ∧ v0_3 = ((((⟨m0, m1, m2, m3, m4, m5, m6, m7, m8, m9, m10, m11⟩ : TMod)).steps (⟨⟨b0, b1, b2⟩, ⟨b3, b4, b5⟩⟩ : TBox)).take v0_4.toNat).any (fun s => ((⟨m0, m1, m2, m3, m4, m5, m6, m7, m8, m9, m10, m11⟩ : TMod)).score s l == bestS (⟨m0, m1, m2, m3, m4, m5, m6, m7, m8, m9, m10, m11⟩ : TMod) (⟨⟨b0, b1, b2⟩, ⟨b3, b4, b5⟩⟩ : TBox) l)) : rd_law05_TrackTwoWays_0 (J_law05_TrackTwoWays m0 m1 m2 m3 m4 m5 m6 m7 m8 m9 m10 m11 b0 b1 b2 b3 b4 b5 l K) m0 m1 m2 m3 m4 m5 m6 m7 m8 m9 m10 m11 b0 b1 b2 b3 b4 b5 l K v0_0 v0_1 v0_2 v0_3 v0_4 v0_5 nn0 (fun r => LeD r (.t (.c (.v (.bool true))))) := by
 obtain ⟨h, e0, e1, e2, en, i0, i1, i2, ef⟩ := hi
 subst e0 e1 e2 en
 obtain ⟨k, rfl⟩ : ∃ k : Nat, v0_4 = k := ⟨v0_4.toNat, by omega⟩
 have hk : (k : Int).toNat = k := rfl
 have hl := h.hl
 have hr := h.rg
 have k0 := h.k0
 have k1 := h.k1
 rw [hk] at ef
 unfold rd_law05_TrackTwoWays_0
 simp only [hits_listC, bxs_fwd, List.nil_append, bxg_listC, bxs_listC]
 rw [h.sl, hk]
 simp only [h.f2, if_true]
 refine cond_i (fun c => ?_) (fun c => ?_)
 ·have c1 : (k : Int) < ((((⟨m0, m1, m2, m3, m4, m5, m6, m7, m8, m9, m10, m11⟩ : TMod)).steps (⟨⟨b0, b1, b2⟩, ⟨b3, b4, b5⟩⟩ : TBox)).length : Nat) := of_decide_eq_true c
  have hlt : k < (((⟨m0, m1, m2, m3, m4, m5, m6, m7, m8, m9, m10, m11⟩ : TMod)).steps (⟨⟨b0, b1, b2⟩, ⟨b3, b4, b5⟩⟩ : TBox)).length := by omega
  refine ⟨⟨i0, c1⟩, lt_i fun x1 h1 => ?_⟩
  rw [h.st hlt] at h1
  subst h1
  refine cond_i (fun g => by cases g) (fun _ => ⟨⟨i0, c1⟩, ⟨numsP_hits l, by omega⟩, lt_i fun x2 h2 => lt_i fun x3 h3 => ?_⟩)
  rw [h.sV hlt] at h2
  rw [h.sE hlt] at h3
  subst h3
  refine ⟨numsP_hits l, by (repeat' first | trivial | assumption | (refine cond_i ?_ ?_ <;> intro _) | (refine And.intro ?_ ?_)), lt_i fun x4 h4 => ?_⟩
  have e4 : x4 = false := h4.symm.trans (by rw [← h2]; exact h.first hlt ef)
  subst e4
  refine cond_i (fun g => by cases g) (fun _ => ⟨by (repeat' first | trivial | assumption | (refine cond_i ?_ ?_ <;> intro _) | (refine And.intro ?_ ?_)), lt_i fun x5 h5 => lt_i fun x6 h6 => ?_⟩)
  have hs := h.slen
  rw [wi (by omega)] at h6
  subst h6
  refine ⟨_, _, _, _, _, _, rfl, h, rfl, rfl, rfl, rfl, by omega, by omega, by omega, ?_⟩
  rw [show ((k : Int) + 1).toNat = k + 1 by omega, any_take _ hlt, ← ef, ← h5, ← h2]
  cases v0_3 <;> rfl
 ·have hkl : k = (((⟨m0, m1, m2, m3, m4, m5, m6, m7, m8, m9, m10, m11⟩ : TMod)).steps (⟨⟨b0, b1, b2⟩, ⟨b3, b4, b5⟩⟩ : TBox)).length := by have := of_decide_eq_false c; omega
  rw [hkl, List.take_length, h.found] at ef
  subst ef
  have hlen := h.len
  refine ⟨⟨numsP_hits l, by omega⟩, lt_i fun x7 h7 => ⟨numsP_hits l, ⟨numsP_hits l, by omega⟩, lt_i fun x8 h8 => lt_i fun x9 h9 => ⟨numsP_hits l, by (repeat' first | trivial | assumption | (refine cond_i ?_ ?_ <;> intro _) | (refine And.intro ?_ ?_)), lt_i fun x10 h10 => ?_⟩⟩⟩
  rw [wi (by omega)] at h8
  subst h8
  rw [h.cv] at h7
  rw [h.cv1] at h9
  obtain rfl : x7 = 0 := h7.symm
  obtain rfl : x9 = 12 := h9.symm
  rw [decide_eq_false (by omega)] at h10
  obtain rfl : x10 = false := h10.symm
  refine cond_i (fun g => by cases g) (fun _ => ⟨⟨numsP_hits l, by omega⟩, lt_i fun x11 h11 => lt_i fun x12 h12 => ⟨⟨numsP_hits l, numsP_bxs _⟩, ⟨numsP_hits l, by omega⟩, by unfold roomP maxLen; simp; omega, lt_i fun x13 h13 => lt_i fun x14 h14 => lt_i fun x15 h15 => ⟨⟨numsP_hits l, numsP_bxg _⟩, by (repeat' first | trivial | assumption | (refine cond_i ?_ ?_ <;> intro _) | (refine And.intro ?_ ?_)), lt_i fun x16 h16 => ?_⟩⟩⟩)
  rw [wi (by omega)] at h13
  subst h13
  rw [h.cc] at h11 h12
  rw [h.cc1] at h15
  obtain rfl : x11 = 0 := h11.symm
  obtain rfl : x12 = 0 := h12.symm
  subst h15
  obtain rfl : x16 = false := h16.symm
  refine cond_i (fun g => by cases g) (fun _ => ⟨⟨numsP_hits l, by omega⟩, lt_i fun x17 h17 => ⟨numsP_hits l, ⟨numsP_hits l, by omega⟩, lt_i fun x18 h18 => ?_⟩⟩)
  rw [wi (by omega)] at h18
  subst h18
  rw [h.cE k0 (by omega)] at h17
  subst h17
  rw [h.cL (n := K) k0 (by omega), h.cL (n := K + 1) (by omega) (by omega), h.cE (n := K + 1) (by omega) (by omega)]
  have l1 := h.clen K
  have l2 := h.clen (K + 1)
  refine lt_i fun x19 h19 => ⟨numsP_hits l, by (repeat' first | trivial | assumption | (refine cond_i ?_ ?_ <;> intro _) | (refine And.intro ?_ ?_)), lt_i fun x20 h20 => ?_⟩
  subst h19
  rw [decide_eq_false (by omega), decide_eq_false (by omega)] at h20
  obtain rfl : x20 = false := h20.symm
  exact cond_i (fun g => by cases g) (fun _ => ⟨(coL (⟨m0, m1, m2, m3, m4, m5, m6, m7, m8, m9, m10, m11⟩ : TMod) (⟨⟨b0, b1, b2⟩, ⟨b3, b4, b5⟩⟩ : TBox) l K).length + 1, _, _, _, _, _, _, rfl, h, rfl, rfl, rfl, rfl, by omega, by omega, by omega, rfl⟩)
theorem zero_law05_TrackTwoWays_0 (m0 m1 m2 m3 m4 m5 m6 m7 m8 m9 m10 m11 : Int) (b0 b1 b2 b3 b4 b5 : Int) (l : List THit) (K : Int) (v0_0 : Int) (v0_1 : Int) (v0_2 : Int) (v0_3 : Bool) (v0_4 : Int) (v0_5 : Int)  (hi : TW (⟨m0, m1, m2, m3, m4, m5, m6, m7, m8, m9, m10, m11⟩ : TMod) (⟨⟨b0, b1, b2⟩, ⟨b3, b4, b5⟩⟩ : TBox) l K ∧ v0_0 = (bestV (⟨m0, m1, m2, m3, m4, m5, m6, m7, m8, m9, m10, m11⟩ : TMod) (⟨⟨b0, b1, b2⟩, ⟨b3, b4, b5⟩⟩ : TBox) l).x ∧ v0_1 = (bestV (⟨m0, m1, m2, m3, m4, m5, m6, m7, m8, m9, m10, m11⟩ : TMod) (⟨⟨b0, b1, b2⟩, ⟨b3, b4, b5⟩⟩ : TBox) l).y ∧ v0_2 = (bestV (⟨m0, m1, m2, m3, m4, m5, m6, m7, m8, m9, m10, m11⟩ : TMod) (⟨⟨b0, b1, b2⟩, ⟨b3, b4, b5⟩⟩ : TBox) l).z ∧ v0_5 = bestS (⟨m0, m1, m2, m3, m4, m5, m6, m7, m8, m9, m10, m11⟩ : TMod) (⟨⟨b0, b1, b2⟩, ⟨b3, b4, b5⟩⟩ : TBox) l ∧ 0 ≤ v0_4 ∧ v0_4 ≤ (((⟨m0, m1, m2, m3, m4, m5, m6, m7, m8, m9, m10, m11⟩ : TMod)).steps (⟨⟨b0, b1, b2⟩, ⟨b3, b4, b5⟩⟩ : TBox)).length ∧ (0 : Int) + v0_4 = (((⟨m0, m1, m2, m3, m4, m5, m6, m7, m8, m9, m10, m11⟩ : TMod)).steps (⟨⟨b0, b1, b2⟩, ⟨b3, b4, b5⟩⟩ : TBox)).length + 1 ∧ v0_3 = ((((⟨m0, m1, m2, m3, m4, m5, m6, m7, m8, m9, m10, m11⟩ : TMod)).steps (⟨⟨b0, b1, b2⟩, ⟨b3, b4, b5⟩⟩ : TBox)).take v0_4.toNat).any (fun s => ((⟨m0, m1, m2, m3, m4, m5, m6, m7, m8, m9, m10, m11⟩ : TMod)).score s l == bestS (⟨m0, m1, m2, m3, m4, m5, m6, m7, m8, m9, m10, m11⟩ : TMod) (⟨⟨b0, b1, b2⟩, ⟨b3, b4, b5⟩⟩ : TBox) l)) : False := by
 omega
set_option maxHeartbeats 8000000 in
set_option maxRecDepth 100000 in
theorem rnd_law05_TrackTwoWays_2 (m0 m1 m2 m3 m4 m5 m6 m7 m8 m9 m10 m11 : Int) (b0 b1 b2 b3 b4 b5 : Int) (l : List THit) (K : Int) (v2_0 : Int) (v2_1 : Int) (v2_2 : Int) (v2_3 : (List V3)) (v2_4 : Bool) (v2_5 : Int) (nn2 : Nat) (hi : TW (⟨m0, m1, m2, m3, m4, m5, m6, m7, m8, m9, m10, m11⟩ : TMod) (⟨⟨b0, b1, b2⟩, ⟨b3, b4, b5⟩⟩ : TBox) l K ∧ v2_0 = (bestV (⟨m0, m1, m2, m3, m4, m5, m6, m7, m8, m9, m10, m11⟩ : TMod) (⟨⟨b0, b1, b2⟩, ⟨b3, b4, b5⟩⟩ : TBox) l).x ∧ v2_1 = (bestV (⟨m0, m1, m2, m3, m4, m5, m6, m7, m8, m9, m10, m11⟩ : TMod) (⟨⟨b0, b1, b2⟩, ⟨b3, b4, b5⟩⟩ : TBox) l).y ∧ v2_2 = (bestV (⟨m0, m1, m2, m3, m4, m5, m6, m7, m8, m9, m10, m11⟩ : TMod) (⟨⟨b0, b1, b2⟩, ⟨b3, b4, b5⟩⟩ : TBox) l).z ∧ v2_3 = coL (⟨m0, m1, m2, m3, m4, m5, m6, m7, m8, m9, m10, m11⟩ : TMod) (⟨⟨b0, b1, b2⟩, ⟨b3, b4, b5⟩⟩ : TBox) l (K + 1) ∧ 0 ≤ v2_5 ∧ v2_5 ≤ (coL (⟨m0, m1, m2, m3, m4, m5, m6, m7, m8, m9, m10, m11⟩ : TMod) (⟨⟨b0, b1, b2⟩, ⟨b3, b4, b5⟩⟩ : TBox) l K).length ∧ ((nn2 + 1) : Int) + v2_5 = (coL (⟨m0, m1, m2, m3, m4, m5, m6, m7, m8, m9, m10, m11⟩ : TMod) (⟨⟨b0, b1, b2⟩, ⟨b3, b4, b5⟩⟩ : TBox) l K).length + 1 ∧ v2_4 = ((coL (⟨m0, m1, m2, m3, m4, m5, m6, m7, m8, m9, m10, m11⟩ : TMod) (⟨⟨b0, b1, b2⟩, ⟨b3, b4, b5⟩⟩ : TBox) l K).take v2_5.toNat).any (fun s => decide (s = bestV (⟨m0, m1, m2, m3, m4, m5, m6, m7, m8, m9, m10, m11⟩ : TMod) (⟨⟨b0, b1, b2⟩, ⟨b3, b4, b5⟩⟩ : TBox) l))) : rd_law05_TrackTwoWays_2 (J_law05_TrackTwoWays m0 m1 m2 m3 m4 m5 m6 m7 m8 m9 m10 m11 b0 b1 b2 b3 b4 b5 l K) m0 m1 m2 m3 m4 m5 m6 m7 m8 m9 m10 m11 b0 b1 b2 b3 b4 b5 l K v2_0 v2_1 v2_2 v2_3 v2_4 v2_5 nn2 (fun r => LeD r (.t (.c (.v (.bool true))))) := by
 obtain ⟨h, e0, e1, e2, e3, i0, i1, i2, ef⟩ := hi
 subst e0 e1 e2 e3
 obtain ⟨k, rfl⟩ : ∃ k : Nat, v2_5 = k := ⟨v2_5.toNat, by omega⟩
 have hk : (k : Int).toNat = k := rfl
 rw [hk] at ef
 unfold rd_law05_TrackTwoWays_2
 simp only [hits_listC]
 rw [h.cL h.k0 (by have := h.k1; omega), hk, eq3]
 refine cond_i (fun c => ?_) (fun c => ?_)
 ·have c1 : (k : Int) < ((coL (⟨m0, m1, m2, m3, m4, m5, m6, m7, m8, m9, m10, m11⟩ : TMod) (⟨⟨b0, b1, b2⟩, ⟨b3, b4, b5⟩⟩ : TBox) l K).length : Nat) := of_decide_eq_true c
  have hlt : k < (coL (⟨m0, m1, m2, m3, m4, m5, m6, m7, m8, m9, m10, m11⟩ : TMod) (⟨⟨b0, b1, b2⟩, ⟨b3, b4, b5⟩⟩ : TBox) l K).length := by omega
  refine ⟨by (repeat' first | trivial | assumption | (refine cond_i ?_ ?_ <;> intro _) | (refine And.intro ?_ ?_)), lt_i fun x1 h1 => ⟨(coL (⟨m0, m1, m2, m3, m4, m5, m6, m7, m8, m9, m10, m11⟩ : TMod) (⟨⟨b0, b1, b2⟩, ⟨b3, b4, b5⟩⟩ : TBox) l (K + 1)).length + 1, _, _, _, _, _, _, _, _, rfl, h, rfl, rfl, rfl, rfl, by omega, by omega, by omega, ?_, by omega, by omega, by omega, rfl⟩⟩
  rw [hk, any_take _ hlt, ← ef, ← h1]
  cases v2_4 <;> rfl
 ·have hkl : k = (coL (⟨m0, m1, m2, m3, m4, m5, m6, m7, m8, m9, m10, m11⟩ : TMod) (⟨⟨b0, b1, b2⟩, ⟨b3, b4, b5⟩⟩ : TBox) l K).length := by have := of_decide_eq_false c; omega
  rw [hkl, List.take_length] at ef
  refine leB ?_
  rw [ef]
  exact List.any_eq_true.2 ⟨_, h.mem h.k0, by simp⟩
theorem zero_law05_TrackTwoWays_2 (m0 m1 m2 m3 m4 m5 m6 m7 m8 m9 m10 m11 : Int) (b0 b1 b2 b3 b4 b5 : Int) (l : List THit) (K : Int) (v2_0 : Int) (v2_1 : Int) (v2_2 : Int) (v2_3 : (List V3)) (v2_4 : Bool) (v2_5 : Int)  (hi : TW (⟨m0, m1, m2, m3, m4, m5, m6, m7, m8, m9, m10, m11⟩ : TMod) (⟨⟨b0, b1, b2⟩, ⟨b3, b4, b5⟩⟩ : TBox) l K ∧ v2_0 = (bestV (⟨m0, m1, m2, m3, m4, m5, m6, m7, m8, m9, m10, m11⟩ : TMod) (⟨⟨b0, b1, b2⟩, ⟨b3, b4, b5⟩⟩ : TBox) l).x ∧ v2_1 = (bestV (⟨m0, m1, m2, m3, m4, m5, m6, m7, m8, m9, m10, m11⟩ : TMod) (⟨⟨b0, b1, b2⟩, ⟨b3, b4, b5⟩⟩ : TBox) l).y ∧ v2_2 = (bestV (⟨m0, m1, m2, m3, m4, m5, m6, m7, m8, m9, m10, m11⟩ : TMod) (⟨⟨b0, b1, b2⟩, ⟨b3, b4, b5⟩⟩ : TBox) l).z ∧ v2_3 = coL (⟨m0, m1, m2, m3, m4, m5, m6, m7, m8, m9, m10, m11⟩ : TMod) (⟨⟨b0, b1, b2⟩, ⟨b3, b4, b5⟩⟩ : TBox) l (K + 1) ∧ 0 ≤ v2_5 ∧ v2_5 ≤ (coL (⟨m0, m1, m2, m3, m4, m5, m6, m7, m8, m9, m10, m11⟩ : TMod) (⟨⟨b0, b1, b2⟩, ⟨b3, b4, b5⟩⟩ : TBox) l K).length ∧ (0 : Int) + v2_5 = (coL (⟨m0, m1, m2, m3, m4, m5, m6, m7, m8, m9, m10, m11⟩ : TMod) (⟨⟨b0, b1, b2⟩, ⟨b3, b4, b5⟩⟩ : TBox) l K).length + 1 ∧ v2_4 = ((coL (⟨m0, m1, m2, m3, m4, m5, m6, m7, m8, m9, m10, m11⟩ : TMod) (⟨⟨b0, b1, b2⟩, ⟨b3, b4, b5⟩⟩ : TBox) l K).take v2_5.toNat).any (fun s => decide (s = bestV (⟨m0, m1, m2, m3, m4, m5, m6, m7, m8, m9, m10, m11⟩ : TMod) (⟨⟨b0, b1, b2⟩, ⟨b3, b4, b5⟩⟩ : TBox) l))) : False := by
 omega
set_option maxHeartbeats 8000000 in
set_option maxRecDepth 100000 in
theorem rnd_law05_TrackTwoWays_4 (m0 m1 m2 m3 m4 m5 m6 m7 m8 m9 m10 m11 : Int) (b0 b1 b2 b3 b4 b5 : Int) (l : List THit) (K : Int) (v4_0 : Int) (v4_1 : Int) (v4_2 : Int) (v4_3 : (List V3)) (v4_4 : Bool) (v4_5 : Int) (v4_6 : Bool) (v4_7 : Int) (nn4 nn2 : Nat) (hi : TW (⟨m0, m1, m2, m3, m4, m5, m6, m7, m8, m9, m10, m11⟩ : TMod) (⟨⟨b0, b1, b2⟩, ⟨b3, b4, b5⟩⟩ : TBox) l K ∧ v4_0 = (bestV (⟨m0, m1, m2, m3, m4, m5, m6, m7, m8, m9, m10, m11⟩ : TMod) (⟨⟨b0, b1, b2⟩, ⟨b3, b4, b5⟩⟩ : TBox) l).x ∧ v4_1 = (bestV (⟨m0, m1, m2, m3, m4, m5, m6, m7, m8, m9, m10, m11⟩ : TMod) (⟨⟨b0, b1, b2⟩, ⟨b3, b4, b5⟩⟩ : TBox) l).y ∧ v4_2 = (bestV (⟨m0, m1, m2, m3, m4, m5, m6, m7, m8, m9, m10, m11⟩ : TMod) (⟨⟨b0, b1, b2⟩, ⟨b3, b4, b5⟩⟩ : TBox) l).z ∧ v4_3 = coL (⟨m0, m1, m2, m3, m4, m5, m6, m7, m8, m9, m10, m11⟩ : TMod) (⟨⟨b0, b1, b2⟩, ⟨b3, b4, b5⟩⟩ : TBox) l (K + 1) ∧ 0 ≤ v4_5 ∧ v4_5 < (coL (⟨m0, m1, m2, m3, m4, m5, m6, m7, m8, m9, m10, m11⟩ : TMod) (⟨⟨b0, b1, b2⟩, ⟨b3, b4, b5⟩⟩ : TBox) l K).length ∧ (nn2 : Int) + v4_5 = (coL (⟨m0, m1, m2, m3, m4, m5, m6, m7, m8, m9, m10, m11⟩ : TMod) (⟨⟨b0, b1, b2⟩, ⟨b3, b4, b5⟩⟩ : TBox) l K).length ∧ v4_4 = ((coL (⟨m0, m1, m2, m3, m4, m5, m6, m7, m8, m9, m10, m11⟩ : TMod) (⟨⟨b0, b1, b2⟩, ⟨b3, b4, b5⟩⟩ : TBox) l K).take (v4_5.toNat + 1)).any (fun s => decide (s = bestV (⟨m0, m1, m2, m3, m4, m5, m6, m7, m8, m9, m10, m11⟩ : TMod) (⟨⟨b0, b1, b2⟩, ⟨b3, b4, b5⟩⟩ : TBox) l)) ∧ 0 ≤ v4_7 ∧ v4_7 ≤ (coL (⟨m0, m1, m2, m3, m4, m5, m6, m7, m8, m9, m10, m11⟩ : TMod) (⟨⟨b0, b1, b2⟩, ⟨b3, b4, b5⟩⟩ : TBox) l (K + 1)).length ∧ ((nn4 + 1) : Int) + v4_7 = (coL (⟨m0, m1, m2, m3, m4, m5, m6, m7, m8, m9, m10, m11⟩ : TMod) (⟨⟨b0, b1, b2⟩, ⟨b3, b4, b5⟩⟩ : TBox) l (K + 1)).length + 1 ∧ v4_6 = ((coL (⟨m0, m1, m2, m3, m4, m5, m6, m7, m8, m9, m10, m11⟩ : TMod) (⟨⟨b0, b1, b2⟩, ⟨b3, b4, b5⟩⟩ : TBox) l (K + 1)).take v4_7.toNat).any (fun s => decide (plAt (coL (⟨m0, m1, m2, m3, m4, m5, m6, m7, m8, m9, m10, m11⟩ : TMod) (⟨⟨b0, b1, b2⟩, ⟨b3, b4, b5⟩⟩ : TBox) l K) v4_5.toNat = s))) : rd_law05_TrackTwoWays_4 (J_law05_TrackTwoWays m0 m1 m2 m3 m4 m5 m6 m7 m8 m9 m10 m11 b0 b1 b2 b3 b4 b5 l K) m0 m1 m2 m3 m4 m5 m6 m7 m8 m9 m10 m11 b0 b1 b2 b3 b4 b5 l K v4_0 v4_1 v4_2 v4_3 v4_4 v4_5 v4_6 v4_7 nn4 nn2 (fun r => LeD r (.t (.c (.v (.bool true))))) := by
 obtain ⟨h, e0, e1, e2, e3, i0, i1, i2, ef, j0, j1, j2, eg⟩ := hi
 subst e0 e1 e2 e3
 obtain ⟨k, rfl⟩ : ∃ k : Nat, v4_5 = k := ⟨v4_5.toNat, by omega⟩
 obtain ⟨q, rfl⟩ : ∃ q : Nat, v4_7 = q := ⟨v4_7.toNat, by omega⟩
 have hk : (k : Int).toNat = k := rfl
 have hq : (q : Int).toNat = q := rfl
 have hlt : k < (coL (⟨m0, m1, m2, m3, m4, m5, m6, m7, m8, m9, m10, m11⟩ : TMod) (⟨⟨b0, b1, b2⟩, ⟨b3, b4, b5⟩⟩ : TBox) l K).length := by omega
 have hs := h.slen
 have l1 := h.clen K
 have l2 := h.clen (K + 1)
 rw [hk] at ef eg
 rw [hq] at eg
 unfold rd_law05_TrackTwoWays_4
 simp only [hits_listC]
 rw [h.cL h.k0 (by have := h.k1; omega), hk, hq, eq3]
 refine cond_i (fun c => ?_) (fun c => ?_)
 ·have c1 : (q : Int) < ((coL (⟨m0, m1, m2, m3, m4, m5, m6, m7, m8, m9, m10, m11⟩ : TMod) (⟨⟨b0, b1, b2⟩, ⟨b3, b4, b5⟩⟩ : TBox) l (K + 1)).length : Nat) := of_decide_eq_true c
  have hqt : q < (coL (⟨m0, m1, m2, m3, m4, m5, m6, m7, m8, m9, m10, m11⟩ : TMod) (⟨⟨b0, b1, b2⟩, ⟨b3, b4, b5⟩⟩ : TBox) l (K + 1)).length := by omega
  refine ⟨by (repeat' first | trivial | assumption | (refine cond_i ?_ ?_ <;> intro _) | (refine And.intro ?_ ?_)), lt_i fun x1 h1 => lt_i fun x2 h2 => ?_⟩
  rw [wi (by omega)] at h2
  subst h2
  refine ⟨_, _, _, _, _, _, _, _, rfl, h, rfl, rfl, rfl, rfl, by omega, by omega, by omega, ef, by omega, by omega, by omega, ?_⟩
  rw [hk, show ((q : Int) + 1).toNat = q + 1 by omega, any_take _ hqt, ← eg, ← h1]
  cases v4_6 <;> rfl
 ·have hql : q = (coL (⟨m0, m1, m2, m3, m4, m5, m6, m7, m8, m9, m10, m11⟩ : TMod) (⟨⟨b0, b1, b2⟩, ⟨b3, b4, b5⟩⟩ : TBox) l (K + 1)).length := by have := of_decide_eq_false c; omega
  rw [hql, List.take_length] at eg
  have e6 : v4_6 = true := by
   rw [eg]
   exact List.any_eq_true.2 ⟨_, h.sub (plAt_in hlt), by simp⟩
  subst e6
  refine cond_i (fun g => by cases g) (fun _ => lt_i fun x3 h3 => ?_)
  rw [wi (by omega)] at h3
  subst h3
  refine ⟨_, _, _, _, _, _, rfl, h, rfl, rfl, rfl, rfl, by omega, by omega, by omega, ?_⟩
  rw [show ((k : Int) + 1).toNat = k + 1 by omega]; exact ef
theorem zero_law05_TrackTwoWays_4 (m0 m1 m2 m3 m4 m5 m6 m7 m8 m9 m10 m11 : Int) (b0 b1 b2 b3 b4 b5 : Int) (l : List THit) (K : Int) (v4_0 : Int) (v4_1 : Int) (v4_2 : Int) (v4_3 : (List V3)) (v4_4 : Bool) (v4_5 : Int) (v4_6 : Bool) (v4_7 : Int) (nn2 : Nat) (hi : TW (⟨m0, m1, m2, m3, m4, m5, m6, m7, m8, m9, m10, m11⟩ : TMod) (⟨⟨b0, b1, b2⟩, ⟨b3, b4, b5⟩⟩ : TBox) l K ∧ v4_0 = (bestV (⟨m0, m1, m2, m3, m4, m5, m6, m7, m8, m9, m10, m11⟩ : TMod) (⟨⟨b0, b1, b2⟩, ⟨b3, b4, b5⟩⟩ : TBox) l).x ∧ v4_1 = (bestV (⟨m0, m1, m2, m3, m4, m5, m6, m7, m8, m9, m10, m11⟩ : TMod) (⟨⟨b0, b1, b2⟩, ⟨b3, b4, b5⟩⟩ : TBox) l).y ∧ v4_2 = (bestV (⟨m0, m1, m2, m3, m4, m5, m6, m7, m8, m9, m10, m11⟩ : TMod) (⟨⟨b0, b1, b2⟩, ⟨b3, b4, b5⟩⟩ : TBox) l).z ∧ v4_3 = coL (⟨m0, m1, m2, m3, m4, m5, m6, m7, m8, m9, m10, m11⟩ : TMod) (⟨⟨b0, b1, b2⟩, ⟨b3, b4, b5⟩⟩ : TBox) l (K + 1) ∧ 0 ≤ v4_5 ∧ v4_5 < (coL (⟨m0, m1, m2, m3, m4, m5, m6, m7, m8, m9, m10, m11⟩ : TMod) (⟨⟨b0, b1, b2⟩, ⟨b3, b4, b5⟩⟩ : TBox) l K).length ∧ (nn2 : Int) + v4_5 = (coL (⟨m0, m1, m2, m3, m4, m5, m6, m7, m8, m9, m10, m11⟩ : TMod) (⟨⟨b0, b1, b2⟩, ⟨b3, b4, b5⟩⟩ : TBox) l K).length ∧ v4_4 = ((coL (⟨m0, m1, m2, m3, m4, m5, m6, m7, m8, m9, m10, m11⟩ : TMod) (⟨⟨b0, b1, b2⟩, ⟨b3, b4, b5⟩⟩ : TBox) l K).take (v4_5.toNat + 1)).any (fun s => decide (s = bestV (⟨m0, m1, m2, m3, m4, m5, m6, m7, m8, m9, m10, m11⟩ : TMod) (⟨⟨b0, b1, b2⟩, ⟨b3, b4, b5⟩⟩ : TBox) l)) ∧ 0 ≤ v4_7 ∧ v4_7 ≤ (coL (⟨m0, m1, m2, m3, m4, m5, m6, m7, m8, m9, m10, m11⟩ : TMod) (⟨⟨b0, b1, b2⟩, ⟨b3, b4, b5⟩⟩ : TBox) l (K + 1)).length ∧ (0 : Int) + v4_7 = (coL (⟨m0, m1, m2, m3, m4, m5, m6, m7, m8, m9, m10, m11⟩ : TMod) (⟨⟨b0, b1, b2⟩, ⟨b3, b4, b5⟩⟩ : TBox) l (K + 1)).length + 1 ∧ v4_6 = ((coL (⟨m0, m1, m2, m3, m4, m5, m6, m7, m8, m9, m10, m11⟩ : TMod) (⟨⟨b0, b1, b2⟩, ⟨b3, b4, b5⟩⟩ : TBox) l (K + 1)).take v4_7.toNat).any (fun s => decide (plAt (coL (⟨m0, m1, m2, m3, m4, m5, m6, m7, m8, m9, m10, m11⟩ : TMod) (⟨⟨b0, b1, b2⟩, ⟨b3, b4, b5⟩⟩ : TBox) l K) v4_5.toNat = s))) : False := by
 omega
set_option maxHeartbeats 8000000 in
set_option maxRecDepth 100000 in
theorem spec_law05_TrackTwoWays (m0 m1 m2 m3 m4 m5 m6 m7 m8 m9 m10 m11 : Int) (b0 b1 b2 b3 b4 b5 : Int) (l : List THit) (K : Int) : vc_law05_TrackTwoWays (J_law05_TrackTwoWays m0 m1 m2 m3 m4 m5 m6 m7 m8 m9 m10 m11 b0 b1 b2 b3 b4 b5 l K) m0 m1 m2 m3 m4 m5 m6 m7 m8 m9 m10 m11 b0 b1 b2 b3 b4 b5 l K (fun r => LeD r (.t (.c (.v (.bool true))))) := by
 unfold vc_law05_TrackTwoWays
 simp only [hits_listC, bxs_fwd, List.nil_append, bxg_listC, bxs_listC]
 refine ⟨numsP_hits l, ⟨by (repeat' first | trivial | assumption | exact numsP_hits l | (refine cond_i ?_ ?_ <;> intro _) | (refine And.intro ?_ ?_) | (refine lt_i fun _ _ => ?_)), lt_i fun x9 h9 => cond_i (fun _ => LeD.refl _) (fun g => ?_)⟩⟩
 subst g
 have g1 : l.length ≤ 14 := by
  by_cases c : l.length ≤ 14
  ·exact c
  ·rw [decide_eq_false c] at h9; cases h9
 rw [decide_eq_true g1] at h9
 have g2 : smallB (⟨⟨b0, b1, b2⟩, ⟨b3, b4, b5⟩⟩ : TBox) = true := by
  cases c : smallB (⟨⟨b0, b1, b2⟩, ⟨b3, b4, b5⟩⟩ : TBox) with
  | true => rfl
  | false => rw [c] at h9; cases h9
 rw [g2] at h9
 have g3 : ((⟨m0, m1, m2, m3, m4, m5, m6, m7, m8, m9, m10, m11⟩ : TMod)).err = 0 := by
  by_cases c : ((⟨m0, m1, m2, m3, m4, m5, m6, m7, m8, m9, m10, m11⟩ : TMod)).err = 0
  ·exact c
  ·rw [show (((⟨m0, m1, m2, m3, m4, m5, m6, m7, m8, m9, m10, m11⟩ : TMod)).err != 0) = true by simpa using c] at h9; cases h9
 rw [g3] at h9
 have g4 : firstNZ [((⟨⟨b0, b1, b2⟩, ⟨b3, b4, b5⟩⟩ : TBox)).err, hitsE l] = 0 := by
  by_cases c : firstNZ [((⟨⟨b0, b1, b2⟩, ⟨b3, b4, b5⟩⟩ : TBox)).err, hitsE l] = 0
  ·exact c
  ·rw [show (firstNZ [((⟨⟨b0, b1, b2⟩, ⟨b3, b4, b5⟩⟩ : TBox)).err, hitsE l] != 0) = true by simpa using c] at h9; cases h9
 rw [g4] at h9
 have g5 : inB K 0 1000 = true := by
  cases c : inB K 0 1000 with
  | true => rfl
  | false => rw [c] at h9; cases h9
 clear h9
 obtain ⟨g6, g7⟩ := fn2 g4
 rw [inB_true] at g5
 have f1 : firstNZ [((⟨m0, m1, m2, m3, m4, m5, m6, m7, m8, m9, m10, m11⟩ : TMod)).err, ((⟨⟨b0, b1, b2⟩, ⟨b3, b4, b5⟩⟩ : TBox)).err] = 0 := by rw [g3, g6]; rfl
 have f2 : firstNZ [firstNZ [((⟨m0, m1, m2, m3, m4, m5, m6, m7, m8, m9, m10, m11⟩ : TMod)).err, ((⟨⟨b0, b1, b2⟩, ⟨b3, b4, b5⟩⟩ : TBox)).err], hitsE l] = 0 := by rw [f1, g7]; rfl
 have hsl : stepsL (⟨m0, m1, m2, m3, m4, m5, m6, m7, m8, m9, m10, m11⟩ : TMod) (⟨⟨b0, b1, b2⟩, ⟨b3, b4, b5⟩⟩ : TBox) = ((⟨m0, m1, m2, m3, m4, m5, m6, m7, m8, m9, m10, m11⟩ : TMod)).steps (⟨⟨b0, b1, b2⟩, ⟨b3, b4, b5⟩⟩ : TBox) := if_neg (by rw [f1]; simp)
 have hcn : ((((⟨m0, m1, m2, m3, m4, m5, m6, m7, m8, m9, m10, m11⟩ : TMod)).steps (⟨⟨b0, b1, b2⟩, ⟨b3, b4, b5⟩⟩ : TBox)).length : Int) ≤ ((⟨⟨b0, b1, b2⟩, ⟨b3, b4, b5⟩⟩ : TBox)).count := by
  have h1 := List.length_filter_le ((⟨m0, m1, m2, m3, m4, m5, m6, m7, m8, m9, m10, m11⟩ : TMod)).permB ((⟨⟨b0, b1, b2⟩, ⟨b3, b4, b5⟩⟩ : TBox)).all
  have h2 := len_all (box_ok g6)
  unfold TMod.steps
  omega
 have hin := box_in g6
 rw [hsl, f1]
 refine ⟨⟨numsP_hits l, by omega⟩, lt_i fun x10 h10 => lt_i fun x11 h11 => lt_i fun x12 h12 => lt_i fun x13 h13 => lt_i fun x14 h14 => ⟨numsP_hits l, lt_i fun x15 h15 => ?_⟩⟩
 subst h15
 refine ⟨cond_i (fun q => by cases q) (fun _ => ⟨⟨hin.1, hin.2⟩, by (repeat' first | trivial | assumption | (refine cond_i ?_ ?_ <;> intro _) | (refine And.intro ?_ ?_))⟩), lt_i fun x16 h16 => ?_⟩
 rw [decide_eq_false (by omega)] at h16
 by_cases hs : ((⟨m0, m1, m2, m3, m4, m5, m6, m7, m8, m9, m10, m11⟩ : TMod)).steps (⟨⟨b0, b1, b2⟩, ⟨b3, b4, b5⟩⟩ : TBox) = []
 ·obtain ⟨a1, a2, a3⟩ := bi_2 (l := l) f2 hs
  rw [a1] at h14
  subst h14
  rw [hs] at h16
  obtain rfl : x16 = false := h16.symm
  exact cond_i (fun g => by cases g) (fun _ => LeD.refl _)
 ·obtain ⟨a1, a2, a3⟩ := bi_3 (l := l) f2 hs
  rw [a1] at h14
  subst h14
  have hp : 0 < (((⟨m0, m1, m2, m3, m4, m5, m6, m7, m8, m9, m10, m11⟩ : TMod)).steps (⟨⟨b0, b1, b2⟩, ⟨b3, b4, b5⟩⟩ : TBox)).length := List.length_pos_iff.2 hs
  rw [decide_eq_true (by omega)] at h16
  obtain rfl : x16 = false := h16.symm
  rw [a2] at h10 h11 h12
  rw [a3] at h13
  subst h10 h11 h12 h13
  exact cond_i (fun g => by cases g) (fun _ => ⟨(((⟨m0, m1, m2, m3, m4, m5, m6, m7, m8, m9, m10, m11⟩ : TMod)).steps (⟨⟨b0, b1, b2⟩, ⟨b3, b4, b5⟩⟩ : TBox)).length + 1, _, _, _, _, _, _, rfl, ⟨g3, g6, g7, g1, g5.1, g5.2, hs⟩, rfl, rfl, rfl, rfl, by omega, by omega, by omega, rfl⟩)
theorem all_law05_TrackTwoWays (m0 m1 m2 m3 m4 m5 m6 m7 m8 m9 m10 m11 : Int) (b0 b1 b2 b3 b4 b5 : Int) (l : List THit) (K : Int) : AllG (J_law05_TrackTwoWays m0 m1 m2 m3 m4 m5 m6 m7 m8 m9 m10 m11 b0 b1 b2 b3 b4 b5 l K) (loopsFn Try.prog tab Ski98 ann_law05_TrackTwoWays (J_law05_TrackTwoWays m0 m1 m2 m3 m4 m5 m6 m7 m8 m9 m10 m11 b0 b1 b2 b3 b4 b5 l K) Try.f4 (fun r => LeD r (.t (.c (.v (.bool true)))))) := by
 rw [lp_law05_TrackTwoWays]
 refine ⟨⟨?_, ?_⟩, ⟨?_, ?_⟩, ⟨?_, ?_⟩, trivial⟩
 ·intro F s h
  obtain _ | ⟨g, F⟩ := F
  case cons => exact h.elim
  obtain ⟨w0, w1, w2, w3, w4, w5, rfl, hi⟩ := h
  exact zero_law05_TrackTwoWays_0 m0 m1 m2 m3 m4 m5 m6 m7 m8 m9 m10 m11 b0 b1 b2 b3 b4 b5 l K w0 w1 w2 w3 w4 w5 hi
 ·intro n F s h
  obtain _ | ⟨g, F⟩ := F
  case cons => exact h.elim
  obtain ⟨w0, w1, w2, w3, w4, w5, rfl, hi⟩ := h
  rw [er_law05_TrackTwoWays_0]
  exact rnd_law05_TrackTwoWays_0 m0 m1 m2 m3 m4 m5 m6 m7 m8 m9 m10 m11 b0 b1 b2 b3 b4 b5 l K _ _ _ _ _ _ _ hi
 ·intro F s h
  obtain _ | ⟨g, F⟩ := F
  case cons => exact h.elim
  obtain ⟨w0, w1, w2, w3, w4, w5, rfl, hi⟩ := h
  exact zero_law05_TrackTwoWays_2 m0 m1 m2 m3 m4 m5 m6 m7 m8 m9 m10 m11 b0 b1 b2 b3 b4 b5 l K w0 w1 w2 w3 w4 w5 hi
 ·intro n F s h
  obtain _ | ⟨g, F⟩ := F
  case cons => exact h.elim
  obtain ⟨w0, w1, w2, w3, w4, w5, rfl, hi⟩ := h
  rw [er_law05_TrackTwoWays_2]
  exact rnd_law05_TrackTwoWays_2 m0 m1 m2 m3 m4 m5 m6 m7 m8 m9 m10 m11 b0 b1 b2 b3 b4 b5 l K _ _ _ _ _ _ _ hi
 ·intro F s h
  obtain _ | ⟨f0, F⟩ := F
  ·exact h.elim
  obtain _ | ⟨g, F⟩ := F
  case cons => exact h.elim
  obtain ⟨w0, w1, w2, w3, w4, w5, w6, w7, rfl, hi⟩ := h
  exact zero_law05_TrackTwoWays_4 m0 m1 m2 m3 m4 m5 m6 m7 m8 m9 m10 m11 b0 b1 b2 b3 b4 b5 l K w0 w1 w2 w3 w4 w5 w6 w7 _ hi
 ·intro n F s h
  obtain _ | ⟨f0, F⟩ := F
  ·exact h.elim
  obtain _ | ⟨g, F⟩ := F
  case cons => exact h.elim
  obtain ⟨w0, w1, w2, w3, w4, w5, w6, w7, rfl, hi⟩ := h
  rw [er_law05_TrackTwoWays_4]
  exact rnd_law05_TrackTwoWays_4 m0 m1 m2 m3 m4 m5 m6 m7 m8 m9 m10 m11 b0 b1 b2 b3 b4 b5 l K _ _ _ _ _ _ _ _ _ _ hi
theorem law_law05_TrackTwoWays (m0 m1 m2 m3 m4 m5 m6 m7 m8 m9 m10 m11 : Int) (b0 b1 b2 b3 b4 b5 : Int) (l : List THit) (K : Int) (W : World) (N : Nat → Prop) (vs : List Value) (h : All2 (RelD (RelF W N)) [.t (.a [.v (.int .i64 m0), .v (.int .i64 m1), .v (.int .i64 m2), .v (.int .i64 m3), .v (.int .i64 m4), .v (.int .i64 m5), .v (.int .i64 m6), .v (.int .i64 m7), .v (.int .i64 m8), .v (.int .i64 m9), .v (.int .i64 m10), .v (.int .i64 m11)]), .t (.a [.v (.int .i64 b0), .v (.int .i64 b1), .v (.int .i64 b2), .v (.int .i64 b3), .v (.int .i64 b4), .v (.int .i64 b5), .sl 5 l.length (hitsC l)]), .t (.c (.v (.int .i64 K)))] vs) : Calls Try.prog 4 vs.toArray W fun e w' => e = .returned (.bool true) ∧ Below W.heap.size W w' :=
 law_end (fn_sound mixed tabOK VSki98 (ann := ann_law05_TrackTwoWays) VIkv51 (fn := Try.f4) (J := J_law05_TrackTwoWays m0 m1 m2 m3 m4 m5 m6 m7 m8 m9 m10 m11 b0 b1 b2 b3 b4 b5 l K) (by kernel_rfl) fit_law05_TrackTwoWays (args := [.t (.a [.v (.int .i64 m0), .v (.int .i64 m1), .v (.int .i64 m2), .v (.int .i64 m3), .v (.int .i64 m4), .v (.int .i64 m5), .v (.int .i64 m6), .v (.int .i64 m7), .v (.int .i64 m8), .v (.int .i64 m9), .v (.int .i64 m10), .v (.int .i64 m11)]), .t (.a [.v (.int .i64 b0), .v (.int .i64 b1), .v (.int .i64 b2), .v (.int .i64 b3), .v (.int .i64 b4), .v (.int .i64 b5), .sl 5 l.length (hitsC l)]), .t (.c (.v (.int .i64 K)))]) (post := (fun r => LeD r (.t (.c (.v (.bool true)))))) (by rw [ev_law05_TrackTwoWays]; exact spec_law05_TrackTwoWays m0 m1 m2 m3 m4 m5 m6 m7 m8 m9 m10 m11 b0 b1 b2 b3 b4 b5 l K) (all_law05_TrackTwoWays m0 m1 m2 m3 m4 m5 m6 m7 m8 m9 m10 m11 b0 b1 b2 b3 b4 b5 l K) (Nat.le_of_ble_eq_true (by kernel_rfl)) W N vs trivial h)
end Go.Proofs.Ytfadkjcfjkmalaa
set_option linter.unusedVariables false
set_option linter.unusedSimpArgs false
namespace Go.Proofs.Ytfadkjcfjkmalaa.Ev
open Go.RowKit
inductive CK where
 | int (k : IntKind)
 | bool
 | str
 | sl (e : TypeId)
def findF (P : Program) (go : TypeId → Nat → Option CK) (j : Nat) : List Field → Option CK
 | [] => none
 | f :: l => bif Nat.ble f.offset j && Nat.blt j (f.offset + P.cellsOf f.type) then go f.type (j - f.offset) else findF P go j l
def kindAt (P : Program) : Nat → TypeId → Nat → Option CK
 | 0, _, _ => none
 | k + 1, t, j => match P.underlying t with
  | some (.int ik) => bif Nat.beq j 0 then some (.int ik) else none
  | some .bool => bif Nat.beq j 0 then some .bool else none
  | some .string => bif Nat.beq j 0 then some .str else none
  | some (.slice e) => bif Nat.beq j 0 then some (.sl e) else none
  | some (.array n e) => bif Nat.blt j (n * P.cellsOf e) then kindAt P k e (j % P.cellsOf e) else none
  | some (.struct fs) => findF P (kindAt P k) j fs.toList
  | _ => none
def kindB (P : Program) : Nat → TypeId → Bool
 | 0, _ => false
 | d + 1, t => (List.range (P.cellsOf t)).all fun j => match kindAt P 20 t j with
  | some (.sl e) => Nat.blt 0 (P.cellsOf e) && kindB P d e
  | some _ => true
  | none => false
def okK (P : Program) : Nat → CK → CV → Prop
 | _, .int ik, c => ∃ n, c = .v (.int ik n) ∧ (Lit.int ik n).wf = true
 | _, .bool, c => ∃ b, c = .v (.bool b)
 | _, .str, c => ∃ s, c = .v (.string s) ∧ s.size ≤ maxLen
 | 0, .sl e, c => False
 | d + 1, .sl e, c => ∃ n cc, c = .sl (P.cellsOf e) n cc ∧ n ≤ maxLen ∧ ∀ i j, i < n → j < P.cellsOf e → ∃ κ, kindAt P 20 e j = some κ ∧ okK P d κ (cc i j)
section
variable {H : Type} {enc : TypeId × Value → H} {P : Program} {w : World} {base : Nat} {spare : Nat → Bool} {held : Bool}
def leaf (H : Type) (enc : TypeId × Value → H) (P : Program) (w : World) (base : Nat) (spare : Nat → Bool) (held : Bool) : CK → Value → Prop
 | .int ik, u => ∃ n, u = .int ik n ∧ (Lit.int ik n).wf = true
 | .bool, u => ∃ b, u = .bool b
 | .str, u => ∃ s : ByteArray, u = .string s ∧ s.size ≤ maxLen
 | .sl e, u => ∃ t m y, P.underlying t = some (.slice e) ∧ DataW.trod enc P w base spare held m t [u] = some y
theorem leaf_of : ∀ (k : Nat) (t : TypeId) (fuel : Nat) (cs : List Value) (x : DataW H × List MemPlace) (j : Nat) (κ : CK), kindAt P k t j = some κ → DataW.trod enc P w base spare held fuel t cs = some x → ∃ u, cs[j]? = some u ∧ leaf H enc P w base spare held κ u := by
 intro k
 induction k with
 | zero => intro t fuel cs x j κ h; cases h
 | succ k ih =>
  intro t fuel cs x j κ hk h
  unfold kindAt at hk
  have zero : ∀ {κ' : CK}, (bif Nat.beq j 0 then some κ' else none) = some κ → j = 0 ∧ κ' = κ := by
   intro κ' e
   cases hb : Nat.beq j 0 with
   | false => rw [hb] at e; cases e
   | true => rw [hb] at e; cases e; exact ⟨Nat.eq_of_beq_eq_true hb, rfl⟩
  split at hk
  ·rename_i ik ht
   obtain ⟨rfl, rfl⟩ := zero hk
   obtain ⟨n, rfl, _, h2⟩ := DataW.trod_int ht h
   exact ⟨_, rfl, n, rfl, h2⟩
  ·rename_i ht
   obtain ⟨rfl, rfl⟩ := zero hk
   obtain ⟨b, rfl, _⟩ := DataW.trod_bool ht h
   exact ⟨_, rfl, b, rfl⟩
  ·rename_i ht
   obtain ⟨rfl, rfl⟩ := zero hk
   obtain ⟨s, rfl, _, h2⟩ := DataW.trod_string ht h
   exact ⟨_, rfl, s, rfl, h2⟩
  ·rename_i e ht
   obtain ⟨rfl, rfl⟩ := zero hk
   rcases DataW.trod_slice ht h with ⟨rfl, _⟩ | ⟨a, len, cap, elems, rest, m, _, rfl, _⟩
   ·exact ⟨_, rfl, t, fuel, x, ht, h⟩
   ·exact ⟨_, rfl, t, fuel, x, ht, h⟩
  ·rename_i n e ht
   cases hb : Nat.blt j (n * P.cellsOf e) with
   | false => rw [hb] at hk; cases hk
   | true =>
    rw [hb] at hk
    simp only [cond_true] at hk
    have hj : j < n * P.cellsOf e := Nat.le_of_ble_eq_true hb
    have hpos : 0 < P.cellsOf e := by
     rcases Nat.eq_zero_or_pos (P.cellsOf e) with q | q
     ·rw [q, Nat.mul_zero] at hj; omega
     ·exact q
    obtain ⟨xs, m, _, _, hl, hxs, hf⟩ := DataW.trod_array ht h
    have hi : j / P.cellsOf e < n := Nat.div_lt_of_lt_mul (by rwa [Nat.mul_comm])
    have h5 := hf _ hi
    rw [show xs[j / P.cellsOf e]? = some xs[j / P.cellsOf e] from List.getElem?_eq_getElem (by omega)] at h5
    obtain ⟨u, h6, h7⟩ := ih e _ _ _ _ _ hk h5
    refine ⟨u, ?_, h7⟩
    rw [List.getElem?_take, if_pos (Nat.mod_lt _ hpos), List.getElem?_drop] at h6
    rwa [Nat.div_add_mod' j (P.cellsOf e)] at h6
  ·rename_i fs ht
   obtain ⟨xs, m, _, _, hl, hxs, hf⟩ := DataW.trod_struct ht h
   have find : ∀ l : List Field, (∀ f ∈ l, ∃ i : Nat, fs[i]? = some f) → findF P (kindAt P k) j l = some κ → ∃ (f : Field) (i : Nat), fs[i]? = some f ∧ f.offset ≤ j ∧ j < f.offset + P.cellsOf f.type ∧ kindAt P k f.type (j - f.offset) = some κ := by
    intro l
    induction l with
    | nil => intro _ h; cases h
    | cons f l ihl =>
     intro hm h
     unfold findF at h
     cases hb : (Nat.ble f.offset j && Nat.blt j (f.offset + P.cellsOf f.type)) with
     | false => rw [hb] at h; exact ihl (fun g hg => hm g (by simp [hg])) h
     | true =>
      rw [hb] at h
      simp only [Bool.and_eq_true] at hb
      obtain ⟨i, hi⟩ := hm f (by simp)
      exact ⟨f, i, hi, Nat.le_of_ble_eq_true hb.1, Nat.le_of_ble_eq_true hb.2, h⟩
   obtain ⟨f, i, hi, h1, h2, h3⟩ := find fs.toList (fun f hf => by
    obtain ⟨i, hi, e⟩ := List.getElem_of_mem hf
    exact ⟨i, by rw [← e]; simp at hi ⊢⟩) hk
   have h5 := hf i f hi
   have hlt : i < fs.size := by
    rcases Nat.lt_or_ge i fs.size with q | q
    ·exact q
    ·rw [Array.getElem?_eq_none q] at hi; cases hi
   rw [show xs[i]? = some xs[i] from List.getElem?_eq_getElem (by omega)] at h5
   obtain ⟨u, h6, h7⟩ := ih _ _ _ _ _ _ h3 h5
   refine ⟨u, ?_, h7⟩
   rw [List.getElem?_take, if_pos (by omega), List.getElem?_drop] at h6
   rwa [show f.offset + (j - f.offset) = j by omega] at h6
  ·cases hk
theorem open_cell : ∀ (d : Nat) (t : TypeId) (fuel : Nat) (cs : List Value) (x : DataW H × List MemPlace), kindB P d t = true → DataW.trod enc P w base spare held fuel t cs = some x → ∀ j, j < P.cellsOf t → ∃ κ c u, kindAt P 20 t j = some κ ∧ cs[j]? = some u ∧ RelF w (fun _ => True) c u ∧ okK P d κ c := by
 intro d
 induction d with
 | zero => intro t fuel cs x h; cases h
 | succ d ih =>
  intro t fuel cs x hB h j hj
  have hB' := hB
  unfold kindB at hB
  have h1 := List.all_eq_true.1 hB j (List.mem_range.2 hj)
  cases hk : kindAt P 20 t j with
  | none => rw [hk] at h1; cases h1
  | some κ =>
   rw [hk] at h1
   obtain ⟨u, h2, h3⟩ := leaf_of 20 t fuel cs x j κ hk h
   cases κ with
   | int ik =>
    obtain ⟨n, rfl, hw⟩ := h3
    exact ⟨_, .v (.int ik n), _, rfl, h2, ⟨rfl, rfl⟩, by simp only [okK]; exact ⟨n, rfl, hw⟩⟩
   | bool =>
    obtain ⟨b, rfl⟩ := h3
    exact ⟨_, .v (.bool b), _, rfl, h2, ⟨rfl, rfl⟩, by simp only [okK]; exact ⟨b, rfl⟩⟩
   | str =>
    obtain ⟨s, rfl, hs⟩ := h3
    exact ⟨_, .v (.string s), _, rfl, h2, ⟨rfl, rfl⟩, by simp only [okK]; exact ⟨s, rfl, hs⟩⟩
   | sl e =>
    simp only [Bool.and_eq_true] at h1
    have hpos : 0 < P.cellsOf e := Nat.le_of_ble_eq_true h1.1
    obtain ⟨t', m, y, ht, hy⟩ := h3
    obtain ⟨n, css, ⟨ao, cap, rfl, g1, g2, g3, g4⟩, hel⟩ := slAt_of_trod ht rfl hpos hy
    have each : ∀ i j, i < n → j < P.cellsOf e → ∃ c : CV, ∃ κ u, kindAt P 20 e j = some κ ∧ (css i)[j]? = some u ∧ RelF w (fun _ => True) c u ∧ okK P d κ c := by
     intro i j hi hj
     obtain ⟨_, m', y', h6⟩ := hel i hi
     obtain ⟨κ, c, u, q⟩ := ih e m' (css i) y' h1.2 h6 j hj
     exact ⟨c, κ, u, q⟩
    classical
    let cc : Nat → Nat → CV := fun i j => if h : i < n ∧ j < P.cellsOf e then Classical.choose (each i j h.1 h.2) else .v (.bool false)
    have hcc : ∀ i j, i < n → j < P.cellsOf e → ∃ κ u, kindAt P 20 e j = some κ ∧ (css i)[j]? = some u ∧ RelF w (fun _ => True) (cc i j) u ∧ okK P d κ (cc i j) := by
     intro i j hi hj
     have : cc i j = Classical.choose (each i j hi hj) := dif_pos ⟨hi, hj⟩
     rw [this]
     exact Classical.choose_spec (each i j hi hj)
    refine ⟨_, .sl (P.cellsOf e) n cc, _, rfl, h2, ⟨ao, cap, rfl, g1, g2, g4, fun h0 => ?_⟩, by
     simp only [okK]
     exact ⟨n, cc, rfl, Nat.le_trans g1 g2, fun i j hi hj => by obtain ⟨κ, u, q1, _, _, q4⟩ := hcc i j hi hj; exact ⟨κ, q1, q4⟩⟩⟩
    obtain ⟨b, off, e1, hlt, hc⟩ := g3 h0
    refine ⟨b, off, e1, hlt, trivial, fun i j hi hj => ?_⟩
    obtain ⟨κ, u, q1, q2, q3, _⟩ := hcc i j hi hj
    refine ⟨u, ?_, q3⟩
    rw [hc i j hi hj]
    simp [List.getD, q2]
theorem open_cells {d : Nat} {t : TypeId} {fuel : Nat} {cs : List Value} {x : DataW H × List MemPlace} (hB : kindB P d t = true) (hl : cs.length = P.cellsOf t) (h : DataW.trod enc P w base spare held fuel t cs = some x) :
  ∃ l : List CV, l.length = P.cellsOf t ∧ All2 (RelF w (fun _ => True)) l cs ∧ ∀ j, j < P.cellsOf t → ∃ κ, kindAt P 20 t j = some κ ∧ okK P d κ (l.getD j (.v (.bool false))) := by
 have each := open_cell d t fuel cs x hB h
 obtain ⟨l, h1, h2⟩ := list_of (CV.v (.bool false)) (P.cellsOf t) (R := fun j c => ∃ κ u, kindAt P 20 t j = some κ ∧ cs[j]? = some u ∧ RelF w (fun _ => True) c u ∧ okK P d κ c) (fun j hj => by obtain ⟨κ, c, u, q⟩ := each j hj; exact ⟨c, κ, u, q⟩)
 refine ⟨l, h1, All2.of_get (by omega) fun i a b ha hb => ?_, fun j hj => ?_⟩
 ·have hi : i < P.cellsOf t := by
   rcases Nat.lt_or_ge i l.length with q | q
   ·omega
   ·rw [List.getElem?_eq_none q] at ha; cases ha
  obtain ⟨κ, u, _, q2, q3, _⟩ := h2 i hi
  rw [hb] at q2
  cases q2
  rw [show l.getD i (.v (.bool false)) = a by simp [List.getD, ha]] at q3
  exact q3
 ·obtain ⟨κ, u, q1, _, _, q4⟩ := h2 j hj
  exact ⟨κ, q1, q4⟩
theorem open_agg {d : Nat} {t : TypeId} {cs : Array Value} {y : DataW H} {ps : List MemPlace} (hB : kindB P d t = true) (hl : cs.size = P.cellsOf t) (h : DataW.Trod enc P w base spare held t (.agg cs) y ps) :
  ∃ l : List CV, l.length = P.cellsOf t ∧ All2 (RelF w (fun _ => True)) l cs.toList ∧ ∀ j, j < P.cellsOf t → ∃ κ, kindAt P 20 t j = some κ ∧ okK P d κ (l.getD j (.v (.bool false))) := by
 obtain ⟨fuel, hf⟩ := h
 exact open_cells hB (by simpa using hl) (by simpa [Value.cells] using hf)
end
theorem open_i64 {P : Program} {d : Nat} {t : TypeId} {j : Nat} {c : CV} (hk : kindAt P 20 t j = some (.int .i64)) (h : ∃ κ, kindAt P 20 t j = some κ ∧ okK P d κ c) : ∃ n : Int, c = .v (.int .i64 n) ∧ -9223372036854775808 ≤ n ∧ n ≤ 9223372036854775807 := by
 obtain ⟨κ, h1, h2⟩ := h
 rw [hk] at h1
 cases h1
 have h3 : ∃ n, c = .v (.int .i64 n) ∧ (Lit.int .i64 n).wf = true := by cases d <;> exact h2
 obtain ⟨n, e, hw⟩ := h3
 have := bounds_i64 hw
 exact ⟨n, e, this.1, this.2⟩
theorem open_sl {P : Program} {d : Nat} {t e : TypeId} {j : Nat} {c : CV} (hk : kindAt P 20 t j = some (.sl e)) (h : ∃ κ, kindAt P 20 t j = some κ ∧ okK P (d + 1) κ c) : ∃ n cc, c = .sl (P.cellsOf e) n cc ∧ n ≤ maxLen ∧ ∀ i j, i < n → j < P.cellsOf e → ∃ κ, kindAt P 20 e j = some κ ∧ okK P d κ (cc i j) := by
 obtain ⟨κ, h1, h2⟩ := h
 rw [hk] at h1
 cases h1
 exact h2
def allI (P : Program) (e : TypeId) : Bool := (List.range (P.cellsOf e)).all fun j => match kindAt P 20 e j with
 | some (.int .i64) => true
 | _ => false
theorem nums_of {P : Program} {d : Nat} {e : TypeId} {n : Nat} {cc : Nat → Nat → CV} (hk : allI P e = true) (h : ∀ i j, i < n → j < P.cellsOf e → ∃ κ, kindAt P 20 e j = some κ ∧ okK P d κ (cc i j)) : numsP (P.cellsOf e) n cc := by
 intro i j hi hj
 have h1 := List.all_eq_true.1 hk j (List.mem_range.2 hj)
 split at h1
 ·rename_i hq
  obtain ⟨m, e1, _⟩ := open_i64 hq (h i j hi hj)
  rw [e1]; rfl
 ·cases h1
end Go.Proofs.Ytfadkjcfjkmalaa.Ev