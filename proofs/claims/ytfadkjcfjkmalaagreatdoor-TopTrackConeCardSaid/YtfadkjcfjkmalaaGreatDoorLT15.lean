/- Texts of this claim, together. -/
import Derived.Test.YtfadkjcfjkmalaaGreatDoorLT14

set_option maxRecDepth 100000
set_option linter.unusedVariables false
set_option linter.unusedSimpArgs false
namespace Go.Proofs.YtfadkjcfjkmalaaGreatDoor
open Go.RowKit Ev
theorem mdF_rg {c : Int} (hc : 0 < c ∧ c ≤ 1000) (a : Int) : 0 ≤ mdF a c ∧ mdF a c < c := by
 have h1 := Int.tmod_lt_of_pos a hc.1
 have h2 : -c < Int.tmod a c := by
  have := Int.tmod_lt_of_pos (-a) hc.1
  rw [Int.neg_tmod] at this
  omega
 unfold mdF
 split
 ·rw [wi (by omega)]; omega
 ·omega
theorem pls_gN (l : List V3) : qj 3 ((([] : List (List CV)) ++ ((List.range l.length).map fun i => fwd ((plsC l) i) 0 3)).length) (genC (([] : List (List CV)) ++ ((List.range l.length).map fun i => fwd ((plsC l) i) 0 3))) := by
 intro i j hi hj
 have e : (([] : List (List CV)) ++ ((List.range l.length).map fun i => fwd ((plsC l) i) 0 3)).length = l.length := by simp
 rw [e] at hi
 unfold genC
 simp only [List.nil_append, List.getD_eq_getElem?_getD, List.getElem?_map, List.getElem?_range hi, Option.map_some, Option.getD_some]
 rcases (by omega : j = 0 ∨ j = 1 ∨ j = 2) with rfl | rfl | rfl <;> rfl
theorem pls_g {l : List V3} : qa ((([] : List (List CV)) ++ ((List.range l.length).map fun i => fwd ((plsC l) i) 0 3)).length) mkPl (genC (([] : List (List CV)) ++ ((List.range l.length).map fun i => fwd ((plsC l) i) 0 3))) = l := by
 have e : (([] : List (List CV)) ++ ((List.range l.length).map fun i => fwd ((plsC l) i) 0 3)).length = l.length := by simp
 rw [e]
 refine q8p ⟨0, 0, 0⟩ fun i hi => ?_
 unfold mkPl genC
 simp only [List.nil_append, List.getD_eq_getElem?_getD, List.getElem?_map, List.getElem?_range hi, Option.map_some, Option.getD_some]
 rfl
theorem qkx : ∀ (L : List Int) (n : Int), 0 ≤ n → (∀ x ∈ L, 0 ≤ x) → 0 ≤ L.foldl (· + ·) n
 | [], _, h, _ => h
 | x :: L, n, h, hx => qkx L (n + x) (by have := hx x (by simp); omega) fun y hy => hx y (by simp [hy])
theorem foldl_z : ∀ (L : List Int) (n : Int), (∀ x ∈ L, x = 0) → L.foldl (· + ·) n = n
 | [], _, _ => rfl
 | x :: L, n, hx => by
  rw [List.foldl_cons, foldl_z L (n + x) fun y hy => hx y (by simp [hy]), hx x (by simp)]; omega
theorem eq3 (p s : V3) : (bif (p.x == s.x) then (bif (p.y == s.y) then (bif (p.z == s.z) then true else false) else false) else false) = decide (p = s) := by
 rw [Bool.eq_iff_iff, decide_eq_true_eq, qgI]
 by_cases h1 : p.x = s.x <;> by_cases h2 : p.y = s.y <;> by_cases h3 : p.z = s.z <;> simp [h1, h2, h3]
theorem any_take {L : List V3} {k : Nat} (p : V3 → Bool) (h : k < L.length) : (L.take (k + 1)).any p = ((L.take k).any p || p (plAt L k)) := by
 rw [q7o h, List.any_append, List.any_cons, List.any_nil, Bool.or_false]
theorem score_nn {m : TM} {s : V3} {l : List TH} (ho : m.Ok) (hh : ql l = 0) : 0 ≤ m.score s l := by
 unfold TM.score TM.pens
 refine qkx _ _ (Int.le_refl _) fun x hx => ?_
 obtain ⟨h, hm, rfl⟩ := List.mem_map.1 hx
 have a := qaG hh h hm
 have b := ho.mi.1
 have c := ho.no.1
 unfold TM.pen
 split
 ·exact Int.mul_nonneg a b
 ·split
  ·exact Int.mul_nonneg a c
  ·exact Int.le_refl _
theorem cover_no {m : TM} {b : TB} {l : List TH} {n K : Int} {c : List TB} (hm : m.err = 0) (hb : b.err = 0) (hh : ql l = 0) (hne : m.steps b ≠ []) (hc : m.covers l n b c) (hK : q3M m b l < K) : (cvR m b l c K).2 = 19 := by
 have ho := q1g hm
 have h := cover_acc hm hb hh hc
 unfold cvR at h ⊢
 by_cases e0 : cvE0 m b l c ≠ 0
 ·rw [if_pos e0] at h; exact (e0 (congrArg Prod.snd h)).elim
 rw [if_neg e0] at h ⊢
 by_cases e1 : scan (bxE b c) c.length ≠ 0
 ·rw [if_pos e1] at h; exact (e1 (congrArg Prod.snd h)).elim
 rw [if_neg e1, if_neg (by rw [hc.count]; omega), if_pos]
 have e := qfd (p := fun a => !q0i m l K a) (l := c)
 by_cases q : 0 ≤ idxP (fun a => !q0i m l K a) c
 ·exact q
 rw [decide_eq_false q, List.any_eq_false] at e
 have hc2 : m.covers l K b c := ⟨fun d hd => by
  obtain ⟨a1, a2, _⟩ := hc.each d hd
  exact ⟨a1, a2, (q9u (qhJ hb a2 a1)).1 (by simpa using e d hd)⟩, hc.apart, hc.count⟩
 obtain ⟨q1, q2⟩ := qaH (l := l) hne
 obtain ⟨g1, g2⟩ := q0L.1 q1.1
 have := qiD hc2 (q0c hb) g1 g2 ho.slp ho.slo ⟨ho.ea.1, ho.la.1⟩ ⟨ho.mi.1, ho.no.1⟩ (qaG hh)
 omega
def stgL (g : Nat → TH → TH) (L : List TH) (k : Nat) : List TH := (List.range L.length).map fun i => if i < k then g i (qe L i) else qe L i
theorem qky {g : Nat → TH → TH} {L : List TH} {k : Nat} : (stgL g L k).length = L.length := by simp [stgL]
theorem stgL_0 {g : Nat → TH → TH} {L : List TH} : stgL g L 0 = L := by
 apply List.ext_getElem?
 intro i
 unfold stgL
 by_cases hi : i < L.length
 ·rw [List.getElem?_map, List.getElem?_range hi, List.getElem?_eq_getElem hi]
  simp [qe, List.getD, hi]
 ·rw [List.getElem?_eq_none (by simpa using hi), List.getElem?_eq_none (by omega)]
theorem stgL_at {g : Nat → TH → TH} {L : List TH} {k i : Nat} (hi : i < L.length) : qe (stgL g L k) i = if i < k then g i (qe L i) else qe L i := by
 show (stgL g L k).getD i _ = _
 unfold stgL
 rw [List.getD_eq_getElem?_getD, List.getElem?_map, List.getElem?_range hi]; rfl
theorem stgL_get {g : Nat → TH → TH} {L : List TH} {k : Nat} (hk : k < L.length) : ((stgL g L k).map qf).getD k [] = qf (qe L k) := by
 unfold stgL
 rw [List.getD_eq_getElem?_getD, List.getElem?_map, List.getElem?_map, List.getElem?_range hk]
 simp
theorem stgL_set {g : Nat → TH → TH} {L : List TH} {k : Nat} (hk : k < L.length) : ((stgL g L k).map qf).set k (qf (g k (qe L k))) = (stgL g L (k + 1)).map qf := by
 apply List.ext_getElem?
 intro i
 unfold stgL
 rw [List.getElem?_set]
 by_cases e : k = i
 ·subst e
  rw [if_pos rfl, if_pos (by simpa using hk), List.getElem?_map, List.getElem?_map, List.getElem?_range hk]
  simp
 ·rw [if_neg e]
  by_cases hi : i < L.length
  ·rw [List.getElem?_map, List.getElem?_map, List.getElem?_map, List.getElem?_map, List.getElem?_range hi]
   simp only [Option.map_some]
   by_cases c : i < k
   ·rw [if_pos c, if_pos (by omega)]
   ·rw [if_neg c, if_neg (by omega)]
  ·rw [List.getElem?_eq_none (by simpa using hi), List.getElem?_eq_none (by simpa using hi)]
theorem hitsE_0 {l : List TH} (h1 : l.length ≤ 12) (h2 : ∀ i, i < l.length → (qe l i).err = 0) : ql l = 0 := (if_neg (by omega)).trans (q3T h2)
def late (m : TM) (of : List Int) (i : Nat) (h : TH) : TH := ⟨h.p, h.t - m.ea + mdF (of.getD (i % of.length) 0) (m.ea + m.la + 1), 1 + i⟩
structure TC (m : TM) (b : TB) (pl : List V3) (of : List Int) (s : V3) : Prop where
 hm : m.err = 0
 hb : b.err = 0
 hc : b.count ≤ 120
 hl : pl.length ≤ 6
 ho : 0 < of.length
 hs : s ∈ m.steps b
 he : simE m s pl = 0
def q2h (m : TM) (s : V3) (pl : List V3) : List TH := pl.map (q3u m s)
def qe2 (m : TM) (of : List Int) (s : V3) (pl : List V3) : List TH := stgL (late m of) (q2h m s pl) pl.length
theorem q5o {m : TM} {s : V3} {pl : List V3} : (q2h m s pl).length = pl.length := by simp [q2h]
theorem qdP {m : TM} {s : V3} {pl : List V3} {i : Nat} (hi : i < pl.length) : qe (q2h m s pl) i = q3u m s (plAt pl i) := by
 show (q2h m s pl).getD i _ = _
 unfold q2h plAt
 simp [List.getD, hi]
theorem sim_cases {m : TM} {s : V3} {pl : List V3} (h1 : m.both s = 0) (h2 : pl.length ≤ 12) : simE m s pl = 0 ∨ simE m s pl = 2 ∨ simE m s pl = 22 := by
 have e : simE m s pl = scan (fun i => q1f m s (plAt pl i)) pl.length := if_neg (by rw [h1, decide_eq_true (by omega)]; decide)
 rw [e]
 have hall : ∀ i, q1f m s (plAt pl i) = 0 ∨ q1f m s (plAt pl i) = 2 ∨ q1f m s (plAt pl i) = 22 := fun i => by
  unfold q1f
  split
  ·unfold plE unl
   cases (plAt pl i).inS 1000
   ·exact Or.inr (Or.inl rfl)
   ·exact Or.inl rfl
  ·split
   ·exact Or.inl rfl
   ·exact Or.inr (Or.inr rfl)
 by_cases h : ∃ k, k < pl.length ∧ (∀ j, j < k → q1f m s (plAt pl j) = 0) ∧ q1f m s (plAt pl k) ≠ 0
 ·obtain ⟨k, a1, a2, a3⟩ := h
  rw [q8d (f := fun i => q1f m s (plAt pl i)) a2 a1 a3]
  exact hall k
 ·refine Or.inl (q3T (f := fun i => q1f m s (plAt pl i)) fun j => ?_)
  intro hj
  induction j using Nat.strongRecOn with
  | ind j ih =>
   by_cases q : q1f m s (plAt pl j) = 0
   ·exact q
   ·exact (h ⟨j, hj, fun i hi => ih i hi (by omega), q⟩).elim
namespace TC
variable {m : TM} {b : TB} {pl : List V3} {of : List Int} {s : V3} (h : TC m b pl of s)
include h
theorem both : m.both s = 0 := by
 obtain ⟨h1, h2⟩ := q8M h.hb h.hs
 unfold TM.both TM.stE
 rw [h.hm, h1, q5t.2 h2]; rfl
theorem sim : simL m s pl = q2h m s pl := if_neg (by rw [h.he]; simp)
theorem each {i : Nat} (hi : i < pl.length) : (plAt pl i).inS 1000 = true ∧ -10000 ≤ m.first s (plAt pl i) ∧ m.first s (plAt pl i) ≤ 10000 := by
 have e : scan (fun i => q1f m s (plAt pl i)) pl.length = 0 := by
  have := h.he
  unfold simE at this
  rwa [if_neg (by rw [h.both, decide_eq_true (by have := h.hl; omega)]; decide)] at this
 have a : q1f m s (plAt pl i) = 0 := qiy (f := fun i => q1f m s (plAt pl i)) e i hi
 unfold q1f at a
 by_cases q : plE (plAt pl i) = 0
 ·rw [if_neg (by simpa using q)] at a
  unfold plE at q
  rw [unl_0 (by decide)] at q
  by_cases r : inB (m.first s (plAt pl i)) (-1000000) 1000000 = true ∧ tmE (m.first s (plAt pl i)) = 0
  ·obtain ⟨_, r2⟩ := r
   unfold tmE at r2
   rw [unl_0 (by decide), q0Q] at r2
   exact ⟨q, r2⟩
  ·rw [if_neg r] at a; cases a
 ·rw [if_pos q] at a; exact (q a).elim
theorem sims_ok : ql (q2h m s pl) = 0 := by
 have hl := h.hl
 refine hitsE_0 (by rw [q5o]; omega) fun i hi => ?_
 rw [q5o] at hi
 obtain ⟨h1, h2⟩ := h.each hi
 rw [qdP hi]
 unfold TH.err q3u plE tmE
 rw [h1, q0Q.2 h2]; rfl
theorem reach {i : Nat} (hi : i < pl.length) (u : Int) : m.reached s (plAt pl i) u = decide (m.first s (plAt pl i) ≤ u) := by
 obtain ⟨h1, h2⟩ := q8M h.hb h.hs
 have ho := q1g h.hm
 obtain ⟨_, e⟩ := h.each hi
 exact first_at m s (plAt pl i) ho.slp (by have := ho.slo; have := h2.1; omega) (by omega) (by omega) u
theorem zero : m.score s (qe2 m of s pl) = 0 := by
 unfold TM.score TM.pens
 refine foldl_z _ _ fun x hx => ?_
 obtain ⟨g, hg, rfl⟩ := List.mem_map.1 hx
 obtain ⟨i, hi, rfl⟩ := List.getElem_of_mem hg
 have hi2 : i < pl.length := by unfold qe2 at hi; rwa [qky, q5o] at hi
 have e : (qe2 m of s pl)[i] = late m of i (q3u m s (plAt pl i)) := by
  have e2 : qe (qe2 m of s pl) i = (qe2 m of s pl)[i] := by simp [qe, List.getD, hi]
  rw [← e2]
  unfold qe2
  rw [stgL_at (by rw [q5o]; exact hi2), if_pos hi2, qdP hi2]
 have ho := q1g h.hm
 have q := mdF_rg (c := m.ea + m.la + 1) (by have := ho.ea; have := ho.la; omega) (of.getD (i % of.length) 0)
 rw [e]
 unfold TM.pen late q3u
 simp only
 rw [h.reach hi2, h.reach hi2, decide_eq_true (by omega), decide_eq_false (by omega)]; rfl
end TC
structure TD (m : TM) (b : TB) (G : List TH) (s : V3) : Prop where
 hm : m.err = 0
 hb : b.err = 0
 hh : ql G = 0
 hs : s ∈ m.steps b
 h0 : m.score s G = 0
namespace TD
variable {m : TM} {b : TB} {G : List TH} {s : V3} (h : TD m b G s)
include h
theorem ne : m.steps b ≠ [] := fun e => by have := h.hs; rw [e] at this; cases this
theorem f2 : qd [qd [m.err, b.err], ql G] = 0 := by rw [h.hm, h.hb, h.hh]; rfl
theorem best : q3M m b G = 0 := by
 have h1 := best_le (l := G) h.hs
 have h2 := (qaH (l := G) h.ne).2
 have h3 := score_nn (s := q9H m b G) (q1g h.hm) h.hh
 rw [h.h0] at h1
 omega
theorem bi : biE m b G = 0 ∧ biS m b G = 0 := by
 have e : biE m b G = 0 := (if_neg (by rw [h.f2]; simp)).trans (if_neg h.ne)
 exact ⟨e, (if_pos e).trans h.best⟩
theorem cn : cnE m b G 0 = 0 ∧ cnL m b G 0 = coL m b G 0 := by
 have e : coE m b G 0 = 0 := by unfold coE; rw [h.f2]; rfl
 have e2 : cnE m b G 0 = 0 := (if_neg (by rw [e]; simp)).trans h.bi.1
 exact ⟨e2, if_pos e2⟩
theorem slen : (m.steps b).length ≤ 700 := qdi h.hb
theorem mem : s ∈ coL m b G 0 := by
 refine List.mem_filter.2 ⟨h.hs, ?_⟩
 unfold coQ
 rw [h.h0, h.best]; rfl
theorem both : m.both s = 0 := by
 obtain ⟨h1, h2⟩ := q8M h.hb h.hs
 unfold TM.both TM.stE
 rw [h.hm, h1, q5t.2 h2]; rfl
theorem sc : m.sE s G = 0 ∧ m.sV s G = 0 := by
 have e : m.sE s G = 0 := by unfold TM.sE; rw [h.both, h.hh]; rfl
 exact ⟨e, (if_pos e).trans h.h0⟩
theorem si : m.siE b G = 0 ∧ m.siL b G ≤ 0 := by
 obtain ⟨h1, h2⟩ := q0L.1 h.hs
 have hin := q0Z h.hb
 have ho := q1g h.hm
 have e : m.siE b G = 0 := by
  unfold TM.siE
  rw [h.f2, q6J hin.1 hin.2, q3U.2 (qbr h1 h2)]; rfl
 have q := q9l (l := G) h1 h2 ho.slp ho.slo ⟨ho.ea.1, ho.la.1⟩ ⟨ho.mi.1, ho.no.1⟩ (qaG h.hh)
 rw [h.h0] at q
 exact ⟨e, by rw [show m.siL b G = (m.scores b G).lo from if_pos e]; exact q.1⟩
theorem cv : (covR m G 1 b).2 = false := (cover_iff h.hm h.hb h.hh).2 ⟨h.ne, by rw [h.best]; decide⟩
theorem cc : (cvR m b G [b] 1).2 = 19 := cover_no h.hm h.hb h.hh h.ne (qgc (K := (m.scores b G).lo) (q0c h.hb) (Or.inr (Int.le_refl _))) (by rw [h.best]; decide)
end TD
theorem TD.clen {m : TM} {b : TB} {G : List TH} {s : V3} (_ : TD m b G s) : (coL m b G 0).length ≤ (m.steps b).length := List.length_filter_le _ _
def q2L (m0 m1 m2 m3 m4 m5 m6 m7 m8 m9 mA mB b0 b1 b2 b3 b4 b5 : Int) (pl : List V3) (of : List Int) (v0_0 : List (List CV)) (v0_1 v0_2 v0_3 v0_4 : Int) : DS := ⟨[none, none, none, some (.t (.c (.p 3 0))), some (.t (.c (.p 4 0))), some (.t (.c (.p 5 0))), none, some (.t (.c (.sl 3 ((((TM.mk m0 m1 m2 m3 m4 m5 m6 m7 m8 m9 mA mB)).steps (TB.mk (.mk b0 b1 b2) (.mk b3 b4 b5))).length) (plsC (((TM.mk m0 m1 m2 m3 m4 m5 m6 m7 m8 m9 mA mB)).steps (TB.mk (.mk b0 b1 b2) (.mk b3 b4 b5))))))), some (.t (.c (.p 8 0))), none, none, some (.t (.c (.os 11))), some (.t (.c (.v (.int .i64 v0_4)))), none, none, none, none, none, none, none, none, none, none, none, none, none, none, none, none, none, none, none, none, none, none, none, none, none, none, none, none, none, none, none, none, none, none, none, none, none, none, none, none, none, none, none, none, none, none, none, none, none, none, none, none, none, none, none, none, none, none, none, none, none, none, none, none, none, none, none, none, none, none, none, none, none, none, none, none, none, none, none, none, none, none, none, none, none, none, none, none, none, none, none, none, none, none, none, none, none, none, none, none, none, none, none, none, none, none, none, none, none, none, none, none, none, none, none, none, none, none, none, none, none, none, none, none, none, none, none, none, none, none, none, none, none, none, none, none, none, none, none, none, none, none, none, none, none, none, none, none, none, none, none, none, none, none, none, none, none, none, none, none, none, none, none, none, none, none, none, none, none, none, none, none, none, none, none, none, none, none, none, none, none, none, none, none, none, none, none, none, none, none, none, none, none, none, none, none, none, none, none, none, none, none, none, none, none, none, none, none, none, none, none, none, none, none, none, none, none, none, none, none, none, none, none, none, none, none, none, none, none, none, none, none, none, none, none, none, none, none, none, none, none, none, none, none, none, none, none, none, none, none, none, none, none, none, none, none, none, none, none, none, none, none, none, none, none, none, none, none, none, none, none, none, none, none, none, none, none, none], [none, none, none, some (.box 47 [.v (.int .i64 m0), .v (.int .i64 m1), .v (.int .i64 m2), .v (.int .i64 m3), .v (.int .i64 m4), .v (.int .i64 m5), .v (.int .i64 m6), .v (.int .i64 m7), .v (.int .i64 m8), .v (.int .i64 m9), .v (.int .i64 mA), .v (.int .i64 mB)]), some (.box 25 [.v (.int .i64 b0), .v (.int .i64 b1), .v (.int .i64 b2), .v (.int .i64 b3), .v (.int .i64 b4), .v (.int .i64 b5)]), some (.box 51 [.sl 3 pl.length (plsC pl), .sl 1 of.length (q2f of)]), none, none, some (.box 23 [.v (.int .i64 v0_1), .v (.int .i64 v0_2), .v (.int .i64 v0_3)]), none, none, some (.gen 57 5 v0_0), none, none, none, none, none, none, none, none, none, none, none, none, none, none, none, none, none, none, none, none, none, none, none, none, none, none, none, none, none, none, none, none, none, none, none, none, none, none, none, none, none, none, none, none, none, none, none, none, none, none, none, none, none, none, none, none, none, none, none, none, none, none, none, none, none, none, none, none, none, none, none, none, none, none, none, none, none, none, none, none, none, none, none, none, none, none, none, none, none, none, none, none, none, none, none, none, none, none, none, none, none, none, none, none, none, none, none, none, none, none, none, none, none, none, none, none, none, none, none, none, none, none, none, none, none, none, none, none, none, none, none, none, none, none, none, none, none, none, none, none, none, none, none, none, none, none, none, none, none, none, none, none, none, none, none, none, none, none, none, none, none, none, none, none, none, none, none, none, none, none, none, none, none, none, none, none, none, none, none, none, none, none, none, none, none, none, none, none, none, none, none, none, none, none, none, none, none, none, none, none, none, none, none, none, none, none, none, none, none, none, none, none, none, none, none, none, none, none, none, none, none, none, none, none, none, none, none, none, none, none, none, none, none, none, none, none, none, none, none, none, none, none, none, none, none, none, none, none, none, none, none, none, none, none, none, none, none, none, none, none, none, none, none, none, none, none, none, none, none, none, none, none, none, none, none, none, none, none, none]⟩
def q2M (m0 m1 m2 m3 m4 m5 m6 m7 m8 m9 mA mB b0 b1 b2 b3 b4 b5 : Int) (pl : List V3) (of : List Int) (v2_0 v2_1 v2_2 v2_3 v2_4 v2_5 v2_6 v2_7 v2_8 v2_9 v2_10 v2_11 : Int) (v2_12 : (List TH)) (v2_13 v2_14 v2_15 : Int) (v2_16 : (List V3)) (v2_17 : Bool) (v2_18 : Int) : DS := ⟨[none, none, none, some (.t (.c (.p 3 0))), none, none, none, none, some (.t (.c (.p 8 0))), none, none, none, none, none, none, some (.t (.c (.p 15 0))), none, some (.t (.c (.p 17 0))), none, none, none, none, none, some (.t (.c (.sl 3 v2_16.length (plsC v2_16)))), none, none, none, some (.t (.c (.v (.bool v2_17)))), some (.t (.c (.v (.int .i64 v2_18)))), none, none, none, none, none, none, none, none, none, none, none, none, none, none, none, none, none, none, none, none, none, none, none, none, none, none, none, none, none, none, none, none, none, none, none, none, none, none, none, none, none, none, none, none, none, none, none, none, none, none, none, none, none, none, none, none, none, none, none, none, none, none, none, none, none, none, none, none, none, none, none, none, none, none, none, none, none, none, none, none, none, none, none, none, none, none, none, none, none, none, none, none, none, none, none, none, none, none, none, none, none, none, none, none, none, none, none, none, none, none, none, none, none, none, none, none, none, none, none, none, none, none, none, none, none, none, none, none, none, none, none, none, none, none, none, none, none, none, none, none, none, none, none, none, none, none, none, none, none, none, none, none, none, none, none, none, none, none, none, none, none, none, none, none, none, none, none, none, none, none, none, none, none, none, none, none, none, none, none, none, none, none, none, none, none, none, none, none, none, none, none, none, none, none, none, none, none, none, none, none, none, none, none, none, none, none, none, none, none, none, none, none, none, none, none, none, none, none, none, none, none, none, none, none, none, none, none, none, none, none, none, none, none, none, none, none, none, none, none, none, none, none, none, none, none, none, none, none, none, none, none, none, none, none, none, none, none, none, none, none, none, none], [none, none, none, some (.box 47 [.v (.int .i64 m0), .v (.int .i64 m1), .v (.int .i64 m2), .v (.int .i64 m3), .v (.int .i64 m4), .v (.int .i64 m5), .v (.int .i64 m6), .v (.int .i64 m7), .v (.int .i64 m8), .v (.int .i64 m9), .v (.int .i64 mA), .v (.int .i64 mB)]), none, none, none, none, some (.box 23 [.v (.int .i64 v2_13), .v (.int .i64 v2_14), .v (.int .i64 v2_15)]), none, none, none, none, none, none, some (.box 25 [.v (.int .i64 v2_0), .v (.int .i64 v2_1), .v (.int .i64 v2_2), .v (.int .i64 v2_3), .v (.int .i64 v2_4), .v (.int .i64 v2_5)]), none, some (.box 59 [.v (.int .i64 v2_6), .v (.int .i64 v2_7), .v (.int .i64 v2_8), .v (.int .i64 v2_9), .v (.int .i64 v2_10), .v (.int .i64 v2_11), .sl 5 v2_12.length (qi v2_12)]), none, none, none, none, none, none, none, none, none, none, none, none, none, none, none, none, none, none, none, none, none, none, none, none, none, none, none, none, none, none, none, none, none, none, none, none, none, none, none, none, none, none, none, none, none, none, none, none, none, none, none, none, none, none, none, none, none, none, none, none, none, none, none, none, none, none, none, none, none, none, none, none, none, none, none, none, none, none, none, none, none, none, none, none, none, none, none, none, none, none, none, none, none, none, none, none, none, none, none, none, none, none, none, none, none, none, none, none, none, none, none, none, none, none, none, none, none, none, none, none, none, none, none, none, none, none, none, none, none, none, none, none, none, none, none, none, none, none, none, none, none, none, none, none, none, none, none, none, none, none, none, none, none, none, none, none, none, none, none, none, none, none, none, none, none, none, none, none, none, none, none, none, none, none, none, none, none, none, none, none, none, none, none, none, none, none, none, none, none, none, none, none, none, none, none, none, none, none, none, none, none, none, none, none, none, none, none, none, none, none, none, none, none, none, none, none, none, none, none, none, none, none, none, none, none, none, none, none, none, none, none, none, none, none, none, none, none, none, none, none, none, none, none, none, none, none, none, none, none, none, none, none, none, none, none, none, none, none, none, none, none, none, none, none, none, none, none, none, none, none, none, none, none]⟩
def q6z (J : Inv) (m0 m1 m2 m3 m4 m5 m6 m7 m8 m9 mA mB b0 b1 b2 b3 b4 b5 : Int) (pl : List V3) (of : List Int) (post : DV → Prop) : Prop := (fun (Z1 : TM) (Z2 : TB) => (cond (((Z1).err) != (0 : Int)) ((true = true) ∧ ((true = true) ∧ ((true = true) ∧ ((true = true) ∧ (True))))) (cond (((Z2).err) != (0 : Int)) ((true = true) ∧ ((true = true) ∧ ((true = true) ∧ (True)))) (((Z2).lo.inS 20 = true ∧ (Z2).hi.inS 20 = true) ∧ (cond (decide (((Z2).count) > (120 : Int))) ((true = true) ∧ ((true = true) ∧ (True))) (cond (decide (((pl.length : Nat) : Int) > (6 : Int))) ((true = true) ∧ (True)) (True)))))) ∧ (lt ((bif (((Z1).err) != (0 : Int)) then true else (bif (((Z2).err) != (0 : Int)) then true else (bif decide (((Z2).count) > (120 : Int)) then true else (bif decide (((pl.length : Nat) : Int) > (6 : Int)) then true else (((of.length : Nat) : Int) == (0 : Int))))))) fun x1 => cond x1 (post (.t (.c (.v (.bool true))))) (((Z2).lo.inS 20 = true ∧ (Z2).hi.inS 20 = true ∧ (Z2).ok) ∧ (cond (((((Z1).steps Z2).length : Nat) : Int) == (0 : Int)) (post (.t (.c (.v (.bool true))))) ((0 ≤ (0 : Int) ∧ (0 : Int) < ((of.length : Nat) : Int)) ∧ (lt (mdF (of.getD 0 0) ((((Z1).steps Z2).length : Nat) : Int)) fun x2 => ((((((Z1).steps Z2).length : Nat) : Int)) ≠ 0) ∧ ((0 ≤ x2 ∧ x2 < ((((Z1).steps Z2).length : Nat) : Int)) ∧ ((q0k 24 (([] : List (List CV)).length + ((List.range pl.length).map fun i => fwd ((plsC pl) i) 0 3).length)) ∧ (lt (simE Z1 (plAt ((Z1).steps Z2) x2.toNat) (qa ((([] : List (List CV)) ++ ((List.range pl.length).map fun i => fwd ((plsC pl) i) 0 3)).length) mkPl (genC (([] : List (List CV)) ++ ((List.range pl.length).map fun i => fwd ((plsC pl) i) 0 3))))) fun x3 => (qj 3 ((([] : List (List CV)) ++ ((List.range pl.length).map fun i => fwd ((plsC pl) i) 0 3)).length) (genC (([] : List (List CV)) ++ ((List.range pl.length).map fun i => fwd ((plsC pl) i) 0 3)))) ∧ (cond (x3 != (0 : Int)) ((cond (x3 == (2 : Int)) ((true = true) ∧ (True)) (True)) ∧ (lt ((bif (x3 == (2 : Int)) then true else (x3 == (22 : Int)))) fun x4 => post (.t (.c (.v (.bool x4)))))) ((cond ((((simL Z1 (plAt ((Z1).steps Z2) x2.toNat) (qa ((([] : List (List CV)) ++ ((List.range pl.length).map fun i => fwd ((plsC pl) i) 0 3)).length) mkPl (genC (([] : List (List CV)) ++ ((List.range pl.length).map fun i => fwd ((plsC pl) i) 0 3))))).length : Nat) : Int) != ((pl.length : Nat) : Int)) ((true = true) ∧ (True)) ((qj 5 ((simL Z1 (plAt ((Z1).steps Z2) x2.toNat) (qa ((([] : List (List CV)) ++ ((List.range pl.length).map fun i => fwd ((plsC pl) i) 0 3)).length) mkPl (genC (([] : List (List CV)) ++ ((List.range pl.length).map fun i => fwd ((plsC pl) i) 0 3))))).length) (qi (simL Z1 (plAt ((Z1).steps Z2) x2.toNat) (qa ((([] : List (List CV)) ++ ((List.range pl.length).map fun i => fwd ((plsC pl) i) 0 3)).length) mkPl (genC (([] : List (List CV)) ++ ((List.range pl.length).map fun i => fwd ((plsC pl) i) 0 3))))))) ∧ (True))) ∧ (lt ((bif ((((simL Z1 (plAt ((Z1).steps Z2) x2.toNat) (qa ((([] : List (List CV)) ++ ((List.range pl.length).map fun i => fwd ((plsC pl) i) 0 3)).length) mkPl (genC (([] : List (List CV)) ++ ((List.range pl.length).map fun i => fwd ((plsC pl) i) 0 3))))).length : Nat) : Int) != ((pl.length : Nat) : Int)) then true else ((ql (qa ((simL Z1 (plAt ((Z1).steps Z2) x2.toNat) (qa ((([] : List (List CV)) ++ ((List.range pl.length).map fun i => fwd ((plsC pl) i) 0 3)).length) mkPl (genC (([] : List (List CV)) ++ ((List.range pl.length).map fun i => fwd ((plsC pl) i) 0 3))))).length) qc (qi (simL Z1 (plAt ((Z1).steps Z2) x2.toNat) (qa ((([] : List (List CV)) ++ ((List.range pl.length).map fun i => fwd ((plsC pl) i) 0 3)).length) mkPl (genC (([] : List (List CV)) ++ ((List.range pl.length).map fun i => fwd ((plsC pl) i) 0 3)))))))) != (0 : Int)))) fun x5 => cond x5 (post (.t (.c (.v (.bool false))))) ((qj 5 ((simL Z1 (plAt ((Z1).steps Z2) x2.toNat) (qa ((([] : List (List CV)) ++ ((List.range pl.length).map fun i => fwd ((plsC pl) i) 0 3)).length) mkPl (genC (([] : List (List CV)) ++ ((List.range pl.length).map fun i => fwd ((plsC pl) i) 0 3))))).length) (qi (simL Z1 (plAt ((Z1).steps Z2) x2.toNat) (qa ((([] : List (List CV)) ++ ((List.range pl.length).map fun i => fwd ((plsC pl) i) 0 3)).length) mkPl (genC (([] : List (List CV)) ++ ((List.range pl.length).map fun i => fwd ((plsC pl) i) 0 3)))))) ∧ ((qa ((simL Z1 (plAt ((Z1).steps Z2) x2.toNat) (qa ((([] : List (List CV)) ++ ((List.range pl.length).map fun i => fwd ((plsC pl) i) 0 3)).length) mkPl (genC (([] : List (List CV)) ++ ((List.range pl.length).map fun i => fwd ((plsC pl) i) 0 3))))).length) qc (qi (simL Z1 (plAt ((Z1).steps Z2) x2.toNat) (qa ((([] : List (List CV)) ++ ((List.range pl.length).map fun i => fwd ((plsC pl) i) 0 3)).length) mkPl (genC (([] : List (List CV)) ++ ((List.range pl.length).map fun i => fwd ((plsC pl) i) 0 3)))))))).length ≤ 1000) ∧ (∃ n, J 0 (n :: []) (q2L m0 m1 m2 m3 m4 m5 m6 m7 m8 m9 mA mB b0 b1 b2 b3 b4 b5 pl of ((qa ((simL Z1 (plAt ((Z1).steps Z2) x2.toNat) (qa ((([] : List (List CV)) ++ ((List.range pl.length).map fun i => fwd ((plsC pl) i) 0 3)).length) mkPl (genC (([] : List (List CV)) ++ ((List.range pl.length).map fun i => fwd ((plsC pl) i) 0 3))))).length) qc (qi (simL Z1 (plAt ((Z1).steps Z2) x2.toNat) (qa ((([] : List (List CV)) ++ ((List.range pl.length).map fun i => fwd ((plsC pl) i) 0 3)).length) mkPl (genC (([] : List (List CV)) ++ ((List.range pl.length).map fun i => fwd ((plsC pl) i) 0 3))))))).map qf) ((plAt ((Z1).steps Z2) x2.toNat).x) ((plAt ((Z1).steps Z2) x2.toNat).y) ((plAt ((Z1).steps Z2) x2.toNat).z) 0))))))))))))))) (TM.mk m0 m1 m2 m3 m4 m5 m6 m7 m8 m9 mA mB) (TB.mk (.mk b0 b1 b2) (.mk b3 b4 b5))
def q0s : Ann := ⟨fun r => qr r [(9, ([[], [], [], [], [3], [2, 3, 4], [0, 1, 2, 3, 4, 5], [0, 1, 2, 3, 4, 5, 6], [0, 1, 2, 3, 4, 5, 6, 7], [0, 1, 2, 3, 4, 5, 6, 7], [0, 1, 2, 3, 4, 5, 6, 7, 8], [0, 1, 2, 3, 4, 5, 6, 7, 8, 9, 10]], [[79, 82, 83], [79, 82, 83], [83], [79, 83], [79, 83], [9999, 79, 82], [], [], [], [], [], []])), (18, ([[], [], [], [], [2, 3], [2, 3, 4], [2, 3, 4, 5], [], [7], [2, 3, 4, 5, 6, 7, 8], [], [10], [], [], [13], [13, 14], [12, 13, 14, 15], [10, 11, 12, 13, 14, 15, 16], [10, 11, 12, 13, 14, 15, 16, 17], [], [19], [], [21], [19, 20, 21, 22], [19, 20, 21, 22, 23], [10, 11, 12, 13, 14, 15, 16, 17, 18, 19, 20, 21, 22, 23, 24], [2, 3, 4, 5, 6, 7, 8, 9, 10, 11, 12, 13, 14, 15, 16, 17, 18, 19, 20, 21, 22, 23, 24, 25], [0, 1, 2, 3, 4, 5, 6, 7, 8, 9, 10, 11, 12, 13, 14, 15, 16, 17, 18, 19, 20, 21, 22, 23, 24, 25, 26], [0, 1, 2, 3, 4, 5, 6, 7, 8, 9, 10, 11, 12, 13, 14, 15, 16, 17, 18, 19, 20, 21, 22, 23, 24, 25, 26, 27], [0, 1, 2, 3, 4, 5, 6, 7, 8, 9, 10, 11, 12, 13, 14, 15, 16, 17, 18, 19, 20, 21, 22, 23, 24, 25, 26, 27, 28]], [[138], [138], [138], [138], [138], [138], [138], [138], [138], [138], [138], [138], [138], [138], [138], [138], [138], [138], [138], [138], [138], [138], [138], [138], [138], [], [], [], [], []])), (27, ([[], [], [], [2], [0, 1, 2, 3], [0, 1, 2, 3, 4], [0, 1, 2, 3, 4, 5], [0, 1, 2, 3, 4, 5], [0, 1, 2, 3, 4, 5, 6], [0, 1, 2, 3, 4, 5, 6, 7, 8]], [[188, 189], [188, 189], [188, 189], [189], [], [], [], [], [], []])), (28, ([[], [], [], [2], [0, 1, 2, 3], [0, 1, 2, 3, 4], [0, 1, 2, 3, 4, 5], [0, 1, 2, 3, 4, 5], [0, 1, 2, 3, 4, 5], [], [0, 1, 2, 3, 4, 5, 6, 9], [0, 1, 2, 3, 4, 5, 6, 7, 9, 10], [0, 1, 2, 3, 4, 5, 6, 7, 8, 9, 10, 11]], [[196, 197, 20], [196, 197, 20], [196, 197, 20], [197, 20], [20], [20], [20], [20], [20], [196, 197], [], [], []])), (29, ([[], [], [1], [0, 1, 2], [0, 1, 2, 3], [0, 1, 2, 3, 4], [0, 1, 2, 3, 4], [0, 1, 2, 3, 4, 5], [0, 1, 2, 3, 4, 5, 6, 7]], [[204, 205], [204, 205], [205], [], [], [], [], [], []])), (30, ([[], [], [], [2], [0, 1, 2, 3], [0, 1, 2, 3, 4], [0, 1, 2, 3, 4, 5], [0, 1, 2, 3, 4, 5], [], [0, 1, 2, 3, 4, 5, 6, 8], [0, 1, 2, 3, 4, 5, 6, 7, 8, 9]], [[212, 213, 25], [212, 213, 25], [212, 213, 25], [213, 25], [25], [25], [25], [25], [212, 213], [], []])), (37, ([[], [0], [0, 1], [0, 1], [0, 1, 2, 3], [0, 1, 2, 3, 4], [0, 1], [0, 1, 2, 3, 4, 5, 6], [0, 1, 2, 3, 4, 5, 6, 7], [0, 1, 2, 3, 4, 5, 6, 7, 8]], [[], [], [], [], [], [], [], [], [], []])), (38, ([[], [], [1], [0, 1, 2], [0, 1, 2, 3], [0, 1, 2, 3, 4], [0, 1, 2, 3, 4], [0, 1, 2, 3, 4, 5], [0, 1, 2, 3, 4, 5, 6, 7]], [[268, 269], [268, 269], [269], [], [], [], [], [], []])), (39, ([[], [], [1], [], [3], [3, 4], [0, 1, 2, 3, 4, 5], [0, 1, 2, 3, 4, 5, 6], [0, 1, 2, 3, 4, 5, 6, 7], [0, 1, 2, 3, 4, 5, 6, 7], [0, 1, 2, 3, 4, 5, 6, 7, 8], [0, 1, 2, 3, 4, 5, 6, 7, 8, 9, 10]], [[275, 277, 279], [275, 277, 279], [277, 279], [275, 277, 279], [275, 279], [275, 279], [], [], [], [], [], []]))], fun b => qr b [(0, (none, some ⟨[3, 4, 5, 7, 8, 12], [3, 4, 5, 8], [(11, .gen 57 5 [])]⟩)), (2, (none, some ⟨[3, 8, 15, 17, 23, 27, 28], [3, 8, 15, 17], []⟩))], fun _ => [], Ikv64, false, fun r => qr r [(3, (4, [59])), (11, (3, [6])), (12, (7, [104])), (24, (3, [180])), (37, (2, [27])), (40, (2, [6]))], fun _ => none⟩
theorem qbX : okFn q0s Tryz.f4 = true := by kernel_rfl
def q5D (J : Inv) (m0 m1 m2 m3 m4 m5 m6 m7 m8 m9 mA mB b0 b1 b2 b3 b4 b5 : Int) (pl : List V3) (of : List Int) (v0_0 : List (List CV)) (v0_1 v0_2 v0_3 v0_4 : Int) (nn0 : Nat) (post : DV → Prop) : Prop := (fun (Z1 : TM) (Z2 : TB) => cond (decide (v0_4 < ((v0_0.length : Nat) : Int))) ((0 ≤ v0_4 ∧ v0_4 < ((v0_0.length : Nat) : Int)) ∧ (((v0_4).toNat < v0_0.length ∧ (((genC v0_0 (v0_4).toNat 3) = .v (.int .i64 (qb (genC v0_0 (v0_4).toNat 3)))) ∧ (True))) ∧ (lt (IntKind.i64.wrap ((qb (genC v0_0 (v0_4).toNat 3)) - m8)) fun x1 => lt (Int.tmod v0_4 ((of.length : Nat) : Int)) fun x2 => (IntKind.i64 = IntKind.i64 ∧ ((of.length : Nat) : Int) ≠ 0) ∧ ((0 ≤ x2 ∧ x2 < ((of.length : Nat) : Int)) ∧ (lt (IntKind.i64.wrap (m8 + m9)) fun x3 => lt (IntKind.i64.wrap (x3 + (1 : Int))) fun x4 => lt (mdF (of.getD x2.toNat 0) x4) fun x5 => ((x4) ≠ 0) ∧ (lt (IntKind.i64.wrap (x1 + x5)) fun x6 => (0 ≤ v0_4 ∧ v0_4 < ((v0_0.length : Nat) : Int)) ∧ (((v0_4).toNat < v0_0.length) ∧ (lt (IntKind.i64.wrap ((1 : Int) + v0_4)) fun x7 => (0 ≤ v0_4 ∧ v0_4 < (((v0_0.set (v0_4).toNat (put (v0_0.getD (v0_4).toNat []) 3 [.v (.int .i64 x6)])).length : Nat) : Int)) ∧ (((v0_4).toNat < (v0_0.set (v0_4).toNat (put (v0_0.getD (v0_4).toNat []) 3 [.v (.int .i64 x6)])).length) ∧ (lt (IntKind.i64.wrap (v0_4 + (1 : Int))) fun x8 => J 0 (nn0 :: []) (q2L m0 m1 m2 m3 m4 m5 m6 m7 m8 m9 mA mB b0 b1 b2 b3 b4 b5 pl of ((v0_0.set (v0_4).toNat (put (v0_0.getD (v0_4).toNat []) 3 [.v (.int .i64 x6)])).set (v0_4).toNat (put ((v0_0.set (v0_4).toNat (put (v0_0.getD (v0_4).toNat []) 3 [.v (.int .i64 x6)])).getD (v0_4).toNat []) 4 [.v (.int .i64 x7)])) v0_1 v0_2 v0_3 x8))))))))))) ((qj 5 v0_0.length (genC v0_0)) ∧ (cond ((ql (qa v0_0.length qc (genC v0_0))) != (0 : Int)) (post (.t (.c (.v (.bool true))))) ((qj 5 v0_0.length (genC v0_0) ∧ ((qa v0_0.length qc (genC v0_0))).length ≤ 1000) ∧ ((qj 5 (((qa v0_0.length qc (genC v0_0)).map qf).length) (genC ((qa v0_0.length qc (genC v0_0)).map qf)) ∧ ((qa (((qa v0_0.length qc (genC v0_0)).map qf).length) qc (genC ((qa v0_0.length qc (genC v0_0)).map qf)))).length ≤ 14 ∧ ∀ k, k < ((qa (((qa v0_0.length qc (genC v0_0)).map qf).length) qc (genC ((qa v0_0.length qc (genC v0_0)).map qf)))).length → rgH (qe (qa (((qa v0_0.length qc (genC v0_0)).map qf).length) qc (genC ((qa v0_0.length qc (genC v0_0)).map qf))) k)) ∧ (lt (phE (qm (qa (((qa v0_0.length qc (genC v0_0)).map qf).length) qc (genC ((qa v0_0.length qc (genC v0_0)).map qf))))) fun x9 => (((qm (qa (((qa v0_0.length qc (genC v0_0)).map qf).length) qc (genC ((qa v0_0.length qc (genC v0_0)).map qf))))).size ≤ 100000000) ∧ ((rgB Z2) ∧ (lt ((pbX (boxT Z2)).lo.x) fun x10 => lt ((pbX (boxT Z2)).lo.y) fun x11 => lt ((pbX (boxT Z2)).lo.z) fun x12 => lt ((pbX (boxT Z2)).hi.x) fun x13 => lt ((pbX (boxT Z2)).hi.y) fun x14 => lt ((pbX (boxT Z2)).hi.z) fun x15 => lt (pbE (boxT Z2)) fun x16 => (((boxT Z2)).size ≤ 100000000) ∧ ((cond (x9 != (0 : Int)) ((true = true) ∧ ((true = true) ∧ ((true = true) ∧ (True)))) ((qj 5 ((phL (qm (qa (((qa v0_0.length qc (genC v0_0)).map qf).length) qc (genC ((qa v0_0.length qc (genC v0_0)).map qf))))).length) (qi (phL (qm (qa (((qa v0_0.length qc (genC v0_0)).map qf).length) qc (genC ((qa v0_0.length qc (genC v0_0)).map qf)))))) ∧ qj 5 v0_0.length (genC v0_0) ∧ ((qa ((phL (qm (qa (((qa v0_0.length qc (genC v0_0)).map qf).length) qc (genC ((qa v0_0.length qc (genC v0_0)).map qf))))).length) qc (qi (phL (qm (qa (((qa v0_0.length qc (genC v0_0)).map qf).length) qc (genC ((qa v0_0.length qc (genC v0_0)).map qf)))))))).length ≤ 1000000) ∧ (cond (!(decide ((qa ((phL (qm (qa (((qa v0_0.length qc (genC v0_0)).map qf).length) qc (genC ((qa v0_0.length qc (genC v0_0)).map qf))))).length) qc (qi (phL (qm (qa (((qa v0_0.length qc (genC v0_0)).map qf).length) qc (genC ((qa v0_0.length qc (genC v0_0)).map qf))))))) = (qa v0_0.length qc (genC v0_0))))) ((true = true) ∧ ((true = true) ∧ (True))) (cond (x16 != (0 : Int)) ((true = true) ∧ (True)) (True))))) ∧ (lt ((bif (x9 != (0 : Int)) then true else (bif (!(decide ((qa ((phL (qm (qa (((qa v0_0.length qc (genC v0_0)).map qf).length) qc (genC ((qa v0_0.length qc (genC v0_0)).map qf))))).length) qc (qi (phL (qm (qa (((qa v0_0.length qc (genC v0_0)).map qf).length) qc (genC ((qa v0_0.length qc (genC v0_0)).map qf))))))) = (qa v0_0.length qc (genC v0_0))))) then true else (bif (x16 != (0 : Int)) then true else (!(bif (bif (x10 == b0) then (bif (x11 == b1) then (bif (x12 == b2) then true else false) else false) else false) then (bif (bif (x13 == b3) then (bif (x14 == b4) then (bif (x15 == b5) then true else false) else false) else false) then true else false) else false)))))) fun x17 => cond x17 (post (.t (.c (.v (.bool false))))) ((qj 5 ((phL (qm (qa (((qa v0_0.length qc (genC v0_0)).map qf).length) qc (genC ((qa v0_0.length qc (genC v0_0)).map qf))))).length) (qi (phL (qm (qa (((qa v0_0.length qc (genC v0_0)).map qf).length) qc (genC ((qa v0_0.length qc (genC v0_0)).map qf)))))) ∧ ((qa ((phL (qm (qa (((qa v0_0.length qc (genC v0_0)).map qf).length) qc (genC ((qa v0_0.length qc (genC v0_0)).map qf))))).length) qc (qi (phL (qm (qa (((qa v0_0.length qc (genC v0_0)).map qf).length) qc (genC ((qa v0_0.length qc (genC v0_0)).map qf)))))))).length ≤ 1000) ∧ (lt ((Z1).sV (V3.mk v0_1 v0_2 v0_3) (qa (((qa ((phL (qm (qa (((qa v0_0.length qc (genC v0_0)).map qf).length) qc (genC ((qa v0_0.length qc (genC v0_0)).map qf))))).length) qc (qi (phL (qm (qa (((qa v0_0.length qc (genC v0_0)).map qf).length) qc (genC ((qa v0_0.length qc (genC v0_0)).map qf))))))).map qf).length) qc (genC ((qa ((phL (qm (qa (((qa v0_0.length qc (genC v0_0)).map qf).length) qc (genC ((qa v0_0.length qc (genC v0_0)).map qf))))).length) qc (qi (phL (qm (qa (((qa v0_0.length qc (genC v0_0)).map qf).length) qc (genC ((qa v0_0.length qc (genC v0_0)).map qf))))))).map qf)))) fun x18 => lt ((Z1).sE (V3.mk v0_1 v0_2 v0_3) (qa (((qa ((phL (qm (qa (((qa v0_0.length qc (genC v0_0)).map qf).length) qc (genC ((qa v0_0.length qc (genC v0_0)).map qf))))).length) qc (qi (phL (qm (qa (((qa v0_0.length qc (genC v0_0)).map qf).length) qc (genC ((qa v0_0.length qc (genC v0_0)).map qf))))))).map qf).length) qc (genC ((qa ((phL (qm (qa (((qa v0_0.length qc (genC v0_0)).map qf).length) qc (genC ((qa v0_0.length qc (genC v0_0)).map qf))))).length) qc (qi (phL (qm (qa (((qa v0_0.length qc (genC v0_0)).map qf).length) qc (genC ((qa v0_0.length qc (genC v0_0)).map qf))))))).map qf)))) fun x19 => (qj 5 (((qa ((phL (qm (qa (((qa v0_0.length qc (genC v0_0)).map qf).length) qc (genC ((qa v0_0.length qc (genC v0_0)).map qf))))).length) qc (qi (phL (qm (qa (((qa v0_0.length qc (genC v0_0)).map qf).length) qc (genC ((qa v0_0.length qc (genC v0_0)).map qf))))))).map qf).length) (genC ((qa ((phL (qm (qa (((qa v0_0.length qc (genC v0_0)).map qf).length) qc (genC ((qa v0_0.length qc (genC v0_0)).map qf))))).length) qc (qi (phL (qm (qa (((qa v0_0.length qc (genC v0_0)).map qf).length) qc (genC ((qa v0_0.length qc (genC v0_0)).map qf))))))).map qf))) ∧ ((qj 5 ((phL (qm (qa (((qa v0_0.length qc (genC v0_0)).map qf).length) qc (genC ((qa v0_0.length qc (genC v0_0)).map qf))))).length) (qi (phL (qm (qa (((qa v0_0.length qc (genC v0_0)).map qf).length) qc (genC ((qa v0_0.length qc (genC v0_0)).map qf)))))) ∧ ((qa ((phL (qm (qa (((qa v0_0.length qc (genC v0_0)).map qf).length) qc (genC ((qa v0_0.length qc (genC v0_0)).map qf))))).length) qc (qi (phL (qm (qa (((qa v0_0.length qc (genC v0_0)).map qf).length) qc (genC ((qa v0_0.length qc (genC v0_0)).map qf)))))))).length ≤ 1000) ∧ (lt ((biV Z1 (TB.mk (.mk x10 x11 x12) (.mk x13 x14 x15)) (qa (((qa ((phL (qm (qa (((qa v0_0.length qc (genC v0_0)).map qf).length) qc (genC ((qa v0_0.length qc (genC v0_0)).map qf))))).length) qc (qi (phL (qm (qa (((qa v0_0.length qc (genC v0_0)).map qf).length) qc (genC ((qa v0_0.length qc (genC v0_0)).map qf))))))).map qf).length) qc (genC ((qa ((phL (qm (qa (((qa v0_0.length qc (genC v0_0)).map qf).length) qc (genC ((qa v0_0.length qc (genC v0_0)).map qf))))).length) qc (qi (phL (qm (qa (((qa v0_0.length qc (genC v0_0)).map qf).length) qc (genC ((qa v0_0.length qc (genC v0_0)).map qf))))))).map qf)))).x) fun x20 => lt ((biV Z1 (TB.mk (.mk x10 x11 x12) (.mk x13 x14 x15)) (qa (((qa ((phL (qm (qa (((qa v0_0.length qc (genC v0_0)).map qf).length) qc (genC ((qa v0_0.length qc (genC v0_0)).map qf))))).length) qc (qi (phL (qm (qa (((qa v0_0.length qc (genC v0_0)).map qf).length) qc (genC ((qa v0_0.length qc (genC v0_0)).map qf))))))).map qf).length) qc (genC ((qa ((phL (qm (qa (((qa v0_0.length qc (genC v0_0)).map qf).length) qc (genC ((qa v0_0.length qc (genC v0_0)).map qf))))).length) qc (qi (phL (qm (qa (((qa v0_0.length qc (genC v0_0)).map qf).length) qc (genC ((qa v0_0.length qc (genC v0_0)).map qf))))))).map qf)))).y) fun x21 => lt ((biV Z1 (TB.mk (.mk x10 x11 x12) (.mk x13 x14 x15)) (qa (((qa ((phL (qm (qa (((qa v0_0.length qc (genC v0_0)).map qf).length) qc (genC ((qa v0_0.length qc (genC v0_0)).map qf))))).length) qc (qi (phL (qm (qa (((qa v0_0.length qc (genC v0_0)).map qf).length) qc (genC ((qa v0_0.length qc (genC v0_0)).map qf))))))).map qf).length) qc (genC ((qa ((phL (qm (qa (((qa v0_0.length qc (genC v0_0)).map qf).length) qc (genC ((qa v0_0.length qc (genC v0_0)).map qf))))).length) qc (qi (phL (qm (qa (((qa v0_0.length qc (genC v0_0)).map qf).length) qc (genC ((qa v0_0.length qc (genC v0_0)).map qf))))))).map qf)))).z) fun x22 => lt (biS Z1 (TB.mk (.mk x10 x11 x12) (.mk x13 x14 x15)) (qa (((qa ((phL (qm (qa (((qa v0_0.length qc (genC v0_0)).map qf).length) qc (genC ((qa v0_0.length qc (genC v0_0)).map qf))))).length) qc (qi (phL (qm (qa (((qa v0_0.length qc (genC v0_0)).map qf).length) qc (genC ((qa v0_0.length qc (genC v0_0)).map qf))))))).map qf).length) qc (genC ((qa ((phL (qm (qa (((qa v0_0.length qc (genC v0_0)).map qf).length) qc (genC ((qa v0_0.length qc (genC v0_0)).map qf))))).length) qc (qi (phL (qm (qa (((qa v0_0.length qc (genC v0_0)).map qf).length) qc (genC ((qa v0_0.length qc (genC v0_0)).map qf))))))).map qf)))) fun x23 => lt (biE Z1 (TB.mk (.mk x10 x11 x12) (.mk x13 x14 x15)) (qa (((qa ((phL (qm (qa (((qa v0_0.length qc (genC v0_0)).map qf).length) qc (genC ((qa v0_0.length qc (genC v0_0)).map qf))))).length) qc (qi (phL (qm (qa (((qa v0_0.length qc (genC v0_0)).map qf).length) qc (genC ((qa v0_0.length qc (genC v0_0)).map qf))))))).map qf).length) qc (genC ((qa ((phL (qm (qa (((qa v0_0.length qc (genC v0_0)).map qf).length) qc (genC ((qa v0_0.length qc (genC v0_0)).map qf))))).length) qc (qi (phL (qm (qa (((qa v0_0.length qc (genC v0_0)).map qf).length) qc (genC ((qa v0_0.length qc (genC v0_0)).map qf))))))).map qf)))) fun x24 => (qj 5 (((qa ((phL (qm (qa (((qa v0_0.length qc (genC v0_0)).map qf).length) qc (genC ((qa v0_0.length qc (genC v0_0)).map qf))))).length) qc (qi (phL (qm (qa (((qa v0_0.length qc (genC v0_0)).map qf).length) qc (genC ((qa v0_0.length qc (genC v0_0)).map qf))))))).map qf).length) (genC ((qa ((phL (qm (qa (((qa v0_0.length qc (genC v0_0)).map qf).length) qc (genC ((qa v0_0.length qc (genC v0_0)).map qf))))).length) qc (qi (phL (qm (qa (((qa v0_0.length qc (genC v0_0)).map qf).length) qc (genC ((qa v0_0.length qc (genC v0_0)).map qf))))))).map qf))) ∧ ((qj 5 ((phL (qm (qa (((qa v0_0.length qc (genC v0_0)).map qf).length) qc (genC ((qa v0_0.length qc (genC v0_0)).map qf))))).length) (qi (phL (qm (qa (((qa v0_0.length qc (genC v0_0)).map qf).length) qc (genC ((qa v0_0.length qc (genC v0_0)).map qf)))))) ∧ ((qa ((phL (qm (qa (((qa v0_0.length qc (genC v0_0)).map qf).length) qc (genC ((qa v0_0.length qc (genC v0_0)).map qf))))).length) qc (qi (phL (qm (qa (((qa v0_0.length qc (genC v0_0)).map qf).length) qc (genC ((qa v0_0.length qc (genC v0_0)).map qf)))))))).length ≤ 1000000) ∧ (lt (cnE Z1 (TB.mk (.mk x10 x11 x12) (.mk x13 x14 x15)) (qa ((qa ((phL (qm (qa (((qa v0_0.length qc (genC v0_0)).map qf).length) qc (genC ((qa v0_0.length qc (genC v0_0)).map qf))))).length) qc (qi (phL (qm (qa (((qa v0_0.length qc (genC v0_0)).map qf).length) qc (genC ((qa v0_0.length qc (genC v0_0)).map qf))))))).length) qc (qi (qa ((phL (qm (qa (((qa v0_0.length qc (genC v0_0)).map qf).length) qc (genC ((qa v0_0.length qc (genC v0_0)).map qf))))).length) qc (qi (phL (qm (qa (((qa v0_0.length qc (genC v0_0)).map qf).length) qc (genC ((qa v0_0.length qc (genC v0_0)).map qf))))))))) (0 : Int)) fun x25 => (qj 5 ((qa ((phL (qm (qa (((qa v0_0.length qc (genC v0_0)).map qf).length) qc (genC ((qa v0_0.length qc (genC v0_0)).map qf))))).length) qc (qi (phL (qm (qa (((qa v0_0.length qc (genC v0_0)).map qf).length) qc (genC ((qa v0_0.length qc (genC v0_0)).map qf))))))).length) (qi (qa ((phL (qm (qa (((qa v0_0.length qc (genC v0_0)).map qf).length) qc (genC ((qa v0_0.length qc (genC v0_0)).map qf))))).length) qc (qi (phL (qm (qa (((qa v0_0.length qc (genC v0_0)).map qf).length) qc (genC ((qa v0_0.length qc (genC v0_0)).map qf))))))))) ∧ ((qj 5 ((phL (qm (qa (((qa v0_0.length qc (genC v0_0)).map qf).length) qc (genC ((qa v0_0.length qc (genC v0_0)).map qf))))).length) (qi (phL (qm (qa (((qa v0_0.length qc (genC v0_0)).map qf).length) qc (genC ((qa v0_0.length qc (genC v0_0)).map qf)))))) ∧ ((qa ((phL (qm (qa (((qa v0_0.length qc (genC v0_0)).map qf).length) qc (genC ((qa v0_0.length qc (genC v0_0)).map qf))))).length) qc (qi (phL (qm (qa (((qa v0_0.length qc (genC v0_0)).map qf).length) qc (genC ((qa v0_0.length qc (genC v0_0)).map qf)))))))).length ≤ 1000) ∧ (lt ((Z1).siL (TB.mk (.mk x10 x11 x12) (.mk x13 x14 x15)) (qa (((qa ((phL (qm (qa (((qa v0_0.length qc (genC v0_0)).map qf).length) qc (genC ((qa v0_0.length qc (genC v0_0)).map qf))))).length) qc (qi (phL (qm (qa (((qa v0_0.length qc (genC v0_0)).map qf).length) qc (genC ((qa v0_0.length qc (genC v0_0)).map qf))))))).map qf).length) qc (genC ((qa ((phL (qm (qa (((qa v0_0.length qc (genC v0_0)).map qf).length) qc (genC ((qa v0_0.length qc (genC v0_0)).map qf))))).length) qc (qi (phL (qm (qa (((qa v0_0.length qc (genC v0_0)).map qf).length) qc (genC ((qa v0_0.length qc (genC v0_0)).map qf))))))).map qf)))) fun x26 => lt ((Z1).siH (TB.mk (.mk x10 x11 x12) (.mk x13 x14 x15)) (qa (((qa ((phL (qm (qa (((qa v0_0.length qc (genC v0_0)).map qf).length) qc (genC ((qa v0_0.length qc (genC v0_0)).map qf))))).length) qc (qi (phL (qm (qa (((qa v0_0.length qc (genC v0_0)).map qf).length) qc (genC ((qa v0_0.length qc (genC v0_0)).map qf))))))).map qf).length) qc (genC ((qa ((phL (qm (qa (((qa v0_0.length qc (genC v0_0)).map qf).length) qc (genC ((qa v0_0.length qc (genC v0_0)).map qf))))).length) qc (qi (phL (qm (qa (((qa v0_0.length qc (genC v0_0)).map qf).length) qc (genC ((qa v0_0.length qc (genC v0_0)).map qf))))))).map qf)))) fun x27 => lt ((Z1).siE (TB.mk (.mk x10 x11 x12) (.mk x13 x14 x15)) (qa (((qa ((phL (qm (qa (((qa v0_0.length qc (genC v0_0)).map qf).length) qc (genC ((qa v0_0.length qc (genC v0_0)).map qf))))).length) qc (qi (phL (qm (qa (((qa v0_0.length qc (genC v0_0)).map qf).length) qc (genC ((qa v0_0.length qc (genC v0_0)).map qf))))))).map qf).length) qc (genC ((qa ((phL (qm (qa (((qa v0_0.length qc (genC v0_0)).map qf).length) qc (genC ((qa v0_0.length qc (genC v0_0)).map qf))))).length) qc (qi (phL (qm (qa (((qa v0_0.length qc (genC v0_0)).map qf).length) qc (genC ((qa v0_0.length qc (genC v0_0)).map qf))))))).map qf)))) fun x28 => (qj 5 (((qa ((phL (qm (qa (((qa v0_0.length qc (genC v0_0)).map qf).length) qc (genC ((qa v0_0.length qc (genC v0_0)).map qf))))).length) qc (qi (phL (qm (qa (((qa v0_0.length qc (genC v0_0)).map qf).length) qc (genC ((qa v0_0.length qc (genC v0_0)).map qf))))))).map qf).length) (genC ((qa ((phL (qm (qa (((qa v0_0.length qc (genC v0_0)).map qf).length) qc (genC ((qa v0_0.length qc (genC v0_0)).map qf))))).length) qc (qi (phL (qm (qa (((qa v0_0.length qc (genC v0_0)).map qf).length) qc (genC ((qa v0_0.length qc (genC v0_0)).map qf))))))).map qf))) ∧ (cond (x19 != (0 : Int)) ((true = true) ∧ ((true = true) ∧ ((true = true) ∧ ((true = true) ∧ ((true = true) ∧ ((true = true) ∧ ((true = true) ∧ (post (.t (.c (.v (.bool false)))))))))))) (cond (x18 != (0 : Int)) ((true = true) ∧ ((true = true) ∧ ((true = true) ∧ ((true = true) ∧ ((true = true) ∧ ((true = true) ∧ (post (.t (.c (.v (.bool false))))))))))) (cond (x24 != (0 : Int)) ((true = true) ∧ ((true = true) ∧ ((true = true) ∧ ((true = true) ∧ ((true = true) ∧ (post (.t (.c (.v (.bool false)))))))))) (cond (x23 != (0 : Int)) ((true = true) ∧ ((true = true) ∧ ((true = true) ∧ ((true = true) ∧ (post (.t (.c (.v (.bool false))))))))) (cond (x25 != (0 : Int)) ((true = true) ∧ ((true = true) ∧ ((true = true) ∧ (post (.t (.c (.v (.bool false)))))))) (cond (decide ((((cnL Z1 (TB.mk (.mk x10 x11 x12) (.mk x13 x14 x15)) (qa ((qa ((phL (qm (qa (((qa v0_0.length qc (genC v0_0)).map qf).length) qc (genC ((qa v0_0.length qc (genC v0_0)).map qf))))).length) qc (qi (phL (qm (qa (((qa v0_0.length qc (genC v0_0)).map qf).length) qc (genC ((qa v0_0.length qc (genC v0_0)).map qf))))))).length) qc (qi (qa ((phL (qm (qa (((qa v0_0.length qc (genC v0_0)).map qf).length) qc (genC ((qa v0_0.length qc (genC v0_0)).map qf))))).length) qc (qi (phL (qm (qa (((qa v0_0.length qc (genC v0_0)).map qf).length) qc (genC ((qa v0_0.length qc (genC v0_0)).map qf))))))))) (0 : Int)).length : Nat) : Int) > ((((Z1).steps Z2).length : Nat) : Int))) ((true = true) ∧ ((true = true) ∧ (post (.t (.c (.v (.bool false))))))) (cond (x28 != (0 : Int)) ((true = true) ∧ (post (.t (.c (.v (.bool false)))))) (cond (decide (x26 > (0 : Int))) (post (.t (.c (.v (.bool false))))) (∃ n, J 2 (n :: []) (q2M m0 m1 m2 m3 m4 m5 m6 m7 m8 m9 mA mB b0 b1 b2 b3 b4 b5 pl of x10 x11 x12 x13 x14 x15 x10 x11 x12 x13 x14 x15 (phL (qm (qa (((qa v0_0.length qc (genC v0_0)).map qf).length) qc (genC ((qa v0_0.length qc (genC v0_0)).map qf))))) v0_1 v0_2 v0_3 (cnL Z1 (TB.mk (.mk x10 x11 x12) (.mk x13 x14 x15)) (qa ((qa ((phL (qm (qa (((qa v0_0.length qc (genC v0_0)).map qf).length) qc (genC ((qa v0_0.length qc (genC v0_0)).map qf))))).length) qc (qi (phL (qm (qa (((qa v0_0.length qc (genC v0_0)).map qf).length) qc (genC ((qa v0_0.length qc (genC v0_0)).map qf))))))).length) qc (qi (qa ((phL (qm (qa (((qa v0_0.length qc (genC v0_0)).map qf).length) qc (genC ((qa v0_0.length qc (genC v0_0)).map qf))))).length) qc (qi (phL (qm (qa (((qa v0_0.length qc (genC v0_0)).map qf).length) qc (genC ((qa v0_0.length qc (genC v0_0)).map qf))))))))) (0 : Int)) false 0)))))))))))))))))))))))))))) (TM.mk m0 m1 m2 m3 m4 m5 m6 m7 m8 m9 mA mB) (TB.mk (.mk b0 b1 b2) (.mk b3 b4 b5))
def q5E (J : Inv) (m0 m1 m2 m3 m4 m5 m6 m7 m8 m9 mA mB b0 b1 b2 b3 b4 b5 : Int) (pl : List V3) (of : List Int) (v2_0 v2_1 v2_2 v2_3 v2_4 v2_5 v2_6 v2_7 v2_8 v2_9 v2_10 v2_11 : Int) (v2_12 : (List TH)) (v2_13 v2_14 v2_15 : Int) (v2_16 : (List V3)) (v2_17 : Bool) (v2_18 : Int) (nn2 : Nat) (post : DV → Prop) : Prop := (fun (Z1 : TM) (Z2 : TB) (Z3 : List TH) => cond (decide (v2_18 < ((v2_16.length : Nat) : Int))) ((cond v2_17 ((true = true) ∧ (True)) ((0 ≤ v2_18 ∧ v2_18 < ((v2_16.length : Nat) : Int)) ∧ (True))) ∧ (lt ((bif v2_17 then true else (bif (((plAt v2_16 v2_18.toNat).x) == v2_13) then (bif (((plAt v2_16 v2_18.toNat).y) == v2_14) then (bif (((plAt v2_16 v2_18.toNat).z) == v2_15) then true else false) else false) else false))) fun x1 => lt (IntKind.i64.wrap (v2_18 + (1 : Int))) fun x2 => J 2 (nn2 :: []) (q2M m0 m1 m2 m3 m4 m5 m6 m7 m8 m9 mA mB b0 b1 b2 b3 b4 b5 pl of v2_0 v2_1 v2_2 v2_3 v2_4 v2_5 v2_6 v2_7 v2_8 v2_9 v2_10 v2_11 v2_12 v2_13 v2_14 v2_15 v2_16 x1 x2))) ((qj 5 v2_12.length (qi v2_12) ∧ (Z3).length ≤ 1000000) ∧ (lt (if qd [qd [(Z1).err, (Z2).err], ql (qa (Z3.length) qc (qi Z3))] = 0 then unl (covR Z1 (qa (Z3.length) qc (qi Z3)) (1 : Int) Z2).2 12 else qd [qd [(Z1).err, (Z2).err], ql (qa (Z3.length) qc (qi Z3))]) fun x3 => (qj 5 (Z3.length) (qi Z3)) ∧ ((qj 5 v2_12.length (qi v2_12) ∧ (Z3).length ≤ 1000000) ∧ (lt ((cvR Z1 Z2 (qa (Z3.length) qc (qi Z3)) (qa 1 mkBx (genC [[.v (.int .i64 v2_0), .v (.int .i64 v2_1), .v (.int .i64 v2_2), .v (.int .i64 v2_3), .v (.int .i64 v2_4), .v (.int .i64 v2_5)]])) (1 : Int)).1) fun x4 => lt ((cvR Z1 Z2 (qa (Z3.length) qc (qi Z3)) (qa 1 mkBx (genC [[.v (.int .i64 v2_0), .v (.int .i64 v2_1), .v (.int .i64 v2_2), .v (.int .i64 v2_3), .v (.int .i64 v2_4), .v (.int .i64 v2_5)]])) (1 : Int)).2) fun x5 => (qj 5 (Z3.length) (qi Z3) ∧ qj 6 1 (genC [[.v (.int .i64 v2_0), .v (.int .i64 v2_1), .v (.int .i64 v2_2), .v (.int .i64 v2_3), .v (.int .i64 v2_4), .v (.int .i64 v2_5)]])) ∧ ((cond v2_17 (cond (x3 == (12 : Int)) (True) ((false = false) ∧ (True))) ((false = false) ∧ ((false = false) ∧ (True)))) ∧ (lt ((bif v2_17 then (bif (x3 == (12 : Int)) then (x5 == (19 : Int)) else false) else false)) fun x6 => post (.t (.c (.v (.bool x6))))))))))) (TM.mk m0 m1 m2 m3 m4 m5 m6 m7 m8 m9 mA mB) (TB.mk (.mk v2_6 v2_7 v2_8) (.mk v2_9 v2_10 v2_11)) (qa v2_12.length qc (qi v2_12))
theorem qcC (J : Inv) (post : DV → Prop) : AllG J (qz Tryz.prog tab Slt108 q0s J Tryz.f4 post) = (((∀ F s, ¬ J 0 (0 :: F) s) ∧ ∀ n F s, J 0 ((n + 1) :: F) s → round Tryz.prog tab Slt108 q0s J Tryz.f4 post 0 (n :: F) s) ∧ ((∀ F s, ¬ J 2 (0 :: F) s) ∧ ∀ n F s, J 2 ((n + 1) :: F) s → round Tryz.prog tab Slt108 q0s J Tryz.f4 post 1 (n :: F) s) ∧ True) := by kernel_rfl
def q0M (m0 m1 m2 m3 m4 m5 m6 m7 m8 m9 mA mB b0 b1 b2 b3 b4 b5 : Int) (pl : List V3) (of : List Int) : Inv := fun b F s => match b, F with
 | 0, [nn0] => ∃ (v0_0 : List (List CV)) (v0_1 : Int) (v0_2 : Int) (v0_3 : Int) (v0_4 : Int), s = q2L m0 m1 m2 m3 m4 m5 m6 m7 m8 m9 mA mB b0 b1 b2 b3 b4 b5 pl of v0_0 v0_1 v0_2 v0_3 v0_4 ∧ (TC (TM.mk m0 m1 m2 m3 m4 m5 m6 m7 m8 m9 mA mB) (TB.mk (.mk b0 b1 b2) (.mk b3 b4 b5)) pl of ⟨v0_1, v0_2, v0_3⟩ ∧ v0_0 = (stgL (late (TM.mk m0 m1 m2 m3 m4 m5 m6 m7 m8 m9 mA mB) of) (q2h (TM.mk m0 m1 m2 m3 m4 m5 m6 m7 m8 m9 mA mB) ⟨v0_1, v0_2, v0_3⟩ pl) v0_4.toNat).map qf ∧ 0 ≤ v0_4 ∧ v0_4 ≤ pl.length ∧ (nn0 : Int) + v0_4 = pl.length + 1)
 | 2, [nn2] => ∃ (v2_0 : Int) (v2_1 : Int) (v2_2 : Int) (v2_3 : Int) (v2_4 : Int) (v2_5 : Int) (v2_6 : Int) (v2_7 : Int) (v2_8 : Int) (v2_9 : Int) (v2_10 : Int) (v2_11 : Int) (v2_12 : (List TH)) (v2_13 : Int) (v2_14 : Int) (v2_15 : Int) (v2_16 : (List V3)) (v2_17 : Bool) (v2_18 : Int), s = q2M m0 m1 m2 m3 m4 m5 m6 m7 m8 m9 mA mB b0 b1 b2 b3 b4 b5 pl of v2_0 v2_1 v2_2 v2_3 v2_4 v2_5 v2_6 v2_7 v2_8 v2_9 v2_10 v2_11 v2_12 v2_13 v2_14 v2_15 v2_16 v2_17 v2_18 ∧ (TD (TM.mk m0 m1 m2 m3 m4 m5 m6 m7 m8 m9 mA mB) (TB.mk (.mk b0 b1 b2) (.mk b3 b4 b5)) v2_12 ⟨v2_13, v2_14, v2_15⟩ ∧ (v2_0 = b0 ∧ v2_1 = b1 ∧ v2_2 = b2 ∧ v2_3 = b3 ∧ v2_4 = b4 ∧ v2_5 = b5 ∧ v2_6 = b0 ∧ v2_7 = b1 ∧ v2_8 = b2 ∧ v2_9 = b3 ∧ v2_10 = b4 ∧ v2_11 = b5) ∧ v2_16 = coL (TM.mk m0 m1 m2 m3 m4 m5 m6 m7 m8 m9 mA mB) (TB.mk (.mk b0 b1 b2) (.mk b3 b4 b5)) v2_12 0 ∧ 0 ≤ v2_18 ∧ v2_18 ≤ (coL (TM.mk m0 m1 m2 m3 m4 m5 m6 m7 m8 m9 mA mB) (TB.mk (.mk b0 b1 b2) (.mk b3 b4 b5)) v2_12 0).length ∧ (nn2 : Int) + v2_18 = (coL (TM.mk m0 m1 m2 m3 m4 m5 m6 m7 m8 m9 mA mB) (TB.mk (.mk b0 b1 b2) (.mk b3 b4 b5)) v2_12 0).length + 1 ∧ v2_17 = ((coL (TM.mk m0 m1 m2 m3 m4 m5 m6 m7 m8 m9 mA mB) (TB.mk (.mk b0 b1 b2) (.mk b3 b4 b5)) v2_12 0).take v2_18.toNat).any (fun s => decide (s = ⟨v2_13, v2_14, v2_15⟩)))
 | _, _ => False
set_option maxHeartbeats 8000000 in
theorem qa9 (m0 m1 m2 m3 m4 m5 m6 m7 m8 m9 mA mB b0 b1 b2 b3 b4 b5 : Int) (pl : List V3) (of : List Int) (v0_0 : List (List CV)) (v0_1 v0_2 v0_3 v0_4 : Int) (nn0 : Nat) (hi : TC (TM.mk m0 m1 m2 m3 m4 m5 m6 m7 m8 m9 mA mB) (TB.mk (.mk b0 b1 b2) (.mk b3 b4 b5)) pl of ⟨v0_1, v0_2, v0_3⟩ ∧ v0_0 = (stgL (late (TM.mk m0 m1 m2 m3 m4 m5 m6 m7 m8 m9 mA mB) of) (q2h (TM.mk m0 m1 m2 m3 m4 m5 m6 m7 m8 m9 mA mB) ⟨v0_1, v0_2, v0_3⟩ pl) v0_4.toNat).map qf ∧ 0 ≤ v0_4 ∧ v0_4 ≤ pl.length ∧ ((nn0 + 1) : Int) + v0_4 = pl.length + 1) : q5D (q0M m0 m1 m2 m3 m4 m5 m6 m7 m8 m9 mA mB b0 b1 b2 b3 b4 b5 pl of) m0 m1 m2 m3 m4 m5 m6 m7 m8 m9 mA mB b0 b1 b2 b3 b4 b5 pl of v0_0 v0_1 v0_2 v0_3 v0_4 nn0 (fun r => LeD r (.t (.c (.v (.bool true))))) := by
 obtain ⟨h, ev, i0, i1, i2⟩ := hi
 subst ev
 obtain ⟨k, rfl⟩ : ∃ k : Nat, v0_4 = k := ⟨v0_4.toNat, by omega⟩
 have hk : (k : Int).toNat = k := rfl
 have hl := h.hl
 have hof := h.ho
 have ho := q1g h.hm
 have e8 := ho.ea
 have e9 := ho.la
 simp only at e8 e9
 unfold q5D
 simp only [hk]
 have hn : ((stgL (late (TM.mk m0 m1 m2 m3 m4 m5 m6 m7 m8 m9 mA mB) of) (q2h (TM.mk m0 m1 m2 m3 m4 m5 m6 m7 m8 m9 mA mB) ⟨v0_1, v0_2, v0_3⟩ pl) k).map qf).length = pl.length := by rw [List.length_map, qky, q5o]
 refine qg (fun c => ?_) (fun c => ?_)
 ·have c := of_decide_eq_true c
  rw [hn] at c
  have hlt : k < pl.length := by omega
  have hlt2 : k < (q2h (TM.mk m0 m1 m2 m3 m4 m5 m6 m7 m8 m9 mA mB) ⟨v0_1, v0_2, v0_3⟩ pl).length := by rw [q5o]; exact hlt
  obtain ⟨_, f1, f2⟩ := h.each hlt
  have hg := stgL_get (g := late (TM.mk m0 m1 m2 m3 m4 m5 m6 m7 m8 m9 mA mB) of) hlt2
  rw [qdP hlt] at hg
  have g3 : genC ((stgL (late (TM.mk m0 m1 m2 m3 m4 m5 m6 m7 m8 m9 mA mB) of) (q2h (TM.mk m0 m1 m2 m3 m4 m5 m6 m7 m8 m9 mA mB) ⟨v0_1, v0_2, v0_3⟩ pl) k).map qf) k 3 = .v (.int .i64 (((TM.mk m0 m1 m2 m3 m4 m5 m6 m7 m8 m9 mA mB)).first ⟨v0_1, v0_2, v0_3⟩ (plAt pl k))) := by
   unfold genC
   rw [hg]; rfl
  rw [g3, hg]
  have hm : Int.tmod (k : Int) ((of.length : Nat) : Int) = ((k % of.length : Nat) : Int) := (Int.ofNat_tmod k of.length).symm
  have hmr := Nat.mod_lt k hof
  refine ⟨by omega, ⟨by omega, rfl, trivial⟩, lt_i fun x1 h1 => lt_i fun x2 h2 => ?_⟩
  have h1 : IntKind.i64.wrap (((TM.mk m0 m1 m2 m3 m4 m5 m6 m7 m8 m9 mA mB)).first ⟨v0_1, v0_2, v0_3⟩ (plAt pl k) - m8) = x1 := h1
  rw [wi (by omega)] at h1
  rw [hm] at h2
  subst h2
  rw [show (((k % of.length : Nat) : Int)).toNat = k % of.length from rfl]
  refine ⟨⟨trivial, by omega⟩, by omega, lt_i fun x3 h3 => lt_i fun x4 h4 => lt_i fun x5 h5 => ?_⟩
  rw [wi (by omega)] at h3
  subst h3
  rw [wi (by omega)] at h4
  subst h4
  have q := mdF_rg (c := m8 + m9 + 1) (by omega) (of.getD (k % of.length) 0)
  rw [h5] at q
  refine ⟨by omega, lt_i fun x6 h6 => ⟨by omega, by omega, lt_i fun x7 h7 => ?_⟩⟩
  rw [wi (by omega)] at h6 h7
  have hset : (((stgL (late (TM.mk m0 m1 m2 m3 m4 m5 m6 m7 m8 m9 mA mB) of) (q2h (TM.mk m0 m1 m2 m3 m4 m5 m6 m7 m8 m9 mA mB) ⟨v0_1, v0_2, v0_3⟩ pl) k).map qf).set k (put (qf (q3u (TM.mk m0 m1 m2 m3 m4 m5 m6 m7 m8 m9 mA mB) ⟨v0_1, v0_2, v0_3⟩ (plAt pl k))) 3 [.v (.int .i64 x6)])).getD k [] = put (qf (q3u (TM.mk m0 m1 m2 m3 m4 m5 m6 m7 m8 m9 mA mB) ⟨v0_1, v0_2, v0_3⟩ (plAt pl k))) 3 [.v (.int .i64 x6)] := by
   rw [List.getD_eq_getElem?_getD, List.getElem?_set, if_pos rfl, if_pos (by omega)]; rfl
  rw [List.length_set, hset, List.set_set]
  refine ⟨by omega, by omega, lt_i fun x8 h8 => ?_⟩
  rw [wi (by omega)] at h8
  subst h8
  have hp : put (put (qf (q3u (TM.mk m0 m1 m2 m3 m4 m5 m6 m7 m8 m9 mA mB) ⟨v0_1, v0_2, v0_3⟩ (plAt pl k))) 3 [.v (.int .i64 x6)]) 4 [.v (.int .i64 x7)] = qf (late (TM.mk m0 m1 m2 m3 m4 m5 m6 m7 m8 m9 mA mB) of k (qe (q2h (TM.mk m0 m1 m2 m3 m4 m5 m6 m7 m8 m9 mA mB) ⟨v0_1, v0_2, v0_3⟩ pl) k)) := by
   rw [qdP hlt]
   have e6 : x6 = ((TM.mk m0 m1 m2 m3 m4 m5 m6 m7 m8 m9 mA mB)).first ⟨v0_1, v0_2, v0_3⟩ (plAt pl k) - m8 + mdF (of.getD (k % of.length) 0) (m8 + m9 + 1) := by omega
   rw [e6, ← h7]; rfl
  rw [hp, stgL_set hlt2]
  exact ⟨_, _, _, _, _, rfl, h, by rw [show ((k : Int) + 1).toNat = k + 1 by omega], by omega, by omega, by omega⟩
 ·have c := of_decide_eq_false c
  rw [hn] at c
  obtain rfl : k = pl.length := by omega
  obtain ⟨F, hF⟩ : ∃ F, F = stgL (late (TM.mk m0 m1 m2 m3 m4 m5 m6 m7 m8 m9 mA mB) of) (q2h (TM.mk m0 m1 m2 m3 m4 m5 m6 m7 m8 m9 mA mB) ⟨v0_1, v0_2, v0_3⟩ pl) pl.length := ⟨_, rfl⟩
  have hz : ((TM.mk m0 m1 m2 m3 m4 m5 m6 m7 m8 m9 mA mB)).score ⟨v0_1, v0_2, v0_3⟩ F = 0 := by rw [hF]; exact h.zero
  rw [← hF] at hn ⊢
  rw [List.length_map] at hn
  simp only [qbw, qP]
  refine ⟨qbv F, qg (fun _ => LeD.refl _) (fun e => ?_)⟩
  have e : ql F = 0 := by simpa using e
  have hd : TD (TM.mk m0 m1 m2 m3 m4 m5 m6 m7 m8 m9 mA mB) (TB.mk (.mk b0 b1 b2) (.mk b3 b4 b5)) F ⟨v0_1, v0_2, v0_3⟩ := ⟨h.hm, h.hb, e, h.hs, hz⟩
  obtain ⟨p1, p2⟩ := hits_back e
  obtain ⟨q1, q2⟩ := box_back h.hb
  have hr : ∀ k, k < F.length → rgH (qe F k) := fun k hk => by
   obtain ⟨p, t, w⟩ := (q1N e).2 k hk
   obtain ⟨a, b, c⟩ := qn.1 p
   unfold rgH inI
   omega
  have hrb : rgB (TB.mk (.mk b0 b1 b2) (.mk b3 b4 b5)) := by
   have hin := q0Z h.hb
   obtain ⟨a1, a2, a3⟩ := qn.1 hin.1
   obtain ⟨c1, c2, c3⟩ := qn.1 hin.2
   unfold rgB inI
   omega
  have z := qd9 (by omega) hr
  have zb := boxT_len hrb
  simp only [p1, p2, q1, q2, qP, qbw]
  have nh := qA F
  have ng := qbv F
  refine ⟨⟨ng, by omega⟩, ⟨ng, by omega, hr⟩, lt_i fun x9 h9 => ⟨by omega, hrb, lt_i fun x10 h10 => lt_i fun x11 h11 => lt_i fun x12 h12 => lt_i fun x13 h13 => lt_i fun x14 h14 => lt_i fun x15 h15 => lt_i fun x16 h16 => ⟨by omega, ?_⟩⟩⟩
  subst h9 h10 h11 h12 h13 h14 h15 h16
  refine ⟨qg (fun _ => by (repeat' first | trivial | assumption | (refine qg ?_ ?_ <;> intro _) | (refine And.intro ?_ ?_))) (fun _ => ⟨⟨nh, ng, by omega⟩, by (repeat' first | trivial | assumption | (refine qg ?_ ?_ <;> intro _) | (refine And.intro ?_ ?_))⟩), lt_i fun x17 h17 => ?_⟩
  obtain rfl : x17 = false := by rw [← h17]; simp
  refine qg (fun g => by cases g) (fun _ => ⟨⟨nh, by omega⟩, ?_⟩)
  rw [hd.sc.1, hd.sc.2, hd.bi.1, hd.bi.2, hd.cn.1, hd.cn.2, hd.si.1]
  refine lt_i fun x18 h18 => lt_i fun x19 h19 => ⟨ng, ⟨nh, by omega⟩, lt_i fun x20 _ => lt_i fun x21 _ => lt_i fun x22 _ => lt_i fun x23 h23 => lt_i fun x24 h24 => ⟨ng, ⟨nh, by omega⟩, lt_i fun x25 h25 => ⟨nh, ⟨nh, by omega⟩, lt_i fun x26 h26 => lt_i fun x27 _ => lt_i fun x28 h28 => ⟨ng, ?_⟩⟩⟩⟩
  have h26 : x26 ≤ 0 := by rw [← h26]; exact hd.si.2
  have l1 := hd.clen
  subst h18 h19 h23 h24 h25 h28
  refine qg (fun g => by cases g) (fun _ => qg (fun g => by cases g) (fun _ => qg (fun g => by cases g) (fun _ => qg (fun g => by cases g) (fun _ => qg (fun g => by cases g) (fun _ => qg (fun g => absurd (of_decide_eq_true g) (by omega)) (fun _ => qg (fun g => by cases g) (fun _ => qg (fun g => absurd (of_decide_eq_true g) (by omega)) (fun _ => ?_))))))))
  exact ⟨(coL (TM.mk m0 m1 m2 m3 m4 m5 m6 m7 m8 m9 mA mB) (TB.mk (.mk b0 b1 b2) (.mk b3 b4 b5)) F 0).length + 1, _, _, _, _, _, _, _, _, _, _, _, _, _, _, _, _, _, _, _, rfl, hd, ⟨rfl, rfl, rfl, rfl, rfl, rfl, rfl, rfl, rfl, rfl, rfl, rfl⟩, rfl, by omega, by omega, by omega, rfl⟩
set_option maxHeartbeats 8000000 in
theorem qaa (m0 m1 m2 m3 m4 m5 m6 m7 m8 m9 mA mB b0 b1 b2 b3 b4 b5 : Int) (pl : List V3) (of : List Int) (v2_0 v2_1 v2_2 v2_3 v2_4 v2_5 v2_6 v2_7 v2_8 v2_9 v2_10 v2_11 : Int) (v2_12 : (List TH)) (v2_13 v2_14 v2_15 : Int) (v2_16 : (List V3)) (v2_17 : Bool) (v2_18 : Int) (nn2 : Nat) (hi : TD (TM.mk m0 m1 m2 m3 m4 m5 m6 m7 m8 m9 mA mB) (TB.mk (.mk b0 b1 b2) (.mk b3 b4 b5)) v2_12 ⟨v2_13, v2_14, v2_15⟩ ∧ (v2_0 = b0 ∧ v2_1 = b1 ∧ v2_2 = b2 ∧ v2_3 = b3 ∧ v2_4 = b4 ∧ v2_5 = b5 ∧ v2_6 = b0 ∧ v2_7 = b1 ∧ v2_8 = b2 ∧ v2_9 = b3 ∧ v2_10 = b4 ∧ v2_11 = b5) ∧ v2_16 = coL (TM.mk m0 m1 m2 m3 m4 m5 m6 m7 m8 m9 mA mB) (TB.mk (.mk b0 b1 b2) (.mk b3 b4 b5)) v2_12 0 ∧ 0 ≤ v2_18 ∧ v2_18 ≤ (coL (TM.mk m0 m1 m2 m3 m4 m5 m6 m7 m8 m9 mA mB) (TB.mk (.mk b0 b1 b2) (.mk b3 b4 b5)) v2_12 0).length ∧ ((nn2 + 1) : Int) + v2_18 = (coL (TM.mk m0 m1 m2 m3 m4 m5 m6 m7 m8 m9 mA mB) (TB.mk (.mk b0 b1 b2) (.mk b3 b4 b5)) v2_12 0).length + 1 ∧ v2_17 = ((coL (TM.mk m0 m1 m2 m3 m4 m5 m6 m7 m8 m9 mA mB) (TB.mk (.mk b0 b1 b2) (.mk b3 b4 b5)) v2_12 0).take v2_18.toNat).any (fun s => decide (s = ⟨v2_13, v2_14, v2_15⟩))) : q5E (q0M m0 m1 m2 m3 m4 m5 m6 m7 m8 m9 mA mB b0 b1 b2 b3 b4 b5 pl of) m0 m1 m2 m3 m4 m5 m6 m7 m8 m9 mA mB b0 b1 b2 b3 b4 b5 pl of v2_0 v2_1 v2_2 v2_3 v2_4 v2_5 v2_6 v2_7 v2_8 v2_9 v2_10 v2_11 v2_12 v2_13 v2_14 v2_15 v2_16 v2_17 v2_18 nn2 (fun r => LeD r (.t (.c (.v (.bool true))))) := by
 obtain ⟨h, ⟨rfl, rfl, rfl, rfl, rfl, rfl, a6, a7, a8, a9, a10, a11⟩, e3, i0, i1, i2, ef⟩ := hi
 subst a6 a7 a8 a9 a10 a11
 subst e3
 obtain ⟨k, rfl⟩ : ∃ k : Nat, v2_18 = k := ⟨v2_18.toNat, by omega⟩
 have hk : (k : Int).toNat = k := rfl
 rw [hk] at ef
 have hs := h.slen
 have l1 := h.clen
 have hl := (q1N h.hh).1
 unfold q5E
 simp only [qP]
 rw [hk]
 have e3 := eq3 (plAt (coL (TM.mk m0 m1 m2 m3 m4 m5 m6 m7 m8 m9 mA mB) (TB.mk (.mk v2_6 v2_7 v2_8) (.mk v2_9 v2_10 v2_11)) v2_12 0) k) ⟨v2_13, v2_14, v2_15⟩
 simp only at e3
 refine qg (fun c => ?_) (fun c => ?_)
 ·have c1 : (k : Int) < ((coL (TM.mk m0 m1 m2 m3 m4 m5 m6 m7 m8 m9 mA mB) (TB.mk (.mk v2_6 v2_7 v2_8) (.mk v2_9 v2_10 v2_11)) v2_12 0).length : Nat) := of_decide_eq_true c
  have hlt : k < (coL (TM.mk m0 m1 m2 m3 m4 m5 m6 m7 m8 m9 mA mB) (TB.mk (.mk v2_6 v2_7 v2_8) (.mk v2_9 v2_10 v2_11)) v2_12 0).length := by omega
  refine ⟨by (repeat' first | trivial | assumption | (refine qg ?_ ?_ <;> intro _) | (refine And.intro ?_ ?_)), lt_i fun x1 h1 => lt_i fun x2 h2 => ?_⟩
  rw [e3] at h1
  rw [wi (by omega)] at h2
  subst h2
  refine ⟨_, _, _, _, _, _, _, _, _, _, _, _, _, _, _, _, _, _, _, rfl, h, ⟨rfl, rfl, rfl, rfl, rfl, rfl, rfl, rfl, rfl, rfl, rfl, rfl⟩, rfl, by omega, by omega, by omega, ?_⟩
  rw [show ((k : Int) + 1).toNat = k + 1 by omega, any_take _ hlt, ← ef, ← h1]
  cases v2_17 <;> rfl
 ·have hkl : k = (coL (TM.mk m0 m1 m2 m3 m4 m5 m6 m7 m8 m9 mA mB) (TB.mk (.mk v2_6 v2_7 v2_8) (.mk v2_9 v2_10 v2_11)) v2_12 0).length := by have := of_decide_eq_false c; omega
  rw [hkl, List.take_length] at ef
  have e6 : v2_17 = true := by
   rw [ef]
   exact List.any_eq_true.2 ⟨_, h.mem, by simp⟩
  subst e6
  have nh := qA v2_12
  have hb1 : qa 1 mkBx (genC [[.v (.int .i64 v2_6), .v (.int .i64 v2_7), .v (.int .i64 v2_8), .v (.int .i64 v2_9), .v (.int .i64 v2_10), .v (.int .i64 v2_11)]]) = [(TB.mk (.mk v2_6 v2_7 v2_8) (.mk v2_9 v2_10 v2_11))] := rfl
  rw [hb1]
  simp only [h.f2, if_true]
  rw [h.cv, h.cc]
  refine ⟨⟨nh, by omega⟩, lt_i fun x3 h3 => ⟨nh, ⟨nh, by omega⟩, lt_i fun x4 h4 => lt_i fun x5 h5 => ⟨⟨nh, numsP_bxg [(TB.mk (.mk v2_6 v2_7 v2_8) (.mk v2_9 v2_10 v2_11))]⟩, by (repeat' first | trivial | assumption | (refine qg ?_ ?_ <;> intro _) | (refine And.intro ?_ ?_)), lt_i fun x6 h6 => leB ?_⟩⟩⟩
  obtain rfl : x3 = 12 := h3.symm
  subst h5
  rw [← h6]; rfl
set_option maxHeartbeats 8000000 in
theorem qb0 (m0 m1 m2 m3 m4 m5 m6 m7 m8 m9 mA mB b0 b1 b2 b3 b4 b5 : Int) (pl : List V3) (of : List Int) : q6z (q0M m0 m1 m2 m3 m4 m5 m6 m7 m8 m9 mA mB b0 b1 b2 b3 b4 b5 pl of) m0 m1 m2 m3 m4 m5 m6 m7 m8 m9 mA mB b0 b1 b2 b3 b4 b5 pl of (fun r => LeD r (.t (.c (.v (.bool true))))) := by
 unfold q6z
 simp only [pls_g, qP]
 refine ⟨qg (fun _ => by (repeat' first | trivial | assumption | (refine qg ?_ ?_ <;> intro _) | (refine And.intro ?_ ?_))) (fun _ => qg (fun _ => by (repeat' first | trivial | assumption | (refine qg ?_ ?_ <;> intro _) | (refine And.intro ?_ ?_))) (fun e => ⟨?_, by (repeat' first | trivial | assumption | (refine qg ?_ ?_ <;> intro _) | (refine And.intro ?_ ?_))⟩)), lt_i fun x1 h1 => qg (fun _ => LeD.refl _) (fun g => ?_)⟩
 ·have hin := q0Z (b := (TB.mk (.mk b0 b1 b2) (.mk b3 b4 b5))) (by simpa using e)
  exact ⟨hin.1, hin.2⟩
 subst g
 have g1 : ((TM.mk m0 m1 m2 m3 m4 m5 m6 m7 m8 m9 mA mB)).err = 0 := by
  by_cases c : ((TM.mk m0 m1 m2 m3 m4 m5 m6 m7 m8 m9 mA mB)).err = 0
  ·exact c
  ·rw [show (((TM.mk m0 m1 m2 m3 m4 m5 m6 m7 m8 m9 mA mB)).err != 0) = true by simpa using c] at h1; cases h1
 rw [g1] at h1
 have g2 : ((TB.mk (.mk b0 b1 b2) (.mk b3 b4 b5))).err = 0 := by
  by_cases c : ((TB.mk (.mk b0 b1 b2) (.mk b3 b4 b5))).err = 0
  ·exact c
  ·rw [show (((TB.mk (.mk b0 b1 b2) (.mk b3 b4 b5))).err != 0) = true by simpa using c] at h1; cases h1
 rw [g2] at h1
 have g3 : ((TB.mk (.mk b0 b1 b2) (.mk b3 b4 b5))).count ≤ 120 := by
  by_cases c : ((TB.mk (.mk b0 b1 b2) (.mk b3 b4 b5))).count > 120
  ·rw [decide_eq_true c] at h1; cases h1
  ·omega
 rw [decide_eq_false (show ¬ ((TB.mk (.mk b0 b1 b2) (.mk b3 b4 b5))).count > 120 by omega)] at h1
 have g4 : pl.length ≤ 6 := by
  by_cases c : ((pl.length : Nat) : Int) > 6
  ·rw [decide_eq_true c] at h1; cases h1
  ·omega
 rw [decide_eq_false (show ¬ ((pl.length : Nat) : Int) > 6 by omega)] at h1
 have g5 : 0 < of.length := by
  by_cases c : of.length = 0
  ·rw [c] at h1; cases h1
  ·omega
 clear h1
 have hin := q0Z g2
 have hsl := qdi (m := (TM.mk m0 m1 m2 m3 m4 m5 m6 m7 m8 m9 mA mB)) g2
 refine ⟨⟨hin.1, hin.2, q0c g2⟩, qg (fun _ => LeD.refl _) (fun e => ⟨by omega, lt_i fun x2 h2 => ?_⟩)⟩
 have hne : 0 < (((TM.mk m0 m1 m2 m3 m4 m5 m6 m7 m8 m9 mA mB)).steps (TB.mk (.mk b0 b1 b2) (.mk b3 b4 b5))).length := by
  have : ¬ (((((TM.mk m0 m1 m2 m3 m4 m5 m6 m7 m8 m9 mA mB)).steps (TB.mk (.mk b0 b1 b2) (.mk b3 b4 b5))).length : Nat) : Int) = 0 := by simpa using e
  omega
 have q := mdF_rg (c := (((((TM.mk m0 m1 m2 m3 m4 m5 m6 m7 m8 m9 mA mB)).steps (TB.mk (.mk b0 b1 b2) (.mk b3 b4 b5))).length : Nat) : Int)) (by omega) (of.getD 0 0)
 rw [h2] at q
 clear h2
 obtain ⟨k, rfl⟩ : ∃ k : Nat, x2 = k := ⟨x2.toNat, by omega⟩
 have hk : (k : Int).toNat = k := rfl
 rw [hk]
 have hlt : k < (((TM.mk m0 m1 m2 m3 m4 m5 m6 m7 m8 m9 mA mB)).steps (TB.mk (.mk b0 b1 b2) (.mk b3 b4 b5))).length := by omega
 have hs := qdO hlt
 obtain ⟨s, hse⟩ : ∃ s, s = plAt (((TM.mk m0 m1 m2 m3 m4 m5 m6 m7 m8 m9 mA mB)).steps (TB.mk (.mk b0 b1 b2) (.mk b3 b4 b5))) k := ⟨_, rfl⟩
 rw [← hse] at hs ⊢
 have hb : ((TM.mk m0 m1 m2 m3 m4 m5 m6 m7 m8 m9 mA mB)).both s = 0 := by
  obtain ⟨h1, h2⟩ := q8M g2 hs
  unfold TM.both TM.stE
  rw [g1, h1, q5t.2 h2]; rfl
 refine ⟨by omega, by omega, by unfold q0k maxLen; simp; omega, lt_i fun x3 h3 => ⟨pls_gN pl, qg (fun e3 => ⟨by (repeat' first | trivial | assumption | (refine qg ?_ ?_ <;> intro _) | (refine And.intro ?_ ?_)), lt_i fun x4 h4 => leB ?_⟩) (fun e3 => ?_)⟩⟩
 ·have e3 : x3 ≠ 0 := by simpa using e3
  rcases sim_cases hb (pl := pl) (by omega) with a | a | a
  ·omega
  ·rw [← h4, ← h3, a]; rfl
  ·rw [← h4, ← h3, a]; rfl
 ·have e3 : x3 = 0 := by simpa using e3
  rw [e3] at h3
  have h : TC (TM.mk m0 m1 m2 m3 m4 m5 m6 m7 m8 m9 mA mB) (TB.mk (.mk b0 b1 b2) (.mk b3 b4 b5)) pl of s := ⟨g1, g2, g3, g4, g5, hs, h3⟩
  have hl := q5o (m := (TM.mk m0 m1 m2 m3 m4 m5 m6 m7 m8 m9 mA mB)) (s := s) (pl := pl)
  have nh := qA (q2h (TM.mk m0 m1 m2 m3 m4 m5 m6 m7 m8 m9 mA mB) s pl)
  rw [h.sim]
  refine ⟨qg (fun _ => by (repeat' first | trivial | assumption | (refine qg ?_ ?_ <;> intro _) | (refine And.intro ?_ ?_))) (fun _ => ⟨nh, by (repeat' first | trivial | assumption | (refine qg ?_ ?_ <;> intro _) | (refine And.intro ?_ ?_))⟩), lt_i fun x5 h5 => ?_⟩
  rw [h.sims_ok, hl] at h5
  obtain rfl : x5 = false := by rw [← h5]; simp
  exact qg (fun g => by cases g) (fun _ => ⟨⟨nh, by omega⟩, pl.length + 1, _, _, _, _, _, rfl, h, by rw [show ((0 : Int)).toNat = 0 from rfl, stgL_0], by omega, by omega, by omega⟩)
theorem qbY (m0 m1 m2 m3 m4 m5 m6 m7 m8 m9 mA mB b0 b1 b2 b3 b4 b5 : Int) (pl : List V3) (of : List Int) : AllG (q0M m0 m1 m2 m3 m4 m5 m6 m7 m8 m9 mA mB b0 b1 b2 b3 b4 b5 pl of) (qz Tryz.prog tab Slt108 q0s (q0M m0 m1 m2 m3 m4 m5 m6 m7 m8 m9 mA mB b0 b1 b2 b3 b4 b5 pl of) Tryz.f4 (fun r => LeD r (.t (.c (.v (.bool true)))))) := by
 rw [qcC]
 refine ⟨⟨?_, ?_⟩, ⟨?_, ?_⟩, trivial⟩
 ·intro F s h
  obtain _ | ⟨g, F⟩ := F
  case cons => exact h.elim
  obtain ⟨w0, w1, w2, w3, w4, rfl, hi⟩ := h
  omega
 ·intro n F s h
  obtain _ | ⟨g, F⟩ := F
  case cons => exact h.elim
  obtain ⟨w0, w1, w2, w3, w4, rfl, hi⟩ := h
  exact cast (by kernel_rfl) (qa9 m0 m1 m2 m3 m4 m5 m6 m7 m8 m9 mA mB b0 b1 b2 b3 b4 b5 pl of _ _ _ _ _ _ hi)
 ·intro F s h
  obtain _ | ⟨g, F⟩ := F
  case cons => exact h.elim
  obtain ⟨w0, w1, w2, w3, w4, w5, w6, w7, w8, w9, w10, w11, w12, w13, w14, w15, w16, w17, w18, rfl, hi⟩ := h
  omega
 ·intro n F s h
  obtain _ | ⟨g, F⟩ := F
  case cons => exact h.elim
  obtain ⟨w0, w1, w2, w3, w4, w5, w6, w7, w8, w9, w10, w11, w12, w13, w14, w15, w16, w17, w18, rfl, hi⟩ := h
  exact cast (by kernel_rfl) (qaa m0 m1 m2 m3 m4 m5 m6 m7 m8 m9 mA mB b0 b1 b2 b3 b4 b5 pl of _ _ _ _ _ _ _ _ _ _ _ _ _ _ _ _ _ _ _ _ hi)
theorem qbZ (m0 m1 m2 m3 m4 m5 m6 m7 m8 m9 mA mB b0 b1 b2 b3 b4 b5 : Int) (pl : List V3) (of : List Int) (W : World) (N : Nat → Prop) (vs : List Value) (hG : Gd W) (h : All2 (RelD (RelF W N)) [.t (.a [.v (.int .i64 m0), .v (.int .i64 m1), .v (.int .i64 m2), .v (.int .i64 m3), .v (.int .i64 m4), .v (.int .i64 m5), .v (.int .i64 m6), .v (.int .i64 m7), .v (.int .i64 m8), .v (.int .i64 m9), .v (.int .i64 mA), .v (.int .i64 mB)]), .t (.a [.v (.int .i64 b0), .v (.int .i64 b1), .v (.int .i64 b2), .v (.int .i64 b3), .v (.int .i64 b4), .v (.int .i64 b5)]), .t (.a [.sl 3 pl.length (plsC pl), .sl 1 of.length (q2f of)])] vs) : Calls Tryz.prog 4 vs.toArray W fun e w' => e = .returned (.bool true) ∧ Below W.heap.size W w' :=
 law_end (qf3 mixed qo VSlt108 (ann := q0s) VIkv64 (fn := Tryz.f4) (J := q0M m0 m1 m2 m3 m4 m5 m6 m7 m8 m9 mA mB b0 b1 b2 b3 b4 b5 pl of) (by kernel_rfl) qbX (args := [.t (.a [.v (.int .i64 m0), .v (.int .i64 m1), .v (.int .i64 m2), .v (.int .i64 m3), .v (.int .i64 m4), .v (.int .i64 m5), .v (.int .i64 m6), .v (.int .i64 m7), .v (.int .i64 m8), .v (.int .i64 m9), .v (.int .i64 mA), .v (.int .i64 mB)]), .t (.a [.v (.int .i64 b0), .v (.int .i64 b1), .v (.int .i64 b2), .v (.int .i64 b3), .v (.int .i64 b4), .v (.int .i64 b5)]), .t (.a [.sl 3 pl.length (plsC pl), .sl 1 of.length (q2f of)])]) (post := (fun r => LeD r (.t (.c (.v (.bool true)))))) (cast (by kernel_rfl) (qb0 m0 m1 m2 m3 m4 m5 m6 m7 m8 m9 mA mB b0 b1 b2 b3 b4 b5 pl of)) (qbY m0 m1 m2 m3 m4 m5 m6 m7 m8 m9 mA mB b0 b1 b2 b3 b4 b5 pl of) (Nat.le_of_ble_eq_true (by kernel_rfl)) W N vs hG h)
end Go.Proofs.YtfadkjcfjkmalaaGreatDoor
