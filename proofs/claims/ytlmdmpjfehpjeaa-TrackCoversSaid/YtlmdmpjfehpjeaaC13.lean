/- Texts of this claim, together. -/
import Derived.Test.YtlmdmpjfehpjeaaC12

set_option linter.unusedVariables false
set_option linter.unusedSimpArgs false
namespace Go.Proofs.Ytlmdmpjfehpjeaa
open Go.RowKit Ev
theorem firstNZ_hd {x : Int} {l : List Int} (h : x ≠ 0) : firstNZ (x :: l) = x := by simp [firstNZ, h]
instance (b : TBox) (s : V3) : Decidable (b.has s) := by unfold TBox.has Rg.has; infer_instance
theorem hits_w {l : List THit} (h : hitsE l = 0) : ∀ x ∈ l, 0 ≤ x.w := by
 intro x hx
 obtain ⟨i, hi, e⟩ := List.getElem_of_mem hx
 have := (hitsE_ok h).2 i hi
 rw [show hitAt l i = x by simp [hitAt, List.getD, hi, e]] at this
 exact this.w.1
theorem provB_iff {m : TMod} {l : List THit} {K : Int} {b : TBox} (h : b.err = 0) : provB m l K b = true ↔ m.proved l K b := by
 have hb := box_in h
 have hc : canW m b = true ↔ m.canBe b := by rw [canW_eq hb.1 hb.2]; exact canB_iff
 unfold provB TMod.proved
 rw [← hc]
 cases canW m b <;> simp
theorem sub_ends {b c : TBox} (ho : c.ok) : c.sub b ↔ b.has c.lo ∧ b.has c.hi := by
 unfold TBox.ok TBox.rx TBox.ry TBox.rz Rg.ok at ho
 unfold TBox.sub TBox.has TBox.rx TBox.ry TBox.rz Rg.sub Rg.has
 simp only at ho ⊢; omega
theorem err_cnt {b : TBox} (h : b.err = 0) : 0 < b.count ∧ b.count ≤ 700 := ⟨count_pos (box_ok h), (boxErr_ok h).2.2.2⟩
theorem cnt_ne {b : TBox} (ho : b.ok) (hc : b.count ≠ 1) : b.lo.x < b.hi.x ∨ b.lo.y < b.hi.y ∨ b.lo.z < b.hi.z := by
 have h1 := count_one ho
 obtain ⟨o1, o2, o3⟩ := ho
 simp only [TBox.rx, TBox.ry, TBox.rz, Rg.ok] at o1 o2 o3
 have h2 : ¬ (b.lo.x = b.hi.x ∧ b.lo.y = b.hi.y ∧ b.lo.z = b.hi.z) := fun q => hc (h1.2 (v3_ext.2 q))
 omega
theorem sub_err {b c : TBox} (h : b.err = 0) (hs : c.sub b) (hk : c.ok) : c.err = 0 := by
 have hin := box_in h
 have hcm := count_mono hs hk
 obtain ⟨a1, a2, a3⟩ := inS_iff.1 hin.1
 obtain ⟨c1, c2, c3⟩ := inS_iff.1 hin.2
 have hs' := hs
 have hk' := hk
 unfold TBox.sub TBox.rx TBox.ry TBox.rz Rg.sub at hs'
 unfold TBox.ok TBox.rx TBox.ry TBox.rz Rg.ok at hk'
 simp only at hs' hk'
 have e1 : c.lo.inS 20 = true := inS_iff.2 (by omega)
 have e2 : c.hi.inS 20 = true := inS_iff.2 (by omega)
 have h4 := (err_cnt h).2
 unfold TBox.err
 rw [firstNZ_cons, firstNZ_cons, firstNZ_cons]
 refine ⟨by rw [e1, e2]; rfl, ?_, ?_, rfl⟩
 ·rw [unl_0 (by decide)]; simp only [Bool.and_eq_true, decide_eq_true_eq]; exact ⟨⟨hk'.1, hk'.2.1⟩, hk'.2.2⟩
 ·rw [unl_0 (by decide), decide_eq_true_eq]; omega
def covF (m : TMod) (l : List THit) (K : Int) : Nat → TBox → List TBox × Bool
 | 0, _ => ([], false)
 | n + 1, b => if provB m l K b = true then ([b], true) else if b.count = 1 then ([], false) else
  if (covF m l K n b.half1).2 = true ∧ (covF m l K n b.half2).2 = true then ((covF m l K n b.half1).1 ++ (covF m l K n b.half2).1, true) else ([], false)
def covR (m : TMod) (l : List THit) (K : Int) (b : TBox) : List TBox × Bool := covF m l K b.count.toNat b
theorem covF_same {m : TMod} {l : List THit} {K : Int} : ∀ (n n' : Nat) (b : TBox), b.err = 0 → b.count ≤ n → b.count ≤ n' → covF m l K n b = covF m l K n' b
 | 0, _, b, h, h1, _ => by have := (err_cnt h).1; omega
 | _ + 1, 0, b, h, _, h1 => by have := (err_cnt h).1; omega
 | n + 1, n' + 1, b, h, h1, h2 => by
  unfold covF
  by_cases e1 : provB m l K b = true
  ·rw [if_pos e1, if_pos e1]
  ·rw [if_neg e1, if_neg e1]
   by_cases e2 : b.count = 1
   ·rw [if_pos e2, if_pos e2]
   ·rw [if_neg e2, if_neg e2]
    obtain ⟨f1, f2, _, _⟩ := half_err h e2
    have hc := halves_count b
    have p1 := (err_cnt f1).1
    have p2 := (err_cnt f2).1
    rw [covF_same n n' b.half1 f1 (by omega) (by omega), covF_same n n' b.half2 f2 (by omega) (by omega)]
theorem covR_eq {m : TMod} {l : List THit} {K : Int} {b : TBox} (h : b.err = 0) : covR m l K b = if provB m l K b = true then ([b], true) else if b.count = 1 then ([], false) else
  if (covR m l K b.half1).2 = true ∧ (covR m l K b.half2).2 = true then ((covR m l K b.half1).1 ++ (covR m l K b.half2).1, true) else ([], false) := by
 have p := (err_cnt h).1
 obtain ⟨n, hn⟩ : ∃ n, b.count.toNat = n + 1 := ⟨b.count.toNat - 1, by omega⟩
 unfold covR
 rw [hn, covF]
 by_cases e1 : provB m l K b = true
 ·rw [if_pos e1, if_pos e1]
 ·rw [if_neg e1, if_neg e1]
  by_cases e2 : b.count = 1
  ·rw [if_pos e2, if_pos e2]
  ·rw [if_neg e2, if_neg e2]
   obtain ⟨f1, f2, _, _⟩ := half_err h e2
   have hc := halves_count b
   have p1 := (err_cnt f1).1
   have p2 := (err_cnt f2).1
   rw [covF_same n b.half1.count.toNat b.half1 f1 (by omega) (by omega), covF_same n b.half2.count.toNat b.half2 f2 (by omega) (by omega)]
theorem covR_spec {m : TMod} {l : List THit} {K : Int} (hm : m.err = 0) (hh : hitsE l = 0) : ∀ (n : Nat) (b : TBox), b.err = 0 → b.count ≤ n → ((covR m l K b).2 = true → m.covers l K b (covR m l K b).1) ∧ ((covR m l K b).2 = false → (covR m l K b).1 = [] ∧ ∃ s, b.has s ∧ m.permit s ∧ m.score s l < K)
 | 0, b, h, h1 => by have := (err_cnt h).1; omega
 | n + 1, b, h, h1 => by
  have ho := err_ok hm
  have hk := box_ok h
  rw [covR_eq h]
  by_cases e1 : provB m l K b = true
  ·rw [if_pos e1]
   exact ⟨fun _ => covers_one hk ((provB_iff h).1 e1), fun e => (by cases e)⟩
  ·rw [if_neg e1]
   by_cases e2 : b.count = 1
   ·rw [if_pos e2]
    refine ⟨fun e => (by cases e), fun _ => ⟨rfl, b.lo, ?_, ?_⟩⟩
    ·unfold TBox.ok TBox.rx TBox.ry TBox.rz Rg.ok at hk
     unfold TBox.has TBox.rx TBox.ry TBox.rz Rg.has
     simp only at hk ⊢; omega
    ·have e3 := (count_one hk).1 e2
     have e4 : b = ⟨b.lo, b.lo⟩ := by obtain ⟨x, y⟩ := b; simp only at e3; rw [e3]
     have h2 : ¬ m.proved l K ⟨b.lo, b.lo⟩ := by rw [← e4]; exact fun q => e1 ((provB_iff h).2 q)
     exact not_proved_one h2 ho.slp ho.slo ⟨ho.ea.1, ho.la.1⟩ ⟨ho.mi.1, ho.no.1⟩ (hits_w hh)
   ·rw [if_neg e2]
    obtain ⟨f1, f2, s1, s2⟩ := half_err h e2
    have hc := halves_count b
    have p1 := (err_cnt f1).1
    have p2 := (err_cnt f2).1
    obtain ⟨g1, g2⟩ := covR_spec hm hh n b.half1 f1 (by omega)
    obtain ⟨g3, g4⟩ := covR_spec hm hh n b.half2 f2 (by omega)
    by_cases e3 : (covR m l K b.half1).2 = true ∧ (covR m l K b.half2).2 = true
    ·rw [if_pos e3]
     exact ⟨fun _ => covers_two hk (cnt_ne hk e2) (g1 e3.1) (g3 e3.2), fun e => by cases e⟩
    ·rw [if_neg e3]
     refine ⟨fun e => (by cases e), fun _ => ⟨rfl, ?_⟩⟩
     by_cases q : (covR m l K b.half1).2 = true
     ·obtain ⟨_, s, a1, a2⟩ := g4 (by have : ¬ (covR m l K b.half2).2 = true := fun r => e3 ⟨q, r⟩; simpa using this)
      exact ⟨s, sub_has s2 a1, a2⟩
     ·obtain ⟨_, s, a1, a2⟩ := g2 (by simpa using q)
      exact ⟨s, sub_has s1 a1, a2⟩
theorem covR_len {m : TMod} {l : List THit} {K : Int} {b : TBox} (hm : m.err = 0) (hb : b.err = 0) (hh : hitsE l = 0) : (covR m l K b).1.length ≤ 700 := by
 obtain ⟨h1, h2⟩ := covR_spec (K := K) hm hh b.count.toNat b hb (by omega)
 have hc := err_cnt hb
 cases e : (covR m l K b).2 with
 | true => have := covers_len (h1 e); omega
 | false => rw [(h2 e).1]; simp
def bxE (b : TBox) (c : List TBox) (i : Nat) : Int := if (bxAt c i).err ≠ 0 then (bxAt c i).err else firstNZ [unl (decide ((bxAt c i).sub b)) 6, unl (!((c.take i).any (fun a => decide (¬ a.apart (bxAt c i))))) 23]
def cvE0 (m : TMod) (b : TBox) (l : List THit) (c : List TBox) : Int := firstNZ [firstNZ [firstNZ [m.err, b.err], hitsE l], unl (decide (((c.length : Nat) : Int) ≤ (700 : Int))) (8 : Int)]
def cvR (m : TMod) (b : TBox) (l : List THit) (c : List TBox) (K : Int) : Int × Int := if cvE0 m b l c ≠ 0 then (0, cvE0 m b l c) else if scan (bxE b c) c.length ≠ 0 then (scanI (bxE b c) c.length, scan (bxE b c) c.length) else if sumC c < b.count then (0, 14) else if 0 ≤ idxP (fun a => !provB m l K a) c then (idxP (fun a => !provB m l K a) c, 19) else (0, 0)
theorem cvE0_ok {m : TMod} {b : TBox} {l : List THit} {c : List TBox} (h : cvE0 m b l c = 0) : m.err = 0 ∧ b.err = 0 ∧ hitsE l = 0 ∧ c.length ≤ 700 := by
 unfold cvE0 at h
 obtain ⟨h1, h2⟩ := fn2 h
 obtain ⟨h3, h4⟩ := fn2 h1
 obtain ⟨h5, h6⟩ := fn2 h3
 rw [unl_0 (by decide)] at h2
 have := of_decide_eq_true h2
 exact ⟨h5, h6, h4, by omega⟩
theorem bxE_err {b : TBox} {c : List TBox} {i : Nat} (h : bxE b c i = 0) : (bxAt c i).err = 0 := by
 unfold bxE at h
 by_cases e : (bxAt c i).err = 0
 ·exact e
 ·rw [if_pos e] at h; exact h
theorem bxE_ok {b : TBox} {c : List TBox} {i : Nat} (h : bxE b c i = 0) : (bxAt c i).err = 0 ∧ (bxAt c i).sub b ∧ ∀ a ∈ c.take i, a.apart (bxAt c i) := by
 have e := bxE_err h
 unfold bxE at h
 rw [if_neg (by rw [e]; simp)] at h
 obtain ⟨h1, h2⟩ := fn2 h
 rw [unl_0 (by decide)] at h1 h2
 refine ⟨e, of_decide_eq_true h1, fun a ha => ?_⟩
 simp only [Bool.not_eq_true', List.any_eq_false] at h2
 have := h2 a ha
 simpa using this
theorem sumC_bd {b : TBox} (c : List TBox) : ∀ {k : Nat}, (∀ j, j < k → bxE b c j = 0) → 0 ≤ sumC (c.take k) ∧ sumC (c.take k) ≤ 700 * k
 | 0, _ => by simp [sumC]
 | k + 1, h => by
  have ih := sumC_bd c (k := k) fun j hj => h j (by omega)
  by_cases hk : k < c.length
  ·rw [bxAt_take hk, sumC_app]
   have := err_cnt (bxE_err (h k (by omega)))
   have e : sumC [bxAt c k] = (bxAt c k).count := by simp [sumC]
   rw [e]; omega
  ·rw [List.take_of_length_le (by omega)] at ih ⊢; omega
theorem pair_of {b : TBox} {c : List TBox} (h : ∀ j, j < c.length → bxE b c j = 0) : c.Pairwise TBox.apart := by
 rw [List.pairwise_iff_getElem]
 intro i j hi hj hij
 have := (bxE_ok (h j hj)).2.2 c[i] (by
  rw [List.mem_take_iff_getElem]
  exact ⟨i, by omega, rfl⟩)
 rwa [show bxAt c j = c[j] by simp [bxAt, List.getD, hj]] at this
theorem sum_full_le {b : TBox} {c : List TBox} (hb : b.err = 0) (h : ∀ j, j < c.length → bxE b c j = 0) : sumC c ≤ b.count :=
 sum_le c (box_ok hb) (bxs_all fun k hk => ⟨box_ok (bxE_err (h k hk)), (bxE_ok (h k hk)).2.1⟩) (pair_of h)
theorem cover_acc {m : TMod} {b : TBox} {l : List THit} {K : Int} {L : List TBox} (hm : m.err = 0) (hb : b.err = 0) (hh : hitsE l = 0) (h : m.covers l K b L) : cvR m b l L K = (0, 0) := by
 have hlen := covers_len h
 have hc := err_cnt hb
 have hat : ∀ i, i < L.length → bxAt L i ∈ L := fun i hi => bxAt_in hi
 have e0 : cvE0 m b l L = 0 := by
  unfold cvE0
  rw [hm, hb, hh, decide_eq_true (by omega)]; rfl
 have hz : ∀ i, i < L.length → bxE b L i = 0 := by
  intro i hi
  obtain ⟨h1, h2, h3⟩ := h.each _ (hat i hi)
  have e1 := sub_err hb h2 h1
  unfold bxE
  rw [if_neg (by rw [e1]; simp), decide_eq_true h2]
  have e2 : (L.take i).any (fun a => decide (¬ a.apart (bxAt L i))) = false := by
   rw [List.any_eq_false]
   intro a ha
   obtain ⟨j, hj, e⟩ := List.mem_take_iff_getElem.1 ha
   have := (List.pairwise_iff_getElem.1 h.apart) j i (by omega) hi (by omega)
   rw [e] at this
   rw [show bxAt L i = L[i] by simp [bxAt, List.getD, hi]]
   simpa using this
  rw [e2]; rfl
 have e1 := scan_end hz
 have e2 : idxP (fun a => !provB m l K a) L = -1 := idxP_none (d := (⟨⟨0, 0, 0⟩, ⟨0, 0, 0⟩⟩ : TBox)) fun j hj => by
  obtain ⟨h1, h2, h3⟩ := h.each _ (hat j hj)
  have := (provB_iff (K := K) (m := m) (l := l) (sub_err hb h2 h1)).2 h3
  show (!provB m l K (bxAt L j)) = false
  rw [this]; rfl
 unfold cvR
 rw [if_neg (by rw [e0]; simp), if_neg (by rw [e1]; simp), if_neg (by rw [h.count]; omega), if_neg (by rw [e2]; omega)]
theorem steps_ok {m : TMod} {b : TBox} {s : V3} (h : b.err = 0) (hs : s ∈ m.steps b) : s.inS 20 = true ∧ m.permit s := by
 obtain ⟨h1, h2⟩ := mem_steps.1 hs
 have hin := box_in h
 obtain ⟨a1, a2, a3⟩ := inS_iff.1 hin.1
 obtain ⟨c1, c2, c3⟩ := inS_iff.1 hin.2
 unfold TBox.has TBox.rx TBox.ry TBox.rz Rg.has at h1
 simp only at h1
 exact ⟨inS_iff.2 (by omega), h2⟩
theorem steps_len {m : TMod} {b : TBox} (h : b.err = 0) : (m.steps b).length ≤ 700 := by
 have h1 := List.length_filter_le m.permB b.all
 have h2 := len_all (box_ok h)
 have h3 := err_cnt h
 unfold TMod.steps
 omega
def bestV (m : TMod) (b : TBox) (l : List THit) : V3 := match m.bestF l (m.steps b) with
 | some s => s
 | none => ⟨0, 0, 0⟩
def bestS (m : TMod) (b : TBox) (l : List THit) : Int := match m.bestF l (m.steps b) with
 | some s => m.score s l
 | none => 0
theorem best_one {m : TMod} {l : List THit} {L : List V3} (h : 0 < L.length) : m.bestF l (L.take 1) = some ⟨(plAt L 0).x, (plAt L 0).y, (plAt L 0).z⟩ := by
 cases L with
 | nil => simp at h
 | cons s r => rfl
theorem best_take {m : TMod} {l : List THit} {L : List V3} {k : Nat} {a : V3} (h : m.bestF l (L.take k) = some a) (hk : k < L.length) : m.bestF l (L.take (k + 1)) = some (if m.score (plAt L k) l < m.score a l then plAt L k else a) := by
 rw [plAt_take hk]
 cases e : L.take k with
 | nil => rw [e] at h; cases h
 | cons s r =>
  rw [e] at h
  simp only [TMod.bestF, Option.some.injEq] at h
  simp only [List.cons_append, TMod.bestF, List.foldl_append, List.foldl_cons, List.foldl_nil, h]
theorem best_is {m : TMod} {b : TBox} {l : List THit} (h : m.steps b ≠ []) : m.isBest l (· ∈ m.steps b) (bestV m b l) ∧ bestS m b l = m.score (bestV m b l) l := by
 have h1 := bestF_knows m l (m.steps b) (steps_sorted m b)
 unfold bestV bestS
 cases e : m.bestF l (m.steps b) with
 | none =>
  rw [e] at h1
  exact (h (List.eq_nil_iff_forall_not_mem.2 h1)).elim
 | some s => rw [e] at h1; exact ⟨h1, rfl⟩
theorem best_le {m : TMod} {b : TBox} {l : List THit} {s : V3} (h : s ∈ m.steps b) : bestS m b l ≤ m.score s l := by
 have hne : m.steps b ≠ [] := by intro e; rw [e] at h; cases h
 obtain ⟨h1, h2⟩ := best_is (l := l) hne
 rw [h2]
 rcases h1.2 s h with e | e | ⟨e, _⟩
 ·rw [e]; exact Int.le_refl _
 ·exact Int.le_of_lt e
 ·rw [e]; exact Int.le_refl _
theorem cover_iff {m : TMod} {b : TBox} {l : List THit} {K : Int} (hm : m.err = 0) (hb : b.err = 0) (hh : hitsE l = 0) : (covR m l K b).2 = false ↔ m.steps b ≠ [] ∧ bestS m b l < K := by
 obtain ⟨h1, h2⟩ := covR_spec (K := K) hm hh b.count.toNat b hb (by omega)
 have ho := err_ok hm
 constructor
 ·intro e
  obtain ⟨_, s, a1, a2, a3⟩ := h2 e
  have hs := mem_steps.2 ⟨a1, a2⟩
  refine ⟨fun e => (by rw [e] at hs; cases hs), ?_⟩
  have := best_le (l := l) hs
  omega
 ·rintro ⟨hne, hlt⟩
  cases e : (covR m l K b).2 with
  | false => rfl
  | true =>
   obtain ⟨q1, q2⟩ := best_is (l := l) hne
   obtain ⟨g1, g2⟩ := mem_steps.1 q1.1
   have := covers_ge (h1 e) (box_ok hb) g1 g2 ho.slp ho.slo ⟨ho.ea.1, ho.la.1⟩ ⟨ho.mi.1, ho.no.1⟩ (hits_w hh)
   omega
def conr_track_model_cover (kk : Nat) : Con := fun args => match args with
 | [.t (.a [.v (.int .i64 m0), .v (.int .i64 m1), .v (.int .i64 m2), .v (.int .i64 m3), .v (.int .i64 m4), .v (.int .i64 m5), .v (.int .i64 m6), .v (.int .i64 m7), .v (.int .i64 m8), .v (.int .i64 m9), .v (.int .i64 m10), .v (.int .i64 m11)]), .t (.a [.v (.int .i64 b0), .v (.int .i64 b1), .v (.int .i64 b2), .v (.int .i64 b3), .v (.int .i64 b4), .v (.int .i64 b5)]), .t (.c (.sl 5 n_l c_l)), .t (.c (.v (.int .i64 K)))] => some (.tu [.c (.sl 6 (((covR (⟨m0, m1, m2, m3, m4, m5, m6, m7, m8, m9, m10, m11⟩ : TMod) (listC n_l mkHit c_l) K (⟨⟨b0, b1, b2⟩, ⟨b3, b4, b5⟩⟩ : TBox)).1).length) (bxsC ((covR (⟨m0, m1, m2, m3, m4, m5, m6, m7, m8, m9, m10, m11⟩ : TMod) (listC n_l mkHit c_l) K (⟨⟨b0, b1, b2⟩, ⟨b3, b4, b5⟩⟩ : TBox)).1))), .c (.v (.bool ((covR (⟨m0, m1, m2, m3, m4, m5, m6, m7, m8, m9, m10, m11⟩ : TMod) (listC n_l mkHit c_l) K (⟨⟨b0, b1, b2⟩, ⟨b3, b4, b5⟩⟩ : TBox)).2)))], some (numsP 5 n_l c_l ∧ (((⟨m0, m1, m2, m3, m4, m5, m6, m7, m8, m9, m10, m11⟩ : TMod)).err = 0 ∧ ((⟨⟨b0, b1, b2⟩, ⟨b3, b4, b5⟩⟩ : TBox)).err = 0 ∧ hitsE (listC n_l mkHit c_l) = 0) ∧ (((⟨⟨b0, b1, b2⟩, ⟨b3, b4, b5⟩⟩ : TBox)).count.toNat) < kk), true)
 | _ => none
def vc_track_model_cover (kk : Nat) (m0 m1 m2 m3 m4 m5 m6 m7 m8 m9 m10 m11 : Int) (b0 b1 b2 b3 b4 b5 : Int) (l : List THit) (K : Int) (post : DV → Prop) : Prop := (fun (Z1 : TMod) (Z2 : TBox) (Z3 : List THit) => (numsP 5 l.length (hitsC l) ∧ (Z1).err = 0 ∧ (Z2).err = 0 ∧ hitsE Z3 = 0) ∧ (cond (provB Z1 Z3 K Z2) (post (.tu [.c (.sl 6 1 (genC [[.v (.int .i64 b0), .v (.int .i64 b1), .v (.int .i64 b2), .v (.int .i64 b3), .v (.int .i64 b4), .v (.int .i64 b5)]])), .c (.v (.bool true))])) (((Z2).lo.inS 20 = true ∧ (Z2).hi.inS 20 = true ∧ (Z2).ok) ∧ (cond (((Z2).count) == (1 : Int)) (post (.tu [.c (.v (.slice none 0 0)), .c (.v (.bool false))])) (((Z2).lo.inS 20 = true ∧ (Z2).hi.inS 20 = true ∧ (Z2).ok) ∧ ((0 ≤ (0 : Int) ∧ (0 : Int) < ((2 : Nat) : Int)) ∧ ((numsP 5 l.length (hitsC l) ∧ ((Z1).err = 0 ∧ ((Z2).half1).err = 0 ∧ hitsE Z3 = 0) ∧ (((Z2).half1).count.toNat) < kk) ∧ (cond (!((covR Z1 Z3 K (Z2).half1).2)) (post (.tu [.c (.v (.slice none 0 0)), .c (.v (.bool false))])) ((roomP 48 (([] : List (List CV)).length + ((List.range (((covR Z1 Z3 K (Z2).half1).1).length)).map fun i => fwd ((bxsC ((covR Z1 Z3 K (Z2).half1).1)) i) 0 6).length)) ∧ ((0 ≤ (1 : Int) ∧ (1 : Int) < ((2 : Nat) : Int)) ∧ ((numsP 5 l.length (hitsC l) ∧ ((Z1).err = 0 ∧ ((Z2).half2).err = 0 ∧ hitsE Z3 = 0) ∧ (((Z2).half2).count.toNat) < kk) ∧ (cond (!((covR Z1 Z3 K (Z2).half2).2)) (post (.tu [.c (.v (.slice none 0 0)), .c (.v (.bool false))])) ((roomP 48 ((([] : List (List CV)) ++ ((List.range (((covR Z1 Z3 K (Z2).half1).1).length)).map fun i => fwd ((bxsC ((covR Z1 Z3 K (Z2).half1).1)) i) 0 6)).length + ((List.range (((covR Z1 Z3 K (Z2).half2).1).length)).map fun i => fwd ((bxsC ((covR Z1 Z3 K (Z2).half2).1)) i) 0 6).length)) ∧ (post (.tu [.c (.sl 6 (((([] : List (List CV)) ++ ((List.range (((covR Z1 Z3 K (Z2).half1).1).length)).map fun i => fwd ((bxsC ((covR Z1 Z3 K (Z2).half1).1)) i) 0 6)) ++ ((List.range (((covR Z1 Z3 K (Z2).half2).1).length)).map fun i => fwd ((bxsC ((covR Z1 Z3 K (Z2).half2).1)) i) 0 6)).length) (genC ((([] : List (List CV)) ++ ((List.range (((covR Z1 Z3 K (Z2).half1).1).length)).map fun i => fwd ((bxsC ((covR Z1 Z3 K (Z2).half1).1)) i) 0 6)) ++ ((List.range (((covR Z1 Z3 K (Z2).half2).1).length)).map fun i => fwd ((bxsC ((covR Z1 Z3 K (Z2).half2).1)) i) 0 6)))), .c (.v (.bool true))]))))))))))))))) (⟨m0, m1, m2, m3, m4, m5, m6, m7, m8, m9, m10, m11⟩ : TMod) (⟨⟨b0, b1, b2⟩, ⟨b3, b4, b5⟩⟩ : TBox) (listC l.length mkHit (hitsC l))
def ann_track_model_cover : Ann := ⟨fun _ => none, fun b => lookA b [(0, (some 3, some ⟨[2, 3, 4, 26, 27], [4], [(10, .gen 75 6 [])]⟩))], fun _ => [], I49, true, fun _ => none, fun _ => none⟩
theorem ev_track_model_cover (kk : Nat) (J : Inv) (m0 m1 m2 m3 m4 m5 m6 m7 m8 m9 m10 m11 : Int) (b0 b1 b2 b3 b4 b5 : Int) (l : List THit) (K : Int) (post : DV → Prop) : evFn Try.prog tab (addS S67 115 (conr_track_model_cover kk)) ann_track_model_cover J Try.f115 [.t (.a [.v (.int .i64 m0), .v (.int .i64 m1), .v (.int .i64 m2), .v (.int .i64 m3), .v (.int .i64 m4), .v (.int .i64 m5), .v (.int .i64 m6), .v (.int .i64 m7), .v (.int .i64 m8), .v (.int .i64 m9), .v (.int .i64 m10), .v (.int .i64 m11)]), .t (.a [.v (.int .i64 b0), .v (.int .i64 b1), .v (.int .i64 b2), .v (.int .i64 b3), .v (.int .i64 b4), .v (.int .i64 b5)]), .t (.c (.sl 5 l.length (hitsC l))), .t (.c (.v (.int .i64 K)))] post = vc_track_model_cover kk m0 m1 m2 m3 m4 m5 m6 m7 m8 m9 m10 m11 b0 b1 b2 b3 b4 b5 l K post := by kernel_rfl
theorem fit_track_model_cover : okFn ann_track_model_cover Try.f115 = true := by kernel_rfl
theorem lp_track_model_cover (kk : Nat) (J : Inv) (post : DV → Prop) : AllG J (loopsFn Try.prog tab (addS S67 115 (conr_track_model_cover kk)) ann_track_model_cover J Try.f115 post) = (True) := by kernel_rfl
set_option maxHeartbeats 8000000 in
set_option maxRecDepth 100000 in
theorem spec_track_model_cover (kk : Nat) (m0 m1 m2 m3 m4 m5 m6 m7 m8 m9 m10 m11 : Int) (b0 b1 b2 b3 b4 b5 : Int) (l : List THit) (K : Int) (hp : (((⟨m0, m1, m2, m3, m4, m5, m6, m7, m8, m9, m10, m11⟩ : TMod)).err = 0 ∧ ((⟨⟨b0, b1, b2⟩, ⟨b3, b4, b5⟩⟩ : TBox)).err = 0 ∧ hitsE l = 0) ∧ (((⟨⟨b0, b1, b2⟩, ⟨b3, b4, b5⟩⟩ : TBox)).count.toNat) < kk + 1) : vc_track_model_cover kk m0 m1 m2 m3 m4 m5 m6 m7 m8 m9 m10 m11 b0 b1 b2 b3 b4 b5 l K (fun r => LeD r (.tu [.c (.sl 6 (((covR (⟨m0, m1, m2, m3, m4, m5, m6, m7, m8, m9, m10, m11⟩ : TMod) l K (⟨⟨b0, b1, b2⟩, ⟨b3, b4, b5⟩⟩ : TBox)).1).length) (bxsC ((covR (⟨m0, m1, m2, m3, m4, m5, m6, m7, m8, m9, m10, m11⟩ : TMod) l K (⟨⟨b0, b1, b2⟩, ⟨b3, b4, b5⟩⟩ : TBox)).1))), .c (.v (.bool ((covR (⟨m0, m1, m2, m3, m4, m5, m6, m7, m8, m9, m10, m11⟩ : TMod) l K (⟨⟨b0, b1, b2⟩, ⟨b3, b4, b5⟩⟩ : TBox)).2)))])) := by
 obtain ⟨⟨hm, hb, hh⟩, hk⟩ := hp
 have hin := box_in hb
 have ho := box_ok hb
 have hE := covR_eq (m := (⟨m0, m1, m2, m3, m4, m5, m6, m7, m8, m9, m10, m11⟩ : TMod)) (l := l) (K := K) hb
 have hpos := count_pos ho
 unfold vc_track_model_cover
 simp only [hits_listC, bxs_fwd]
 refine ⟨⟨numsP_hits l, hm, hb, hh⟩, cond_i (fun e => ?_) (fun e => ⟨⟨hin.1, hin.2, ho⟩, cond_i (fun e1 => ?_) (fun e1 => ?_)⟩)⟩
 ·rw [hE, if_pos e]
  exact le_tu (le_bxs [(⟨⟨b0, b1, b2⟩, ⟨b3, b4, b5⟩⟩ : TBox)]) (LeD.refl _)
 ·rw [hE, if_neg (by rw [e]; simp), if_pos (by simpa using e1)]
  exact le_tu le_nil (LeD.refl _)
 have hne : (⟨⟨b0, b1, b2⟩, ⟨b3, b4, b5⟩⟩ : TBox).count ≠ 1 := by simpa using e1
 obtain ⟨f1, f2, s1, s2⟩ := half_err hb hne
 have hc := halves_count (⟨⟨b0, b1, b2⟩, ⟨b3, b4, b5⟩⟩ : TBox)
 have p1 := count_pos (box_ok f1)
 have p2 := count_pos (box_ok f2)
 have l1 := covR_len (K := K) hm f1 hh
 have l2 := covR_len (K := K) hm f2 hh
 rw [if_neg (by rw [e]; simp), if_neg hne] at hE
 refine ⟨⟨hin.1, hin.2, ho⟩, by omega, ⟨numsP_hits l, ⟨hm, f1, hh⟩, by omega⟩, cond_i (fun e2 => ?_) (fun e2 => ⟨?_, by omega, ⟨numsP_hits l, ⟨hm, f2, hh⟩, by omega⟩, cond_i (fun e3 => ?_) (fun e3 => ⟨?_, ?_⟩)⟩)⟩
 ·have e2 : (covR (⟨m0, m1, m2, m3, m4, m5, m6, m7, m8, m9, m10, m11⟩ : TMod) l K (⟨⟨b0, b1, b2⟩, ⟨b3, b4, b5⟩⟩ : TBox).half1).2 = false := by simpa using e2
  rw [hE, e2]
  exact le_tu le_nil (LeD.refl _)
 ·unfold roomP maxLen; simp; omega
 ·have e2 : (covR (⟨m0, m1, m2, m3, m4, m5, m6, m7, m8, m9, m10, m11⟩ : TMod) l K (⟨⟨b0, b1, b2⟩, ⟨b3, b4, b5⟩⟩ : TBox).half1).2 = true := by simpa using e2
  have e3 : (covR (⟨m0, m1, m2, m3, m4, m5, m6, m7, m8, m9, m10, m11⟩ : TMod) l K (⟨⟨b0, b1, b2⟩, ⟨b3, b4, b5⟩⟩ : TBox).half2).2 = false := by simpa using e3
  rw [hE, e2, e3]
  exact le_tu le_nil (LeD.refl _)
 ·unfold roomP maxLen; simp; omega
 ·have e2 : (covR (⟨m0, m1, m2, m3, m4, m5, m6, m7, m8, m9, m10, m11⟩ : TMod) l K (⟨⟨b0, b1, b2⟩, ⟨b3, b4, b5⟩⟩ : TBox).half1).2 = true := by simpa using e2
  have e3 : (covR (⟨m0, m1, m2, m3, m4, m5, m6, m7, m8, m9, m10, m11⟩ : TMod) l K (⟨⟨b0, b1, b2⟩, ⟨b3, b4, b5⟩⟩ : TBox).half2).2 = true := by simpa using e3
  rw [hE, e2, e3]
  have := le_bxs ((covR (⟨m0, m1, m2, m3, m4, m5, m6, m7, m8, m9, m10, m11⟩ : TMod) l K (⟨⟨b0, b1, b2⟩, ⟨b3, b4, b5⟩⟩ : TBox).half1).1 ++ (covR (⟨m0, m1, m2, m3, m4, m5, m6, m7, m8, m9, m10, m11⟩ : TMod) l K (⟨⟨b0, b1, b2⟩, ⟨b3, b4, b5⟩⟩ : TBox).half2).1)
  rw [List.map_append] at this
  exact le_tu this (LeD.refl _)
theorem okr_track_model_cover : ∀ kk, Ok Try.prog 115 (conr_track_model_cover kk) := by
 intro kk
 induction kk with
 | zero =>
  intro args r pre fresh h hp
  unfold conr_track_model_cover at h
  split at h
  ·cases h
   exact absurd hp.2.2 (Nat.not_lt_zero _)
  ·cases h
 | succ kk ih =>
  refine Ok.fnFr (ann := ann_track_model_cover) mixed tabOK (Valid.add VS67 ih) VI49 rfl (fn := Try.f115) (by kernel_rfl) (by kernel_rfl) fit_track_model_cover fun args r pre fresh h hp => ?_
  unfold conr_track_model_cover at h
  split at h
  ·rename_i m0 m1 m2 m3 m4 m5 m6 m7 m8 m9 m10 m11 b0 b1 b2 b3 b4 b5 n_l c_l K
   cases h
   obtain ⟨hp0, hp⟩ := hp
   refine ⟨rfl, (by intro x hx; simp only [List.mem_cons, List.not_mem_nil, or_false] at hx; rcases hx with rfl | rfl; exact (fun i j _ hj => plain_TBox _ i j); exact trivial), fun _ _ _ => False, [.t (.a [.v (.int .i64 m0), .v (.int .i64 m1), .v (.int .i64 m2), .v (.int .i64 m3), .v (.int .i64 m4), .v (.int .i64 m5), .v (.int .i64 m6), .v (.int .i64 m7), .v (.int .i64 m8), .v (.int .i64 m9), .v (.int .i64 m10), .v (.int .i64 m11)]), .t (.a [.v (.int .i64 b0), .v (.int .i64 b1), .v (.int .i64 b2), .v (.int .i64 b3), .v (.int .i64 b4), .v (.int .i64 b5)]), .t (.c (.sl 5 ((listC n_l mkHit c_l).length) (hitsC (listC n_l mkHit c_l)))), .t (.c (.v (.int .i64 K)))], ?_, Nat.le_of_ble_eq_true (by kernel_rfl), ?_, ?_⟩
   ·exact (LeA_cons (LeD.refl _) (LeA_cons (LeD.refl _) (LeA_cons (leT_c ((leL_THit hp0))) (LeA_cons (LeD.refl _) LeA_nil))))
   ·rw [ev_track_model_cover]; exact spec_track_model_cover kk m0 m1 m2 m3 m4 m5 m6 m7 m8 m9 m10 m11 b0 b1 b2 b3 b4 b5 (listC n_l mkHit c_l) K hp
   ·rw [lp_track_model_cover]; trivial
  ·cases h
def con_track_model_cover : Con := fun args => match args with
 | [.t (.a [.v (.int .i64 m0), .v (.int .i64 m1), .v (.int .i64 m2), .v (.int .i64 m3), .v (.int .i64 m4), .v (.int .i64 m5), .v (.int .i64 m6), .v (.int .i64 m7), .v (.int .i64 m8), .v (.int .i64 m9), .v (.int .i64 m10), .v (.int .i64 m11)]), .t (.a [.v (.int .i64 b0), .v (.int .i64 b1), .v (.int .i64 b2), .v (.int .i64 b3), .v (.int .i64 b4), .v (.int .i64 b5)]), .t (.c (.sl 5 n_l c_l)), .t (.c (.v (.int .i64 K)))] => some (.tu [.c (.sl 6 (((covR (⟨m0, m1, m2, m3, m4, m5, m6, m7, m8, m9, m10, m11⟩ : TMod) (listC n_l mkHit c_l) K (⟨⟨b0, b1, b2⟩, ⟨b3, b4, b5⟩⟩ : TBox)).1).length) (bxsC ((covR (⟨m0, m1, m2, m3, m4, m5, m6, m7, m8, m9, m10, m11⟩ : TMod) (listC n_l mkHit c_l) K (⟨⟨b0, b1, b2⟩, ⟨b3, b4, b5⟩⟩ : TBox)).1))), .c (.v (.bool ((covR (⟨m0, m1, m2, m3, m4, m5, m6, m7, m8, m9, m10, m11⟩ : TMod) (listC n_l mkHit c_l) K (⟨⟨b0, b1, b2⟩, ⟨b3, b4, b5⟩⟩ : TBox)).2)))], some (numsP 5 n_l c_l ∧ ((⟨m0, m1, m2, m3, m4, m5, m6, m7, m8, m9, m10, m11⟩ : TMod)).err = 0 ∧ ((⟨⟨b0, b1, b2⟩, ⟨b3, b4, b5⟩⟩ : TBox)).err = 0 ∧ hitsE (listC n_l mkHit c_l) = 0), true)
 | _ => none
theorem ok_track_model_cover : Ok Try.prog 115 con_track_model_cover := by
 intro args r pre fresh h hp
 unfold con_track_model_cover at h
 split at h
 ·rename_i m0 m1 m2 m3 m4 m5 m6 m7 m8 m9 m10 m11 b0 b1 b2 b3 b4 b5 n_l c_l K
  cases h
  exact okr_track_model_cover ((((⟨⟨b0, b1, b2⟩, ⟨b3, b4, b5⟩⟩ : TBox)).count.toNat) + 1) _ _ _ _ rfl ⟨hp.1, hp.2, Nat.lt_succ_self _⟩
 ·cases h
def S68 : Sum := addS S67 115 con_track_model_cover
theorem VS68 : Valid Try.prog S68 := Valid.add VS67 ok_track_model_cover
def vc_track_CoverOf (m0 m1 m2 m3 m4 m5 m6 m7 m8 m9 m10 m11 : Int) (b0 b1 b2 b3 b4 b5 : Int) (l : List THit) (K : Int) (post : DV → Prop) : Prop := (fun (Z1 : TMod) (Z2 : TBox) (Z3 : List THit) => (numsP 5 l.length (hitsC l)) ∧ (cond ((firstNZ [firstNZ [(Z1).err, (Z2).err], hitsE Z3]) != (0 : Int)) (post (.tu [.c (.v (.slice none 0 0)), .c (.v (.int .i64 (firstNZ [firstNZ [(Z1).err, (Z2).err], hitsE Z3])))])) ((numsP 5 l.length (hitsC l) ∧ (Z1).err = 0 ∧ (Z2).err = 0 ∧ hitsE Z3 = 0) ∧ (post (.tu [.c (.sl 6 (((covR Z1 Z3 K Z2).1).length) (bxsC ((covR Z1 Z3 K Z2).1))), .c (.v (.int .i64 (unl ((covR Z1 Z3 K Z2).2) (12 : Int))))]))))) (⟨m0, m1, m2, m3, m4, m5, m6, m7, m8, m9, m10, m11⟩ : TMod) (⟨⟨b0, b1, b2⟩, ⟨b3, b4, b5⟩⟩ : TBox) (listC l.length mkHit (hitsC l))
def ann_track_CoverOf : Ann := ⟨fun _ => none, fun _ => none, fun _ => [], I49, false, fun _ => none, fun _ => none⟩
theorem ev_track_CoverOf (J : Inv) (m0 m1 m2 m3 m4 m5 m6 m7 m8 m9 m10 m11 : Int) (b0 b1 b2 b3 b4 b5 : Int) (l : List THit) (K : Int) (post : DV → Prop) : evFn Try.prog tab S68 ann_track_CoverOf J Try.f59 [.t (.a [.v (.int .i64 m0), .v (.int .i64 m1), .v (.int .i64 m2), .v (.int .i64 m3), .v (.int .i64 m4), .v (.int .i64 m5), .v (.int .i64 m6), .v (.int .i64 m7), .v (.int .i64 m8), .v (.int .i64 m9), .v (.int .i64 m10), .v (.int .i64 m11)]), .t (.a [.v (.int .i64 b0), .v (.int .i64 b1), .v (.int .i64 b2), .v (.int .i64 b3), .v (.int .i64 b4), .v (.int .i64 b5), .sl 5 l.length (hitsC l)]), .t (.c (.v (.int .i64 K)))] post = vc_track_CoverOf m0 m1 m2 m3 m4 m5 m6 m7 m8 m9 m10 m11 b0 b1 b2 b3 b4 b5 l K post := by kernel_rfl
theorem fit_track_CoverOf : okFn ann_track_CoverOf Try.f59 = true := by kernel_rfl
theorem lp_track_CoverOf (J : Inv) (post : DV → Prop) : AllG J (loopsFn Try.prog tab S68 ann_track_CoverOf J Try.f59 post) = (True) := by kernel_rfl
set_option maxHeartbeats 8000000 in
set_option maxRecDepth 100000 in
theorem spec_track_CoverOf (m0 m1 m2 m3 m4 m5 m6 m7 m8 m9 m10 m11 : Int) (b0 b1 b2 b3 b4 b5 : Int) (l : List THit) (K : Int) : vc_track_CoverOf m0 m1 m2 m3 m4 m5 m6 m7 m8 m9 m10 m11 b0 b1 b2 b3 b4 b5 l K (fun r => LeD r (.tu [.c (.sl 6 ((if firstNZ [firstNZ [((⟨m0, m1, m2, m3, m4, m5, m6, m7, m8, m9, m10, m11⟩ : TMod)).err, ((⟨⟨b0, b1, b2⟩, ⟨b3, b4, b5⟩⟩ : TBox)).err], hitsE l] = 0 then (covR (⟨m0, m1, m2, m3, m4, m5, m6, m7, m8, m9, m10, m11⟩ : TMod) l K (⟨⟨b0, b1, b2⟩, ⟨b3, b4, b5⟩⟩ : TBox)).1 else []).length) (bxsC (if firstNZ [firstNZ [((⟨m0, m1, m2, m3, m4, m5, m6, m7, m8, m9, m10, m11⟩ : TMod)).err, ((⟨⟨b0, b1, b2⟩, ⟨b3, b4, b5⟩⟩ : TBox)).err], hitsE l] = 0 then (covR (⟨m0, m1, m2, m3, m4, m5, m6, m7, m8, m9, m10, m11⟩ : TMod) l K (⟨⟨b0, b1, b2⟩, ⟨b3, b4, b5⟩⟩ : TBox)).1 else []))), .c (.v (.int .i64 (if firstNZ [firstNZ [((⟨m0, m1, m2, m3, m4, m5, m6, m7, m8, m9, m10, m11⟩ : TMod)).err, ((⟨⟨b0, b1, b2⟩, ⟨b3, b4, b5⟩⟩ : TBox)).err], hitsE l] = 0 then unl (covR (⟨m0, m1, m2, m3, m4, m5, m6, m7, m8, m9, m10, m11⟩ : TMod) l K (⟨⟨b0, b1, b2⟩, ⟨b3, b4, b5⟩⟩ : TBox)).2 12 else firstNZ [firstNZ [((⟨m0, m1, m2, m3, m4, m5, m6, m7, m8, m9, m10, m11⟩ : TMod)).err, ((⟨⟨b0, b1, b2⟩, ⟨b3, b4, b5⟩⟩ : TBox)).err], hitsE l])))])) := by
 unfold vc_track_CoverOf
 simp only [hits_listC]
 refine ⟨numsP_hits l, cond_i (fun h => ?_) (fun h => ?_)⟩
 ·have h : firstNZ [firstNZ [(⟨m0, m1, m2, m3, m4, m5, m6, m7, m8, m9, m10, m11⟩ : TMod).err, (⟨⟨b0, b1, b2⟩, ⟨b3, b4, b5⟩⟩ : TBox).err], hitsE l] ≠ 0 := by simpa using h
  rw [if_neg h, if_neg h]
  exact le_tu le_nil (LeD.refl _)
 ·have h : firstNZ [firstNZ [(⟨m0, m1, m2, m3, m4, m5, m6, m7, m8, m9, m10, m11⟩ : TMod).err, (⟨⟨b0, b1, b2⟩, ⟨b3, b4, b5⟩⟩ : TBox).err], hitsE l] = 0 := by simpa using h
  obtain ⟨q1, q2⟩ := fn2 h
  obtain ⟨q3, q4⟩ := fn2 q1
  rw [if_pos h, if_pos h]
  exact ⟨⟨numsP_hits l, q3, q4, q2⟩, LeD.refl _⟩
def con_track_CoverOf : Con := fun args => match args with
 | [.t (.a [.v (.int .i64 m0), .v (.int .i64 m1), .v (.int .i64 m2), .v (.int .i64 m3), .v (.int .i64 m4), .v (.int .i64 m5), .v (.int .i64 m6), .v (.int .i64 m7), .v (.int .i64 m8), .v (.int .i64 m9), .v (.int .i64 m10), .v (.int .i64 m11)]), .t (.a [.v (.int .i64 b0), .v (.int .i64 b1), .v (.int .i64 b2), .v (.int .i64 b3), .v (.int .i64 b4), .v (.int .i64 b5), .sl 5 n_l c_l]), .t (.c (.v (.int .i64 K)))] => some (.tu [.c (.sl 6 ((if firstNZ [firstNZ [((⟨m0, m1, m2, m3, m4, m5, m6, m7, m8, m9, m10, m11⟩ : TMod)).err, ((⟨⟨b0, b1, b2⟩, ⟨b3, b4, b5⟩⟩ : TBox)).err], hitsE (listC n_l mkHit c_l)] = 0 then (covR (⟨m0, m1, m2, m3, m4, m5, m6, m7, m8, m9, m10, m11⟩ : TMod) (listC n_l mkHit c_l) K (⟨⟨b0, b1, b2⟩, ⟨b3, b4, b5⟩⟩ : TBox)).1 else []).length) (bxsC (if firstNZ [firstNZ [((⟨m0, m1, m2, m3, m4, m5, m6, m7, m8, m9, m10, m11⟩ : TMod)).err, ((⟨⟨b0, b1, b2⟩, ⟨b3, b4, b5⟩⟩ : TBox)).err], hitsE (listC n_l mkHit c_l)] = 0 then (covR (⟨m0, m1, m2, m3, m4, m5, m6, m7, m8, m9, m10, m11⟩ : TMod) (listC n_l mkHit c_l) K (⟨⟨b0, b1, b2⟩, ⟨b3, b4, b5⟩⟩ : TBox)).1 else []))), .c (.v (.int .i64 (if firstNZ [firstNZ [((⟨m0, m1, m2, m3, m4, m5, m6, m7, m8, m9, m10, m11⟩ : TMod)).err, ((⟨⟨b0, b1, b2⟩, ⟨b3, b4, b5⟩⟩ : TBox)).err], hitsE (listC n_l mkHit c_l)] = 0 then unl (covR (⟨m0, m1, m2, m3, m4, m5, m6, m7, m8, m9, m10, m11⟩ : TMod) (listC n_l mkHit c_l) K (⟨⟨b0, b1, b2⟩, ⟨b3, b4, b5⟩⟩ : TBox)).2 12 else firstNZ [firstNZ [((⟨m0, m1, m2, m3, m4, m5, m6, m7, m8, m9, m10, m11⟩ : TMod)).err, ((⟨⟨b0, b1, b2⟩, ⟨b3, b4, b5⟩⟩ : TBox)).err], hitsE (listC n_l mkHit c_l)])))], some (numsP 5 n_l c_l), false)
 | _ => none
theorem ok_track_CoverOf : Ok Try.prog 59 con_track_CoverOf := by
 refine Ok.fn (ann := ann_track_CoverOf) mixed tabOK VS68 VI49 (fn := Try.f59) (by kernel_rfl) (by kernel_rfl) fit_track_CoverOf fun args r pre fresh h hp => ?_
 unfold con_track_CoverOf at h
 split at h
 ·rename_i m0 m1 m2 m3 m4 m5 m6 m7 m8 m9 m10 m11 b0 b1 b2 b3 b4 b5 n_l c_l K
  cases h
  have hp0 := hp
  refine ⟨rfl, fun _ _ _ => False, [.t (.a [.v (.int .i64 m0), .v (.int .i64 m1), .v (.int .i64 m2), .v (.int .i64 m3), .v (.int .i64 m4), .v (.int .i64 m5), .v (.int .i64 m6), .v (.int .i64 m7), .v (.int .i64 m8), .v (.int .i64 m9), .v (.int .i64 m10), .v (.int .i64 m11)]), .t (.a [.v (.int .i64 b0), .v (.int .i64 b1), .v (.int .i64 b2), .v (.int .i64 b3), .v (.int .i64 b4), .v (.int .i64 b5), .sl 5 ((listC n_l mkHit c_l).length) (hitsC (listC n_l mkHit c_l))]), .t (.c (.v (.int .i64 K)))], ?_, Nat.le_of_ble_eq_true (by kernel_rfl), ?_, ?_⟩
  ·exact (LeA_cons (LeD.refl _) (LeA_cons (leT_a (LeCs.cons (LeC1.refl _) (LeCs.cons (LeC1.refl _) (LeCs.cons (LeC1.refl _) (LeCs.cons (LeC1.refl _) (LeCs.cons (LeC1.refl _) (LeCs.cons (LeC1.refl _) (LeCs.cons ((leL_THit hp0)) LeCs.nil)))))))) (LeA_cons (LeD.refl _) LeA_nil)))
  ·rw [ev_track_CoverOf]; exact spec_track_CoverOf m0 m1 m2 m3 m4 m5 m6 m7 m8 m9 m10 m11 b0 b1 b2 b3 b4 b5 (listC n_l mkHit c_l) K
  ·rw [lp_track_CoverOf]; trivial
 ·cases h
def S69 : Sum := addS S68 59 con_track_CoverOf
theorem VS69 : Valid Try.prog S69 := Valid.add VS68 ok_track_CoverOf
def vc_track_CheckCover_2 (a0 a1 a2 a3 a4 a5 : Int) (m0 m1 m2 m3 m4 m5 m6 m7 m8 m9 m10 m11 : Int) (b0 b1 b2 b3 b4 b5 : Int) (l : List THit) (d : List TBox) (K : Int) (post : DV → Prop) : Prop := (numsP 5 l.length (hitsC l) ∧ ((⟨m0, m1, m2, m3, m4, m5, m6, m7, m8, m9, m10, m11⟩ : TMod)).err = 0 ∧ ((⟨⟨a0, a1, a2⟩, ⟨a3, a4, a5⟩⟩ : TBox)).err = 0 ∧ hitsE (listC l.length mkHit (hitsC l)) = 0) ∧ (post (.t (.c (.v (.bool (!(provB (⟨m0, m1, m2, m3, m4, m5, m6, m7, m8, m9, m10, m11⟩ : TMod) (listC l.length mkHit (hitsC l)) K (⟨⟨a0, a1, a2⟩, ⟨a3, a4, a5⟩⟩ : TBox))))))))
def ann_track_CheckCover_2 : Ann := ⟨fun _ => none, fun _ => none, fun _ => [], I49, false, fun _ => none, fun _ => none⟩
theorem ev_track_CheckCover_2 (J : Inv) (a0 a1 a2 a3 a4 a5 : Int) (m0 m1 m2 m3 m4 m5 m6 m7 m8 m9 m10 m11 : Int) (b0 b1 b2 b3 b4 b5 : Int) (l : List THit) (d : List TBox) (K : Int) (post : DV → Prop) : evFn Try.prog tab S69 ann_track_CheckCover_2 J Try.f113 [.t (.a [.v (.int .i64 a0), .v (.int .i64 a1), .v (.int .i64 a2), .v (.int .i64 a3), .v (.int .i64 a4), .v (.int .i64 a5)]), .t (.c (.px 12 0 (boxC [.v (.int .i64 m0), .v (.int .i64 m1), .v (.int .i64 m2), .v (.int .i64 m3), .v (.int .i64 m4), .v (.int .i64 m5), .v (.int .i64 m6), .v (.int .i64 m7), .v (.int .i64 m8), .v (.int .i64 m9), .v (.int .i64 m10), .v (.int .i64 m11)]))), .t (.c (.px 7 0 (boxC [.v (.int .i64 b0), .v (.int .i64 b1), .v (.int .i64 b2), .v (.int .i64 b3), .v (.int .i64 b4), .v (.int .i64 b5), .sl 5 l.length (hitsC l)]))), .t (.c (.px 2 0 (boxC [.sl 6 d.length (bxsC d), .v (.int .i64 K)])))] post = vc_track_CheckCover_2 a0 a1 a2 a3 a4 a5 m0 m1 m2 m3 m4 m5 m6 m7 m8 m9 m10 m11 b0 b1 b2 b3 b4 b5 l d K post := by kernel_rfl
theorem fit_track_CheckCover_2 : okFn ann_track_CheckCover_2 Try.f113 = true := by kernel_rfl
theorem lp_track_CheckCover_2 (J : Inv) (post : DV → Prop) : AllG J (loopsFn Try.prog tab S69 ann_track_CheckCover_2 J Try.f113 post) = (True) := by kernel_rfl
theorem spec_track_CheckCover_2 (a0 a1 a2 a3 a4 a5 : Int) (m0 m1 m2 m3 m4 m5 m6 m7 m8 m9 m10 m11 : Int) (b0 b1 b2 b3 b4 b5 : Int) (l : List THit) (d : List TBox) (K : Int) (hp : ((⟨m0, m1, m2, m3, m4, m5, m6, m7, m8, m9, m10, m11⟩ : TMod)).err = 0 ∧ ((⟨⟨a0, a1, a2⟩, ⟨a3, a4, a5⟩⟩ : TBox)).err = 0 ∧ hitsE l = 0) : vc_track_CheckCover_2 a0 a1 a2 a3 a4 a5 m0 m1 m2 m3 m4 m5 m6 m7 m8 m9 m10 m11 b0 b1 b2 b3 b4 b5 l d K (fun r => LeD r (.t (.c (.v (.bool (!provB (⟨m0, m1, m2, m3, m4, m5, m6, m7, m8, m9, m10, m11⟩ : TMod) l K (⟨⟨a0, a1, a2⟩, ⟨a3, a4, a5⟩⟩ : TBox))))))) := by
 unfold vc_track_CheckCover_2
 rw [hits_listC]
 exact ⟨⟨numsP_hits l, hp⟩, LeD.refl _⟩
def con_track_CheckCover_2 : Con := fun args => match args with
 | [.t (.a [.v (.int .i64 a0), .v (.int .i64 a1), .v (.int .i64 a2), .v (.int .i64 a3), .v (.int .i64 a4), .v (.int .i64 a5)]), .t (.c (.px 12 0 c_pm)), .t (.c (.px 7 0 c_ps)), .t (.c (.px 2 0 c_pc))] => some (.t (.c (.v (.bool (!provB (⟨(cvInt (c_pm 0)), (cvInt (c_pm 1)), (cvInt (c_pm 2)), (cvInt (c_pm 3)), (cvInt (c_pm 4)), (cvInt (c_pm 5)), (cvInt (c_pm 6)), (cvInt (c_pm 7)), (cvInt (c_pm 8)), (cvInt (c_pm 9)), (cvInt (c_pm 10)), (cvInt (c_pm 11))⟩ : TMod) (listC (cvLen (c_ps 6)) mkHit (cvCells (c_ps 6))) (cvInt (c_pc 1)) (⟨⟨a0, a1, a2⟩, ⟨a3, a4, a5⟩⟩ : TBox))))), some (intsB [0, 1, 2, 3, 4, 5, 6, 7, 8, 9, 10, 11] c_pm = true ∧ intsB [0, 1, 2, 3, 4, 5] c_ps = true ∧ slP 5 (c_ps 6) ∧ numsP 5 (cvLen (c_ps 6)) (cvCells (c_ps 6)) ∧ intsB [1] c_pc = true ∧ slP 6 (c_pc 0) ∧ numsP 6 (cvLen (c_pc 0)) (cvCells (c_pc 0)) ∧ ((⟨(cvInt (c_pm 0)), (cvInt (c_pm 1)), (cvInt (c_pm 2)), (cvInt (c_pm 3)), (cvInt (c_pm 4)), (cvInt (c_pm 5)), (cvInt (c_pm 6)), (cvInt (c_pm 7)), (cvInt (c_pm 8)), (cvInt (c_pm 9)), (cvInt (c_pm 10)), (cvInt (c_pm 11))⟩ : TMod)).err = 0 ∧ ((⟨⟨a0, a1, a2⟩, ⟨a3, a4, a5⟩⟩ : TBox)).err = 0 ∧ hitsE (listC (cvLen (c_ps 6)) mkHit (cvCells (c_ps 6))) = 0), false)
 | _ => none
theorem ok_track_CheckCover_2 : Ok Try.prog 113 con_track_CheckCover_2 := by
 refine Ok.fn (ann := ann_track_CheckCover_2) mixed tabOK VS69 VI49 (fn := Try.f113) (by kernel_rfl) (by kernel_rfl) fit_track_CheckCover_2 fun args r pre fresh h hp => ?_
 unfold con_track_CheckCover_2 at h
 split at h
 ·rename_i a0 a1 a2 a3 a4 a5 c_pm c_ps c_pc
  cases h
  obtain ⟨hp0, hp1, hp2, hp3, hp4, hp5, hp6, hp⟩ := hp
  refine ⟨rfl, fun _ _ _ => False, [.t (.a [.v (.int .i64 a0), .v (.int .i64 a1), .v (.int .i64 a2), .v (.int .i64 a3), .v (.int .i64 a4), .v (.int .i64 a5)]), .t (.c (.px 12 0 (boxC [.v (.int .i64 (cvInt (c_pm 0))), .v (.int .i64 (cvInt (c_pm 1))), .v (.int .i64 (cvInt (c_pm 2))), .v (.int .i64 (cvInt (c_pm 3))), .v (.int .i64 (cvInt (c_pm 4))), .v (.int .i64 (cvInt (c_pm 5))), .v (.int .i64 (cvInt (c_pm 6))), .v (.int .i64 (cvInt (c_pm 7))), .v (.int .i64 (cvInt (c_pm 8))), .v (.int .i64 (cvInt (c_pm 9))), .v (.int .i64 (cvInt (c_pm 10))), .v (.int .i64 (cvInt (c_pm 11)))]))), .t (.c (.px 7 0 (boxC [.v (.int .i64 (cvInt (c_ps 0))), .v (.int .i64 (cvInt (c_ps 1))), .v (.int .i64 (cvInt (c_ps 2))), .v (.int .i64 (cvInt (c_ps 3))), .v (.int .i64 (cvInt (c_ps 4))), .v (.int .i64 (cvInt (c_ps 5))), .sl 5 ((listC (cvLen (c_ps 6)) mkHit (cvCells (c_ps 6))).length) (hitsC (listC (cvLen (c_ps 6)) mkHit (cvCells (c_ps 6))))]))), .t (.c (.px 2 0 (boxC [.sl 6 ((listC (cvLen (c_pc 0)) mkBx (cvCells (c_pc 0))).length) (bxsC (listC (cvLen (c_pc 0)) mkBx (cvCells (c_pc 0)))), .v (.int .i64 (cvInt (c_pc 1)))])))], ?_, Nat.le_of_ble_eq_true (by kernel_rfl), ?_, ?_⟩
  ·exact (LeA_cons (LeD.refl _) (LeA_cons (leT_c (leC_p (LeCs.cons (leC_i (intsB_get hp0 0 (by decide))) (LeCs.cons (leC_i (intsB_get hp0 1 (by decide))) (LeCs.cons (leC_i (intsB_get hp0 2 (by decide))) (LeCs.cons (leC_i (intsB_get hp0 3 (by decide))) (LeCs.cons (leC_i (intsB_get hp0 4 (by decide))) (LeCs.cons (leC_i (intsB_get hp0 5 (by decide))) (LeCs.cons (leC_i (intsB_get hp0 6 (by decide))) (LeCs.cons (leC_i (intsB_get hp0 7 (by decide))) (LeCs.cons (leC_i (intsB_get hp0 8 (by decide))) (LeCs.cons (leC_i (intsB_get hp0 9 (by decide))) (LeCs.cons (leC_i (intsB_get hp0 10 (by decide))) (LeCs.cons (leC_i (intsB_get hp0 11 (by decide))) LeCs.nil)))))))))))))) (LeA_cons (leT_c (leC_p (LeCs.cons (leC_i (intsB_get hp1 0 (by decide))) (LeCs.cons (leC_i (intsB_get hp1 1 (by decide))) (LeCs.cons (leC_i (intsB_get hp1 2 (by decide))) (LeCs.cons (leC_i (intsB_get hp1 3 (by decide))) (LeCs.cons (leC_i (intsB_get hp1 4 (by decide))) (LeCs.cons (leC_i (intsB_get hp1 5 (by decide))) (LeCs.cons (leC_s hp2 (leL_THit hp3)) LeCs.nil))))))))) (LeA_cons (leT_c (leC_p (LeCs.cons (leC_s hp5 (leL_TBox hp6)) (LeCs.cons (leC_i (intsB_get hp4 1 (by decide))) LeCs.nil)))) LeA_nil))))
  ·rw [ev_track_CheckCover_2]; exact spec_track_CheckCover_2 a0 a1 a2 a3 a4 a5 (cvInt (c_pm 0)) (cvInt (c_pm 1)) (cvInt (c_pm 2)) (cvInt (c_pm 3)) (cvInt (c_pm 4)) (cvInt (c_pm 5)) (cvInt (c_pm 6)) (cvInt (c_pm 7)) (cvInt (c_pm 8)) (cvInt (c_pm 9)) (cvInt (c_pm 10)) (cvInt (c_pm 11)) (cvInt (c_ps 0)) (cvInt (c_ps 1)) (cvInt (c_ps 2)) (cvInt (c_ps 3)) (cvInt (c_ps 4)) (cvInt (c_ps 5)) (listC (cvLen (c_ps 6)) mkHit (cvCells (c_ps 6))) (listC (cvLen (c_pc 0)) mkBx (cvCells (c_pc 0))) (cvInt (c_pc 1)) hp
  ·rw [lp_track_CheckCover_2]; trivial
 ·cases h
def S70 : Sum := addS S69 113 con_track_CheckCover_2
theorem VS70 : Valid Try.prog S70 := Valid.add VS69 ok_track_CheckCover_2
def mk_slices_IndexFunc_cherenkov_api_TrackBox_cherenkov_api_TrackBox_b_0 (c : List TBox) (m0 m1 m2 m3 m4 m5 m6 m7 m8 m9 m10 m11 : Int) (b0 b1 b2 b3 b4 b5 : Int) (l : List THit) (d : List TBox) (K : Int) (v0_0 : Int) : DS := ⟨[some (.t (.c (.sl 6 c.length (bxsC c)))), some (.t (.fn 113 [.px 12 0 (boxC [.v (.int .i64 m0), .v (.int .i64 m1), .v (.int .i64 m2), .v (.int .i64 m3), .v (.int .i64 m4), .v (.int .i64 m5), .v (.int .i64 m6), .v (.int .i64 m7), .v (.int .i64 m8), .v (.int .i64 m9), .v (.int .i64 m10), .v (.int .i64 m11)]), .px 7 0 (boxC [.v (.int .i64 b0), .v (.int .i64 b1), .v (.int .i64 b2), .v (.int .i64 b3), .v (.int .i64 b4), .v (.int .i64 b5), .sl 5 l.length (hitsC l)]), .px 2 0 (boxC [.sl 6 d.length (bxsC d), .v (.int .i64 K)])])), none, none, none, none, none, some (.t (.c (.v (.int .i64 ((c.length : Nat) : Int))))), some (.t (.c (.v (.int .i64 v0_0)))), none, none, none, none, none, none, none, none, none, none], [none, none, none, none, none, none, none, none, none, none, none, none, none, none, none, none, none, none, none]⟩
def vc_slices_IndexFunc_cherenkov_api_TrackBox_cherenkov_api_TrackBox_b (J : Inv) (c : List TBox) (m0 m1 m2 m3 m4 m5 m6 m7 m8 m9 m10 m11 : Int) (b0 b1 b2 b3 b4 b5 : Int) (l : List THit) (d : List TBox) (K : Int) (post : DV → Prop) : Prop := ∃ n, J 0 (n :: []) (mk_slices_IndexFunc_cherenkov_api_TrackBox_cherenkov_api_TrackBox_b_0 c m0 m1 m2 m3 m4 m5 m6 m7 m8 m9 m10 m11 b0 b1 b2 b3 b4 b5 l d K 0)
def ann_slices_IndexFunc_cherenkov_api_TrackBox_cherenkov_api_TrackBox_b : Ann := ⟨fun _ => none, fun b => lookA b [(0, (none, some ⟨[0, 1, 7, 8], [], []⟩))], fun _ => [], I49, false, fun _ => none, fun _ => none⟩
theorem ev_slices_IndexFunc_cherenkov_api_TrackBox_cherenkov_api_TrackBox_b (J : Inv) (c : List TBox) (m0 m1 m2 m3 m4 m5 m6 m7 m8 m9 m10 m11 : Int) (b0 b1 b2 b3 b4 b5 : Int) (l : List THit) (d : List TBox) (K : Int) (post : DV → Prop) : evFn Try.prog tab S70 ann_slices_IndexFunc_cherenkov_api_TrackBox_cherenkov_api_TrackBox_b J Try.f112 [.t (.c (.sl 6 c.length (bxsC c))), .t (.fn 113 [.px 12 0 (boxC [.v (.int .i64 m0), .v (.int .i64 m1), .v (.int .i64 m2), .v (.int .i64 m3), .v (.int .i64 m4), .v (.int .i64 m5), .v (.int .i64 m6), .v (.int .i64 m7), .v (.int .i64 m8), .v (.int .i64 m9), .v (.int .i64 m10), .v (.int .i64 m11)]), .px 7 0 (boxC [.v (.int .i64 b0), .v (.int .i64 b1), .v (.int .i64 b2), .v (.int .i64 b3), .v (.int .i64 b4), .v (.int .i64 b5), .sl 5 l.length (hitsC l)]), .px 2 0 (boxC [.sl 6 d.length (bxsC d), .v (.int .i64 K)])])] post = vc_slices_IndexFunc_cherenkov_api_TrackBox_cherenkov_api_TrackBox_b J c m0 m1 m2 m3 m4 m5 m6 m7 m8 m9 m10 m11 b0 b1 b2 b3 b4 b5 l d K post := by kernel_rfl
theorem fit_slices_IndexFunc_cherenkov_api_TrackBox_cherenkov_api_TrackBox_b : okFn ann_slices_IndexFunc_cherenkov_api_TrackBox_cherenkov_api_TrackBox_b Try.f112 = true := by kernel_rfl
def rd_slices_IndexFunc_cherenkov_api_TrackBox_cherenkov_api_TrackBox_b_0 (J : Inv) (c : List TBox) (m0 m1 m2 m3 m4 m5 m6 m7 m8 m9 m10 m11 : Int) (b0 b1 b2 b3 b4 b5 : Int) (l : List THit) (d : List TBox) (K : Int) (v0_0 : Int) (nn0 : Nat) (post : DV → Prop) : Prop := cond (decide (v0_0 < ((c.length : Nat) : Int))) ((0 ≤ v0_0 ∧ v0_0 < ((c.length : Nat) : Int)) ∧ ((intsB [0, 1, 2, 3, 4, 5, 6, 7, 8, 9, 10, 11] (boxC [.v (.int .i64 m0), .v (.int .i64 m1), .v (.int .i64 m2), .v (.int .i64 m3), .v (.int .i64 m4), .v (.int .i64 m5), .v (.int .i64 m6), .v (.int .i64 m7), .v (.int .i64 m8), .v (.int .i64 m9), .v (.int .i64 m10), .v (.int .i64 m11)]) = true ∧ intsB [0, 1, 2, 3, 4, 5] (boxC [.v (.int .i64 b0), .v (.int .i64 b1), .v (.int .i64 b2), .v (.int .i64 b3), .v (.int .i64 b4), .v (.int .i64 b5), .sl 5 l.length (hitsC l)]) = true ∧ slP 5 ((boxC [.v (.int .i64 b0), .v (.int .i64 b1), .v (.int .i64 b2), .v (.int .i64 b3), .v (.int .i64 b4), .v (.int .i64 b5), .sl 5 l.length (hitsC l)]) 6) ∧ numsP 5 l.length (hitsC l) ∧ intsB [1] (boxC [.sl 6 d.length (bxsC d), .v (.int .i64 K)]) = true ∧ slP 6 ((boxC [.sl 6 d.length (bxsC d), .v (.int .i64 K)]) 0) ∧ numsP 6 d.length (bxsC d) ∧ ((⟨m0, m1, m2, m3, m4, m5, m6, m7, m8, m9, m10, m11⟩ : TMod)).err = 0 ∧ ((bxAt c v0_0.toNat)).err = 0 ∧ hitsE (listC l.length mkHit (hitsC l)) = 0) ∧ (cond (!provB (⟨m0, m1, m2, m3, m4, m5, m6, m7, m8, m9, m10, m11⟩ : TMod) (listC l.length mkHit (hitsC l)) K (bxAt c v0_0.toNat)) (post (.t (.c (.v (.int .i64 v0_0))))) (lt (IntKind.i64.wrap (v0_0 + (1 : Int))) fun x1 => J 0 (nn0 :: []) (mk_slices_IndexFunc_cherenkov_api_TrackBox_cherenkov_api_TrackBox_b_0 c m0 m1 m2 m3 m4 m5 m6 m7 m8 m9 m10 m11 b0 b1 b2 b3 b4 b5 l d K x1))))) (post (.t (.c (.v (.int .i64 (-1))))))
theorem er_slices_IndexFunc_cherenkov_api_TrackBox_cherenkov_api_TrackBox_b_0 (J : Inv) (c : List TBox) (m0 m1 m2 m3 m4 m5 m6 m7 m8 m9 m10 m11 : Int) (b0 b1 b2 b3 b4 b5 : Int) (l : List THit) (d : List TBox) (K : Int) (v0_0 : Int) (nn0 : Nat) (post : DV → Prop) : round Try.prog tab S70 ann_slices_IndexFunc_cherenkov_api_TrackBox_cherenkov_api_TrackBox_b J Try.f112 post 0 (nn0 :: []) (mk_slices_IndexFunc_cherenkov_api_TrackBox_cherenkov_api_TrackBox_b_0 c m0 m1 m2 m3 m4 m5 m6 m7 m8 m9 m10 m11 b0 b1 b2 b3 b4 b5 l d K v0_0) = rd_slices_IndexFunc_cherenkov_api_TrackBox_cherenkov_api_TrackBox_b_0 J c m0 m1 m2 m3 m4 m5 m6 m7 m8 m9 m10 m11 b0 b1 b2 b3 b4 b5 l d K v0_0 nn0 post := by kernel_rfl
theorem lp_slices_IndexFunc_cherenkov_api_TrackBox_cherenkov_api_TrackBox_b (J : Inv) (post : DV → Prop) : AllG J (loopsFn Try.prog tab S70 ann_slices_IndexFunc_cherenkov_api_TrackBox_cherenkov_api_TrackBox_b J Try.f112 post) = (((∀ F s, ¬ J 0 (0 :: F) s) ∧ ∀ n F s, J 0 ((n + 1) :: F) s → round Try.prog tab S70 ann_slices_IndexFunc_cherenkov_api_TrackBox_cherenkov_api_TrackBox_b J Try.f112 post 0 (n :: F) s) ∧ True) := by kernel_rfl
def J_slices_IndexFunc_cherenkov_api_TrackBox_cherenkov_api_TrackBox_b (c : List TBox) (m0 m1 m2 m3 m4 m5 m6 m7 m8 m9 m10 m11 : Int) (b0 b1 b2 b3 b4 b5 : Int) (l : List THit) (d : List TBox) (K : Int) : Inv := fun b F s => match b, F with
 | 0, [nn0] => ∃ (v0_0 : Int), s = mk_slices_IndexFunc_cherenkov_api_TrackBox_cherenkov_api_TrackBox_b_0 c m0 m1 m2 m3 m4 m5 m6 m7 m8 m9 m10 m11 b0 b1 b2 b3 b4 b5 l d K v0_0 ∧ (c.length ≤ 1000000 ∧ 0 ≤ v0_0 ∧ v0_0 ≤ c.length ∧ (nn0 : Int) + v0_0 = c.length + 1 ∧ ∀ j : Nat, (j : Int) < v0_0 → (fun a : TBox => !provB (⟨m0, m1, m2, m3, m4, m5, m6, m7, m8, m9, m10, m11⟩ : TMod) l K a) (bxAt c j) = false)
 | _, _ => False
theorem rnd_slices_IndexFunc_cherenkov_api_TrackBox_cherenkov_api_TrackBox_b_0 (c : List TBox) (m0 m1 m2 m3 m4 m5 m6 m7 m8 m9 m10 m11 : Int) (b0 b1 b2 b3 b4 b5 : Int) (l : List THit) (d : List TBox) (K : Int) (v0_0 : Int) (nn0 : Nat) (hp : (c).length ≤ 1000000 ∧ ((⟨m0, m1, m2, m3, m4, m5, m6, m7, m8, m9, m10, m11⟩ : TMod)).err = 0 ∧ hitsE l = 0 ∧ ∀ i, i < (c).length → (bxAt c i).err = 0) (hi : c.length ≤ 1000000 ∧ 0 ≤ v0_0 ∧ v0_0 ≤ c.length ∧ ((nn0 + 1) : Int) + v0_0 = c.length + 1 ∧ ∀ j : Nat, (j : Int) < v0_0 → (fun a : TBox => !provB (⟨m0, m1, m2, m3, m4, m5, m6, m7, m8, m9, m10, m11⟩ : TMod) l K a) (bxAt c j) = false) : rd_slices_IndexFunc_cherenkov_api_TrackBox_cherenkov_api_TrackBox_b_0 (J_slices_IndexFunc_cherenkov_api_TrackBox_cherenkov_api_TrackBox_b c m0 m1 m2 m3 m4 m5 m6 m7 m8 m9 m10 m11 b0 b1 b2 b3 b4 b5 l d K) c m0 m1 m2 m3 m4 m5 m6 m7 m8 m9 m10 m11 b0 b1 b2 b3 b4 b5 l d K v0_0 nn0 (fun r => LeD r (.t (.c (.v (.int .i64 (idxP (fun a => !provB (⟨m0, m1, m2, m3, m4, m5, m6, m7, m8, m9, m10, m11⟩ : TMod) l K a) c)))))) := by
 obtain ⟨i0, i1, i2, i3, i4⟩ := hi
 obtain ⟨k, rfl⟩ : ∃ k : Nat, v0_0 = k := ⟨v0_0.toNat, by omega⟩
 have hk : (k : Int).toNat = k := rfl
 unfold rd_slices_IndexFunc_cherenkov_api_TrackBox_cherenkov_api_TrackBox_b_0
 rw [hk]
 simp only [hits_listC]
 refine cond_i (fun h => ?_) (fun h => leI ?_)
 ·have hlt : k < c.length := by have := of_decide_eq_true h; omega
  refine ⟨by omega, ⟨rfl, rfl, rfl, numsP_hits l, rfl, rfl, numsP_bxs d, hp.2.1, hp.2.2.2 k hlt, hp.2.2.1⟩, cond_i (fun e => leI ?_) (fun e => lt_i fun x hx => ?_)⟩
  ·exact (idxP_at (d := (⟨⟨0, 0, 0⟩, ⟨0, 0, 0⟩⟩ : TBox)) hlt (fun j hj => i4 j (by omega)) e).symm
  ·rw [IntWalk.i64_in _ (by omega)] at hx
   subst hx
   exact ⟨_, rfl, i0, by omega, by omega, by omega, fun j hj => by
    by_cases q : j = k
    ·rw [q]; exact e
    ·exact i4 j (by omega)⟩
 ·have hge : k = c.length := by have := of_decide_eq_false h; omega
  exact (idxP_none (d := (⟨⟨0, 0, 0⟩, ⟨0, 0, 0⟩⟩ : TBox)) fun j hj => i4 j (by omega)).symm
theorem zero_slices_IndexFunc_cherenkov_api_TrackBox_cherenkov_api_TrackBox_b_0 (c : List TBox) (m0 m1 m2 m3 m4 m5 m6 m7 m8 m9 m10 m11 : Int) (b0 b1 b2 b3 b4 b5 : Int) (l : List THit) (d : List TBox) (K : Int) (v0_0 : Int)  (hi : c.length ≤ 1000000 ∧ 0 ≤ v0_0 ∧ v0_0 ≤ c.length ∧ (0 : Int) + v0_0 = c.length + 1 ∧ ∀ j : Nat, (j : Int) < v0_0 → (fun a : TBox => !provB (⟨m0, m1, m2, m3, m4, m5, m6, m7, m8, m9, m10, m11⟩ : TMod) l K a) (bxAt c j) = false) : False := by
 omega
theorem spec_slices_IndexFunc_cherenkov_api_TrackBox_cherenkov_api_TrackBox_b (c : List TBox) (m0 m1 m2 m3 m4 m5 m6 m7 m8 m9 m10 m11 : Int) (b0 b1 b2 b3 b4 b5 : Int) (l : List THit) (d : List TBox) (K : Int) (hp : (c).length ≤ 1000000 ∧ ((⟨m0, m1, m2, m3, m4, m5, m6, m7, m8, m9, m10, m11⟩ : TMod)).err = 0 ∧ hitsE l = 0 ∧ ∀ i, i < (c).length → (bxAt c i).err = 0) : vc_slices_IndexFunc_cherenkov_api_TrackBox_cherenkov_api_TrackBox_b (J_slices_IndexFunc_cherenkov_api_TrackBox_cherenkov_api_TrackBox_b c m0 m1 m2 m3 m4 m5 m6 m7 m8 m9 m10 m11 b0 b1 b2 b3 b4 b5 l d K) c m0 m1 m2 m3 m4 m5 m6 m7 m8 m9 m10 m11 b0 b1 b2 b3 b4 b5 l d K (fun r => LeD r (.t (.c (.v (.int .i64 (idxP (fun a => !provB (⟨m0, m1, m2, m3, m4, m5, m6, m7, m8, m9, m10, m11⟩ : TMod) l K a) c)))))) := by
 unfold vc_slices_IndexFunc_cherenkov_api_TrackBox_cherenkov_api_TrackBox_b
 exact ⟨c.length + 1, 0, rfl, hp.1, by omega, by omega, by omega, fun j hj => by omega⟩
theorem all_slices_IndexFunc_cherenkov_api_TrackBox_cherenkov_api_TrackBox_b (c : List TBox) (m0 m1 m2 m3 m4 m5 m6 m7 m8 m9 m10 m11 : Int) (b0 b1 b2 b3 b4 b5 : Int) (l : List THit) (d : List TBox) (K : Int) (hp : (c).length ≤ 1000000 ∧ ((⟨m0, m1, m2, m3, m4, m5, m6, m7, m8, m9, m10, m11⟩ : TMod)).err = 0 ∧ hitsE l = 0 ∧ ∀ i, i < (c).length → (bxAt c i).err = 0) : AllG (J_slices_IndexFunc_cherenkov_api_TrackBox_cherenkov_api_TrackBox_b c m0 m1 m2 m3 m4 m5 m6 m7 m8 m9 m10 m11 b0 b1 b2 b3 b4 b5 l d K) (loopsFn Try.prog tab S70 ann_slices_IndexFunc_cherenkov_api_TrackBox_cherenkov_api_TrackBox_b (J_slices_IndexFunc_cherenkov_api_TrackBox_cherenkov_api_TrackBox_b c m0 m1 m2 m3 m4 m5 m6 m7 m8 m9 m10 m11 b0 b1 b2 b3 b4 b5 l d K) Try.f112 (fun r => LeD r (.t (.c (.v (.int .i64 (idxP (fun a => !provB (⟨m0, m1, m2, m3, m4, m5, m6, m7, m8, m9, m10, m11⟩ : TMod) l K a) c))))))) := by
 rw [lp_slices_IndexFunc_cherenkov_api_TrackBox_cherenkov_api_TrackBox_b]
 refine ⟨⟨?_, ?_⟩, trivial⟩
 ·intro F s h
  obtain _ | ⟨g, F⟩ := F
  case cons => exact h.elim
  obtain ⟨w0, rfl, hi⟩ := h
  exact zero_slices_IndexFunc_cherenkov_api_TrackBox_cherenkov_api_TrackBox_b_0 c m0 m1 m2 m3 m4 m5 m6 m7 m8 m9 m10 m11 b0 b1 b2 b3 b4 b5 l d K _ hi
 ·intro n F s h
  obtain _ | ⟨g, F⟩ := F
  case cons => exact h.elim
  obtain ⟨w0, rfl, hi⟩ := h
  rw [er_slices_IndexFunc_cherenkov_api_TrackBox_cherenkov_api_TrackBox_b_0]
  exact rnd_slices_IndexFunc_cherenkov_api_TrackBox_cherenkov_api_TrackBox_b_0 c m0 m1 m2 m3 m4 m5 m6 m7 m8 m9 m10 m11 b0 b1 b2 b3 b4 b5 l d K _ _ hp hi
def con_slices_IndexFunc_cherenkov_api_TrackBox_cherenkov_api_TrackBox_b : Con := fun args => match args with
 | [.t (.c (.sl 6 n_c c_c)), .t (.fn 113 [.px 12 0 c_pm, .px 7 0 c_ps, .px 2 0 c_pc])] => some (.t (.c (.v (.int .i64 (idxP (fun a => !provB (⟨(cvInt (c_pm 0)), (cvInt (c_pm 1)), (cvInt (c_pm 2)), (cvInt (c_pm 3)), (cvInt (c_pm 4)), (cvInt (c_pm 5)), (cvInt (c_pm 6)), (cvInt (c_pm 7)), (cvInt (c_pm 8)), (cvInt (c_pm 9)), (cvInt (c_pm 10)), (cvInt (c_pm 11))⟩ : TMod) (listC (cvLen (c_ps 6)) mkHit (cvCells (c_ps 6))) (cvInt (c_pc 1)) a) (listC n_c mkBx c_c))))), some (numsP 6 n_c c_c ∧ intsB [0, 1, 2, 3, 4, 5, 6, 7, 8, 9, 10, 11] c_pm = true ∧ intsB [0, 1, 2, 3, 4, 5] c_ps = true ∧ slP 5 (c_ps 6) ∧ numsP 5 (cvLen (c_ps 6)) (cvCells (c_ps 6)) ∧ intsB [1] c_pc = true ∧ slP 6 (c_pc 0) ∧ numsP 6 (cvLen (c_pc 0)) (cvCells (c_pc 0)) ∧ ((listC n_c mkBx c_c)).length ≤ 1000000 ∧ ((⟨(cvInt (c_pm 0)), (cvInt (c_pm 1)), (cvInt (c_pm 2)), (cvInt (c_pm 3)), (cvInt (c_pm 4)), (cvInt (c_pm 5)), (cvInt (c_pm 6)), (cvInt (c_pm 7)), (cvInt (c_pm 8)), (cvInt (c_pm 9)), (cvInt (c_pm 10)), (cvInt (c_pm 11))⟩ : TMod)).err = 0 ∧ hitsE (listC (cvLen (c_ps 6)) mkHit (cvCells (c_ps 6))) = 0 ∧ ∀ i, i < ((listC n_c mkBx c_c)).length → (bxAt (listC n_c mkBx c_c) i).err = 0), false)
 | _ => none
theorem ok_slices_IndexFunc_cherenkov_api_TrackBox_cherenkov_api_TrackBox_b : Ok Try.prog 112 con_slices_IndexFunc_cherenkov_api_TrackBox_cherenkov_api_TrackBox_b := by
 refine Ok.fn (ann := ann_slices_IndexFunc_cherenkov_api_TrackBox_cherenkov_api_TrackBox_b) mixed tabOK VS70 VI49 (fn := Try.f112) (by kernel_rfl) (by kernel_rfl) fit_slices_IndexFunc_cherenkov_api_TrackBox_cherenkov_api_TrackBox_b fun args r pre fresh h hp => ?_
 unfold con_slices_IndexFunc_cherenkov_api_TrackBox_cherenkov_api_TrackBox_b at h
 split at h
 ·rename_i n_c c_c c_pm c_ps c_pc
  cases h
  obtain ⟨hp0, hp1, hp2, hp3, hp4, hp5, hp6, hp7, hp⟩ := hp
  refine ⟨rfl, J_slices_IndexFunc_cherenkov_api_TrackBox_cherenkov_api_TrackBox_b (listC n_c mkBx c_c) (cvInt (c_pm 0)) (cvInt (c_pm 1)) (cvInt (c_pm 2)) (cvInt (c_pm 3)) (cvInt (c_pm 4)) (cvInt (c_pm 5)) (cvInt (c_pm 6)) (cvInt (c_pm 7)) (cvInt (c_pm 8)) (cvInt (c_pm 9)) (cvInt (c_pm 10)) (cvInt (c_pm 11)) (cvInt (c_ps 0)) (cvInt (c_ps 1)) (cvInt (c_ps 2)) (cvInt (c_ps 3)) (cvInt (c_ps 4)) (cvInt (c_ps 5)) (listC (cvLen (c_ps 6)) mkHit (cvCells (c_ps 6))) (listC (cvLen (c_pc 0)) mkBx (cvCells (c_pc 0))) (cvInt (c_pc 1)), [.t (.c (.sl 6 ((listC n_c mkBx c_c).length) (bxsC (listC n_c mkBx c_c)))), .t (.fn 113 [.px 12 0 (boxC [.v (.int .i64 (cvInt (c_pm 0))), .v (.int .i64 (cvInt (c_pm 1))), .v (.int .i64 (cvInt (c_pm 2))), .v (.int .i64 (cvInt (c_pm 3))), .v (.int .i64 (cvInt (c_pm 4))), .v (.int .i64 (cvInt (c_pm 5))), .v (.int .i64 (cvInt (c_pm 6))), .v (.int .i64 (cvInt (c_pm 7))), .v (.int .i64 (cvInt (c_pm 8))), .v (.int .i64 (cvInt (c_pm 9))), .v (.int .i64 (cvInt (c_pm 10))), .v (.int .i64 (cvInt (c_pm 11)))]), .px 7 0 (boxC [.v (.int .i64 (cvInt (c_ps 0))), .v (.int .i64 (cvInt (c_ps 1))), .v (.int .i64 (cvInt (c_ps 2))), .v (.int .i64 (cvInt (c_ps 3))), .v (.int .i64 (cvInt (c_ps 4))), .v (.int .i64 (cvInt (c_ps 5))), .sl 5 ((listC (cvLen (c_ps 6)) mkHit (cvCells (c_ps 6))).length) (hitsC (listC (cvLen (c_ps 6)) mkHit (cvCells (c_ps 6))))]), .px 2 0 (boxC [.sl 6 ((listC (cvLen (c_pc 0)) mkBx (cvCells (c_pc 0))).length) (bxsC (listC (cvLen (c_pc 0)) mkBx (cvCells (c_pc 0)))), .v (.int .i64 (cvInt (c_pc 1)))])])], ?_, Nat.le_of_ble_eq_true (by kernel_rfl), ?_, ?_⟩
  ·exact (LeA_cons (leT_c ((leL_TBox hp0))) (LeA_cons (leT_f (LeCs.cons (leC_p (LeCs.cons (leC_i (intsB_get hp1 0 (by decide))) (LeCs.cons (leC_i (intsB_get hp1 1 (by decide))) (LeCs.cons (leC_i (intsB_get hp1 2 (by decide))) (LeCs.cons (leC_i (intsB_get hp1 3 (by decide))) (LeCs.cons (leC_i (intsB_get hp1 4 (by decide))) (LeCs.cons (leC_i (intsB_get hp1 5 (by decide))) (LeCs.cons (leC_i (intsB_get hp1 6 (by decide))) (LeCs.cons (leC_i (intsB_get hp1 7 (by decide))) (LeCs.cons (leC_i (intsB_get hp1 8 (by decide))) (LeCs.cons (leC_i (intsB_get hp1 9 (by decide))) (LeCs.cons (leC_i (intsB_get hp1 10 (by decide))) (LeCs.cons (leC_i (intsB_get hp1 11 (by decide))) LeCs.nil))))))))))))) (LeCs.cons (leC_p (LeCs.cons (leC_i (intsB_get hp2 0 (by decide))) (LeCs.cons (leC_i (intsB_get hp2 1 (by decide))) (LeCs.cons (leC_i (intsB_get hp2 2 (by decide))) (LeCs.cons (leC_i (intsB_get hp2 3 (by decide))) (LeCs.cons (leC_i (intsB_get hp2 4 (by decide))) (LeCs.cons (leC_i (intsB_get hp2 5 (by decide))) (LeCs.cons (leC_s hp3 (leL_THit hp4)) LeCs.nil)))))))) (LeCs.cons (leC_p (LeCs.cons (leC_s hp6 (leL_TBox hp7)) (LeCs.cons (leC_i (intsB_get hp5 1 (by decide))) LeCs.nil))) LeCs.nil)))) LeA_nil))
  ·rw [ev_slices_IndexFunc_cherenkov_api_TrackBox_cherenkov_api_TrackBox_b]; exact spec_slices_IndexFunc_cherenkov_api_TrackBox_cherenkov_api_TrackBox_b (listC n_c mkBx c_c) (cvInt (c_pm 0)) (cvInt (c_pm 1)) (cvInt (c_pm 2)) (cvInt (c_pm 3)) (cvInt (c_pm 4)) (cvInt (c_pm 5)) (cvInt (c_pm 6)) (cvInt (c_pm 7)) (cvInt (c_pm 8)) (cvInt (c_pm 9)) (cvInt (c_pm 10)) (cvInt (c_pm 11)) (cvInt (c_ps 0)) (cvInt (c_ps 1)) (cvInt (c_ps 2)) (cvInt (c_ps 3)) (cvInt (c_ps 4)) (cvInt (c_ps 5)) (listC (cvLen (c_ps 6)) mkHit (cvCells (c_ps 6))) (listC (cvLen (c_pc 0)) mkBx (cvCells (c_pc 0))) (cvInt (c_pc 1)) hp
  ·exact all_slices_IndexFunc_cherenkov_api_TrackBox_cherenkov_api_TrackBox_b (listC n_c mkBx c_c) (cvInt (c_pm 0)) (cvInt (c_pm 1)) (cvInt (c_pm 2)) (cvInt (c_pm 3)) (cvInt (c_pm 4)) (cvInt (c_pm 5)) (cvInt (c_pm 6)) (cvInt (c_pm 7)) (cvInt (c_pm 8)) (cvInt (c_pm 9)) (cvInt (c_pm 10)) (cvInt (c_pm 11)) (cvInt (c_ps 0)) (cvInt (c_ps 1)) (cvInt (c_ps 2)) (cvInt (c_ps 3)) (cvInt (c_ps 4)) (cvInt (c_ps 5)) (listC (cvLen (c_ps 6)) mkHit (cvCells (c_ps 6))) (listC (cvLen (c_pc 0)) mkBx (cvCells (c_pc 0))) (cvInt (c_pc 1)) hp
 ·cases h
def S71 : Sum := addF S70 112 con_slices_IndexFunc_cherenkov_api_TrackBox_cherenkov_api_TrackBox_b
theorem VS71 : Valid Try.prog S71 := Valid.addF VS70 ok_slices_IndexFunc_cherenkov_api_TrackBox_cherenkov_api_TrackBox_b
def con_ref05_Score : Con := fun args => match args with
 | [.t (.a [.v (.int .i64 m0), .v (.int .i64 m1), .v (.int .i64 m2), .v (.int .i64 m3), .v (.int .i64 m4), .v (.int .i64 m5), .v (.int .i64 m6), .v (.int .i64 m7), .v (.int .i64 m8), .v (.int .i64 m9), .v (.int .i64 m10), .v (.int .i64 m11)]), .t (.a [.v (.int .i64 s0), .v (.int .i64 s1), .v (.int .i64 s2)]), .t (.c (.sl 5 n_l c_l))] => some (.t (.c (.v (.int .i64 (((⟨m0, m1, m2, m3, m4, m5, m6, m7, m8, m9, m10, m11⟩ : TMod)).score (⟨s0, s1, s2⟩ : V3) (listC n_l mkHit c_l))))), some (numsP 5 n_l c_l ∧ ((listC n_l mkHit c_l)).length ≤ 12 ∧ (∀ i, i < ((listC n_l mkHit c_l)).length → (hitAt (listC n_l mkHit c_l) i).Ok) ∧ ((⟨m0, m1, m2, m3, m4, m5, m6, m7, m8, m9, m10, m11⟩ : TMod)).Ok ∧ ((⟨s0, s1, s2⟩ : V3)).inS 20 = true ∧ ((⟨m0, m1, m2, m3, m4, m5, m6, m7, m8, m9, m10, m11⟩ : TMod)).permit (⟨s0, s1, s2⟩ : V3)), false)
 | _ => none
theorem ok_ref05_Score : Ok Try.prog 36 con_ref05_Score := by
 refine Ok.oldG (Enters.of (fn := Try.f36) (by kernel_rfl) (by kernel_rfl) (by kernel_rfl)) fun args r pre fresh h hp => ?_
 unfold con_ref05_Score at h
 split at h
 ·rename_i m0 m1 m2 m3 m4 m5 m6 m7 m8 m9 m10 m11 s0 s1 s2 n_l c_l
  cases h
  refine ⟨rfl, _, rfl, fun W N vs hv => ?_⟩
  obtain ⟨hp0, hp⟩ := hp
  obtain ⟨u0, ws0, k0, g0, hv0⟩ := hv.cons_inv
  subst k0
  have e0 := plain_arg rfl g0
  subst e0
  obtain ⟨u1, ws1, k1, g1, hv1⟩ := hv0.cons_inv
  subst k1
  have e1 := plain_arg rfl g1
  subst e1
  obtain ⟨v_l, ws2, k2, g2, hv2⟩ := hv1.cons_inv
  subst k2
  have h_l := at_THit hp0 g2
  have ev := hv2.nil_inv
  subst ev
  generalize listC n_l mkHit c_l = l at *
  exact ref_Score (⟨m0, m1, m2, m3, m4, m5, m6, m7, m8, m9, m10, m11⟩ : TMod) (⟨s0, s1, s2⟩ : V3) l v_l W h_l hp.1 hp.2.1 hp.2.2.1 hp.2.2.2.1 hp.2.2.2.2
 ·cases h
def S72 : Sum := addS S71 36 con_ref05_Score
theorem VS72 : Valid Try.prog S72 := Valid.add VS71 ok_ref05_Score
def mk_track_CheckCover_0 (m0 m1 m2 m3 m4 m5 m6 m7 m8 m9 m10 m11 : Int) (b0 b1 b2 b3 b4 b5 : Int) (l : List THit) (c : List TBox) (K : Int) (v0_0 : Int) (v0_1 : Int) : DS := ⟨[none, none, none, none, some (.t (.c (.p 4 0))), some (.t (.c (.p 5 0))), none, none, some (.t (.c (.p 8 0))), none, some (.t (.c (.v (.int .i64 v0_0)))), none, none, none, none, none, none, none, none, none, none, none, none, none, none, none, none, none, none, none, none, none, none, none, none, none, none, none, some (.t (.c (.sl 6 c.length (bxsC c)))), some (.t (.c (.v (.int .i64 ((c.length : Nat) : Int))))), some (.t (.c (.v (.int .i64 v0_1)))), none, none, none, none, none, none, none, none, none, none, none, none, none, none, none, none, none, none, none, none, none, none, none, none, none, none, none, none, none, none, none, none, none, none, none, none, none, none, none, none, none, none, none, none, none, none, none], [none, none, none, none, some (.box 107 [.v (.int .i64 b0), .v (.int .i64 b1), .v (.int .i64 b2), .v (.int .i64 b3), .v (.int .i64 b4), .v (.int .i64 b5), .sl 5 l.length (hitsC l)]), some (.box 110 [.sl 6 c.length (bxsC c), .v (.int .i64 K)]), none, none, some (.box 134 [.v (.int .i64 m0), .v (.int .i64 m1), .v (.int .i64 m2), .v (.int .i64 m3), .v (.int .i64 m4), .v (.int .i64 m5), .v (.int .i64 m6), .v (.int .i64 m7), .v (.int .i64 m8), .v (.int .i64 m9), .v (.int .i64 m10), .v (.int .i64 m11)]), none, none, none, none, none, none, none, none, none, none, none, none, none, none, none, none, none, none, none, none, none, none, none, none, none, none, none, none, none, none, none, none, none, none, none, none, none, none, none, none, none, none, none, none, none, none, none, none, none, none, none, none, none, none, none, none, none, none, none, none, none, none, none, none, none, none, none, none, none, none, none, none, none, none, none, none, none, none, none]⟩
def vc_track_CheckCover (J : Inv) (m0 m1 m2 m3 m4 m5 m6 m7 m8 m9 m10 m11 : Int) (b0 b1 b2 b3 b4 b5 : Int) (l : List THit) (c : List TBox) (K : Int) (post : DV → Prop) : Prop := (fun (Z1 : TMod) => (numsP 5 l.length (hitsC l)) ∧ ((numsP 1 2 (genC [[.v (.int .i64 (firstNZ [firstNZ [(Z1).err, ((⟨⟨b0, b1, b2⟩, ⟨b3, b4, b5⟩⟩ : TBox)).err], hitsE (listC l.length mkHit (hitsC l))]))], [.v (.int .i64 (unl (decide (((c.length : Nat) : Int) ≤ (700 : Int))) (8 : Int)))]])) ∧ (cond ((firstNZ ([(firstNZ [firstNZ [(Z1).err, ((⟨⟨b0, b1, b2⟩, ⟨b3, b4, b5⟩⟩ : TBox)).err], hitsE (listC l.length mkHit (hitsC l))]), (unl (decide (((c.length : Nat) : Int) ≤ (700 : Int))) (8 : Int))] : List Int)) != (0 : Int)) (post (.tu [.c (.v (.int .i64 0)), .c (.v (.int .i64 (firstNZ ([(firstNZ [firstNZ [(Z1).err, ((⟨⟨b0, b1, b2⟩, ⟨b3, b4, b5⟩⟩ : TBox)).err], hitsE (listC l.length mkHit (hitsC l))]), (unl (decide (((c.length : Nat) : Int) ≤ (700 : Int))) (8 : Int))] : List Int))))])) (∃ n, J 0 (n :: []) (mk_track_CheckCover_0 m0 m1 m2 m3 m4 m5 m6 m7 m8 m9 m10 m11 b0 b1 b2 b3 b4 b5 l c K 0 0))))) (⟨m0, m1, m2, m3, m4, m5, m6, m7, m8, m9, m10, m11⟩ : TMod)
def ann_track_CheckCover : Ann := ⟨fun r => lookA r [(13, ([[], [], [1], [0, 1, 2], [0, 1, 2, 3], [], [5], [], [5, 6, 7], [], [0, 1, 2, 3, 4, 5, 6, 7, 8, 9], [0, 1, 2, 3, 4, 5, 6, 7, 8, 9, 10], [0, 1, 2, 3, 4, 5, 6, 7, 8, 9, 10, 11], [0, 1, 2, 3, 4, 5, 6, 7, 8, 9, 10, 11, 12], [0, 1, 2, 3, 4, 5, 6, 7, 8, 9, 10, 11, 12, 13], [0, 1, 2, 3, 4, 5, 6, 7, 8, 9, 10, 11, 12, 13, 14]], [[55, 56, 62, 64, 65, 66], [55, 56, 62, 64, 65, 66], [55, 56, 62, 64, 65, 66], [56, 62, 64, 65, 66], [62, 64, 65, 66], [55, 56, 62, 64, 65, 66], [55, 56, 62, 64, 65, 66], [55, 56, 62, 64, 65, 66], [55, 56, 62, 64, 65, 66], [55, 56, 62, 64, 65, 66], [64, 65, 66], [64, 65, 66], [65, 66], [66], [], []]))], fun b => lookA b [(0, (none, some ⟨[4, 5, 8, 10, 38, 39, 40], [4, 5, 8], []⟩))], fun _ => [], I49, false, fun _ => none, fun _ => none⟩
theorem ev_track_CheckCover (J : Inv) (m0 m1 m2 m3 m4 m5 m6 m7 m8 m9 m10 m11 : Int) (b0 b1 b2 b3 b4 b5 : Int) (l : List THit) (c : List TBox) (K : Int) (post : DV → Prop) : evFn Try.prog tab S72 ann_track_CheckCover J Try.f56 [.t (.a [.v (.int .i64 m0), .v (.int .i64 m1), .v (.int .i64 m2), .v (.int .i64 m3), .v (.int .i64 m4), .v (.int .i64 m5), .v (.int .i64 m6), .v (.int .i64 m7), .v (.int .i64 m8), .v (.int .i64 m9), .v (.int .i64 m10), .v (.int .i64 m11)]), .t (.a [.v (.int .i64 b0), .v (.int .i64 b1), .v (.int .i64 b2), .v (.int .i64 b3), .v (.int .i64 b4), .v (.int .i64 b5), .sl 5 l.length (hitsC l)]), .t (.a [.sl 6 c.length (bxsC c), .v (.int .i64 K)])] post = vc_track_CheckCover J m0 m1 m2 m3 m4 m5 m6 m7 m8 m9 m10 m11 b0 b1 b2 b3 b4 b5 l c K post := by kernel_rfl
theorem fit_track_CheckCover : okFn ann_track_CheckCover Try.f56 = true := by kernel_rfl
def rd_track_CheckCover_0 (J : Inv) (m0 m1 m2 m3 m4 m5 m6 m7 m8 m9 m10 m11 : Int) (b0 b1 b2 b3 b4 b5 : Int) (l : List THit) (c : List TBox) (K : Int) (v0_0 : Int) (v0_1 : Int) (nn0 : Nat) (post : DV → Prop) : Prop := (fun (Z1 : TBox) (Z2 : TMod) (Z3 : List TBox) => cond (decide (v0_1 < ((c.length : Nat) : Int))) ((0 ≤ v0_1 ∧ v0_1 < ((c.length : Nat) : Int)) ∧ (cond ((((bxAt c v0_1.toNat)).err) != (0 : Int)) (post (.tu [.c (.v (.int .i64 v0_1)), .c (.v (.int .i64 (((bxAt c v0_1.toNat)).err)))])) ((0 ≤ (0 : Int) ∧ (0 : Int) ≤ v0_1 ∧ v0_1 ≤ ((c.length : Nat) : Int)) ∧ ((numsP 6 ((v0_1 - (0 : Int)).toNat) (fun i j => (bxsC c) (((0 : Int)).toNat + i) j) ∧ intsB [0, 1, 2, 3, 4, 5] (boxC [.v (.int .i64 ((bxAt c v0_1.toNat).lo.x)), .v (.int .i64 ((bxAt c v0_1.toNat).lo.y)), .v (.int .i64 ((bxAt c v0_1.toNat).lo.z)), .v (.int .i64 ((bxAt c v0_1.toNat).hi.x)), .v (.int .i64 ((bxAt c v0_1.toNat).hi.y)), .v (.int .i64 ((bxAt c v0_1.toNat).hi.z))]) = true ∧ ((listC ((v0_1 - (0 : Int)).toNat) mkBx (fun i j => (bxsC c) (((0 : Int)).toNat + i) j))).length ≤ 1000000) ∧ ((numsP 1 2 (genC [[.v (.int .i64 (unl (decide (((bxAt c v0_1.toNat)).sub Z1)) (6 : Int)))], [.v (.int .i64 (unl (!(((listC ((v0_1 - (0 : Int)).toNat) mkBx (fun i j => (bxsC c) (((0 : Int)).toNat + i) j))).any (fun a => decide (¬ a.apart (bxAt c v0_1.toNat))))) (23 : Int)))]])) ∧ (cond ((firstNZ ([(unl (decide (((bxAt c v0_1.toNat)).sub Z1)) (6 : Int)), (unl (!(((listC ((v0_1 - (0 : Int)).toNat) mkBx (fun i j => (bxsC c) (((0 : Int)).toNat + i) j))).any (fun a => decide (¬ a.apart (bxAt c v0_1.toNat))))) (23 : Int))] : List Int)) != (0 : Int)) (post (.tu [.c (.v (.int .i64 v0_1)), .c (.v (.int .i64 (firstNZ ([(unl (decide (((bxAt c v0_1.toNat)).sub Z1)) (6 : Int)), (unl (!(((listC ((v0_1 - (0 : Int)).toNat) mkBx (fun i j => (bxsC c) (((0 : Int)).toNat + i) j))).any (fun a => decide (¬ a.apart (bxAt c v0_1.toNat))))) (23 : Int))] : List Int))))])) ((((bxAt c v0_1.toNat)).lo.inS 20 = true ∧ ((bxAt c v0_1.toNat)).hi.inS 20 = true ∧ ((bxAt c v0_1.toNat)).ok) ∧ (lt (IntKind.i64.wrap (v0_0 + (((bxAt c v0_1.toNat)).count))) fun x1 => lt (IntKind.i64.wrap (v0_1 + (1 : Int))) fun x2 => J 0 (nn0 :: []) (mk_track_CheckCover_0 m0 m1 m2 m3 m4 m5 m6 m7 m8 m9 m10 m11 b0 b1 b2 b3 b4 b5 l c K x1 x2))))))))) (((Z1).lo.inS 20 = true ∧ (Z1).hi.inS 20 = true ∧ (Z1).ok) ∧ (cond (decide (v0_0 < ((Z1).count))) (post (.tu [.c (.v (.int .i64 0)), .c (.v (.int .i64 14))])) ((numsP 6 c.length (bxsC c) ∧ intsB [0, 1, 2, 3, 4, 5, 6, 7, 8, 9, 10, 11] (boxC [.v (.int .i64 m0), .v (.int .i64 m1), .v (.int .i64 m2), .v (.int .i64 m3), .v (.int .i64 m4), .v (.int .i64 m5), .v (.int .i64 m6), .v (.int .i64 m7), .v (.int .i64 m8), .v (.int .i64 m9), .v (.int .i64 m10), .v (.int .i64 m11)]) = true ∧ intsB [0, 1, 2, 3, 4, 5] (boxC [.v (.int .i64 b0), .v (.int .i64 b1), .v (.int .i64 b2), .v (.int .i64 b3), .v (.int .i64 b4), .v (.int .i64 b5), .sl 5 l.length (hitsC l)]) = true ∧ slP 5 ((boxC [.v (.int .i64 b0), .v (.int .i64 b1), .v (.int .i64 b2), .v (.int .i64 b3), .v (.int .i64 b4), .v (.int .i64 b5), .sl 5 l.length (hitsC l)]) 6) ∧ numsP 5 l.length (hitsC l) ∧ intsB [1] (boxC [.sl 6 c.length (bxsC c), .v (.int .i64 K)]) = true ∧ slP 6 ((boxC [.sl 6 c.length (bxsC c), .v (.int .i64 K)]) 0) ∧ numsP 6 c.length (bxsC c) ∧ (Z3).length ≤ 1000000 ∧ (Z2).err = 0 ∧ hitsE (listC l.length mkHit (hitsC l)) = 0 ∧ ∀ i, i < (Z3).length → (bxAt Z3 i).err = 0) ∧ (cond (decide ((idxP (fun a => !provB Z2 (listC l.length mkHit (hitsC l)) K a) Z3) ≥ (0 : Int))) (post (.tu [.c (.v (.int .i64 (idxP (fun a => !provB Z2 (listC l.length mkHit (hitsC l)) K a) Z3))), .c (.v (.int .i64 19))])) (post (.tu [.c (.v (.int .i64 0)), .c (.v (.int .i64 0))]))))))) (⟨⟨b0, b1, b2⟩, ⟨b3, b4, b5⟩⟩ : TBox) (⟨m0, m1, m2, m3, m4, m5, m6, m7, m8, m9, m10, m11⟩ : TMod) (listC c.length mkBx (bxsC c))
theorem er_track_CheckCover_0 (J : Inv) (m0 m1 m2 m3 m4 m5 m6 m7 m8 m9 m10 m11 : Int) (b0 b1 b2 b3 b4 b5 : Int) (l : List THit) (c : List TBox) (K : Int) (v0_0 : Int) (v0_1 : Int) (nn0 : Nat) (post : DV → Prop) : round Try.prog tab S72 ann_track_CheckCover J Try.f56 post 0 (nn0 :: []) (mk_track_CheckCover_0 m0 m1 m2 m3 m4 m5 m6 m7 m8 m9 m10 m11 b0 b1 b2 b3 b4 b5 l c K v0_0 v0_1) = rd_track_CheckCover_0 J m0 m1 m2 m3 m4 m5 m6 m7 m8 m9 m10 m11 b0 b1 b2 b3 b4 b5 l c K v0_0 v0_1 nn0 post := by kernel_rfl
theorem lp_track_CheckCover (J : Inv) (post : DV → Prop) : AllG J (loopsFn Try.prog tab S72 ann_track_CheckCover J Try.f56 post) = (((∀ F s, ¬ J 0 (0 :: F) s) ∧ ∀ n F s, J 0 ((n + 1) :: F) s → round Try.prog tab S72 ann_track_CheckCover J Try.f56 post 0 (n :: F) s) ∧ True) := by kernel_rfl
def J_track_CheckCover (m0 m1 m2 m3 m4 m5 m6 m7 m8 m9 m10 m11 : Int) (b0 b1 b2 b3 b4 b5 : Int) (l : List THit) (c : List TBox) (K : Int) : Inv := fun b F s => match b, F with
 | 0, [nn0] => ∃ (v0_0 : Int) (v0_1 : Int), s = mk_track_CheckCover_0 m0 m1 m2 m3 m4 m5 m6 m7 m8 m9 m10 m11 b0 b1 b2 b3 b4 b5 l c K v0_0 v0_1 ∧ (0 ≤ v0_1 ∧ v0_1 ≤ c.length ∧ (nn0 : Int) + v0_1 = c.length + 1 ∧ cvE0 (⟨m0, m1, m2, m3, m4, m5, m6, m7, m8, m9, m10, m11⟩ : TMod) (⟨⟨b0, b1, b2⟩, ⟨b3, b4, b5⟩⟩ : TBox) l c = 0 ∧ (∀ j : Nat, (j : Int) < v0_1 → bxE (⟨⟨b0, b1, b2⟩, ⟨b3, b4, b5⟩⟩ : TBox) c j = 0) ∧ v0_0 = sumC (c.take v0_1.toNat))
 | _, _ => False
set_option maxHeartbeats 8000000 in
set_option maxRecDepth 100000 in
theorem rnd_track_CheckCover_0 (m0 m1 m2 m3 m4 m5 m6 m7 m8 m9 m10 m11 : Int) (b0 b1 b2 b3 b4 b5 : Int) (l : List THit) (c : List TBox) (K : Int) (v0_0 : Int) (v0_1 : Int) (nn0 : Nat) (hi : 0 ≤ v0_1 ∧ v0_1 ≤ c.length ∧ ((nn0 + 1) : Int) + v0_1 = c.length + 1 ∧ cvE0 (⟨m0, m1, m2, m3, m4, m5, m6, m7, m8, m9, m10, m11⟩ : TMod) (⟨⟨b0, b1, b2⟩, ⟨b3, b4, b5⟩⟩ : TBox) l c = 0 ∧ (∀ j : Nat, (j : Int) < v0_1 → bxE (⟨⟨b0, b1, b2⟩, ⟨b3, b4, b5⟩⟩ : TBox) c j = 0) ∧ v0_0 = sumC (c.take v0_1.toNat)) : rd_track_CheckCover_0 (J_track_CheckCover m0 m1 m2 m3 m4 m5 m6 m7 m8 m9 m10 m11 b0 b1 b2 b3 b4 b5 l c K) m0 m1 m2 m3 m4 m5 m6 m7 m8 m9 m10 m11 b0 b1 b2 b3 b4 b5 l c K v0_0 v0_1 nn0 (fun r => LeD r (.tu [.c (.v (.int .i64 ((cvR (⟨m0, m1, m2, m3, m4, m5, m6, m7, m8, m9, m10, m11⟩ : TMod) (⟨⟨b0, b1, b2⟩, ⟨b3, b4, b5⟩⟩ : TBox) l c K).1))), .c (.v (.int .i64 ((cvR (⟨m0, m1, m2, m3, m4, m5, m6, m7, m8, m9, m10, m11⟩ : TMod) (⟨⟨b0, b1, b2⟩, ⟨b3, b4, b5⟩⟩ : TBox) l c K).2)))])) := by
 obtain ⟨i1, i2, i3, i4, i5, i6⟩ := hi
 obtain ⟨k, rfl⟩ : ∃ k : Nat, v0_1 = k := ⟨v0_1.toNat, by omega⟩
 have hk : (k : Int).toNat = k := rfl
 rw [hk] at i6
 obtain ⟨hm, hb, hh, hlen⟩ := cvE0_ok i4
 have hin := box_in hb
 have hz : ∀ j, j < k → bxE (⟨⟨b0, b1, b2⟩, ⟨b3, b4, b5⟩⟩ : TBox) c j = 0 := fun j hj => i5 j (by omega)
 have hCV : cvR (⟨m0, m1, m2, m3, m4, m5, m6, m7, m8, m9, m10, m11⟩ : TMod) (⟨⟨b0, b1, b2⟩, ⟨b3, b4, b5⟩⟩ : TBox) l c K = if scan (bxE (⟨⟨b0, b1, b2⟩, ⟨b3, b4, b5⟩⟩ : TBox) c) c.length ≠ 0 then (scanI (bxE (⟨⟨b0, b1, b2⟩, ⟨b3, b4, b5⟩⟩ : TBox) c) c.length, scan (bxE (⟨⟨b0, b1, b2⟩, ⟨b3, b4, b5⟩⟩ : TBox) c) c.length) else if sumC c < (⟨⟨b0, b1, b2⟩, ⟨b3, b4, b5⟩⟩ : TBox).count then (0, 14) else if 0 ≤ idxP (fun a => !provB (⟨m0, m1, m2, m3, m4, m5, m6, m7, m8, m9, m10, m11⟩ : TMod) l K a) c then (idxP (fun a => !provB (⟨m0, m1, m2, m3, m4, m5, m6, m7, m8, m9, m10, m11⟩ : TMod) l K a) c, 19) else (0, 0) := if_neg (by rw [i4]; simp)
 unfold rd_track_CheckCover_0
 rw [hk]
 simp only [hits_listC, bxs_listC]
 refine cond_i (fun h => ?_) (fun h => ?_)
 ·have hlt : k < c.length := by have := of_decide_eq_true h; omega
  have hat : ∀ x, x ≠ 0 → bxE (⟨⟨b0, b1, b2⟩, ⟨b3, b4, b5⟩⟩ : TBox) c k = x → cvR (⟨m0, m1, m2, m3, m4, m5, m6, m7, m8, m9, m10, m11⟩ : TMod) (⟨⟨b0, b1, b2⟩, ⟨b3, b4, b5⟩⟩ : TBox) l c K = ((k : Int), x) := by
   intro x hx e
   have e1 := scan_at hz hlt (by rw [e]; exact hx)
   have e2 := scanI_at hz hlt (by rw [e]; exact hx)
   rw [hCV, if_pos (by rw [e1, e]; exact hx), e1, e2, e]
  have hpart : listC (((k : Int) - (0 : Int)).toNat) mkBx (fun i j => (bxsC c) (((0 : Int)).toNat + i) j) = c.take k := by
   rw [bxs_part c (lo := (0 : Int).toNat) (n := ((k : Int) - 0).toNat) (by simp; omega)]; simp
  have hE : bxE (⟨⟨b0, b1, b2⟩, ⟨b3, b4, b5⟩⟩ : TBox) c k = if (bxAt c k).err ≠ 0 then (bxAt c k).err else firstNZ [unl (decide ((bxAt c k).sub (⟨⟨b0, b1, b2⟩, ⟨b3, b4, b5⟩⟩ : TBox))) 6, unl (!((c.take k).any (fun a => decide (¬ a.apart (bxAt c k))))) 23] := rfl
  rw [hpart]
  refine ⟨by omega, cond_i (fun e => ?_) (fun e => ⟨by omega, ⟨numsP_bxpart c (by simp; omega), rfl, by simp; omega⟩, numsP_gen [_, _], cond_i (fun e2 => ?_) (fun e2 => ⟨?_, lt_i fun x1 h1 => lt_i fun x2 h2 => ?_⟩)⟩)⟩
  ·have e : (bxAt c k).err ≠ 0 := by simpa using e
   rw [hat _ e (by rw [hE, if_pos e])]; exact LeD.refl _
  ·have e : (bxAt c k).err = 0 := by simpa using e
   have e2 : firstNZ [unl (decide ((bxAt c k).sub (⟨⟨b0, b1, b2⟩, ⟨b3, b4, b5⟩⟩ : TBox))) 6, unl (!((c.take k).any (fun a => decide (¬ a.apart (bxAt c k))))) 23] ≠ 0 := by simpa using e2
   rw [hat _ e2 (by rw [hE, if_neg (by rw [e]; simp)])]; exact LeD.refl _
  ·have e : (bxAt c k).err = 0 := by simpa using e
   exact ⟨(box_in e).1, (box_in e).2, box_ok e⟩
  ·have e : (bxAt c k).err = 0 := by simpa using e
   have e2 : firstNZ [unl (decide ((bxAt c k).sub (⟨⟨b0, b1, b2⟩, ⟨b3, b4, b5⟩⟩ : TBox))) 6, unl (!((c.take k).any (fun a => decide (¬ a.apart (bxAt c k))))) 23] = 0 := by simpa using e2
   have hnew : ∀ j : Nat, (j : Int) < k + 1 → bxE (⟨⟨b0, b1, b2⟩, ⟨b3, b4, b5⟩⟩ : TBox) c j = 0 := fun j hj => by
    by_cases q : j = k
    ·rw [q, hE, if_neg (by rw [e]; simp), e2]
    ·exact hz j (by omega)
   have b1 := sumC_bd (b := (⟨⟨b0, b1, b2⟩, ⟨b3, b4, b5⟩⟩ : TBox)) c (k := k) hz
   have b2 := err_cnt e
   rw [IntWalk.i64_in _ (by omega)] at h1
   rw [IntWalk.i64_in _ (by omega)] at h2
   subst h1; subst h2
   refine ⟨_, _, rfl, by omega, by omega, by omega, i4, hnew, ?_⟩
   rw [show ((k : Int) + 1).toNat = k + 1 by omega, bxAt_take hlt, sumC_app, i6]
   simp [sumC]
 ·have hge : k = c.length := by have := of_decide_eq_false h; omega
  subst hge
  rw [List.take_length] at i6
  have e0 : scan (bxE (⟨⟨b0, b1, b2⟩, ⟨b3, b4, b5⟩⟩ : TBox) c) c.length = 0 := scan_end hz
  rw [if_neg (by rw [e0]; simp)] at hCV
  refine ⟨⟨hin.1, hin.2, box_ok hb⟩, cond_i (fun e => ?_) (fun e => ⟨⟨numsP_bxs c, rfl, rfl, rfl, numsP_hits l, rfl, rfl, numsP_bxs c, by omega, hm, hh, fun i hi => bxE_err (hz i hi)⟩, cond_i (fun e2 => ?_) (fun e2 => ?_)⟩)⟩
  ·have e := of_decide_eq_true e
   rw [i6] at e
   rw [hCV, if_pos e]; exact LeD.refl _
  ·have e := of_decide_eq_false e
   rw [i6] at e
   have e2 := of_decide_eq_true e2
   rw [hCV, if_neg e, if_pos e2]; exact LeD.refl _
  ·have e := of_decide_eq_false e
   rw [i6] at e
   have e2 := of_decide_eq_false e2
   rw [hCV, if_neg e, if_neg e2]; exact LeD.refl _
theorem zero_track_CheckCover_0 (m0 m1 m2 m3 m4 m5 m6 m7 m8 m9 m10 m11 : Int) (b0 b1 b2 b3 b4 b5 : Int) (l : List THit) (c : List TBox) (K : Int) (v0_0 : Int) (v0_1 : Int)  (hi : 0 ≤ v0_1 ∧ v0_1 ≤ c.length ∧ (0 : Int) + v0_1 = c.length + 1 ∧ cvE0 (⟨m0, m1, m2, m3, m4, m5, m6, m7, m8, m9, m10, m11⟩ : TMod) (⟨⟨b0, b1, b2⟩, ⟨b3, b4, b5⟩⟩ : TBox) l c = 0 ∧ (∀ j : Nat, (j : Int) < v0_1 → bxE (⟨⟨b0, b1, b2⟩, ⟨b3, b4, b5⟩⟩ : TBox) c j = 0) ∧ v0_0 = sumC (c.take v0_1.toNat)) : False := by
 omega
set_option maxHeartbeats 8000000 in
set_option maxRecDepth 100000 in
theorem spec_track_CheckCover (m0 m1 m2 m3 m4 m5 m6 m7 m8 m9 m10 m11 : Int) (b0 b1 b2 b3 b4 b5 : Int) (l : List THit) (c : List TBox) (K : Int) : vc_track_CheckCover (J_track_CheckCover m0 m1 m2 m3 m4 m5 m6 m7 m8 m9 m10 m11 b0 b1 b2 b3 b4 b5 l c K) m0 m1 m2 m3 m4 m5 m6 m7 m8 m9 m10 m11 b0 b1 b2 b3 b4 b5 l c K (fun r => LeD r (.tu [.c (.v (.int .i64 ((cvR (⟨m0, m1, m2, m3, m4, m5, m6, m7, m8, m9, m10, m11⟩ : TMod) (⟨⟨b0, b1, b2⟩, ⟨b3, b4, b5⟩⟩ : TBox) l c K).1))), .c (.v (.int .i64 ((cvR (⟨m0, m1, m2, m3, m4, m5, m6, m7, m8, m9, m10, m11⟩ : TMod) (⟨⟨b0, b1, b2⟩, ⟨b3, b4, b5⟩⟩ : TBox) l c K).2)))])) := by
 unfold vc_track_CheckCover
 simp only [hits_listC]
 refine ⟨numsP_hits l, numsP_gen [_, _], cond_i (fun h => ?_) (fun h => ?_)⟩
 ·have h : cvE0 (⟨m0, m1, m2, m3, m4, m5, m6, m7, m8, m9, m10, m11⟩ : TMod) (⟨⟨b0, b1, b2⟩, ⟨b3, b4, b5⟩⟩ : TBox) l c ≠ 0 := by unfold cvE0; simpa using h
  rw [show cvR (⟨m0, m1, m2, m3, m4, m5, m6, m7, m8, m9, m10, m11⟩ : TMod) (⟨⟨b0, b1, b2⟩, ⟨b3, b4, b5⟩⟩ : TBox) l c K = (0, cvE0 (⟨m0, m1, m2, m3, m4, m5, m6, m7, m8, m9, m10, m11⟩ : TMod) (⟨⟨b0, b1, b2⟩, ⟨b3, b4, b5⟩⟩ : TBox) l c) from if_pos h]
  exact LeD.refl _
 ·have h : cvE0 (⟨m0, m1, m2, m3, m4, m5, m6, m7, m8, m9, m10, m11⟩ : TMod) (⟨⟨b0, b1, b2⟩, ⟨b3, b4, b5⟩⟩ : TBox) l c = 0 := by unfold cvE0; simpa using h
  exact ⟨c.length + 1, 0, 0, rfl, by omega, by omega, by omega, h, fun j hj => by omega, by simp [sumC]⟩
theorem all_track_CheckCover (m0 m1 m2 m3 m4 m5 m6 m7 m8 m9 m10 m11 : Int) (b0 b1 b2 b3 b4 b5 : Int) (l : List THit) (c : List TBox) (K : Int) : AllG (J_track_CheckCover m0 m1 m2 m3 m4 m5 m6 m7 m8 m9 m10 m11 b0 b1 b2 b3 b4 b5 l c K) (loopsFn Try.prog tab S72 ann_track_CheckCover (J_track_CheckCover m0 m1 m2 m3 m4 m5 m6 m7 m8 m9 m10 m11 b0 b1 b2 b3 b4 b5 l c K) Try.f56 (fun r => LeD r (.tu [.c (.v (.int .i64 ((cvR (⟨m0, m1, m2, m3, m4, m5, m6, m7, m8, m9, m10, m11⟩ : TMod) (⟨⟨b0, b1, b2⟩, ⟨b3, b4, b5⟩⟩ : TBox) l c K).1))), .c (.v (.int .i64 ((cvR (⟨m0, m1, m2, m3, m4, m5, m6, m7, m8, m9, m10, m11⟩ : TMod) (⟨⟨b0, b1, b2⟩, ⟨b3, b4, b5⟩⟩ : TBox) l c K).2)))]))) := by
 rw [lp_track_CheckCover]
 refine ⟨⟨?_, ?_⟩, trivial⟩
 ·intro F s h
  obtain _ | ⟨g, F⟩ := F
  case cons => exact h.elim
  obtain ⟨w0, w1, rfl, hi⟩ := h
  exact zero_track_CheckCover_0 m0 m1 m2 m3 m4 m5 m6 m7 m8 m9 m10 m11 b0 b1 b2 b3 b4 b5 l c K _ _ hi
 ·intro n F s h
  obtain _ | ⟨g, F⟩ := F
  case cons => exact h.elim
  obtain ⟨w0, w1, rfl, hi⟩ := h
  rw [er_track_CheckCover_0]
  exact rnd_track_CheckCover_0 m0 m1 m2 m3 m4 m5 m6 m7 m8 m9 m10 m11 b0 b1 b2 b3 b4 b5 l c K _ _ _ hi
def con_track_CheckCover : Con := fun args => match args with
 | [.t (.a [.v (.int .i64 m0), .v (.int .i64 m1), .v (.int .i64 m2), .v (.int .i64 m3), .v (.int .i64 m4), .v (.int .i64 m5), .v (.int .i64 m6), .v (.int .i64 m7), .v (.int .i64 m8), .v (.int .i64 m9), .v (.int .i64 m10), .v (.int .i64 m11)]), .t (.a [.v (.int .i64 b0), .v (.int .i64 b1), .v (.int .i64 b2), .v (.int .i64 b3), .v (.int .i64 b4), .v (.int .i64 b5), .sl 5 n_l c_l]), .t (.a [.sl 6 n_c c_c, .v (.int .i64 K)])] => some (.tu [.c (.v (.int .i64 ((cvR (⟨m0, m1, m2, m3, m4, m5, m6, m7, m8, m9, m10, m11⟩ : TMod) (⟨⟨b0, b1, b2⟩, ⟨b3, b4, b5⟩⟩ : TBox) (listC n_l mkHit c_l) (listC n_c mkBx c_c) K).1))), .c (.v (.int .i64 ((cvR (⟨m0, m1, m2, m3, m4, m5, m6, m7, m8, m9, m10, m11⟩ : TMod) (⟨⟨b0, b1, b2⟩, ⟨b3, b4, b5⟩⟩ : TBox) (listC n_l mkHit c_l) (listC n_c mkBx c_c) K).2)))], some (numsP 5 n_l c_l ∧ numsP 6 n_c c_c), false)
 | _ => none
theorem ok_track_CheckCover : Ok Try.prog 56 con_track_CheckCover := by
 refine Ok.fn (ann := ann_track_CheckCover) mixed tabOK VS72 VI49 (fn := Try.f56) (by kernel_rfl) (by kernel_rfl) fit_track_CheckCover fun args r pre fresh h hp => ?_
 unfold con_track_CheckCover at h
 split at h
 ·rename_i m0 m1 m2 m3 m4 m5 m6 m7 m8 m9 m10 m11 b0 b1 b2 b3 b4 b5 n_l c_l n_c c_c K
  cases h
  obtain ⟨hp0, hp1⟩ := hp
  refine ⟨rfl, J_track_CheckCover m0 m1 m2 m3 m4 m5 m6 m7 m8 m9 m10 m11 b0 b1 b2 b3 b4 b5 (listC n_l mkHit c_l) (listC n_c mkBx c_c) K, [.t (.a [.v (.int .i64 m0), .v (.int .i64 m1), .v (.int .i64 m2), .v (.int .i64 m3), .v (.int .i64 m4), .v (.int .i64 m5), .v (.int .i64 m6), .v (.int .i64 m7), .v (.int .i64 m8), .v (.int .i64 m9), .v (.int .i64 m10), .v (.int .i64 m11)]), .t (.a [.v (.int .i64 b0), .v (.int .i64 b1), .v (.int .i64 b2), .v (.int .i64 b3), .v (.int .i64 b4), .v (.int .i64 b5), .sl 5 ((listC n_l mkHit c_l).length) (hitsC (listC n_l mkHit c_l))]), .t (.a [.sl 6 ((listC n_c mkBx c_c).length) (bxsC (listC n_c mkBx c_c)), .v (.int .i64 K)])], ?_, Nat.le_of_ble_eq_true (by kernel_rfl), ?_, ?_⟩
  ·exact (LeA_cons (LeD.refl _) (LeA_cons (leT_a (LeCs.cons (LeC1.refl _) (LeCs.cons (LeC1.refl _) (LeCs.cons (LeC1.refl _) (LeCs.cons (LeC1.refl _) (LeCs.cons (LeC1.refl _) (LeCs.cons (LeC1.refl _) (LeCs.cons ((leL_THit hp0)) LeCs.nil)))))))) (LeA_cons (leT_a (LeCs.cons ((leL_TBox hp1)) (LeCs.cons (LeC1.refl _) LeCs.nil))) LeA_nil)))
  ·rw [ev_track_CheckCover]; exact spec_track_CheckCover m0 m1 m2 m3 m4 m5 m6 m7 m8 m9 m10 m11 b0 b1 b2 b3 b4 b5 (listC n_l mkHit c_l) (listC n_c mkBx c_c) K
  ·exact all_track_CheckCover m0 m1 m2 m3 m4 m5 m6 m7 m8 m9 m10 m11 b0 b1 b2 b3 b4 b5 (listC n_l mkHit c_l) (listC n_c mkBx c_c) K
 ·cases h
def S73 : Sum := addS S72 56 con_track_CheckCover
theorem VS73 : Valid Try.prog S73 := Valid.add VS72 ok_track_CheckCover
def vc_ref05_Has (b0 b1 b2 b3 b4 b5 : Int) (s0 s1 s2 : Int) (post : DV → Prop) : Prop := (0 ≤ (0 : Int) ∧ (0 : Int) < ((3 : Nat) : Int)) ∧ ((0 ≤ (0 : Int) ∧ (0 : Int) < ((3 : Nat) : Int)) ∧ ((0 ≤ (0 : Int) ∧ (0 : Int) < ((3 : Nat) : Int)) ∧ (cond (inB s0 b0 b3) ((0 ≤ (1 : Int) ∧ (1 : Int) < ((3 : Nat) : Int)) ∧ ((0 ≤ (1 : Int) ∧ (1 : Int) < ((3 : Nat) : Int)) ∧ ((0 ≤ (1 : Int) ∧ (1 : Int) < ((3 : Nat) : Int)) ∧ (cond (inB s1 b1 b4) ((0 ≤ (2 : Int) ∧ (2 : Int) < ((3 : Nat) : Int)) ∧ ((0 ≤ (2 : Int) ∧ (2 : Int) < ((3 : Nat) : Int)) ∧ ((0 ≤ (2 : Int) ∧ (2 : Int) < ((3 : Nat) : Int)) ∧ (post (.t (.c (.v (.bool (inB s2 b2 b5))))))))) ((false = false) ∧ (post (.t (.c (.v (.bool false)))))))))) ((false = false) ∧ ((false = false) ∧ (post (.t (.c (.v (.bool false))))))))))
def ann_ref05_Has : Ann := ⟨fun _ => none, fun _ => none, fun _ => [], I49, false, fun _ => none, fun _ => none⟩
theorem ev_ref05_Has (J : Inv) (b0 b1 b2 b3 b4 b5 : Int) (s0 s1 s2 : Int) (post : DV → Prop) : evFn Try.prog tab S73 ann_ref05_Has J Try.f116 [.t (.a [.v (.int .i64 b0), .v (.int .i64 b1), .v (.int .i64 b2), .v (.int .i64 b3), .v (.int .i64 b4), .v (.int .i64 b5)]), .t (.a [.v (.int .i64 s0), .v (.int .i64 s1), .v (.int .i64 s2)])] post = vc_ref05_Has b0 b1 b2 b3 b4 b5 s0 s1 s2 post := by kernel_rfl
theorem fit_ref05_Has : okFn ann_ref05_Has Try.f116 = true := by kernel_rfl
theorem lp_ref05_Has (J : Inv) (post : DV → Prop) : AllG J (loopsFn Try.prog tab S73 ann_ref05_Has J Try.f116 post) = (True) := by kernel_rfl
theorem spec_ref05_Has (b0 b1 b2 b3 b4 b5 : Int) (s0 s1 s2 : Int) : vc_ref05_Has b0 b1 b2 b3 b4 b5 s0 s1 s2 (fun r => LeD r (.t (.c (.v (.bool (decide (((⟨⟨b0, b1, b2⟩, ⟨b3, b4, b5⟩⟩ : TBox)).has (⟨s0, s1, s2⟩ : V3)))))))) := by
 unfold vc_ref05_Has
 (repeat' first | (refine And.intro (by decide) ?_) | (refine And.intro rfl ?_) | (refine cond_i ?_ ?_ <;> intro _) | (exact leB (by rw [Bool.eq_iff_iff]; simp only [inB_true, decide_eq_true_eq] at *; unfold TBox.has TBox.rx TBox.ry TBox.rz Rg.has; simp only; omega)) | (refine leBf ?_))
 all_goals ((try simp only [decide_eq_true_eq, decide_eq_false_iff_not, inB_true, inB_no, Classical.not_not] at *); (try simp only [TBox.has, TBox.rx, TBox.ry, TBox.rz, Rg.sub, Rg.has] at *); omega)
def con_ref05_Has : Con := fun args => match args with
 | [.t (.a [.v (.int .i64 b0), .v (.int .i64 b1), .v (.int .i64 b2), .v (.int .i64 b3), .v (.int .i64 b4), .v (.int .i64 b5)]), .t (.a [.v (.int .i64 s0), .v (.int .i64 s1), .v (.int .i64 s2)])] => some (.t (.c (.v (.bool (decide (((⟨⟨b0, b1, b2⟩, ⟨b3, b4, b5⟩⟩ : TBox)).has (⟨s0, s1, s2⟩ : V3)))))), none, false)
 | _ => none
theorem ok_ref05_Has : Ok Try.prog 116 con_ref05_Has := by
 refine Ok.fn (ann := ann_ref05_Has) mixed tabOK VS73 VI49 (fn := Try.f116) (by kernel_rfl) (by kernel_rfl) fit_ref05_Has fun args r pre fresh h hp => ?_
 unfold con_ref05_Has at h
 split at h
 ·rename_i b0 b1 b2 b3 b4 b5 s0 s1 s2
  cases h
  refine ⟨rfl, fun _ _ _ => False, _, LeA.refl _, Nat.le_of_ble_eq_true (by kernel_rfl), ?_, ?_⟩
  ·rw [ev_ref05_Has]; exact spec_ref05_Has b0 b1 b2 b3 b4 b5 s0 s1 s2
  ·rw [lp_ref05_Has]; trivial
 ·cases h
def S74 : Sum := addS S73 116 con_ref05_Has
theorem VS74 : Valid Try.prog S74 := Valid.add VS73 ok_ref05_Has
def vc_ref05_SearchErr (b0 b1 b2 b3 b4 b5 : Int) (l : List THit) (post : DV → Prop) : Prop := cond ((((⟨⟨b0, b1, b2⟩, ⟨b3, b4, b5⟩⟩ : TBox)).err) != (0 : Int)) (post (.t (.c (.v (.int .i64 (((⟨⟨b0, b1, b2⟩, ⟨b3, b4, b5⟩⟩ : TBox)).err)))))) ((numsP 5 l.length (hitsC l)) ∧ (post (.t (.c (.v (.int .i64 (hitsE (listC l.length mkHit (hitsC l)))))))))
def ann_ref05_SearchErr : Ann := ⟨fun _ => none, fun _ => none, fun _ => [], I49, false, fun _ => none, fun _ => none⟩
theorem ev_ref05_SearchErr (J : Inv) (b0 b1 b2 b3 b4 b5 : Int) (l : List THit) (post : DV → Prop) : evFn Try.prog tab S74 ann_ref05_SearchErr J Try.f60 [.t (.a [.v (.int .i64 b0), .v (.int .i64 b1), .v (.int .i64 b2), .v (.int .i64 b3), .v (.int .i64 b4), .v (.int .i64 b5), .sl 5 l.length (hitsC l)])] post = vc_ref05_SearchErr b0 b1 b2 b3 b4 b5 l post := by kernel_rfl
theorem fit_ref05_SearchErr : okFn ann_ref05_SearchErr Try.f60 = true := by kernel_rfl
theorem lp_ref05_SearchErr (J : Inv) (post : DV → Prop) : AllG J (loopsFn Try.prog tab S74 ann_ref05_SearchErr J Try.f60 post) = (True) := by kernel_rfl
theorem spec_ref05_SearchErr (b0 b1 b2 b3 b4 b5 : Int) (l : List THit) : vc_ref05_SearchErr b0 b1 b2 b3 b4 b5 l (fun r => LeD r (.t (.c (.v (.int .i64 (firstNZ [((⟨⟨b0, b1, b2⟩, ⟨b3, b4, b5⟩⟩ : TBox)).err, hitsE l])))))) := by
 unfold vc_ref05_SearchErr
 rw [hits_listC]
 refine cond_i (fun h => leI ?_) (fun h => ⟨numsP_hits l, leI ?_⟩) <;> simp_all [firstNZ]
def con_ref05_SearchErr : Con := fun args => match args with
 | [.t (.a [.v (.int .i64 b0), .v (.int .i64 b1), .v (.int .i64 b2), .v (.int .i64 b3), .v (.int .i64 b4), .v (.int .i64 b5), .sl 5 n_l c_l])] => some (.t (.c (.v (.int .i64 (firstNZ [((⟨⟨b0, b1, b2⟩, ⟨b3, b4, b5⟩⟩ : TBox)).err, hitsE (listC n_l mkHit c_l)])))), some (numsP 5 n_l c_l), false)
 | _ => none
theorem ok_ref05_SearchErr : Ok Try.prog 60 con_ref05_SearchErr := by
 refine Ok.fn (ann := ann_ref05_SearchErr) mixed tabOK VS74 VI49 (fn := Try.f60) (by kernel_rfl) (by kernel_rfl) fit_ref05_SearchErr fun args r pre fresh h hp => ?_
 unfold con_ref05_SearchErr at h
 split at h
 ·rename_i b0 b1 b2 b3 b4 b5 n_l c_l
  cases h
  have hp0 := hp
  refine ⟨rfl, fun _ _ _ => False, [.t (.a [.v (.int .i64 b0), .v (.int .i64 b1), .v (.int .i64 b2), .v (.int .i64 b3), .v (.int .i64 b4), .v (.int .i64 b5), .sl 5 ((listC n_l mkHit c_l).length) (hitsC (listC n_l mkHit c_l))])], ?_, Nat.le_of_ble_eq_true (by kernel_rfl), ?_, ?_⟩
  ·exact (LeA_cons (leT_a (LeCs.cons (LeC1.refl _) (LeCs.cons (LeC1.refl _) (LeCs.cons (LeC1.refl _) (LeCs.cons (LeC1.refl _) (LeCs.cons (LeC1.refl _) (LeCs.cons (LeC1.refl _) (LeCs.cons ((leL_THit hp0)) LeCs.nil)))))))) LeA_nil)
  ·rw [ev_ref05_SearchErr]; exact spec_ref05_SearchErr b0 b1 b2 b3 b4 b5 (listC n_l mkHit c_l)
  ·rw [lp_ref05_SearchErr]; trivial
 ·cases h
def S75 : Sum := addS S74 60 con_ref05_SearchErr
theorem VS75 : Valid Try.prog S75 := Valid.add VS74 ok_ref05_SearchErr
def vc_ref05_CopySearch (b0 b1 b2 b3 b4 b5 : Int) (l : List THit) (post : DV → Prop) : Prop := (numsP 5 l.length (hitsC l) ∧ ((listC l.length mkHit (hitsC l))).length ≤ 1000000) ∧ (post (.t (.a [.v (.int .i64 b0), .v (.int .i64 b1), .v (.int .i64 b2), .v (.int .i64 b3), .v (.int .i64 b4), .v (.int .i64 b5), .sl 5 ((listC l.length mkHit (hitsC l)).length) (hitsC (listC l.length mkHit (hitsC l)))])))
def ann_ref05_CopySearch : Ann := ⟨fun r => lookA r [(1, ([[], [0], [], [2], [2, 3], [0, 1, 2, 3, 4], [0, 1, 2, 3, 4, 5]], [[7], [7], [7], [7], [], [], []]))], fun _ => none, fun _ => [], I49, false, fun _ => none, fun _ => none⟩
theorem ev_ref05_CopySearch (J : Inv) (b0 b1 b2 b3 b4 b5 : Int) (l : List THit) (post : DV → Prop) : evFn Try.prog tab S75 ann_ref05_CopySearch J Try.f57 [.t (.a [.v (.int .i64 b0), .v (.int .i64 b1), .v (.int .i64 b2), .v (.int .i64 b3), .v (.int .i64 b4), .v (.int .i64 b5), .sl 5 l.length (hitsC l)])] post = vc_ref05_CopySearch b0 b1 b2 b3 b4 b5 l post := by kernel_rfl
theorem fit_ref05_CopySearch : okFn ann_ref05_CopySearch Try.f57 = true := by kernel_rfl
theorem lp_ref05_CopySearch (J : Inv) (post : DV → Prop) : AllG J (loopsFn Try.prog tab S75 ann_ref05_CopySearch J Try.f57 post) = (True) := by kernel_rfl
theorem spec_ref05_CopySearch (b0 b1 b2 b3 b4 b5 : Int) (l : List THit) (hp : (l).length ≤ 1000000) : vc_ref05_CopySearch b0 b1 b2 b3 b4 b5 l (fun r => LeD r (.t (.a [.v (.int .i64 b0), .v (.int .i64 b1), .v (.int .i64 b2), .v (.int .i64 b3), .v (.int .i64 b4), .v (.int .i64 b5), .sl 5 l.length (hitsC l)]))) := by
 unfold vc_ref05_CopySearch
 rw [hits_listC]
 exact ⟨⟨numsP_hits l, hp⟩, LeD.refl _⟩
def con_ref05_CopySearch : Con := fun args => match args with
 | [.t (.a [.v (.int .i64 b0), .v (.int .i64 b1), .v (.int .i64 b2), .v (.int .i64 b3), .v (.int .i64 b4), .v (.int .i64 b5), .sl 5 n_l c_l])] => some (.t (.a [.v (.int .i64 b0), .v (.int .i64 b1), .v (.int .i64 b2), .v (.int .i64 b3), .v (.int .i64 b4), .v (.int .i64 b5), .sl 5 ((listC n_l mkHit c_l).length) (hitsC (listC n_l mkHit c_l))]), some (numsP 5 n_l c_l ∧ ((listC n_l mkHit c_l)).length ≤ 1000000), false)
 | _ => none
theorem ok_ref05_CopySearch : Ok Try.prog 57 con_ref05_CopySearch := by
 refine Ok.fn (ann := ann_ref05_CopySearch) mixed tabOK VS75 VI49 (fn := Try.f57) (by kernel_rfl) (by kernel_rfl) fit_ref05_CopySearch fun args r pre fresh h hp => ?_
 unfold con_ref05_CopySearch at h
 split at h
 ·rename_i b0 b1 b2 b3 b4 b5 n_l c_l
  cases h
  obtain ⟨hp0, hp⟩ := hp
  refine ⟨rfl, fun _ _ _ => False, [.t (.a [.v (.int .i64 b0), .v (.int .i64 b1), .v (.int .i64 b2), .v (.int .i64 b3), .v (.int .i64 b4), .v (.int .i64 b5), .sl 5 ((listC n_l mkHit c_l).length) (hitsC (listC n_l mkHit c_l))])], ?_, Nat.le_of_ble_eq_true (by kernel_rfl), ?_, ?_⟩
  ·exact (LeA_cons (leT_a (LeCs.cons (LeC1.refl _) (LeCs.cons (LeC1.refl _) (LeCs.cons (LeC1.refl _) (LeCs.cons (LeC1.refl _) (LeCs.cons (LeC1.refl _) (LeCs.cons (LeC1.refl _) (LeCs.cons ((leL_THit hp0)) LeCs.nil)))))))) LeA_nil)
  ·rw [ev_ref05_CopySearch]; exact spec_ref05_CopySearch b0 b1 b2 b3 b4 b5 (listC n_l mkHit c_l) hp
  ·rw [lp_ref05_CopySearch]; trivial
 ·cases h
def S76 : Sum := addS S75 57 con_ref05_CopySearch
theorem VS76 : Valid Try.prog S76 := Valid.add VS75 ok_ref05_CopySearch
def vc_ref05_CopyCover (c : List TBox) (K : Int) (post : DV → Prop) : Prop := (roomP 48 (([] : List (List CV)).length + ((List.range c.length).map fun i => fwd ((bxsC c) i) 0 6).length)) ∧ (post (.t (.a [.sl 6 ((([] : List (List CV)) ++ ((List.range c.length).map fun i => fwd ((bxsC c) i) 0 6)).length) (genC (([] : List (List CV)) ++ ((List.range c.length).map fun i => fwd ((bxsC c) i) 0 6))), .v (.int .i64 K)])))
def ann_ref05_CopyCover : Ann := ⟨fun r => lookA r [(1, ([[], [], [1], [0, 1, 2], [], [4], [0, 1, 2, 3, 4, 5], [0, 1, 2, 3, 4, 5, 6]], [[], [3], [3], [9999, 3, 6], [3], [3, 6], [], []]))], fun _ => none, fun _ => [], I49, false, fun _ => none, fun _ => none⟩
theorem ev_ref05_CopyCover (J : Inv) (c : List TBox) (K : Int) (post : DV → Prop) : evFn Try.prog tab S76 ann_ref05_CopyCover J Try.f58 [.t (.a [.sl 6 c.length (bxsC c), .v (.int .i64 K)])] post = vc_ref05_CopyCover c K post := by kernel_rfl
theorem fit_ref05_CopyCover : okFn ann_ref05_CopyCover Try.f58 = true := by kernel_rfl
theorem lp_ref05_CopyCover (J : Inv) (post : DV → Prop) : AllG J (loopsFn Try.prog tab S76 ann_ref05_CopyCover J Try.f58 post) = (True) := by kernel_rfl
theorem spec_ref05_CopyCover (c : List TBox) (K : Int) (hp : (c).length ≤ 1000000) : vc_ref05_CopyCover c K (fun r => LeD r (.t (.a [.sl 6 c.length (bxsC c), .v (.int .i64 K)]))) := by
 unfold vc_ref05_CopyCover
 rw [bxs_fwd, List.nil_append]
 refine ⟨?_, leT_a ⟨le_bxs c, LeC1.refl _, trivial⟩⟩
 unfold roomP maxLen; simp; omega
def con_ref05_CopyCover : Con := fun args => match args with
 | [.t (.a [.sl 6 n_c c_c, .v (.int .i64 K)])] => some (.t (.a [.sl 6 ((listC n_c mkBx c_c).length) (bxsC (listC n_c mkBx c_c)), .v (.int .i64 K)]), some (numsP 6 n_c c_c ∧ ((listC n_c mkBx c_c)).length ≤ 1000000), false)
 | _ => none
theorem ok_ref05_CopyCover : Ok Try.prog 58 con_ref05_CopyCover := by
 refine Ok.fn (ann := ann_ref05_CopyCover) mixed tabOK VS76 VI49 (fn := Try.f58) (by kernel_rfl) (by kernel_rfl) fit_ref05_CopyCover fun args r pre fresh h hp => ?_
 unfold con_ref05_CopyCover at h
 split at h
 ·rename_i n_c c_c K
  cases h
  obtain ⟨hp0, hp⟩ := hp
  refine ⟨rfl, fun _ _ _ => False, [.t (.a [.sl 6 ((listC n_c mkBx c_c).length) (bxsC (listC n_c mkBx c_c)), .v (.int .i64 K)])], ?_, Nat.le_of_ble_eq_true (by kernel_rfl), ?_, ?_⟩
  ·exact (LeA_cons (leT_a (LeCs.cons ((leL_TBox hp0)) (LeCs.cons (LeC1.refl _) LeCs.nil))) LeA_nil)
  ·rw [ev_ref05_CopyCover]; exact spec_ref05_CopyCover (listC n_c mkBx c_c) K hp
  ·rw [lp_ref05_CopyCover]; trivial
 ·cases h
def S77 : Sum := addS S76 58 con_ref05_CopyCover
theorem VS77 : Valid Try.prog S77 := Valid.add VS76 ok_ref05_CopyCover
def mk_ref05_Best_0 (m0 m1 m2 m3 m4 m5 m6 m7 m8 m9 m10 m11 : Int) (b0 b1 b2 b3 b4 b5 : Int) (l : List THit) (v0_0 : Int) (v0_1 : Int) (v0_2 : Int) (v0_3 : Int) (v0_4 : Int) : DS := ⟨[none, none, some (.t (.c (.sl 5 l.length (hitsC l)))), some (.t (.c (.p 3 0))), none, none, some (.t (.c (.p 6 0))), none, none, some (.t (.c (.sl 3 ((((⟨m0, m1, m2, m3, m4, m5, m6, m7, m8, m9, m10, m11⟩ : TMod)).steps (⟨⟨b0, b1, b2⟩, ⟨b3, b4, b5⟩⟩ : TBox)).length) (plsC (((⟨m0, m1, m2, m3, m4, m5, m6, m7, m8, m9, m10, m11⟩ : TMod)).steps (⟨⟨b0, b1, b2⟩, ⟨b3, b4, b5⟩⟩ : TBox)))))), some (.t (.c (.p 10 0))), some (.t (.c (.v (.int .i64 v0_3)))), some (.t (.c (.v (.int .i64 v0_4)))), none, none, none, none, none, none, none, none, none, none, none, none, none, none, none, none, none, none, none, none, none, none, none, none, none, none, none, none, none, none, none, none, none, none, none, none, none, none, none, none], [none, none, none, some (.box 26 [.v (.int .i64 m0), .v (.int .i64 m1), .v (.int .i64 m2), .v (.int .i64 m3), .v (.int .i64 m4), .v (.int .i64 m5), .v (.int .i64 m6), .v (.int .i64 m7), .v (.int .i64 m8), .v (.int .i64 m9), .v (.int .i64 m10), .v (.int .i64 m11)]), none, none, some (.box 22 [.v (.int .i64 0), .v (.int .i64 0), .v (.int .i64 0)]), none, none, none, some (.box 22 [.v (.int .i64 v0_0), .v (.int .i64 v0_1), .v (.int .i64 v0_2)]), none, none, none, none, none, none, none, none, none, none, none, none, none, none, none, none, none, none, none, none, none, none, none, none, none, none, none, none, none, none, none, none, none, none, none, none, none, none, none, none, none, none]⟩
def vc_ref05_Best (J : Inv) (m0 m1 m2 m3 m4 m5 m6 m7 m8 m9 m10 m11 : Int) (b0 b1 b2 b3 b4 b5 : Int) (l : List THit) (post : DV → Prop) : Prop := (fun (Z1 : TMod) (Z2 : TBox) (Z3 : List THit) => ((Z2).lo.inS 20 = true ∧ (Z2).hi.inS 20 = true ∧ (Z2).ok) ∧ (cond (((((Z1).steps Z2).length : Nat) : Int) == (0 : Int)) (post (.tu [.a [.v (.int .i64 0), .v (.int .i64 0), .v (.int .i64 0)], .c (.v (.int .i64 0)), .c (.v (.bool false))])) ((0 ≤ (0 : Int) ∧ (0 : Int) < ((((Z1).steps Z2).length : Nat) : Int)) ∧ ((0 ≤ (0 : Int) ∧ (0 : Int) < ((((Z1).steps Z2).length : Nat) : Int)) ∧ ((numsP 5 l.length (hitsC l) ∧ (Z3).length ≤ 12 ∧ (∀ i, i < (Z3).length → (hitAt Z3 i).Ok) ∧ (Z1).Ok ∧ ((plAt ((Z1).steps Z2) 0)).inS 20 = true ∧ (Z1).permit (plAt ((Z1).steps Z2) 0)) ∧ (∃ n, J 0 (n :: []) (mk_ref05_Best_0 m0 m1 m2 m3 m4 m5 m6 m7 m8 m9 m10 m11 b0 b1 b2 b3 b4 b5 l ((plAt ((Z1).steps Z2) 0).x) ((plAt ((Z1).steps Z2) 0).y) ((plAt ((Z1).steps Z2) 0).z) ((Z1).score (plAt ((Z1).steps Z2) 0) Z3) 1))))))) (⟨m0, m1, m2, m3, m4, m5, m6, m7, m8, m9, m10, m11⟩ : TMod) (⟨⟨b0, b1, b2⟩, ⟨b3, b4, b5⟩⟩ : TBox) (listC l.length mkHit (hitsC l))
def ann_ref05_Best : Ann := ⟨fun r => lookA r [(4, ([[], [0], [0, 1], [], [], [4], [4, 5], [], [3, 4, 5, 6, 7], [], [0, 1, 2, 3, 4, 5, 6, 7, 8, 9], [0, 1, 2, 3, 4, 5, 6, 7, 8, 9, 10]], [[29, 10], [29, 10], [29, 10], [29, 10], [29, 10], [29, 10], [29, 10], [29, 10], [10], [29], [], []])), (8, ([[], [], [], [1, 2], [1, 2, 3], [], [0, 1, 2, 3, 4, 5], [0, 1, 2, 3, 4, 5, 6]], [[42], [42], [42], [42], [42], [42], [], []]))], fun b => lookA b [(0, (none, some ⟨[2, 3, 6, 9, 10, 11, 12], [3, 6, 10], []⟩))], fun _ => [], I49, false, fun _ => none, fun _ => none⟩
theorem ev_ref05_Best (J : Inv) (m0 m1 m2 m3 m4 m5 m6 m7 m8 m9 m10 m11 : Int) (b0 b1 b2 b3 b4 b5 : Int) (l : List THit) (post : DV → Prop) : evFn Try.prog tab S77 ann_ref05_Best J Try.f62 [.t (.a [.v (.int .i64 m0), .v (.int .i64 m1), .v (.int .i64 m2), .v (.int .i64 m3), .v (.int .i64 m4), .v (.int .i64 m5), .v (.int .i64 m6), .v (.int .i64 m7), .v (.int .i64 m8), .v (.int .i64 m9), .v (.int .i64 m10), .v (.int .i64 m11)]), .t (.a [.v (.int .i64 b0), .v (.int .i64 b1), .v (.int .i64 b2), .v (.int .i64 b3), .v (.int .i64 b4), .v (.int .i64 b5)]), .t (.c (.sl 5 l.length (hitsC l)))] post = vc_ref05_Best J m0 m1 m2 m3 m4 m5 m6 m7 m8 m9 m10 m11 b0 b1 b2 b3 b4 b5 l post := by kernel_rfl
theorem fit_ref05_Best : okFn ann_ref05_Best Try.f62 = true := by kernel_rfl
def rd_ref05_Best_0 (J : Inv) (m0 m1 m2 m3 m4 m5 m6 m7 m8 m9 m10 m11 : Int) (b0 b1 b2 b3 b4 b5 : Int) (l : List THit) (v0_0 : Int) (v0_1 : Int) (v0_2 : Int) (v0_3 : Int) (v0_4 : Int) (nn0 : Nat) (post : DV → Prop) : Prop := (fun (Z1 : TMod) (Z2 : TBox) (Z3 : List THit) => cond (decide (v0_4 < ((((Z1).steps Z2).length : Nat) : Int))) ((0 ≤ v0_4 ∧ v0_4 < ((((Z1).steps Z2).length : Nat) : Int)) ∧ ((numsP 5 l.length (hitsC l) ∧ (Z3).length ≤ 12 ∧ (∀ i, i < (Z3).length → (hitAt Z3 i).Ok) ∧ (Z1).Ok ∧ ((plAt ((Z1).steps Z2) v0_4.toNat)).inS 20 = true ∧ (Z1).permit (plAt ((Z1).steps Z2) v0_4.toNat)) ∧ (cond (decide (((Z1).score (plAt ((Z1).steps Z2) v0_4.toNat) Z3) < v0_3)) ((0 ≤ v0_4 ∧ v0_4 < ((((Z1).steps Z2).length : Nat) : Int)) ∧ (lt (IntKind.i64.wrap (v0_4 + (1 : Int))) fun x1 => J 0 (nn0 :: []) (mk_ref05_Best_0 m0 m1 m2 m3 m4 m5 m6 m7 m8 m9 m10 m11 b0 b1 b2 b3 b4 b5 l ((plAt ((Z1).steps Z2) v0_4.toNat).x) ((plAt ((Z1).steps Z2) v0_4.toNat).y) ((plAt ((Z1).steps Z2) v0_4.toNat).z) ((Z1).score (plAt ((Z1).steps Z2) v0_4.toNat) Z3) x1))) (lt (IntKind.i64.wrap (v0_4 + (1 : Int))) fun x2 => J 0 (nn0 :: []) (mk_ref05_Best_0 m0 m1 m2 m3 m4 m5 m6 m7 m8 m9 m10 m11 b0 b1 b2 b3 b4 b5 l v0_0 v0_1 v0_2 v0_3 x2))))) (post (.tu [.a [.v (.int .i64 v0_0), .v (.int .i64 v0_1), .v (.int .i64 v0_2)], .c (.v (.int .i64 v0_3)), .c (.v (.bool true))]))) (⟨m0, m1, m2, m3, m4, m5, m6, m7, m8, m9, m10, m11⟩ : TMod) (⟨⟨b0, b1, b2⟩, ⟨b3, b4, b5⟩⟩ : TBox) (listC l.length mkHit (hitsC l))
theorem er_ref05_Best_0 (J : Inv) (m0 m1 m2 m3 m4 m5 m6 m7 m8 m9 m10 m11 : Int) (b0 b1 b2 b3 b4 b5 : Int) (l : List THit) (v0_0 : Int) (v0_1 : Int) (v0_2 : Int) (v0_3 : Int) (v0_4 : Int) (nn0 : Nat) (post : DV → Prop) : round Try.prog tab S77 ann_ref05_Best J Try.f62 post 0 (nn0 :: []) (mk_ref05_Best_0 m0 m1 m2 m3 m4 m5 m6 m7 m8 m9 m10 m11 b0 b1 b2 b3 b4 b5 l v0_0 v0_1 v0_2 v0_3 v0_4) = rd_ref05_Best_0 J m0 m1 m2 m3 m4 m5 m6 m7 m8 m9 m10 m11 b0 b1 b2 b3 b4 b5 l v0_0 v0_1 v0_2 v0_3 v0_4 nn0 post := by kernel_rfl
theorem lp_ref05_Best (J : Inv) (post : DV → Prop) : AllG J (loopsFn Try.prog tab S77 ann_ref05_Best J Try.f62 post) = (((∀ F s, ¬ J 0 (0 :: F) s) ∧ ∀ n F s, J 0 ((n + 1) :: F) s → round Try.prog tab S77 ann_ref05_Best J Try.f62 post 0 (n :: F) s) ∧ True) := by kernel_rfl
def J_ref05_Best (m0 m1 m2 m3 m4 m5 m6 m7 m8 m9 m10 m11 : Int) (b0 b1 b2 b3 b4 b5 : Int) (l : List THit) : Inv := fun b F s => match b, F with
 | 0, [nn0] => ∃ (v0_0 : Int) (v0_1 : Int) (v0_2 : Int) (v0_3 : Int) (v0_4 : Int), s = mk_ref05_Best_0 m0 m1 m2 m3 m4 m5 m6 m7 m8 m9 m10 m11 b0 b1 b2 b3 b4 b5 l v0_0 v0_1 v0_2 v0_3 v0_4 ∧ (1 ≤ v0_4 ∧ v0_4 ≤ ((⟨m0, m1, m2, m3, m4, m5, m6, m7, m8, m9, m10, m11⟩ : TMod).steps (⟨⟨b0, b1, b2⟩, ⟨b3, b4, b5⟩⟩ : TBox)).length ∧ (nn0 : Int) + v0_4 = ((⟨m0, m1, m2, m3, m4, m5, m6, m7, m8, m9, m10, m11⟩ : TMod).steps (⟨⟨b0, b1, b2⟩, ⟨b3, b4, b5⟩⟩ : TBox)).length + 1 ∧ (⟨m0, m1, m2, m3, m4, m5, m6, m7, m8, m9, m10, m11⟩ : TMod).bestF l (((⟨m0, m1, m2, m3, m4, m5, m6, m7, m8, m9, m10, m11⟩ : TMod).steps (⟨⟨b0, b1, b2⟩, ⟨b3, b4, b5⟩⟩ : TBox)).take v0_4.toNat) = some ⟨v0_0, v0_1, v0_2⟩ ∧ v0_3 = (⟨m0, m1, m2, m3, m4, m5, m6, m7, m8, m9, m10, m11⟩ : TMod).score ⟨v0_0, v0_1, v0_2⟩ l)
 | _, _ => False
set_option maxHeartbeats 8000000 in
set_option maxRecDepth 100000 in
theorem rnd_ref05_Best_0 (m0 m1 m2 m3 m4 m5 m6 m7 m8 m9 m10 m11 : Int) (b0 b1 b2 b3 b4 b5 : Int) (l : List THit) (v0_0 : Int) (v0_1 : Int) (v0_2 : Int) (v0_3 : Int) (v0_4 : Int) (nn0 : Nat) (hp : ((⟨m0, m1, m2, m3, m4, m5, m6, m7, m8, m9, m10, m11⟩ : TMod)).err = 0 ∧ ((⟨⟨b0, b1, b2⟩, ⟨b3, b4, b5⟩⟩ : TBox)).err = 0 ∧ hitsE l = 0) (hi : 1 ≤ v0_4 ∧ v0_4 ≤ ((⟨m0, m1, m2, m3, m4, m5, m6, m7, m8, m9, m10, m11⟩ : TMod).steps (⟨⟨b0, b1, b2⟩, ⟨b3, b4, b5⟩⟩ : TBox)).length ∧ ((nn0 + 1) : Int) + v0_4 = ((⟨m0, m1, m2, m3, m4, m5, m6, m7, m8, m9, m10, m11⟩ : TMod).steps (⟨⟨b0, b1, b2⟩, ⟨b3, b4, b5⟩⟩ : TBox)).length + 1 ∧ (⟨m0, m1, m2, m3, m4, m5, m6, m7, m8, m9, m10, m11⟩ : TMod).bestF l (((⟨m0, m1, m2, m3, m4, m5, m6, m7, m8, m9, m10, m11⟩ : TMod).steps (⟨⟨b0, b1, b2⟩, ⟨b3, b4, b5⟩⟩ : TBox)).take v0_4.toNat) = some ⟨v0_0, v0_1, v0_2⟩ ∧ v0_3 = (⟨m0, m1, m2, m3, m4, m5, m6, m7, m8, m9, m10, m11⟩ : TMod).score ⟨v0_0, v0_1, v0_2⟩ l) : rd_ref05_Best_0 (J_ref05_Best m0 m1 m2 m3 m4 m5 m6 m7 m8 m9 m10 m11 b0 b1 b2 b3 b4 b5 l) m0 m1 m2 m3 m4 m5 m6 m7 m8 m9 m10 m11 b0 b1 b2 b3 b4 b5 l v0_0 v0_1 v0_2 v0_3 v0_4 nn0 (fun r => LeD r (.tu [.a [.v (.int .i64 ((bestV (⟨m0, m1, m2, m3, m4, m5, m6, m7, m8, m9, m10, m11⟩ : TMod) (⟨⟨b0, b1, b2⟩, ⟨b3, b4, b5⟩⟩ : TBox) l).x)), .v (.int .i64 ((bestV (⟨m0, m1, m2, m3, m4, m5, m6, m7, m8, m9, m10, m11⟩ : TMod) (⟨⟨b0, b1, b2⟩, ⟨b3, b4, b5⟩⟩ : TBox) l).y)), .v (.int .i64 ((bestV (⟨m0, m1, m2, m3, m4, m5, m6, m7, m8, m9, m10, m11⟩ : TMod) (⟨⟨b0, b1, b2⟩, ⟨b3, b4, b5⟩⟩ : TBox) l).z))], .c (.v (.int .i64 (bestS (⟨m0, m1, m2, m3, m4, m5, m6, m7, m8, m9, m10, m11⟩ : TMod) (⟨⟨b0, b1, b2⟩, ⟨b3, b4, b5⟩⟩ : TBox) l))), .c (.v (.bool (decide (((⟨m0, m1, m2, m3, m4, m5, m6, m7, m8, m9, m10, m11⟩ : TMod)).steps (⟨⟨b0, b1, b2⟩, ⟨b3, b4, b5⟩⟩ : TBox) ≠ []))))])) := by
 obtain ⟨i1, i2, i3, i4, i5⟩ := hi
 obtain ⟨hm, hb, hh⟩ := hp
 obtain ⟨q6, q7⟩ := hitsE_ok hh
 obtain ⟨k, rfl⟩ : ∃ k : Nat, v0_4 = k := ⟨v0_4.toNat, by omega⟩
 have hk : (k : Int).toNat = k := rfl
 rw [hk] at i4
 have hl := steps_len (m := (⟨m0, m1, m2, m3, m4, m5, m6, m7, m8, m9, m10, m11⟩ : TMod)) hb
 unfold rd_ref05_Best_0
 rw [hk]
 simp only [hits_listC]
 refine cond_i (fun h => ?_) (fun h => ?_)
 ·have hlt : k < ((⟨m0, m1, m2, m3, m4, m5, m6, m7, m8, m9, m10, m11⟩ : TMod).steps (⟨⟨b0, b1, b2⟩, ⟨b3, b4, b5⟩⟩ : TBox)).length := by have := of_decide_eq_true h; omega
  have hs := steps_ok (m := (⟨m0, m1, m2, m3, m4, m5, m6, m7, m8, m9, m10, m11⟩ : TMod)) hb (plAt_in hlt)
  have hn := best_take i4 hlt
  have hnx : ∀ x, IntKind.i64.wrap ((k : Int) + 1) = x → x = (k : Int) + 1 := fun x hx => by rw [← hx]; exact IntWalk.i64_in _ (by omega)
  refine ⟨by omega, ⟨numsP_hits l, q6, q7, err_ok hm, hs.1, hs.2⟩, cond_i (fun e => ⟨by omega, lt_i fun x hx => ?_⟩) (fun e => lt_i fun x hx => ?_)⟩
  ·have e := of_decide_eq_true e
   rw [hnx x hx]
   refine ⟨_, _, _, _, _, rfl, by omega, by omega, by omega, ?_, rfl⟩
   rw [show ((k : Int) + 1).toNat = k + 1 by omega, hn, if_pos (by rw [← i5]; exact e)]
  ·have e := of_decide_eq_false e
   rw [hnx x hx]
   refine ⟨_, _, _, _, _, rfl, by omega, by omega, by omega, ?_, i5⟩
   rw [show ((k : Int) + 1).toNat = k + 1 by omega, hn, if_neg (by rw [← i5]; exact e)]
 ·have hge : k = ((⟨m0, m1, m2, m3, m4, m5, m6, m7, m8, m9, m10, m11⟩ : TMod).steps (⟨⟨b0, b1, b2⟩, ⟨b3, b4, b5⟩⟩ : TBox)).length := by have := of_decide_eq_false h; omega
  have hne : (⟨m0, m1, m2, m3, m4, m5, m6, m7, m8, m9, m10, m11⟩ : TMod).steps (⟨⟨b0, b1, b2⟩, ⟨b3, b4, b5⟩⟩ : TBox) ≠ [] := by intro e; rw [e] at hge; simp at hge; omega
  rw [hge, List.take_length] at i4
  unfold bestV bestS
  rw [i4, decide_eq_true hne, i5]
  exact LeD.refl _
theorem zero_ref05_Best_0 (m0 m1 m2 m3 m4 m5 m6 m7 m8 m9 m10 m11 : Int) (b0 b1 b2 b3 b4 b5 : Int) (l : List THit) (v0_0 : Int) (v0_1 : Int) (v0_2 : Int) (v0_3 : Int) (v0_4 : Int)  (hi : 1 ≤ v0_4 ∧ v0_4 ≤ ((⟨m0, m1, m2, m3, m4, m5, m6, m7, m8, m9, m10, m11⟩ : TMod).steps (⟨⟨b0, b1, b2⟩, ⟨b3, b4, b5⟩⟩ : TBox)).length ∧ (0 : Int) + v0_4 = ((⟨m0, m1, m2, m3, m4, m5, m6, m7, m8, m9, m10, m11⟩ : TMod).steps (⟨⟨b0, b1, b2⟩, ⟨b3, b4, b5⟩⟩ : TBox)).length + 1 ∧ (⟨m0, m1, m2, m3, m4, m5, m6, m7, m8, m9, m10, m11⟩ : TMod).bestF l (((⟨m0, m1, m2, m3, m4, m5, m6, m7, m8, m9, m10, m11⟩ : TMod).steps (⟨⟨b0, b1, b2⟩, ⟨b3, b4, b5⟩⟩ : TBox)).take v0_4.toNat) = some ⟨v0_0, v0_1, v0_2⟩ ∧ v0_3 = (⟨m0, m1, m2, m3, m4, m5, m6, m7, m8, m9, m10, m11⟩ : TMod).score ⟨v0_0, v0_1, v0_2⟩ l) : False := by
 omega
set_option maxHeartbeats 8000000 in
set_option maxRecDepth 100000 in
theorem spec_ref05_Best (m0 m1 m2 m3 m4 m5 m6 m7 m8 m9 m10 m11 : Int) (b0 b1 b2 b3 b4 b5 : Int) (l : List THit) (hp : ((⟨m0, m1, m2, m3, m4, m5, m6, m7, m8, m9, m10, m11⟩ : TMod)).err = 0 ∧ ((⟨⟨b0, b1, b2⟩, ⟨b3, b4, b5⟩⟩ : TBox)).err = 0 ∧ hitsE l = 0) : vc_ref05_Best (J_ref05_Best m0 m1 m2 m3 m4 m5 m6 m7 m8 m9 m10 m11 b0 b1 b2 b3 b4 b5 l) m0 m1 m2 m3 m4 m5 m6 m7 m8 m9 m10 m11 b0 b1 b2 b3 b4 b5 l (fun r => LeD r (.tu [.a [.v (.int .i64 ((bestV (⟨m0, m1, m2, m3, m4, m5, m6, m7, m8, m9, m10, m11⟩ : TMod) (⟨⟨b0, b1, b2⟩, ⟨b3, b4, b5⟩⟩ : TBox) l).x)), .v (.int .i64 ((bestV (⟨m0, m1, m2, m3, m4, m5, m6, m7, m8, m9, m10, m11⟩ : TMod) (⟨⟨b0, b1, b2⟩, ⟨b3, b4, b5⟩⟩ : TBox) l).y)), .v (.int .i64 ((bestV (⟨m0, m1, m2, m3, m4, m5, m6, m7, m8, m9, m10, m11⟩ : TMod) (⟨⟨b0, b1, b2⟩, ⟨b3, b4, b5⟩⟩ : TBox) l).z))], .c (.v (.int .i64 (bestS (⟨m0, m1, m2, m3, m4, m5, m6, m7, m8, m9, m10, m11⟩ : TMod) (⟨⟨b0, b1, b2⟩, ⟨b3, b4, b5⟩⟩ : TBox) l))), .c (.v (.bool (decide (((⟨m0, m1, m2, m3, m4, m5, m6, m7, m8, m9, m10, m11⟩ : TMod)).steps (⟨⟨b0, b1, b2⟩, ⟨b3, b4, b5⟩⟩ : TBox) ≠ []))))])) := by
 obtain ⟨hm, hb, hh⟩ := hp
 have hin := box_in hb
 obtain ⟨q6, q7⟩ := hitsE_ok hh
 unfold vc_ref05_Best
 simp only [hits_listC]
 refine ⟨⟨hin.1, hin.2, box_ok hb⟩, cond_i (fun h => ?_) (fun h => ?_)⟩
 ·have h : (⟨m0, m1, m2, m3, m4, m5, m6, m7, m8, m9, m10, m11⟩ : TMod).steps (⟨⟨b0, b1, b2⟩, ⟨b3, b4, b5⟩⟩ : TBox) = [] := by simpa using h
  unfold bestV bestS
  rw [h]
  exact LeD.refl _
 ·have h : 0 < ((⟨m0, m1, m2, m3, m4, m5, m6, m7, m8, m9, m10, m11⟩ : TMod).steps (⟨⟨b0, b1, b2⟩, ⟨b3, b4, b5⟩⟩ : TBox)).length := by
   rcases Nat.eq_zero_or_pos ((⟨m0, m1, m2, m3, m4, m5, m6, m7, m8, m9, m10, m11⟩ : TMod).steps (⟨⟨b0, b1, b2⟩, ⟨b3, b4, b5⟩⟩ : TBox)).length with e | e
   ·rw [e] at h; simp at h
   ·exact e
  have hs := steps_ok (m := (⟨m0, m1, m2, m3, m4, m5, m6, m7, m8, m9, m10, m11⟩ : TMod)) hb (plAt_in h)
  refine ⟨by omega, by omega, ⟨numsP_hits l, q6, q7, err_ok hm, hs.1, hs.2⟩, ((⟨m0, m1, m2, m3, m4, m5, m6, m7, m8, m9, m10, m11⟩ : TMod).steps (⟨⟨b0, b1, b2⟩, ⟨b3, b4, b5⟩⟩ : TBox)).length, _, _, _, _, _, rfl, by omega, by omega, by omega, ?_, rfl⟩
  rw [show (1 : Int).toNat = 1 by rfl]
  exact best_one h
theorem all_ref05_Best (m0 m1 m2 m3 m4 m5 m6 m7 m8 m9 m10 m11 : Int) (b0 b1 b2 b3 b4 b5 : Int) (l : List THit) (hp : ((⟨m0, m1, m2, m3, m4, m5, m6, m7, m8, m9, m10, m11⟩ : TMod)).err = 0 ∧ ((⟨⟨b0, b1, b2⟩, ⟨b3, b4, b5⟩⟩ : TBox)).err = 0 ∧ hitsE l = 0) : AllG (J_ref05_Best m0 m1 m2 m3 m4 m5 m6 m7 m8 m9 m10 m11 b0 b1 b2 b3 b4 b5 l) (loopsFn Try.prog tab S77 ann_ref05_Best (J_ref05_Best m0 m1 m2 m3 m4 m5 m6 m7 m8 m9 m10 m11 b0 b1 b2 b3 b4 b5 l) Try.f62 (fun r => LeD r (.tu [.a [.v (.int .i64 ((bestV (⟨m0, m1, m2, m3, m4, m5, m6, m7, m8, m9, m10, m11⟩ : TMod) (⟨⟨b0, b1, b2⟩, ⟨b3, b4, b5⟩⟩ : TBox) l).x)), .v (.int .i64 ((bestV (⟨m0, m1, m2, m3, m4, m5, m6, m7, m8, m9, m10, m11⟩ : TMod) (⟨⟨b0, b1, b2⟩, ⟨b3, b4, b5⟩⟩ : TBox) l).y)), .v (.int .i64 ((bestV (⟨m0, m1, m2, m3, m4, m5, m6, m7, m8, m9, m10, m11⟩ : TMod) (⟨⟨b0, b1, b2⟩, ⟨b3, b4, b5⟩⟩ : TBox) l).z))], .c (.v (.int .i64 (bestS (⟨m0, m1, m2, m3, m4, m5, m6, m7, m8, m9, m10, m11⟩ : TMod) (⟨⟨b0, b1, b2⟩, ⟨b3, b4, b5⟩⟩ : TBox) l))), .c (.v (.bool (decide (((⟨m0, m1, m2, m3, m4, m5, m6, m7, m8, m9, m10, m11⟩ : TMod)).steps (⟨⟨b0, b1, b2⟩, ⟨b3, b4, b5⟩⟩ : TBox) ≠ []))))]))) := by
 rw [lp_ref05_Best]
 refine ⟨⟨?_, ?_⟩, trivial⟩
 ·intro F s h
  obtain _ | ⟨g, F⟩ := F
  case cons => exact h.elim
  obtain ⟨w0, w1, w2, w3, w4, rfl, hi⟩ := h
  exact zero_ref05_Best_0 m0 m1 m2 m3 m4 m5 m6 m7 m8 m9 m10 m11 b0 b1 b2 b3 b4 b5 l _ _ _ _ _ hi
 ·intro n F s h
  obtain _ | ⟨g, F⟩ := F
  case cons => exact h.elim
  obtain ⟨w0, w1, w2, w3, w4, rfl, hi⟩ := h
  rw [er_ref05_Best_0]
  exact rnd_ref05_Best_0 m0 m1 m2 m3 m4 m5 m6 m7 m8 m9 m10 m11 b0 b1 b2 b3 b4 b5 l _ _ _ _ _ _ hp hi
def con_ref05_Best : Con := fun args => match args with
 | [.t (.a [.v (.int .i64 m0), .v (.int .i64 m1), .v (.int .i64 m2), .v (.int .i64 m3), .v (.int .i64 m4), .v (.int .i64 m5), .v (.int .i64 m6), .v (.int .i64 m7), .v (.int .i64 m8), .v (.int .i64 m9), .v (.int .i64 m10), .v (.int .i64 m11)]), .t (.a [.v (.int .i64 b0), .v (.int .i64 b1), .v (.int .i64 b2), .v (.int .i64 b3), .v (.int .i64 b4), .v (.int .i64 b5)]), .t (.c (.sl 5 n_l c_l))] => some (.tu [.a [.v (.int .i64 ((bestV (⟨m0, m1, m2, m3, m4, m5, m6, m7, m8, m9, m10, m11⟩ : TMod) (⟨⟨b0, b1, b2⟩, ⟨b3, b4, b5⟩⟩ : TBox) (listC n_l mkHit c_l)).x)), .v (.int .i64 ((bestV (⟨m0, m1, m2, m3, m4, m5, m6, m7, m8, m9, m10, m11⟩ : TMod) (⟨⟨b0, b1, b2⟩, ⟨b3, b4, b5⟩⟩ : TBox) (listC n_l mkHit c_l)).y)), .v (.int .i64 ((bestV (⟨m0, m1, m2, m3, m4, m5, m6, m7, m8, m9, m10, m11⟩ : TMod) (⟨⟨b0, b1, b2⟩, ⟨b3, b4, b5⟩⟩ : TBox) (listC n_l mkHit c_l)).z))], .c (.v (.int .i64 (bestS (⟨m0, m1, m2, m3, m4, m5, m6, m7, m8, m9, m10, m11⟩ : TMod) (⟨⟨b0, b1, b2⟩, ⟨b3, b4, b5⟩⟩ : TBox) (listC n_l mkHit c_l)))), .c (.v (.bool (decide (((⟨m0, m1, m2, m3, m4, m5, m6, m7, m8, m9, m10, m11⟩ : TMod)).steps (⟨⟨b0, b1, b2⟩, ⟨b3, b4, b5⟩⟩ : TBox) ≠ []))))], some (numsP 5 n_l c_l ∧ ((⟨m0, m1, m2, m3, m4, m5, m6, m7, m8, m9, m10, m11⟩ : TMod)).err = 0 ∧ ((⟨⟨b0, b1, b2⟩, ⟨b3, b4, b5⟩⟩ : TBox)).err = 0 ∧ hitsE (listC n_l mkHit c_l) = 0), false)
 | _ => none
theorem ok_ref05_Best : Ok Try.prog 62 con_ref05_Best := by
 refine Ok.fn (ann := ann_ref05_Best) mixed tabOK VS77 VI49 (fn := Try.f62) (by kernel_rfl) (by kernel_rfl) fit_ref05_Best fun args r pre fresh h hp => ?_
 unfold con_ref05_Best at h
 split at h
 ·rename_i m0 m1 m2 m3 m4 m5 m6 m7 m8 m9 m10 m11 b0 b1 b2 b3 b4 b5 n_l c_l
  cases h
  obtain ⟨hp0, hp⟩ := hp
  refine ⟨rfl, J_ref05_Best m0 m1 m2 m3 m4 m5 m6 m7 m8 m9 m10 m11 b0 b1 b2 b3 b4 b5 (listC n_l mkHit c_l), [.t (.a [.v (.int .i64 m0), .v (.int .i64 m1), .v (.int .i64 m2), .v (.int .i64 m3), .v (.int .i64 m4), .v (.int .i64 m5), .v (.int .i64 m6), .v (.int .i64 m7), .v (.int .i64 m8), .v (.int .i64 m9), .v (.int .i64 m10), .v (.int .i64 m11)]), .t (.a [.v (.int .i64 b0), .v (.int .i64 b1), .v (.int .i64 b2), .v (.int .i64 b3), .v (.int .i64 b4), .v (.int .i64 b5)]), .t (.c (.sl 5 ((listC n_l mkHit c_l).length) (hitsC (listC n_l mkHit c_l))))], ?_, Nat.le_of_ble_eq_true (by kernel_rfl), ?_, ?_⟩
  ·exact (LeA_cons (LeD.refl _) (LeA_cons (LeD.refl _) (LeA_cons (leT_c ((leL_THit hp0))) LeA_nil)))
  ·rw [ev_ref05_Best]; exact spec_ref05_Best m0 m1 m2 m3 m4 m5 m6 m7 m8 m9 m10 m11 b0 b1 b2 b3 b4 b5 (listC n_l mkHit c_l) hp
  ·exact all_ref05_Best m0 m1 m2 m3 m4 m5 m6 m7 m8 m9 m10 m11 b0 b1 b2 b3 b4 b5 (listC n_l mkHit c_l) hp
 ·cases h
def S78 : Sum := addS S77 62 con_ref05_Best
theorem VS78 : Valid Try.prog S78 := Valid.add VS77 ok_ref05_Best
end Go.Proofs.Ytlmdmpjfehpjeaa