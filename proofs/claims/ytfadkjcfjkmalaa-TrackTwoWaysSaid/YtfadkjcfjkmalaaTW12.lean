/- Texts of this claim, together. -/
import Derived.Test.YtfadkjcfjkmalaaTW11

set_option linter.unusedVariables false
set_option linter.unusedSimpArgs false
namespace Go.Proofs.Ytfadkjcfjkmalaa
open Go.RowKit Ev
instance (a b : TBox) : Decidable (a.sub b) := by unfold TBox.sub TBox.rx TBox.ry TBox.rz Rg.sub; infer_instance
instance (a b : TBox) : Decidable (a.apart b) := by unfold TBox.apart; infer_instance
theorem leBt {P : Prop} [Decidable P] (h : P) : LeD (.t (.c (.v (.bool true)))) (.t (.c (.v (.bool (decide P))))) := leB (decide_eq_true h).symm
theorem leBf {P : Prop} [Decidable P] (h : ¬ P) : LeD (.t (.c (.v (.bool false)))) (.t (.c (.v (.bool (decide P))))) := leB (decide_eq_false h).symm
theorem inB_no {n lo hi : Int} : inB n lo hi = false ↔ ¬ (lo ≤ n ∧ n ≤ hi) := by rw [← Bool.not_eq_true, inB_true]
def provB (m : TMod) (l : List THit) (K : Int) (b : TBox) : Bool := !canW m b || decide ((m.scores b l).lo ≥ K)
def bxAt (l : List TBox) (i : Nat) : TBox := l.getD i ⟨⟨0, 0, 0⟩, ⟨0, 0, 0⟩⟩
def bxsC (l : List TBox) : Nat → Nat → CV := fun i j => match j with
 | 0 => .v (.int .i64 (bxAt l i).lo.x)
 | 1 => .v (.int .i64 (bxAt l i).lo.y)
 | 2 => .v (.int .i64 (bxAt l i).lo.z)
 | 3 => .v (.int .i64 (bxAt l i).hi.x)
 | 4 => .v (.int .i64 (bxAt l i).hi.y)
 | _ => .v (.int .i64 (bxAt l i).hi.z)
def mkBx (g : Nat → Int) : TBox := ⟨⟨g 0, g 1, g 2⟩, ⟨g 3, g 4, g 5⟩⟩
def bxCv (x : TBox) : List CV := [.v (.int .i64 x.lo.x), .v (.int .i64 x.lo.y), .v (.int .i64 x.lo.z), .v (.int .i64 x.hi.x), .v (.int .i64 x.hi.y), .v (.int .i64 x.hi.z)]
theorem bxAt_C {n : Nat} {c : Nat → Nat → CV} {i : Nat} (hi : i < n) : bxAt (listC n mkBx c) i = mkBx fun j => cvInt (c i j) := listC_get hi
theorem leL_TBox {n : Nat} {c : Nat → Nat → CV} (hp : numsP 6 n c) : LeD (.t (.c (.sl 6 n c))) (.t (.c (.sl 6 (listC n mkBx c).length (bxsC (listC n mkBx c))))) := by
 refine leL hp fun i j hi hj => ?_
 unfold bxsC
 rw [bxAt_C hi]
 rcases (by omega : j = 0 ∨ j = 1 ∨ j = 2 ∨ j = 3 ∨ j = 4 ∨ j = 5) with rfl | rfl | rfl | rfl | rfl | rfl <;> rfl
theorem numsP_bxs (l : List TBox) : numsP 6 l.length (bxsC l) := by
 intro i j hi hj
 rcases (by omega : j = 0 ∨ j = 1 ∨ j = 2 ∨ j = 3 ∨ j = 4 ∨ j = 5) with rfl | rfl | rfl | rfl | rfl | rfl <;> rfl
theorem bxs_listC (l : List TBox) : listC l.length mkBx (bxsC l) = l := listC_id ⟨⟨0, 0, 0⟩, ⟨0, 0, 0⟩⟩ fun i hi => rfl
theorem plain_TBox (l : List TBox) (i j : Nat) : ∃ y, bxsC l i j = .v y := by unfold bxsC; split <;> exact ⟨_, rfl⟩
theorem le_bxs (l : List TBox) : LeD (.t (.c (.sl 6 (l.map bxCv).length (genC (l.map bxCv))))) (.t (.c (.sl 6 l.length (bxsC l)))) := by
 rw [List.length_map]
 refine leSl fun i j hi hj => ?_
 unfold genC bxsC bxAt
 simp only [List.getD_eq_getElem?_getD, List.getElem?_map, List.getElem?_eq_getElem hi, Option.map_some, Option.getD_some]
 rcases (by omega : j = 0 ∨ j = 1 ∨ j = 2 ∨ j = 3 ∨ j = 4 ∨ j = 5) with rfl | rfl | rfl | rfl | rfl | rfl <;> rfl
theorem bxAt_take {l : List TBox} {k : Nat} (h : k < l.length) : l.take (k + 1) = l.take k ++ [bxAt l k] := by
 rw [List.take_succ_eq_append_getElem h]; simp [bxAt, List.getD, h]
theorem bxAt_in {l : List TBox} {k : Nat} (h : k < l.length) : bxAt l k ∈ l := by
 rw [show bxAt l k = l[k] by simp [bxAt, List.getD, h]]; exact List.getElem_mem h
theorem bx_ext {a b : TBox} : a = b ↔ a.lo.x = b.lo.x ∧ a.lo.y = b.lo.y ∧ a.lo.z = b.lo.z ∧ a.hi.x = b.hi.x ∧ a.hi.y = b.hi.y ∧ a.hi.z = b.hi.z := by
 obtain ⟨⟨_, _, _⟩, ⟨_, _, _⟩⟩ := a
 obtain ⟨⟨_, _, _⟩, ⟨_, _, _⟩⟩ := b
 simp [and_assoc]
instance : DecidableEq TBox := fun a b => decidable_of_iff _ bx_ext.symm
theorem bxs_fwd (l : List TBox) : ((List.range l.length).map fun i => fwd ((bxsC l) i) 0 6) = l.map bxCv := by
 apply List.ext_getElem?
 intro i
 by_cases hi : i < l.length
 ·simp only [List.getElem?_map, List.getElem?_range hi, List.getElem?_eq_getElem hi, Option.map_some]
  have e : bxAt l i = l[i] := by simp [bxAt, List.getD, hi]
  rw [← e]; rfl
 ·rw [List.getElem?_eq_none (by simpa using hi), List.getElem?_eq_none (by simpa using hi)]
theorem numsP_bxg (l : List TBox) : numsP 6 (l.map bxCv).length (genC (l.map bxCv)) := by
 rw [List.length_map]
 intro i j hi hj
 have e : genC (l.map bxCv) i j = bxsC l i j := by
  unfold genC bxsC bxAt
  simp only [List.getD_eq_getElem?_getD, List.getElem?_map, List.getElem?_eq_getElem hi, Option.map_some, Option.getD_some]
  rcases (by omega : j = 0 ∨ j = 1 ∨ j = 2 ∨ j = 3 ∨ j = 4 ∨ j = 5) with rfl | rfl | rfl | rfl | rfl | rfl <;> rfl
 rw [e]
 exact numsP_bxs l i j hi hj
theorem bxg_listC (l : List TBox) : listC (l.map bxCv).length mkBx (genC (l.map bxCv)) = l := by
 rw [List.length_map]
 refine listC_id ⟨⟨0, 0, 0⟩, ⟨0, 0, 0⟩⟩ fun i hi => ?_
 unfold mkBx genC
 simp only [List.getD_eq_getElem?_getD, List.getElem?_map, List.getElem?_eq_getElem hi, Option.map_some, Option.getD_some]
 rfl
theorem numsP_bxpart (l : List TBox) {lo n : Nat} (h : lo + n ≤ l.length) : numsP 6 n (fun i j => bxsC l (lo + i) j) := fun i j hi hj => numsP_bxs l (lo + i) j (by omega) hj
theorem bxs_part (l : List TBox) {lo n : Nat} (h : lo + n ≤ l.length) : listC n mkBx (fun i j => bxsC l (lo + i) j) = (l.drop lo).take n := by
 apply List.ext_getElem?
 intro i
 by_cases hi : i < n
 ·rw [listC, List.getElem?_map, List.getElem?_range hi, Option.map_some, List.getElem?_take, if_pos hi, List.getElem?_drop, List.getElem?_eq_getElem (by omega)]
  have e : bxAt l (lo + i) = l[lo + i]'(by omega) := by simp [bxAt, List.getD, show lo + i < l.length by omega]
  rw [← e]; rfl
 ·rw [List.getElem?_eq_none (by simp [listC]; omega), List.getElem?_eq_none (by simp; omega)]
instance (b : TBox) (s : V3) : Decidable (b.has s) := by unfold TBox.has Rg.has; infer_instance
theorem hits_w {l : List THit} (h : hitsE l = 0) : ∀ x ∈ l, 0 ≤ x.w := by
 intro x hx
 obtain ⟨i, hi, e⟩ := List.getElem_of_mem hx
 have := (hitsE_ok h).2 i hi
 rw [show hitAt l i = x by simp [hitAt, List.getD, hi, e]] at this
 exact this.w.1
theorem provB_iff {m : TMod} {l : List THit} {K : Int} {b : TBox} (h : b.err = 0) : provB m l K b = true ↔ m.proved l K b := by
 have hb := box_in h
 have hc : canW m b = true ↔ m.canBe b := by rw [canW_eq hb.1 hb.2]; exact canB_iff
 unfold provB TMod.proved
 rw [← hc]
 cases canW m b <;> simp
theorem err_cnt {b : TBox} (h : b.err = 0) : 0 < b.count ∧ b.count ≤ 700 := ⟨count_pos (box_ok h), (boxErr_ok h).2.2.2⟩
theorem cnt_ne {b : TBox} (ho : b.ok) (hc : b.count ≠ 1) : b.lo.x < b.hi.x ∨ b.lo.y < b.hi.y ∨ b.lo.z < b.hi.z := by
 have h1 := count_one ho
 obtain ⟨o1, o2, o3⟩ := ho
 simp only [TBox.rx, TBox.ry, TBox.rz, Rg.ok] at o1 o2 o3
 have h2 : ¬ (b.lo.x = b.hi.x ∧ b.lo.y = b.hi.y ∧ b.lo.z = b.hi.z) := fun q => hc (h1.2 (v3_ext.2 q))
 omega
theorem sub_err {b c : TBox} (h : b.err = 0) (hs : c.sub b) (hk : c.ok) : c.err = 0 := by
 have hin := box_in h
 have hcm := count_mono hs hk
 obtain ⟨a1, a2, a3⟩ := inS_iff.1 hin.1
 obtain ⟨c1, c2, c3⟩ := inS_iff.1 hin.2
 have hs' := hs
 have hk' := hk
 unfold TBox.sub TBox.rx TBox.ry TBox.rz Rg.sub at hs'
 unfold TBox.ok TBox.rx TBox.ry TBox.rz Rg.ok at hk'
 simp only at hs' hk'
 have e1 : c.lo.inS 20 = true := inS_iff.2 (by omega)
 have e2 : c.hi.inS 20 = true := inS_iff.2 (by omega)
 have h4 := (err_cnt h).2
 unfold TBox.err
 rw [firstNZ_cons, firstNZ_cons, firstNZ_cons]
 refine ⟨by rw [e1, e2]; rfl, ?_, ?_, rfl⟩
 ·rw [unl_0 (by decide)]; simp only [Bool.and_eq_true, decide_eq_true_eq]; exact ⟨⟨hk'.1, hk'.2.1⟩, hk'.2.2⟩
 ·rw [unl_0 (by decide), decide_eq_true_eq]; omega
def covF (m : TMod) (l : List THit) (K : Int) : Nat → TBox → List TBox × Bool
 | 0, _ => ([], false)
 | n + 1, b => if provB m l K b = true then ([b], true) else if b.count = 1 then ([], false) else
  if (covF m l K n b.half1).2 = true ∧ (covF m l K n b.half2).2 = true then ((covF m l K n b.half1).1 ++ (covF m l K n b.half2).1, true) else ([], false)
def covR (m : TMod) (l : List THit) (K : Int) (b : TBox) : List TBox × Bool := covF m l K b.count.toNat b
theorem covF_same {m : TMod} {l : List THit} {K : Int} : ∀ (n n' : Nat) (b : TBox), b.err = 0 → b.count ≤ n → b.count ≤ n' → covF m l K n b = covF m l K n' b
 | 0, _, b, h, h1, _ => by have := (err_cnt h).1; omega
 | _ + 1, 0, b, h, _, h1 => by have := (err_cnt h).1; omega
 | n + 1, n' + 1, b, h, h1, h2 => by
  unfold covF
  by_cases e1 : provB m l K b = true
  ·rw [if_pos e1, if_pos e1]
  ·rw [if_neg e1, if_neg e1]
   by_cases e2 : b.count = 1
   ·rw [if_pos e2, if_pos e2]
   ·rw [if_neg e2, if_neg e2]
    obtain ⟨f1, f2, _, _⟩ := half_err h e2
    have hc := halves_count b
    have p1 := (err_cnt f1).1
    have p2 := (err_cnt f2).1
    rw [covF_same n n' b.half1 f1 (by omega) (by omega), covF_same n n' b.half2 f2 (by omega) (by omega)]
theorem covR_eq {m : TMod} {l : List THit} {K : Int} {b : TBox} (h : b.err = 0) : covR m l K b = if provB m l K b = true then ([b], true) else if b.count = 1 then ([], false) else
  if (covR m l K b.half1).2 = true ∧ (covR m l K b.half2).2 = true then ((covR m l K b.half1).1 ++ (covR m l K b.half2).1, true) else ([], false) := by
 have p := (err_cnt h).1
 obtain ⟨n, hn⟩ : ∃ n, b.count.toNat = n + 1 := ⟨b.count.toNat - 1, by omega⟩
 unfold covR
 rw [hn, covF]
 by_cases e1 : provB m l K b = true
 ·rw [if_pos e1, if_pos e1]
 ·rw [if_neg e1, if_neg e1]
  by_cases e2 : b.count = 1
  ·rw [if_pos e2, if_pos e2]
  ·rw [if_neg e2, if_neg e2]
   obtain ⟨f1, f2, _, _⟩ := half_err h e2
   have hc := halves_count b
   have p1 := (err_cnt f1).1
   have p2 := (err_cnt f2).1
   rw [covF_same n b.half1.count.toNat b.half1 f1 (by omega) (by omega), covF_same n b.half2.count.toNat b.half2 f2 (by omega) (by omega)]
theorem covR_spec {m : TMod} {l : List THit} {K : Int} (hm : m.err = 0) (hh : hitsE l = 0) : ∀ (n : Nat) (b : TBox), b.err = 0 → b.count ≤ n → ((covR m l K b).2 = true → m.covers l K b (covR m l K b).1) ∧ ((covR m l K b).2 = false → (covR m l K b).1 = [] ∧ ∃ s, b.has s ∧ m.permit s ∧ m.score s l < K)
 | 0, b, h, h1 => by have := (err_cnt h).1; omega
 | n + 1, b, h, h1 => by
  have ho := err_ok hm
  have hk := box_ok h
  rw [covR_eq h]
  by_cases e1 : provB m l K b = true
  ·rw [if_pos e1]
   exact ⟨fun _ => covers_one hk ((provB_iff h).1 e1), fun e => (by cases e)⟩
  ·rw [if_neg e1]
   by_cases e2 : b.count = 1
   ·rw [if_pos e2]
    refine ⟨fun e => (by cases e), fun _ => ⟨rfl, b.lo, ?_, ?_⟩⟩
    ·unfold TBox.ok TBox.rx TBox.ry TBox.rz Rg.ok at hk
     unfold TBox.has TBox.rx TBox.ry TBox.rz Rg.has
     simp only at hk ⊢; omega
    ·have e3 := (count_one hk).1 e2
     have e4 : b = ⟨b.lo, b.lo⟩ := by obtain ⟨x, y⟩ := b; simp only at e3; rw [e3]
     have h2 : ¬ m.proved l K ⟨b.lo, b.lo⟩ := by rw [← e4]; exact fun q => e1 ((provB_iff h).2 q)
     exact not_proved_one h2 ho.slp ho.slo ⟨ho.ea.1, ho.la.1⟩ ⟨ho.mi.1, ho.no.1⟩ (hits_w hh)
   ·rw [if_neg e2]
    obtain ⟨f1, f2, s1, s2⟩ := half_err h e2
    have hc := halves_count b
    have p1 := (err_cnt f1).1
    have p2 := (err_cnt f2).1
    obtain ⟨g1, g2⟩ := covR_spec hm hh n b.half1 f1 (by omega)
    obtain ⟨g3, g4⟩ := covR_spec hm hh n b.half2 f2 (by omega)
    by_cases e3 : (covR m l K b.half1).2 = true ∧ (covR m l K b.half2).2 = true
    ·rw [if_pos e3]
     exact ⟨fun _ => covers_two hk (cnt_ne hk e2) (g1 e3.1) (g3 e3.2), fun e => by cases e⟩
    ·rw [if_neg e3]
     refine ⟨fun e => (by cases e), fun _ => ⟨rfl, ?_⟩⟩
     by_cases q : (covR m l K b.half1).2 = true
     ·obtain ⟨_, s, a1, a2⟩ := g4 (by have : ¬ (covR m l K b.half2).2 = true := fun r => e3 ⟨q, r⟩; simpa using this)
      exact ⟨s, sub_has s2 a1, a2⟩
     ·obtain ⟨_, s, a1, a2⟩ := g2 (by simpa using q)
      exact ⟨s, sub_has s1 a1, a2⟩
theorem covR_len {m : TMod} {l : List THit} {K : Int} {b : TBox} (hm : m.err = 0) (hb : b.err = 0) (hh : hitsE l = 0) : (covR m l K b).1.length ≤ 700 := by
 obtain ⟨h1, h2⟩ := covR_spec (K := K) hm hh b.count.toNat b hb (by omega)
 have hc := err_cnt hb
 cases e : (covR m l K b).2 with
 | true => have := covers_len (h1 e); omega
 | false => rw [(h2 e).1]; simp
def bxE (b : TBox) (c : List TBox) (i : Nat) : Int := if (bxAt c i).err ≠ 0 then (bxAt c i).err else firstNZ [unl (decide ((bxAt c i).sub b)) 6, unl (!((c.take i).any (fun a => decide (¬ a.apart (bxAt c i))))) 23]
def cvE0 (m : TMod) (b : TBox) (l : List THit) (c : List TBox) : Int := firstNZ [firstNZ [firstNZ [m.err, b.err], hitsE l], unl (decide (((c.length : Nat) : Int) ≤ (700 : Int))) (8 : Int)]
def cvR (m : TMod) (b : TBox) (l : List THit) (c : List TBox) (K : Int) : Int × Int := if cvE0 m b l c ≠ 0 then (0, cvE0 m b l c) else if scan (bxE b c) c.length ≠ 0 then (scanI (bxE b c) c.length, scan (bxE b c) c.length) else if sumC c < b.count then (0, 14) else if 0 ≤ idxP (fun a => !provB m l K a) c then (idxP (fun a => !provB m l K a) c, 19) else (0, 0)
theorem cvE0_ok {m : TMod} {b : TBox} {l : List THit} {c : List TBox} (h : cvE0 m b l c = 0) : m.err = 0 ∧ b.err = 0 ∧ hitsE l = 0 ∧ c.length ≤ 700 := by
 unfold cvE0 at h
 obtain ⟨h1, h2⟩ := fn2 h
 obtain ⟨h3, h4⟩ := fn2 h1
 obtain ⟨h5, h6⟩ := fn2 h3
 rw [unl_0 (by decide)] at h2
 have := of_decide_eq_true h2
 exact ⟨h5, h6, h4, by omega⟩
theorem bxE_err {b : TBox} {c : List TBox} {i : Nat} (h : bxE b c i = 0) : (bxAt c i).err = 0 := by
 unfold bxE at h
 by_cases e : (bxAt c i).err = 0
 ·exact e
 ·rw [if_pos e] at h; exact h
theorem sumC_bd {b : TBox} (c : List TBox) : ∀ {k : Nat}, (∀ j, j < k → bxE b c j = 0) → 0 ≤ sumC (c.take k) ∧ sumC (c.take k) ≤ 700 * k
 | 0, _ => by simp [sumC]
 | k + 1, h => by
  have ih := sumC_bd c (k := k) fun j hj => h j (by omega)
  by_cases hk : k < c.length
  ·rw [bxAt_take hk, sumC_app]
   have := err_cnt (bxE_err (h k (by omega)))
   have e : sumC [bxAt c k] = (bxAt c k).count := by simp [sumC]
   rw [e]; omega
  ·rw [List.take_of_length_le (by omega)] at ih ⊢; omega
theorem cover_acc {m : TMod} {b : TBox} {l : List THit} {K : Int} {L : List TBox} (hm : m.err = 0) (hb : b.err = 0) (hh : hitsE l = 0) (h : m.covers l K b L) : cvR m b l L K = (0, 0) := by
 have hlen := covers_len h
 have hc := err_cnt hb
 have hat : ∀ i, i < L.length → bxAt L i ∈ L := fun i hi => bxAt_in hi
 have e0 : cvE0 m b l L = 0 := by
  unfold cvE0
  rw [hm, hb, hh, decide_eq_true (by omega)]; rfl
 have hz : ∀ i, i < L.length → bxE b L i = 0 := by
  intro i hi
  obtain ⟨h1, h2, h3⟩ := h.each _ (hat i hi)
  have e1 := sub_err hb h2 h1
  unfold bxE
  rw [if_neg (by rw [e1]; simp), decide_eq_true h2]
  have e2 : (L.take i).any (fun a => decide (¬ a.apart (bxAt L i))) = false := by
   rw [List.any_eq_false]
   intro a ha
   obtain ⟨j, hj, e⟩ := List.mem_take_iff_getElem.1 ha
   have := (List.pairwise_iff_getElem.1 h.apart) j i (by omega) hi (by omega)
   rw [e] at this
   rw [show bxAt L i = L[i] by simp [bxAt, List.getD, hi]]
   simpa using this
  rw [e2]; rfl
 have e1 := scan_end hz
 have e2 : idxP (fun a => !provB m l K a) L = -1 := idxP_none (d := (⟨⟨0, 0, 0⟩, ⟨0, 0, 0⟩⟩ : TBox)) fun j hj => by
  obtain ⟨h1, h2, h3⟩ := h.each _ (hat j hj)
  have := (provB_iff (K := K) (m := m) (l := l) (sub_err hb h2 h1)).2 h3
  show (!provB m l K (bxAt L j)) = false
  rw [this]; rfl
 unfold cvR
 rw [if_neg (by rw [e0]; simp), if_neg (by rw [e1]; simp), if_neg (by rw [h.count]; omega), if_neg (by rw [e2]; omega)]
theorem steps_ok {m : TMod} {b : TBox} {s : V3} (h : b.err = 0) (hs : s ∈ m.steps b) : s.inS 20 = true ∧ m.permit s := by
 obtain ⟨h1, h2⟩ := mem_steps.1 hs
 have hin := box_in h
 obtain ⟨a1, a2, a3⟩ := inS_iff.1 hin.1
 obtain ⟨c1, c2, c3⟩ := inS_iff.1 hin.2
 unfold TBox.has TBox.rx TBox.ry TBox.rz Rg.has at h1
 simp only at h1
 exact ⟨inS_iff.2 (by omega), h2⟩
theorem steps_len {m : TMod} {b : TBox} (h : b.err = 0) : (m.steps b).length ≤ 700 := by
 have h1 := List.length_filter_le m.permB b.all
 have h2 := len_all (box_ok h)
 have h3 := err_cnt h
 unfold TMod.steps
 omega
def bestV (m : TMod) (b : TBox) (l : List THit) : V3 := match m.bestF l (m.steps b) with
 | some s => s
 | none => ⟨0, 0, 0⟩
def bestS (m : TMod) (b : TBox) (l : List THit) : Int := match m.bestF l (m.steps b) with
 | some s => m.score s l
 | none => 0
theorem best_is {m : TMod} {b : TBox} {l : List THit} (h : m.steps b ≠ []) : m.isBest l (· ∈ m.steps b) (bestV m b l) ∧ bestS m b l = m.score (bestV m b l) l := by
 have h1 := bestF_knows m l (m.steps b) (steps_sorted m b)
 unfold bestV bestS
 cases e : m.bestF l (m.steps b) with
 | none =>
  rw [e] at h1
  exact (h (List.eq_nil_iff_forall_not_mem.2 h1)).elim
 | some s => rw [e] at h1; exact ⟨h1, rfl⟩
theorem best_le {m : TMod} {b : TBox} {l : List THit} {s : V3} (h : s ∈ m.steps b) : bestS m b l ≤ m.score s l := by
 have hne : m.steps b ≠ [] := by intro e; rw [e] at h; cases h
 obtain ⟨h1, h2⟩ := best_is (l := l) hne
 rw [h2]
 rcases h1.2 s h with e | e | ⟨e, _⟩
 ·rw [e]; exact Int.le_refl _
 ·exact Int.le_of_lt e
 ·rw [e]; exact Int.le_refl _
theorem cover_iff {m : TMod} {b : TBox} {l : List THit} {K : Int} (hm : m.err = 0) (hb : b.err = 0) (hh : hitsE l = 0) : (covR m l K b).2 = false ↔ m.steps b ≠ [] ∧ bestS m b l < K := by
 obtain ⟨h1, h2⟩ := covR_spec (K := K) hm hh b.count.toNat b hb (by omega)
 have ho := err_ok hm
 constructor
 ·intro e
  obtain ⟨_, s, a1, a2, a3⟩ := h2 e
  have hs := mem_steps.2 ⟨a1, a2⟩
  refine ⟨fun e => (by rw [e] at hs; cases hs), ?_⟩
  have := best_le (l := l) hs
  omega
 ·rintro ⟨hne, hlt⟩
  cases e : (covR m l K b).2 with
  | false => rfl
  | true =>
   obtain ⟨q1, q2⟩ := best_is (l := l) hne
   obtain ⟨g1, g2⟩ := mem_steps.1 q1.1
   have := covers_ge (h1 e) (box_ok hb) g1 g2 ho.slp ho.slo ⟨ho.ea.1, ho.la.1⟩ ⟨ho.mi.1, ho.no.1⟩ (hits_w hh)
   omega
theorem z3_no {m : TMod} (ho : m.Ok) {s : V3} (h : m.permit s) : ¬ z3 s := by
 rintro ⟨a, b, c⟩
 have h1 := h.1
 have h2 := ho.lo
 unfold V3.dot at h1
 rw [a, b, c] at h1
 omega
theorem plain_V3 (l : List V3) (i j : Nat) : ∃ y, plsC l i j = .v y := by unfold plsC; split <;> exact ⟨_, rfl⟩
theorem has_sub {b c : TBox} {s : V3} (h : b.sub c) (g : b.has s) : c.has s := by
 unfold TBox.sub at h
 unfold TBox.has at g ⊢
 unfold TBox.rx TBox.ry TBox.rz Rg.sub at h
 unfold TBox.rx TBox.ry TBox.rz Rg.has at g ⊢
 simp only at h g ⊢
 omega
theorem score_big {m : TMod} {s : V3} {l : List THit} (ho : m.Ok) (hok : ∀ i, i < l.length → (hitAt l i).Ok) : ∀ k, k ≤ l.length → -(10000 * (k : Int)) ≤ m.score s (l.take k) ∧ m.score s (l.take k) ≤ 10000 * (k : Int)
 | 0, _ => by rw [List.take_zero, show m.score s [] = 0 from rfl]; omega
 | k + 1, h => by
  have ih := score_big (s := s) ho hok k (by omega)
  have p := pen_rg (m := m) (s := s) ho (hok k (by omega))
  rw [score_take m s (by omega)]
  push_cast
  omega
theorem score_120 {m : TMod} {s : V3} {l : List THit} (ho : m.Ok) (hh : hitsE l = 0) : -120000 ≤ m.score s l ∧ m.score s l ≤ 120000 := by
 obtain ⟨h1, h2⟩ := hitsE_ok hh
 have := score_big (s := s) ho h2 l.length (Nat.le_refl _)
 rw [List.take_length] at this
 omega
def kn (m : TMod) (l : List THit) (S : V3 → Prop) (k : V3) (n : Int) : Prop := (z3 k ∧ ∀ s, ¬ S s) ∨ (m.isBest l S k ∧ n = m.score k l)
theorem kn_congr {m : TMod} {l : List THit} {S T : V3 → Prop} {k : V3} {n : Int} (h : kn m l S k n) (e : ∀ s, S s ↔ T s) : kn m l T k n := by
 have : S = T := funext fun s => propext (e s)
 rwa [← this]
theorem bst_kn {m : TMod} {l : List THit} (ho : m.Ok) (hl : ∀ x ∈ l, 0 ≤ x.w) : ∀ (f : Nat) (b : TBox) (S : V3 → Prop) (k : V3) (n : Int), b.err = 0 → b.count ≤ f → (∀ s, S s → m.permit s) → kn m l S k n → kn m l (fun s => S s ∨ (b.has s ∧ m.permit s)) (bstR m l b k n).1 (bstR m l b k n).2
 | 0, b, _, _, _, h, h1, _, _ => by have := count_pos (box_ok h); omega
 | f + 1, b, S, k, n, h, h1, hS, hk => by
  have hb := box_ok h
  rw [bstR_eq h]
  by_cases e1 : m.canB b = false
  ·rw [if_pos e1]
   refine kn_congr hk fun s => ⟨Or.inl, fun q => q.elim id fun q => ?_⟩
   have := canB_iff.2 (canBe_of q.1 q.2)
   rw [e1] at this; cases this
  ·rw [if_neg e1]
   by_cases e3 : ¬ z3 k ∧ n < (m.scores b l).lo
   ·rw [if_pos e3]
    rcases hk with hk | ⟨hk, hn⟩
    ·exact (e3.1 hk.1).elim
    ·refine Or.inr ⟨knows_worse hk fun u hu => ?_, hn⟩
     have := score_has hu.1 hu.2 ho.slp ho.slo ⟨ho.ea.1, ho.la.1⟩ ⟨ho.mi.1, ho.no.1⟩ hl
     have := this.1
     show m.score k l < m.score u l
     omega
   ·rw [if_neg e3]
    by_cases e2 : b.count ≠ 1
    ·rw [if_pos e2]
     obtain ⟨f1, f2, s1, s2⟩ := half_err h e2
     have hc := halves_count b
     have p1 := count_pos (box_ok f1)
     have p2 := count_pos (box_ok f2)
     have q1 := bst_kn ho hl f b.half1 S k n f1 (by omega) hS hk
     have q2 := bst_kn ho hl f b.half2 _ _ _ f2 (by omega) (fun s hs => hs.elim (hS s) fun q => q.2) q1
     refine kn_congr q2 fun s => ⟨fun q => ?_, fun q => ?_⟩
     ·rcases q with (q | q) | q
      ·exact Or.inl q
      ·exact Or.inr ⟨has_sub s1 q.1, q.2⟩
      ·exact Or.inr ⟨has_sub s2 q.1, q.2⟩
     ·rcases q with q | ⟨q, r⟩
      ·exact Or.inl (Or.inl q)
      ·rcases halves_has s q with g | g
       ·exact Or.inl (Or.inr ⟨g, r⟩)
       ·exact Or.inr ⟨g, r⟩
    ·rw [if_neg e2]
     have hlh := (count_one hb).1 (by omega)
     have hpm : m.permit b.lo := by
      have h9 := canB_iff.1 (by simpa using e1)
      rw [show b = (⟨b.lo, b.lo⟩ : TBox) from by obtain ⟨x, y⟩ := b; simp only at hlh; rw [hlh]] at h9
      exact canBe_one h9
     have hiff : ∀ s, b.has s ∧ m.permit s ↔ s = b.lo := fun s => by
      constructor
      ·rintro ⟨g, _⟩
       unfold TBox.has TBox.rx TBox.ry TBox.rz Rg.has at g
       rw [← hlh] at g
       obtain ⟨x, y, z⟩ := s
       simp only at g
       have e1 : x = b.lo.x := by omega
       have e2 : y = b.lo.y := by omega
       have e3 : z = b.lo.z := by omega
       rw [e1, e2, e3]
      ·rintro rfl
       refine ⟨?_, hpm⟩
       unfold TBox.ok TBox.rx TBox.ry TBox.rz Rg.ok at hb
       unfold TBox.has TBox.rx TBox.ry TBox.rz Rg.has
       simp only at hb ⊢; omega
     have fin : kn m l (fun s => S s ∨ s = b.lo) (m.stp l b.lo k n).1 (m.stp l b.lo k n).2 := by
      unfold TMod.stp
      rcases hk with ⟨hz, hno⟩ | ⟨hk, hn⟩
      ·rw [if_pos (Or.inl hz)]
       exact Or.inr ⟨knows_first b.lo hno, rfl⟩
      ·have hz : ¬ z3 k := z3_no ho (hS k hk.1)
       by_cases hb : m.better l b.lo k
       ·rw [if_pos]
        ·exact Or.inr ⟨(knows_add hk).1 hb, rfl⟩
        ·rw [hn]; exact Or.inr hb
       ·rw [if_neg]
        ·exact Or.inr ⟨(knows_add hk).2 hb, hn⟩
        ·rintro (q | q)
         ·exact hz q
         ·rw [hn] at q; exact hb q
     exact kn_congr fin fun s => by rw [hiff s]
theorem bst_best {m : TMod} {l : List THit} {b : TBox} (hm : m.err = 0) (hb : b.err = 0) (hh : hitsE l = 0) : (m.steps b = [] ∧ z3 (bstR m l b ⟨0, 0, 0⟩ 0).1) ∨ (m.steps b ≠ [] ∧ ¬ z3 (bstR m l b ⟨0, 0, 0⟩ 0).1 ∧ (bstR m l b ⟨0, 0, 0⟩ 0).1 = bestV m b l ∧ (bstR m l b ⟨0, 0, 0⟩ 0).2 = bestS m b l) := by
 have ho := err_ok hm
 have h := bst_kn ho (hits_w hh) b.count.toNat b (fun _ => False) ⟨0, 0, 0⟩ 0 hb (by omega) (fun s hs => hs.elim) (Or.inl ⟨⟨rfl, rfl, rfl⟩, fun s hs => hs⟩)
 rcases h with ⟨h1, h2⟩ | ⟨h1, h2⟩
 ·refine Or.inl ⟨List.eq_nil_iff_forall_not_mem.2 fun s hs => h2 s (Or.inr (mem_steps.1 hs)), h1⟩
 ·have hin : (bstR m l b ⟨0, 0, 0⟩ 0).1 ∈ m.steps b := mem_steps.2 (h1.1.elim (fun q => q.elim) id)
  have hne : m.steps b ≠ [] := by intro e; rw [e] at hin; cases hin
  obtain ⟨g1, g2⟩ := best_is (l := l) hne
  have e : (bstR m l b ⟨0, 0, 0⟩ 0).1 = bestV m b l := by
   refine best_unique (S := fun s => False ∨ (b.has s ∧ m.permit s)) h1 ?_
   have : (fun s => False ∨ (b.has s ∧ m.permit s)) = (· ∈ m.steps b) := funext fun s => propext (by rw [mem_steps]; simp)
   rw [this]; exact g1
  exact Or.inr ⟨hne, z3_no ho (mem_steps.1 hin).2, e, by rw [h2, g2, e]⟩
def coE (m : TMod) (b : TBox) (l : List THit) (K : Int) : Int := firstNZ [firstNZ [firstNZ [m.err, b.err], hitsE l], unl (inB K 0 120000) 2]
def coQ (m : TMod) (b : TBox) (l : List THit) (K : Int) (s : V3) : Bool := decide (m.score s l ≤ bestS m b l + K)
def coL (m : TMod) (b : TBox) (l : List THit) (K : Int) : List V3 := (m.steps b).filter (coQ m b l K)
def biE (m : TMod) (b : TBox) (l : List THit) : Int := if firstNZ [firstNZ [m.err, b.err], hitsE l] ≠ 0 then firstNZ [firstNZ [m.err, b.err], hitsE l] else if m.steps b = [] then 12 else 0
def biV (m : TMod) (b : TBox) (l : List THit) : V3 := if biE m b l = 0 then bestV m b l else ⟨0, 0, 0⟩
def biS (m : TMod) (b : TBox) (l : List THit) : Int := if biE m b l = 0 then bestS m b l else 0
def cnE (m : TMod) (b : TBox) (l : List THit) (K : Int) : Int := if coE m b l K ≠ 0 then coE m b l K else biE m b l
def cnL (m : TMod) (b : TBox) (l : List THit) (K : Int) : List V3 := if cnE m b l K = 0 then coL m b l K else []
theorem biE_0 {m : TMod} {b : TBox} {l : List THit} (h : biE m b l = 0) : m.err = 0 ∧ b.err = 0 ∧ hitsE l = 0 ∧ m.steps b ≠ [] := by
 unfold biE at h
 by_cases e : firstNZ [firstNZ [m.err, b.err], hitsE l] ≠ 0
 ·rw [if_pos e] at h; exact (e h).elim
 ·have e : firstNZ [firstNZ [m.err, b.err], hitsE l] = 0 := by simpa using e
  obtain ⟨q1, q2⟩ := fn2 e
  obtain ⟨q3, q4⟩ := fn2 q1
  rw [if_neg (by rw [e]; simp)] at h
  refine ⟨q3, q4, q2, fun e2 => ?_⟩
  rw [if_pos e2] at h; cases h
def vc_track_model_steps (m0 m1 m2 m3 m4 m5 m6 m7 m8 m9 m10 m11 : Int) (b0 b1 b2 b3 b4 b5 : Int) (post : DV → Prop) : Prop := post (.t (.fn 67 [.px 6 0 (boxC [.v (.int .i64 b0), .v (.int .i64 b1), .v (.int .i64 b2), .v (.int .i64 b3), .v (.int .i64 b4), .v (.int .i64 b5)]), .px 12 0 (boxC [.v (.int .i64 m0), .v (.int .i64 m1), .v (.int .i64 m2), .v (.int .i64 m3), .v (.int .i64 m4), .v (.int .i64 m5), .v (.int .i64 m6), .v (.int .i64 m7), .v (.int .i64 m8), .v (.int .i64 m9), .v (.int .i64 m10), .v (.int .i64 m11)])]))
def ann_track_model_steps : Ann := ⟨fun _ => none, fun _ => none, fun _ => [], Ikv51, false, fun _ => none, fun _ => none⟩
theorem ev_track_model_steps (J : Inv) (m0 m1 m2 m3 m4 m5 m6 m7 m8 m9 m10 m11 : Int) (b0 b1 b2 b3 b4 b5 : Int) (post : DV → Prop) : evFn Try.prog tab Skx56 ann_track_model_steps J Try.f35 [.t (.a [.v (.int .i64 m0), .v (.int .i64 m1), .v (.int .i64 m2), .v (.int .i64 m3), .v (.int .i64 m4), .v (.int .i64 m5), .v (.int .i64 m6), .v (.int .i64 m7), .v (.int .i64 m8), .v (.int .i64 m9), .v (.int .i64 m10), .v (.int .i64 m11)]), .t (.a [.v (.int .i64 b0), .v (.int .i64 b1), .v (.int .i64 b2), .v (.int .i64 b3), .v (.int .i64 b4), .v (.int .i64 b5)])] post = vc_track_model_steps m0 m1 m2 m3 m4 m5 m6 m7 m8 m9 m10 m11 b0 b1 b2 b3 b4 b5 post := by kernel_rfl
theorem fit_track_model_steps : okFn ann_track_model_steps Try.f35 = true := by kernel_rfl
theorem lp_track_model_steps (J : Inv) (post : DV → Prop) : AllG J (loopsFn Try.prog tab Skx56 ann_track_model_steps J Try.f35 post) = (True) := by kernel_rfl
theorem spec_track_model_steps (m0 m1 m2 m3 m4 m5 m6 m7 m8 m9 m10 m11 : Int) (b0 b1 b2 b3 b4 b5 : Int) : vc_track_model_steps m0 m1 m2 m3 m4 m5 m6 m7 m8 m9 m10 m11 b0 b1 b2 b3 b4 b5 (fun r => LeD r (.t (.fn 67 [.px 6 0 (boxC [.v (.int .i64 b0), .v (.int .i64 b1), .v (.int .i64 b2), .v (.int .i64 b3), .v (.int .i64 b4), .v (.int .i64 b5)]), .px 12 0 (boxC [.v (.int .i64 m0), .v (.int .i64 m1), .v (.int .i64 m2), .v (.int .i64 m3), .v (.int .i64 m4), .v (.int .i64 m5), .v (.int .i64 m6), .v (.int .i64 m7), .v (.int .i64 m8), .v (.int .i64 m9), .v (.int .i64 m10), .v (.int .i64 m11)])]))) := by
 exact LeD.refl _
def con_track_model_steps : Con := fun args => match args with
 | [.t (.a [.v (.int .i64 m0), .v (.int .i64 m1), .v (.int .i64 m2), .v (.int .i64 m3), .v (.int .i64 m4), .v (.int .i64 m5), .v (.int .i64 m6), .v (.int .i64 m7), .v (.int .i64 m8), .v (.int .i64 m9), .v (.int .i64 m10), .v (.int .i64 m11)]), .t (.a [.v (.int .i64 b0), .v (.int .i64 b1), .v (.int .i64 b2), .v (.int .i64 b3), .v (.int .i64 b4), .v (.int .i64 b5)])] => some (.t (.fn 67 [.px 6 0 (boxC [.v (.int .i64 b0), .v (.int .i64 b1), .v (.int .i64 b2), .v (.int .i64 b3), .v (.int .i64 b4), .v (.int .i64 b5)]), .px 12 0 (boxC [.v (.int .i64 m0), .v (.int .i64 m1), .v (.int .i64 m2), .v (.int .i64 m3), .v (.int .i64 m4), .v (.int .i64 m5), .v (.int .i64 m6), .v (.int .i64 m7), .v (.int .i64 m8), .v (.int .i64 m9), .v (.int .i64 m10), .v (.int .i64 m11)])]), none, false)
 | _ => none
theorem ok_track_model_steps : Ok Try.prog 35 con_track_model_steps := by
 refine Ok.fn (ann := ann_track_model_steps) mixed tabOK VSkx56 VIkv51 (fn := Try.f35) (by kernel_rfl) (by kernel_rfl) fit_track_model_steps fun args r pre fresh h hp => ?_
 unfold con_track_model_steps at h
 split at h
 ·rename_i m0 m1 m2 m3 m4 m5 m6 m7 m8 m9 m10 m11 b0 b1 b2 b3 b4 b5
  cases h
  refine ⟨rfl, fun _ _ _ => False, _, LeA.refl _, Nat.le_of_ble_eq_true (by kernel_rfl), ?_, ?_⟩
  ·rw [ev_track_model_steps]; exact spec_track_model_steps m0 m1 m2 m3 m4 m5 m6 m7 m8 m9 m10 m11 b0 b1 b2 b3 b4 b5
  ·rw [lp_track_model_steps]; trivial
 ·cases h
def Sky57 : Sum := addS Skx56 35 con_track_model_steps
theorem VSky57 : Valid Try.prog Sky57 := Valid.add VSkx56 ok_track_model_steps
def mk_track_StepsIn_0 (m0 m1 m2 m3 m4 m5 m6 m7 m8 m9 m10 m11 : Int) (b0 b1 b2 b3 b4 b5 : Int) (v0_0 : List (List CV)) : DS := ⟨[none, none, none, none, none, none, none, none, some (.t (.c (.p 8 0))), none, none, none, none, none, none, none, none, none, none, none, none, some (.t (.fn 67 [.px 6 0 (boxC [.v (.int .i64 b0), .v (.int .i64 b1), .v (.int .i64 b2), .v (.int .i64 b3), .v (.int .i64 b4), .v (.int .i64 b5)]), .px 12 0 (boxC [.v (.int .i64 m0), .v (.int .i64 m1), .v (.int .i64 m2), .v (.int .i64 m3), .v (.int .i64 m4), .v (.int .i64 m5), .v (.int .i64 m6), .v (.int .i64 m7), .v (.int .i64 m8), .v (.int .i64 m9), .v (.int .i64 m10), .v (.int .i64 m11)])])), none, none, none, none, none, none], [some (.gen 22 3 v0_0), none, none, none, none, none, none, none, some (.box 39 [.os 0]), none, none, none, none, none, none, none, none, none, none, none, none, none, none, none, none, none, none, none]⟩
def vc_track_StepsIn (J : Inv) (m0 m1 m2 m3 m4 m5 m6 m7 m8 m9 m10 m11 : Int) (b0 b1 b2 b3 b4 b5 : Int) (post : DV → Prop) : Prop := cond ((firstNZ [((⟨m0, m1, m2, m3, m4, m5, m6, m7, m8, m9, m10, m11⟩ : TMod)).err, ((⟨⟨b0, b1, b2⟩, ⟨b3, b4, b5⟩⟩ : TBox)).err]) != (0 : Int)) (post (.tu [.c (.v (.slice none 0 0)), .c (.v (.int .i64 (firstNZ [((⟨m0, m1, m2, m3, m4, m5, m6, m7, m8, m9, m10, m11⟩ : TMod)).err, ((⟨⟨b0, b1, b2⟩, ⟨b3, b4, b5⟩⟩ : TBox)).err])))])) ((numsB 6 (boxC [.v (.int .i64 b0), .v (.int .i64 b1), .v (.int .i64 b2), .v (.int .i64 b3), .v (.int .i64 b4), .v (.int .i64 b5)]) = true ∧ numsB 12 (boxC [.v (.int .i64 m0), .v (.int .i64 m1), .v (.int .i64 m2), .v (.int .i64 m3), .v (.int .i64 m4), .v (.int .i64 m5), .v (.int .i64 m6), .v (.int .i64 m7), .v (.int .i64 m8), .v (.int .i64 m9), .v (.int .i64 m10), .v (.int .i64 m11)]) = true ∧ ((⟨⟨b0, b1, b2⟩, ⟨b3, b4, b5⟩⟩ : TBox)).lo.inS 20 = true ∧ ((⟨⟨b0, b1, b2⟩, ⟨b3, b4, b5⟩⟩ : TBox)).hi.inS 20 = true ∧ ((⟨⟨b0, b1, b2⟩, ⟨b3, b4, b5⟩⟩ : TBox)).ok) ∧ (J 0 [0] (mk_track_StepsIn_0 m0 m1 m2 m3 m4 m5 m6 m7 m8 m9 m10 m11 b0 b1 b2 b3 b4 b5 ([]))))
def ann_track_StepsIn : Ann := ⟨fun _ => none, fun b => lookA b [(0, (none, some ⟨[8, 21], [8], []⟩))], fun b => (lookA b [(0, [(8, 0, 0, .gen 22 3 [])])]).getD [], Ikv51, false, fun _ => none, fun _ => none⟩
theorem ev_track_StepsIn (J : Inv) (m0 m1 m2 m3 m4 m5 m6 m7 m8 m9 m10 m11 : Int) (b0 b1 b2 b3 b4 b5 : Int) (post : DV → Prop) : evFn Try.prog tab Sky57 ann_track_StepsIn J Try.f18 [.t (.a [.v (.int .i64 m0), .v (.int .i64 m1), .v (.int .i64 m2), .v (.int .i64 m3), .v (.int .i64 m4), .v (.int .i64 m5), .v (.int .i64 m6), .v (.int .i64 m7), .v (.int .i64 m8), .v (.int .i64 m9), .v (.int .i64 m10), .v (.int .i64 m11)]), .t (.a [.v (.int .i64 b0), .v (.int .i64 b1), .v (.int .i64 b2), .v (.int .i64 b3), .v (.int .i64 b4), .v (.int .i64 b5)])] post = vc_track_StepsIn J m0 m1 m2 m3 m4 m5 m6 m7 m8 m9 m10 m11 b0 b1 b2 b3 b4 b5 post := by kernel_rfl
theorem fit_track_StepsIn : okFn ann_track_StepsIn Try.f18 = true := by kernel_rfl
def rd_track_StepsIn_0 (J : Inv) (m0 m1 m2 m3 m4 m5 m6 m7 m8 m9 m10 m11 : Int) (b0 b1 b2 b3 b4 b5 : Int) (v0_0 : List (List CV)) (nn0 : Nat) (post : DV → Prop) : Prop := (nn0 = (n_it_track_model_steps_1 b0 b1 b2 b3 b4 b5 m0 m1 m2 m3 m4 m5 m6 m7 m8 m9 m10 m11) → post (.tu [.c (.sl 3 v0_0.length (genC v0_0)), .c (.v (.int .i64 0))])) ∧ (nn0 < (n_it_track_model_steps_1 b0 b1 b2 b3 b4 b5 m0 m1 m2 m3 m4 m5 m6 m7 m8 m9 m10 m11) → (roomP 24 (v0_0.length + ([[.v (.int .i64 ((plAt (((⟨m0, m1, m2, m3, m4, m5, m6, m7, m8, m9, m10, m11⟩ : TMod)).steps (⟨⟨b0, b1, b2⟩, ⟨b3, b4, b5⟩⟩ : TBox)) nn0).x)), .v (.int .i64 ((plAt (((⟨m0, m1, m2, m3, m4, m5, m6, m7, m8, m9, m10, m11⟩ : TMod)).steps (⟨⟨b0, b1, b2⟩, ⟨b3, b4, b5⟩⟩ : TBox)) nn0).y)), .v (.int .i64 ((plAt (((⟨m0, m1, m2, m3, m4, m5, m6, m7, m8, m9, m10, m11⟩ : TMod)).steps (⟨⟨b0, b1, b2⟩, ⟨b3, b4, b5⟩⟩ : TBox)) nn0).z))]] : List (List CV)).length)) ∧ (((some (.t (.fn 67 [.px 6 0 (boxC [.v (.int .i64 b0), .v (.int .i64 b1), .v (.int .i64 b2), .v (.int .i64 b3), .v (.int .i64 b4), .v (.int .i64 b5)]), .px 12 0 (boxC [.v (.int .i64 m0), .v (.int .i64 m1), .v (.int .i64 m2), .v (.int .i64 m3), .v (.int .i64 m4), .v (.int .i64 m5), .v (.int .i64 m6), .v (.int .i64 m7), .v (.int .i64 m8), .v (.int .i64 m9), .v (.int .i64 m10), .v (.int .i64 m11)])])) : Option DV) = some (.t (.fn 67 [.px 6 0 (boxC [.v (.int .i64 b0), .v (.int .i64 b1), .v (.int .i64 b2), .v (.int .i64 b3), .v (.int .i64 b4), .v (.int .i64 b5)]), .px 12 0 (boxC [.v (.int .i64 m0), .v (.int .i64 m1), .v (.int .i64 m2), .v (.int .i64 m3), .v (.int .i64 m4), .v (.int .i64 m5), .v (.int .i64 m6), .v (.int .i64 m7), .v (.int .i64 m8), .v (.int .i64 m9), .v (.int .i64 m10), .v (.int .i64 m11)])]))) ∧ J 0 [nn0 + 1] (mk_track_StepsIn_0 m0 m1 m2 m3 m4 m5 m6 m7 m8 m9 m10 m11 b0 b1 b2 b3 b4 b5 (v0_0 ++ ([[.v (.int .i64 ((plAt (((⟨m0, m1, m2, m3, m4, m5, m6, m7, m8, m9, m10, m11⟩ : TMod)).steps (⟨⟨b0, b1, b2⟩, ⟨b3, b4, b5⟩⟩ : TBox)) nn0).x)), .v (.int .i64 ((plAt (((⟨m0, m1, m2, m3, m4, m5, m6, m7, m8, m9, m10, m11⟩ : TMod)).steps (⟨⟨b0, b1, b2⟩, ⟨b3, b4, b5⟩⟩ : TBox)) nn0).y)), .v (.int .i64 ((plAt (((⟨m0, m1, m2, m3, m4, m5, m6, m7, m8, m9, m10, m11⟩ : TMod)).steps (⟨⟨b0, b1, b2⟩, ⟨b3, b4, b5⟩⟩ : TBox)) nn0).z))]] : List (List CV))))))
theorem er_track_StepsIn_0 (J : Inv) (m0 m1 m2 m3 m4 m5 m6 m7 m8 m9 m10 m11 : Int) (b0 b1 b2 b3 b4 b5 : Int) (v0_0 : List (List CV)) (nn0 : Nat) (post : DV → Prop) : round Try.prog tab Sky57 ann_track_StepsIn J Try.f18 post 0 (nn0 :: []) (mk_track_StepsIn_0 m0 m1 m2 m3 m4 m5 m6 m7 m8 m9 m10 m11 b0 b1 b2 b3 b4 b5 v0_0) = rd_track_StepsIn_0 J m0 m1 m2 m3 m4 m5 m6 m7 m8 m9 m10 m11 b0 b1 b2 b3 b4 b5 v0_0 nn0 post := by kernel_rfl
theorem lp_track_StepsIn (J : Inv) (post : DV → Prop) : AllG J (loopsFn Try.prog tab Sky57 ann_track_StepsIn J Try.f18 post) = ((∀ i s, J 0 [i] s → round Try.prog tab Sky57 ann_track_StepsIn J Try.f18 post 0 [i] s) ∧ True) := by kernel_rfl
def J_track_StepsIn (m0 m1 m2 m3 m4 m5 m6 m7 m8 m9 m10 m11 : Int) (b0 b1 b2 b3 b4 b5 : Int) : Inv := fun b F s => match b, F with
 | 0, [nn0] => ∃ (v0_0 : List (List CV)), s = mk_track_StepsIn_0 m0 m1 m2 m3 m4 m5 m6 m7 m8 m9 m10 m11 b0 b1 b2 b3 b4 b5 v0_0 ∧ (firstNZ [(⟨m0, m1, m2, m3, m4, m5, m6, m7, m8, m9, m10, m11⟩ : TMod).err, (⟨⟨b0, b1, b2⟩, ⟨b3, b4, b5⟩⟩ : TBox).err] = 0 ∧ nn0 ≤ ((⟨m0, m1, m2, m3, m4, m5, m6, m7, m8, m9, m10, m11⟩ : TMod).steps (⟨⟨b0, b1, b2⟩, ⟨b3, b4, b5⟩⟩ : TBox)).length ∧ v0_0 = (((⟨m0, m1, m2, m3, m4, m5, m6, m7, m8, m9, m10, m11⟩ : TMod).steps (⟨⟨b0, b1, b2⟩, ⟨b3, b4, b5⟩⟩ : TBox)).take nn0).map v3Cv)
 | _, _ => False
set_option maxHeartbeats 8000000 in
set_option maxRecDepth 100000 in
theorem rnd_track_StepsIn_0 (m0 m1 m2 m3 m4 m5 m6 m7 m8 m9 m10 m11 : Int) (b0 b1 b2 b3 b4 b5 : Int) (v0_0 : List (List CV)) (nn0 : Nat) (hi : firstNZ [(⟨m0, m1, m2, m3, m4, m5, m6, m7, m8, m9, m10, m11⟩ : TMod).err, (⟨⟨b0, b1, b2⟩, ⟨b3, b4, b5⟩⟩ : TBox).err] = 0 ∧ nn0 ≤ ((⟨m0, m1, m2, m3, m4, m5, m6, m7, m8, m9, m10, m11⟩ : TMod).steps (⟨⟨b0, b1, b2⟩, ⟨b3, b4, b5⟩⟩ : TBox)).length ∧ v0_0 = (((⟨m0, m1, m2, m3, m4, m5, m6, m7, m8, m9, m10, m11⟩ : TMod).steps (⟨⟨b0, b1, b2⟩, ⟨b3, b4, b5⟩⟩ : TBox)).take nn0).map v3Cv) : rd_track_StepsIn_0 (J_track_StepsIn m0 m1 m2 m3 m4 m5 m6 m7 m8 m9 m10 m11 b0 b1 b2 b3 b4 b5) m0 m1 m2 m3 m4 m5 m6 m7 m8 m9 m10 m11 b0 b1 b2 b3 b4 b5 v0_0 nn0 (fun r => LeD r (.tu [.c (.sl 3 ((stepsL (⟨m0, m1, m2, m3, m4, m5, m6, m7, m8, m9, m10, m11⟩ : TMod) (⟨⟨b0, b1, b2⟩, ⟨b3, b4, b5⟩⟩ : TBox)).length) (plsC (stepsL (⟨m0, m1, m2, m3, m4, m5, m6, m7, m8, m9, m10, m11⟩ : TMod) (⟨⟨b0, b1, b2⟩, ⟨b3, b4, b5⟩⟩ : TBox)))), .c (.v (.int .i64 (firstNZ [((⟨m0, m1, m2, m3, m4, m5, m6, m7, m8, m9, m10, m11⟩ : TMod)).err, ((⟨⟨b0, b1, b2⟩, ⟨b3, b4, b5⟩⟩ : TBox)).err])))])) := by
 obtain ⟨i1, i2, i3⟩ := hi
 have hb := box_in (fn2 i1).2
 have hm := len_68921 (b := (⟨⟨b0, b1, b2⟩, ⟨b3, b4, b5⟩⟩ : TBox)) hb.1 hb.2 (box_ok (fn2 i1).2)
 have hle := List.length_filter_le (⟨m0, m1, m2, m3, m4, m5, m6, m7, m8, m9, m10, m11⟩ : TMod).permB (⟨⟨b0, b1, b2⟩, ⟨b3, b4, b5⟩⟩ : TBox).all
 have hl2 : ((⟨m0, m1, m2, m3, m4, m5, m6, m7, m8, m9, m10, m11⟩ : TMod).steps (⟨⟨b0, b1, b2⟩, ⟨b3, b4, b5⟩⟩ : TBox)).length ≤ 68921 := Nat.le_trans hle hm
 unfold rd_track_StepsIn_0
 refine ⟨fun h => ?_, fun h => ?_⟩
 ·have h : nn0 = ((⟨m0, m1, m2, m3, m4, m5, m6, m7, m8, m9, m10, m11⟩ : TMod).steps (⟨⟨b0, b1, b2⟩, ⟨b3, b4, b5⟩⟩ : TBox)).length := h
  rw [show stepsL (⟨m0, m1, m2, m3, m4, m5, m6, m7, m8, m9, m10, m11⟩ : TMod) (⟨⟨b0, b1, b2⟩, ⟨b3, b4, b5⟩⟩ : TBox) = (⟨m0, m1, m2, m3, m4, m5, m6, m7, m8, m9, m10, m11⟩ : TMod).steps (⟨⟨b0, b1, b2⟩, ⟨b3, b4, b5⟩⟩ : TBox) from if_neg (by rw [i1]; simp), i1, i3, h, List.take_length]
  exact le_tu (le_v3 _) (LeD.refl _)
 ·have h : nn0 < ((⟨m0, m1, m2, m3, m4, m5, m6, m7, m8, m9, m10, m11⟩ : TMod).steps (⟨⟨b0, b1, b2⟩, ⟨b3, b4, b5⟩⟩ : TBox)).length := h
  refine ⟨?_, rfl, _, rfl, i1, h, ?_⟩
  ·rw [i3]; unfold roomP maxLen; simp; omega
  ·rw [i3, plAt_take h, List.map_append]; rfl
set_option maxHeartbeats 8000000 in
set_option maxRecDepth 100000 in
theorem spec_track_StepsIn (m0 m1 m2 m3 m4 m5 m6 m7 m8 m9 m10 m11 : Int) (b0 b1 b2 b3 b4 b5 : Int) : vc_track_StepsIn (J_track_StepsIn m0 m1 m2 m3 m4 m5 m6 m7 m8 m9 m10 m11 b0 b1 b2 b3 b4 b5) m0 m1 m2 m3 m4 m5 m6 m7 m8 m9 m10 m11 b0 b1 b2 b3 b4 b5 (fun r => LeD r (.tu [.c (.sl 3 ((stepsL (⟨m0, m1, m2, m3, m4, m5, m6, m7, m8, m9, m10, m11⟩ : TMod) (⟨⟨b0, b1, b2⟩, ⟨b3, b4, b5⟩⟩ : TBox)).length) (plsC (stepsL (⟨m0, m1, m2, m3, m4, m5, m6, m7, m8, m9, m10, m11⟩ : TMod) (⟨⟨b0, b1, b2⟩, ⟨b3, b4, b5⟩⟩ : TBox)))), .c (.v (.int .i64 (firstNZ [((⟨m0, m1, m2, m3, m4, m5, m6, m7, m8, m9, m10, m11⟩ : TMod)).err, ((⟨⟨b0, b1, b2⟩, ⟨b3, b4, b5⟩⟩ : TBox)).err])))])) := by
 unfold vc_track_StepsIn
 refine cond_i (fun h => ?_) (fun h => ?_)
 ·have h : firstNZ [(⟨m0, m1, m2, m3, m4, m5, m6, m7, m8, m9, m10, m11⟩ : TMod).err, (⟨⟨b0, b1, b2⟩, ⟨b3, b4, b5⟩⟩ : TBox).err] ≠ 0 := by simpa using h
  rw [show stepsL (⟨m0, m1, m2, m3, m4, m5, m6, m7, m8, m9, m10, m11⟩ : TMod) (⟨⟨b0, b1, b2⟩, ⟨b3, b4, b5⟩⟩ : TBox) = [] from if_pos h]
  exact le_tu le_nil (LeD.refl _)
 ·have h : firstNZ [(⟨m0, m1, m2, m3, m4, m5, m6, m7, m8, m9, m10, m11⟩ : TMod).err, (⟨⟨b0, b1, b2⟩, ⟨b3, b4, b5⟩⟩ : TBox).err] = 0 := by simpa using h
  have hb := box_in (fn2 h).2
  exact ⟨⟨rfl, rfl, hb.1, hb.2, box_ok (fn2 h).2⟩, _, rfl, h, Nat.zero_le _, rfl⟩
theorem all_track_StepsIn (m0 m1 m2 m3 m4 m5 m6 m7 m8 m9 m10 m11 : Int) (b0 b1 b2 b3 b4 b5 : Int) : AllG (J_track_StepsIn m0 m1 m2 m3 m4 m5 m6 m7 m8 m9 m10 m11 b0 b1 b2 b3 b4 b5) (loopsFn Try.prog tab Sky57 ann_track_StepsIn (J_track_StepsIn m0 m1 m2 m3 m4 m5 m6 m7 m8 m9 m10 m11 b0 b1 b2 b3 b4 b5) Try.f18 (fun r => LeD r (.tu [.c (.sl 3 ((stepsL (⟨m0, m1, m2, m3, m4, m5, m6, m7, m8, m9, m10, m11⟩ : TMod) (⟨⟨b0, b1, b2⟩, ⟨b3, b4, b5⟩⟩ : TBox)).length) (plsC (stepsL (⟨m0, m1, m2, m3, m4, m5, m6, m7, m8, m9, m10, m11⟩ : TMod) (⟨⟨b0, b1, b2⟩, ⟨b3, b4, b5⟩⟩ : TBox)))), .c (.v (.int .i64 (firstNZ [((⟨m0, m1, m2, m3, m4, m5, m6, m7, m8, m9, m10, m11⟩ : TMod)).err, ((⟨⟨b0, b1, b2⟩, ⟨b3, b4, b5⟩⟩ : TBox)).err])))]))) := by
 rw [lp_track_StepsIn]
 refine ⟨?_, trivial⟩
 ·intro i s h
  obtain ⟨w0, rfl, hi⟩ := h
  rw [er_track_StepsIn_0]
  exact rnd_track_StepsIn_0 m0 m1 m2 m3 m4 m5 m6 m7 m8 m9 m10 m11 b0 b1 b2 b3 b4 b5 _ _ hi
def con_track_StepsIn : Con := fun args => match args with
 | [.t (.a [.v (.int .i64 m0), .v (.int .i64 m1), .v (.int .i64 m2), .v (.int .i64 m3), .v (.int .i64 m4), .v (.int .i64 m5), .v (.int .i64 m6), .v (.int .i64 m7), .v (.int .i64 m8), .v (.int .i64 m9), .v (.int .i64 m10), .v (.int .i64 m11)]), .t (.a [.v (.int .i64 b0), .v (.int .i64 b1), .v (.int .i64 b2), .v (.int .i64 b3), .v (.int .i64 b4), .v (.int .i64 b5)])] => some (.tu [.c (.sl 3 ((stepsL (⟨m0, m1, m2, m3, m4, m5, m6, m7, m8, m9, m10, m11⟩ : TMod) (⟨⟨b0, b1, b2⟩, ⟨b3, b4, b5⟩⟩ : TBox)).length) (plsC (stepsL (⟨m0, m1, m2, m3, m4, m5, m6, m7, m8, m9, m10, m11⟩ : TMod) (⟨⟨b0, b1, b2⟩, ⟨b3, b4, b5⟩⟩ : TBox)))), .c (.v (.int .i64 (firstNZ [((⟨m0, m1, m2, m3, m4, m5, m6, m7, m8, m9, m10, m11⟩ : TMod)).err, ((⟨⟨b0, b1, b2⟩, ⟨b3, b4, b5⟩⟩ : TBox)).err])))], none, false)
 | _ => none
theorem ok_track_StepsIn : Ok Try.prog 18 con_track_StepsIn := by
 refine Ok.fn (ann := ann_track_StepsIn) mixed tabOK VSky57 VIkv51 (fn := Try.f18) (by kernel_rfl) (by kernel_rfl) fit_track_StepsIn fun args r pre fresh h hp => ?_
 unfold con_track_StepsIn at h
 split at h
 ·rename_i m0 m1 m2 m3 m4 m5 m6 m7 m8 m9 m10 m11 b0 b1 b2 b3 b4 b5
  cases h
  refine ⟨rfl, J_track_StepsIn m0 m1 m2 m3 m4 m5 m6 m7 m8 m9 m10 m11 b0 b1 b2 b3 b4 b5, _, LeA.refl _, Nat.le_of_ble_eq_true (by kernel_rfl), ?_, ?_⟩
  ·rw [ev_track_StepsIn]; exact spec_track_StepsIn m0 m1 m2 m3 m4 m5 m6 m7 m8 m9 m10 m11 b0 b1 b2 b3 b4 b5
  ·exact all_track_StepsIn m0 m1 m2 m3 m4 m5 m6 m7 m8 m9 m10 m11 b0 b1 b2 b3 b4 b5
 ·cases h
def Sky58 : Sum := addS Sky57 18 con_track_StepsIn
theorem VSky58 : Valid Try.prog Sky58 := Valid.add VSky57 ok_track_StepsIn
def vc_track_BestIn (m0 m1 m2 m3 m4 m5 m6 m7 m8 m9 m10 m11 : Int) (b0 b1 b2 b3 b4 b5 : Int) (l : List THit) (post : DV → Prop) : Prop := (numsP 5 l.length (hitsC l)) ∧ (cond ((firstNZ [firstNZ [((⟨m0, m1, m2, m3, m4, m5, m6, m7, m8, m9, m10, m11⟩ : TMod)).err, ((⟨⟨b0, b1, b2⟩, ⟨b3, b4, b5⟩⟩ : TBox)).err], hitsE (listC l.length mkHit (hitsC l))]) != (0 : Int)) (post (.tu [.a [.v (.int .i64 0), .v (.int .i64 0), .v (.int .i64 0)], .c (.v (.int .i64 0)), .c (.v (.int .i64 (firstNZ [firstNZ [((⟨m0, m1, m2, m3, m4, m5, m6, m7, m8, m9, m10, m11⟩ : TMod)).err, ((⟨⟨b0, b1, b2⟩, ⟨b3, b4, b5⟩⟩ : TBox)).err], hitsE (listC l.length mkHit (hitsC l))])))])) (lt ((bstR (⟨m0, m1, m2, m3, m4, m5, m6, m7, m8, m9, m10, m11⟩ : TMod) (listC l.length mkHit (hitsC l)) (⟨⟨b0, b1, b2⟩, ⟨b3, b4, b5⟩⟩ : TBox) ⟨(0 : Int), (0 : Int), (0 : Int)⟩ (0 : Int)).1.x) fun x1 => lt ((bstR (⟨m0, m1, m2, m3, m4, m5, m6, m7, m8, m9, m10, m11⟩ : TMod) (listC l.length mkHit (hitsC l)) (⟨⟨b0, b1, b2⟩, ⟨b3, b4, b5⟩⟩ : TBox) ⟨(0 : Int), (0 : Int), (0 : Int)⟩ (0 : Int)).1.y) fun x2 => lt ((bstR (⟨m0, m1, m2, m3, m4, m5, m6, m7, m8, m9, m10, m11⟩ : TMod) (listC l.length mkHit (hitsC l)) (⟨⟨b0, b1, b2⟩, ⟨b3, b4, b5⟩⟩ : TBox) ⟨(0 : Int), (0 : Int), (0 : Int)⟩ (0 : Int)).1.z) fun x3 => lt ((bstR (⟨m0, m1, m2, m3, m4, m5, m6, m7, m8, m9, m10, m11⟩ : TMod) (listC l.length mkHit (hitsC l)) (⟨⟨b0, b1, b2⟩, ⟨b3, b4, b5⟩⟩ : TBox) ⟨(0 : Int), (0 : Int), (0 : Int)⟩ (0 : Int)).2) fun x4 => (numsP 5 l.length (hitsC l) ∧ intsB [0, 1, 2, 3] (boxC [.v (.int .i64 0), .v (.int .i64 0), .v (.int .i64 0), .v (.int .i64 0)]) = true ∧ ((⟨m0, m1, m2, m3, m4, m5, m6, m7, m8, m9, m10, m11⟩ : TMod)).err = 0 ∧ ((⟨⟨b0, b1, b2⟩, ⟨b3, b4, b5⟩⟩ : TBox)).err = 0 ∧ hitsE (listC l.length mkHit (hitsC l)) = 0) ∧ (cond (bif (x1 == (0 : Int)) then (bif (x2 == (0 : Int)) then (bif (x3 == (0 : Int)) then true else false) else false) else false) (post (.tu [.a [.v (.int .i64 0), .v (.int .i64 0), .v (.int .i64 0)], .c (.v (.int .i64 0)), .c (.v (.int .i64 12))])) (post (.tu [.a [.v (.int .i64 x1), .v (.int .i64 x2), .v (.int .i64 x3)], .c (.v (.int .i64 x4)), .c (.v (.int .i64 0))])))))
def ann_track_BestIn : Ann := ⟨fun r => lookA r [(8, ([[], [0], [], [2], [0, 1], [0, 1, 2, 3, 4], [0, 1, 2, 3, 4, 5]], [[], [], [], [6], [9999, 6], [], []]))], fun _ => none, fun _ => [], Ikv51, false, fun _ => none, fun _ => none⟩
theorem ev_track_BestIn (J : Inv) (m0 m1 m2 m3 m4 m5 m6 m7 m8 m9 m10 m11 : Int) (b0 b1 b2 b3 b4 b5 : Int) (l : List THit) (post : DV → Prop) : evFn Try.prog tab Sky58 ann_track_BestIn J Try.f8 [.t (.a [.v (.int .i64 m0), .v (.int .i64 m1), .v (.int .i64 m2), .v (.int .i64 m3), .v (.int .i64 m4), .v (.int .i64 m5), .v (.int .i64 m6), .v (.int .i64 m7), .v (.int .i64 m8), .v (.int .i64 m9), .v (.int .i64 m10), .v (.int .i64 m11)]), .t (.a [.v (.int .i64 b0), .v (.int .i64 b1), .v (.int .i64 b2), .v (.int .i64 b3), .v (.int .i64 b4), .v (.int .i64 b5)]), .t (.c (.sl 5 l.length (hitsC l)))] post = vc_track_BestIn m0 m1 m2 m3 m4 m5 m6 m7 m8 m9 m10 m11 b0 b1 b2 b3 b4 b5 l post := by kernel_rfl
theorem fit_track_BestIn : okFn ann_track_BestIn Try.f8 = true := by kernel_rfl
theorem lp_track_BestIn (J : Inv) (post : DV → Prop) : AllG J (loopsFn Try.prog tab Sky58 ann_track_BestIn J Try.f8 post) = (True) := by kernel_rfl
theorem spec_track_BestIn (m0 m1 m2 m3 m4 m5 m6 m7 m8 m9 m10 m11 : Int) (b0 b1 b2 b3 b4 b5 : Int) (l : List THit) : vc_track_BestIn m0 m1 m2 m3 m4 m5 m6 m7 m8 m9 m10 m11 b0 b1 b2 b3 b4 b5 l (fun r => LeD r (.tu [.a [.v (.int .i64 ((biV (⟨m0, m1, m2, m3, m4, m5, m6, m7, m8, m9, m10, m11⟩ : TMod) (⟨⟨b0, b1, b2⟩, ⟨b3, b4, b5⟩⟩ : TBox) l).x)), .v (.int .i64 ((biV (⟨m0, m1, m2, m3, m4, m5, m6, m7, m8, m9, m10, m11⟩ : TMod) (⟨⟨b0, b1, b2⟩, ⟨b3, b4, b5⟩⟩ : TBox) l).y)), .v (.int .i64 ((biV (⟨m0, m1, m2, m3, m4, m5, m6, m7, m8, m9, m10, m11⟩ : TMod) (⟨⟨b0, b1, b2⟩, ⟨b3, b4, b5⟩⟩ : TBox) l).z))], .c (.v (.int .i64 (biS (⟨m0, m1, m2, m3, m4, m5, m6, m7, m8, m9, m10, m11⟩ : TMod) (⟨⟨b0, b1, b2⟩, ⟨b3, b4, b5⟩⟩ : TBox) l))), .c (.v (.int .i64 (biE (⟨m0, m1, m2, m3, m4, m5, m6, m7, m8, m9, m10, m11⟩ : TMod) (⟨⟨b0, b1, b2⟩, ⟨b3, b4, b5⟩⟩ : TBox) l)))])) := by
 unfold vc_track_BestIn
 simp only [hits_listC, zB]
 refine ⟨numsP_hits l, cond_i (fun h => ?_) (fun h => ?_)⟩
 ·have h : firstNZ [firstNZ [(⟨m0, m1, m2, m3, m4, m5, m6, m7, m8, m9, m10, m11⟩ : TMod).err, (⟨⟨b0, b1, b2⟩, ⟨b3, b4, b5⟩⟩ : TBox).err], hitsE l] ≠ 0 := by simpa using h
  have e : biE (⟨m0, m1, m2, m3, m4, m5, m6, m7, m8, m9, m10, m11⟩ : TMod) (⟨⟨b0, b1, b2⟩, ⟨b3, b4, b5⟩⟩ : TBox) l = firstNZ [firstNZ [(⟨m0, m1, m2, m3, m4, m5, m6, m7, m8, m9, m10, m11⟩ : TMod).err, (⟨⟨b0, b1, b2⟩, ⟨b3, b4, b5⟩⟩ : TBox).err], hitsE l] := if_pos h
  rw [show biV (⟨m0, m1, m2, m3, m4, m5, m6, m7, m8, m9, m10, m11⟩ : TMod) (⟨⟨b0, b1, b2⟩, ⟨b3, b4, b5⟩⟩ : TBox) l = ⟨0, 0, 0⟩ from if_neg (by rw [e]; exact h), show biS (⟨m0, m1, m2, m3, m4, m5, m6, m7, m8, m9, m10, m11⟩ : TMod) (⟨⟨b0, b1, b2⟩, ⟨b3, b4, b5⟩⟩ : TBox) l = 0 from if_neg (by rw [e]; exact h), e]
  exact LeD.refl _
 ·have h : firstNZ [firstNZ [(⟨m0, m1, m2, m3, m4, m5, m6, m7, m8, m9, m10, m11⟩ : TMod).err, (⟨⟨b0, b1, b2⟩, ⟨b3, b4, b5⟩⟩ : TBox).err], hitsE l] = 0 := by simpa using h
  obtain ⟨q1, q2⟩ := fn2 h
  obtain ⟨q3, q4⟩ := fn2 q1
  refine lt_i fun x1 h1 => lt_i fun x2 h2 => lt_i fun x3 h3 => lt_i fun x4 h4 => ⟨⟨numsP_hits l, rfl, q3, q4, q2⟩, ?_⟩
  have hz : z3 (⟨x1, x2, x3⟩ : V3) ↔ z3 (bstR (⟨m0, m1, m2, m3, m4, m5, m6, m7, m8, m9, m10, m11⟩ : TMod) l (⟨⟨b0, b1, b2⟩, ⟨b3, b4, b5⟩⟩ : TBox) ⟨0, 0, 0⟩ 0).1 := by unfold z3; rw [← h1, ← h2, ← h3]
  rcases bst_best (l := l) q3 q4 q2 with ⟨e1, e2⟩ | ⟨e1, e2, e3, e4⟩
  ·have e : biE (⟨m0, m1, m2, m3, m4, m5, m6, m7, m8, m9, m10, m11⟩ : TMod) (⟨⟨b0, b1, b2⟩, ⟨b3, b4, b5⟩⟩ : TBox) l = 12 := (if_neg (by rw [h]; simp)).trans (if_pos e1)
   rw [decide_eq_true (hz.2 e2), show biV (⟨m0, m1, m2, m3, m4, m5, m6, m7, m8, m9, m10, m11⟩ : TMod) (⟨⟨b0, b1, b2⟩, ⟨b3, b4, b5⟩⟩ : TBox) l = ⟨0, 0, 0⟩ from if_neg (by rw [e]; decide), show biS (⟨m0, m1, m2, m3, m4, m5, m6, m7, m8, m9, m10, m11⟩ : TMod) (⟨⟨b0, b1, b2⟩, ⟨b3, b4, b5⟩⟩ : TBox) l = 0 from if_neg (by rw [e]; decide), e]
   exact LeD.refl _
  ·have e : biE (⟨m0, m1, m2, m3, m4, m5, m6, m7, m8, m9, m10, m11⟩ : TMod) (⟨⟨b0, b1, b2⟩, ⟨b3, b4, b5⟩⟩ : TBox) l = 0 := (if_neg (by rw [h]; simp)).trans (if_neg e1)
   rw [decide_eq_false (fun q => e2 (hz.1 q)), show biV (⟨m0, m1, m2, m3, m4, m5, m6, m7, m8, m9, m10, m11⟩ : TMod) (⟨⟨b0, b1, b2⟩, ⟨b3, b4, b5⟩⟩ : TBox) l = bestV (⟨m0, m1, m2, m3, m4, m5, m6, m7, m8, m9, m10, m11⟩ : TMod) (⟨⟨b0, b1, b2⟩, ⟨b3, b4, b5⟩⟩ : TBox) l from if_pos e, show biS (⟨m0, m1, m2, m3, m4, m5, m6, m7, m8, m9, m10, m11⟩ : TMod) (⟨⟨b0, b1, b2⟩, ⟨b3, b4, b5⟩⟩ : TBox) l = bestS (⟨m0, m1, m2, m3, m4, m5, m6, m7, m8, m9, m10, m11⟩ : TMod) (⟨⟨b0, b1, b2⟩, ⟨b3, b4, b5⟩⟩ : TBox) l from if_pos e, e, ← h1, ← h2, ← h3, ← h4, e3, e4]
   exact LeD.refl _
def con_track_BestIn : Con := fun args => match args with
 | [.t (.a [.v (.int .i64 m0), .v (.int .i64 m1), .v (.int .i64 m2), .v (.int .i64 m3), .v (.int .i64 m4), .v (.int .i64 m5), .v (.int .i64 m6), .v (.int .i64 m7), .v (.int .i64 m8), .v (.int .i64 m9), .v (.int .i64 m10), .v (.int .i64 m11)]), .t (.a [.v (.int .i64 b0), .v (.int .i64 b1), .v (.int .i64 b2), .v (.int .i64 b3), .v (.int .i64 b4), .v (.int .i64 b5)]), .t (.c (.sl 5 n_l c_l))] => some (.tu [.a [.v (.int .i64 ((biV (⟨m0, m1, m2, m3, m4, m5, m6, m7, m8, m9, m10, m11⟩ : TMod) (⟨⟨b0, b1, b2⟩, ⟨b3, b4, b5⟩⟩ : TBox) (listC n_l mkHit c_l)).x)), .v (.int .i64 ((biV (⟨m0, m1, m2, m3, m4, m5, m6, m7, m8, m9, m10, m11⟩ : TMod) (⟨⟨b0, b1, b2⟩, ⟨b3, b4, b5⟩⟩ : TBox) (listC n_l mkHit c_l)).y)), .v (.int .i64 ((biV (⟨m0, m1, m2, m3, m4, m5, m6, m7, m8, m9, m10, m11⟩ : TMod) (⟨⟨b0, b1, b2⟩, ⟨b3, b4, b5⟩⟩ : TBox) (listC n_l mkHit c_l)).z))], .c (.v (.int .i64 (biS (⟨m0, m1, m2, m3, m4, m5, m6, m7, m8, m9, m10, m11⟩ : TMod) (⟨⟨b0, b1, b2⟩, ⟨b3, b4, b5⟩⟩ : TBox) (listC n_l mkHit c_l)))), .c (.v (.int .i64 (biE (⟨m0, m1, m2, m3, m4, m5, m6, m7, m8, m9, m10, m11⟩ : TMod) (⟨⟨b0, b1, b2⟩, ⟨b3, b4, b5⟩⟩ : TBox) (listC n_l mkHit c_l))))], some (numsP 5 n_l c_l), false)
 | _ => none
theorem ok_track_BestIn : Ok Try.prog 8 con_track_BestIn := by
 refine Ok.fn (ann := ann_track_BestIn) mixed tabOK VSky58 VIkv51 (fn := Try.f8) (by kernel_rfl) (by kernel_rfl) fit_track_BestIn fun args r pre fresh h hp => ?_
 unfold con_track_BestIn at h
 split at h
 ·rename_i m0 m1 m2 m3 m4 m5 m6 m7 m8 m9 m10 m11 b0 b1 b2 b3 b4 b5 n_l c_l
  cases h
  have hp0 := hp
  refine ⟨rfl, fun _ _ _ => False, [.t (.a [.v (.int .i64 m0), .v (.int .i64 m1), .v (.int .i64 m2), .v (.int .i64 m3), .v (.int .i64 m4), .v (.int .i64 m5), .v (.int .i64 m6), .v (.int .i64 m7), .v (.int .i64 m8), .v (.int .i64 m9), .v (.int .i64 m10), .v (.int .i64 m11)]), .t (.a [.v (.int .i64 b0), .v (.int .i64 b1), .v (.int .i64 b2), .v (.int .i64 b3), .v (.int .i64 b4), .v (.int .i64 b5)]), .t (.c (.sl 5 ((listC n_l mkHit c_l).length) (hitsC (listC n_l mkHit c_l))))], ?_, Nat.le_of_ble_eq_true (by kernel_rfl), ?_, ?_⟩
  ·exact (LeA_cons (LeD.refl _) (LeA_cons (LeD.refl _) (LeA_cons (leT_c ((leL_THit hp0))) LeA_nil)))
  ·rw [ev_track_BestIn]; exact spec_track_BestIn m0 m1 m2 m3 m4 m5 m6 m7 m8 m9 m10 m11 b0 b1 b2 b3 b4 b5 (listC n_l mkHit c_l)
  ·rw [lp_track_BestIn]; trivial
 ·cases h
def Sky59 : Sum := addS Sky58 8 con_track_BestIn
theorem VSky59 : Valid Try.prog Sky59 := Valid.add VSky58 ok_track_BestIn
end Go.Proofs.Ytfadkjcfjkmalaa
set_option linter.unusedVariables false
set_option linter.unusedSimpArgs false
namespace Go.Proofs.Ytfadkjcfjkmalaa
open Go.RowKit Ev
def mk_track_ConeOf_0 (m0 m1 m2 m3 m4 m5 m6 m7 m8 m9 m10 m11 : Int) (b0 b1 b2 b3 b4 b5 : Int) (l : List THit) (K : Int) (v0_0 : List (List CV)) : DS := ⟨[none, none, none, none, some (.t (.c (.p 4 0))), some (.t (.c (.p 5 0))), none, none, some (.t (.c (.p 8 0))), none, none, some (.t (.c (.p 11 0))), some (.t (.c (.p 12 0))), none, none, none, none, none, none, none, none, none, none, none, none, none, none, none, none, none, none, none, none, none, none, none, none, none, none, none, none, none, none, none, none, none, none, none, some (.t (.fn 67 [.px 6 0 (boxC [.v (.int .i64 b0), .v (.int .i64 b1), .v (.int .i64 b2), .v (.int .i64 b3), .v (.int .i64 b4), .v (.int .i64 b5)]), .px 12 0 (boxC [.v (.int .i64 m0), .v (.int .i64 m1), .v (.int .i64 m2), .v (.int .i64 m3), .v (.int .i64 m4), .v (.int .i64 m5), .v (.int .i64 m6), .v (.int .i64 m7), .v (.int .i64 m8), .v (.int .i64 m9), .v (.int .i64 m10), .v (.int .i64 m11)])])), none, none, none, none, none, none, none, none, none, none, none, none, none, none, none], [some (.gen 22 3 v0_0), none, none, none, some (.box 31 [.v (.int .i64 b0), .v (.int .i64 b1), .v (.int .i64 b2), .v (.int .i64 b3), .v (.int .i64 b4), .v (.int .i64 b5), .sl 5 l.length (hitsC l)]), some (.box 3 [.v (.int .i64 K)]), none, none, some (.box 72 [.v (.int .i64 m0), .v (.int .i64 m1), .v (.int .i64 m2), .v (.int .i64 m3), .v (.int .i64 m4), .v (.int .i64 m5), .v (.int .i64 m6), .v (.int .i64 m7), .v (.int .i64 m8), .v (.int .i64 m9), .v (.int .i64 m10), .v (.int .i64 m11)]), none, none, some (.box 3 [.v (.int .i64 (biS (⟨m0, m1, m2, m3, m4, m5, m6, m7, m8, m9, m10, m11⟩ : TMod) (⟨⟨b0, b1, b2⟩, ⟨b3, b4, b5⟩⟩ : TBox) (listC l.length mkHit (hitsC l))))]), some (.box 39 [.os 0]), none, none, none, none, none, none, none, none, none, none, none, none, none, none, none, none, none, none, none, none, none, none, none, none, none, none, none, none, none, none, none, none, none, none, none, none, none, none, none, none, none, none, none, none, none, none, none, none, none, none, none]⟩
def vc_track_ConeOf (J : Inv) (m0 m1 m2 m3 m4 m5 m6 m7 m8 m9 m10 m11 : Int) (b0 b1 b2 b3 b4 b5 : Int) (l : List THit) (K : Int) (post : DV → Prop) : Prop := (numsP 5 l.length (hitsC l)) ∧ ((numsP 1 2 (genC [[.v (.int .i64 (firstNZ [firstNZ [((⟨m0, m1, m2, m3, m4, m5, m6, m7, m8, m9, m10, m11⟩ : TMod)).err, ((⟨⟨b0, b1, b2⟩, ⟨b3, b4, b5⟩⟩ : TBox)).err], hitsE (listC l.length mkHit (hitsC l))]))], [.v (.int .i64 (unl (inB K (0 : Int) (120000 : Int)) (2 : Int)))]]) ∧ (([(firstNZ [firstNZ [((⟨m0, m1, m2, m3, m4, m5, m6, m7, m8, m9, m10, m11⟩ : TMod)).err, ((⟨⟨b0, b1, b2⟩, ⟨b3, b4, b5⟩⟩ : TBox)).err], hitsE (listC l.length mkHit (hitsC l))]), (unl (inB K (0 : Int) (120000 : Int)) (2 : Int))] : List Int)).length ≤ 100) ∧ (cond ((firstNZ ([(firstNZ [firstNZ [((⟨m0, m1, m2, m3, m4, m5, m6, m7, m8, m9, m10, m11⟩ : TMod)).err, ((⟨⟨b0, b1, b2⟩, ⟨b3, b4, b5⟩⟩ : TBox)).err], hitsE (listC l.length mkHit (hitsC l))]), (unl (inB K (0 : Int) (120000 : Int)) (2 : Int))] : List Int)) != (0 : Int)) (post (.tu [.c (.v (.slice none 0 0)), .c (.v (.int .i64 (firstNZ ([(firstNZ [firstNZ [((⟨m0, m1, m2, m3, m4, m5, m6, m7, m8, m9, m10, m11⟩ : TMod)).err, ((⟨⟨b0, b1, b2⟩, ⟨b3, b4, b5⟩⟩ : TBox)).err], hitsE (listC l.length mkHit (hitsC l))]), (unl (inB K (0 : Int) (120000 : Int)) (2 : Int))] : List Int))))])) ((numsP 5 l.length (hitsC l)) ∧ (cond ((biE (⟨m0, m1, m2, m3, m4, m5, m6, m7, m8, m9, m10, m11⟩ : TMod) (⟨⟨b0, b1, b2⟩, ⟨b3, b4, b5⟩⟩ : TBox) (listC l.length mkHit (hitsC l))) != (0 : Int)) (post (.tu [.c (.v (.slice none 0 0)), .c (.v (.int .i64 (biE (⟨m0, m1, m2, m3, m4, m5, m6, m7, m8, m9, m10, m11⟩ : TMod) (⟨⟨b0, b1, b2⟩, ⟨b3, b4, b5⟩⟩ : TBox) (listC l.length mkHit (hitsC l)))))])) ((numsB 6 (boxC [.v (.int .i64 b0), .v (.int .i64 b1), .v (.int .i64 b2), .v (.int .i64 b3), .v (.int .i64 b4), .v (.int .i64 b5)]) = true ∧ numsB 12 (boxC [.v (.int .i64 m0), .v (.int .i64 m1), .v (.int .i64 m2), .v (.int .i64 m3), .v (.int .i64 m4), .v (.int .i64 m5), .v (.int .i64 m6), .v (.int .i64 m7), .v (.int .i64 m8), .v (.int .i64 m9), .v (.int .i64 m10), .v (.int .i64 m11)]) = true ∧ ((⟨⟨b0, b1, b2⟩, ⟨b3, b4, b5⟩⟩ : TBox)).lo.inS 20 = true ∧ ((⟨⟨b0, b1, b2⟩, ⟨b3, b4, b5⟩⟩ : TBox)).hi.inS 20 = true ∧ ((⟨⟨b0, b1, b2⟩, ⟨b3, b4, b5⟩⟩ : TBox)).ok) ∧ (J 0 [0] (mk_track_ConeOf_0 m0 m1 m2 m3 m4 m5 m6 m7 m8 m9 m10 m11 b0 b1 b2 b3 b4 b5 l K ([]))))))))
def ann_track_ConeOf : Ann := ⟨fun r => lookA r [(11, ([[], [], [], [2], [0, 1, 2, 3], [], [], [5, 6], [0, 1, 2, 3, 4, 5, 6, 7]], [[54], [54], [54], [54], [], [54], [54], [54], []]))], fun b => lookA b [(0, (none, some ⟨[4, 5, 8, 11, 12, 48], [4, 5, 8, 11, 12], []⟩))], fun b => (lookA b [(0, [(12, 0, 0, .gen 22 3 [])])]).getD [], Ikv51, true, fun _ => none, fun _ => none⟩
theorem ev_track_ConeOf (J : Inv) (m0 m1 m2 m3 m4 m5 m6 m7 m8 m9 m10 m11 : Int) (b0 b1 b2 b3 b4 b5 : Int) (l : List THit) (K : Int) (post : DV → Prop) : evFn Try.prog tab Sky59 ann_track_ConeOf J Try.f10 [.t (.a [.v (.int .i64 m0), .v (.int .i64 m1), .v (.int .i64 m2), .v (.int .i64 m3), .v (.int .i64 m4), .v (.int .i64 m5), .v (.int .i64 m6), .v (.int .i64 m7), .v (.int .i64 m8), .v (.int .i64 m9), .v (.int .i64 m10), .v (.int .i64 m11)]), .t (.a [.v (.int .i64 b0), .v (.int .i64 b1), .v (.int .i64 b2), .v (.int .i64 b3), .v (.int .i64 b4), .v (.int .i64 b5), .sl 5 l.length (hitsC l)]), .t (.c (.v (.int .i64 K)))] post = vc_track_ConeOf J m0 m1 m2 m3 m4 m5 m6 m7 m8 m9 m10 m11 b0 b1 b2 b3 b4 b5 l K post := by kernel_rfl
theorem fit_track_ConeOf : okFn ann_track_ConeOf Try.f10 = true := by kernel_rfl
def rd_track_ConeOf_0 (J : Inv) (m0 m1 m2 m3 m4 m5 m6 m7 m8 m9 m10 m11 : Int) (b0 b1 b2 b3 b4 b5 : Int) (l : List THit) (K : Int) (v0_0 : List (List CV)) (nn0 : Nat) (post : DV → Prop) : Prop := (nn0 = (n_it_track_model_steps_1 b0 b1 b2 b3 b4 b5 m0 m1 m2 m3 m4 m5 m6 m7 m8 m9 m10 m11) → post (.tu [.c (.sl 3 v0_0.length (genC v0_0)), .c (.v (.int .i64 0))])) ∧ (nn0 < (n_it_track_model_steps_1 b0 b1 b2 b3 b4 b5 m0 m1 m2 m3 m4 m5 m6 m7 m8 m9 m10 m11) → (numsP 5 l.length (hitsC l) ∧ ((⟨m0, m1, m2, m3, m4, m5, m6, m7, m8, m9, m10, m11⟩ : TMod)).Ok ∧ ((plAt (((⟨m0, m1, m2, m3, m4, m5, m6, m7, m8, m9, m10, m11⟩ : TMod)).steps (⟨⟨b0, b1, b2⟩, ⟨b3, b4, b5⟩⟩ : TBox)) nn0) : V3).inS 20 = true ∧ ((⟨m0, m1, m2, m3, m4, m5, m6, m7, m8, m9, m10, m11⟩ : TMod)).permit (plAt (((⟨m0, m1, m2, m3, m4, m5, m6, m7, m8, m9, m10, m11⟩ : TMod)).steps (⟨⟨b0, b1, b2⟩, ⟨b3, b4, b5⟩⟩ : TBox)) nn0) ∧ ((listC l.length mkHit (hitsC l))).length ≤ 12 ∧ ∀ i, i < ((listC l.length mkHit (hitsC l))).length → (hitAt (listC l.length mkHit (hitsC l)) i).Ok) ∧ (lt (IntKind.i64.wrap ((biS (⟨m0, m1, m2, m3, m4, m5, m6, m7, m8, m9, m10, m11⟩ : TMod) (⟨⟨b0, b1, b2⟩, ⟨b3, b4, b5⟩⟩ : TBox) (listC l.length mkHit (hitsC l))) + K)) fun x1 => cond (decide ((((⟨m0, m1, m2, m3, m4, m5, m6, m7, m8, m9, m10, m11⟩ : TMod)).score (plAt (((⟨m0, m1, m2, m3, m4, m5, m6, m7, m8, m9, m10, m11⟩ : TMod)).steps (⟨⟨b0, b1, b2⟩, ⟨b3, b4, b5⟩⟩ : TBox)) nn0) (listC l.length mkHit (hitsC l))) ≤ x1)) ((roomP 24 (v0_0.length + ([[.v (.int .i64 ((plAt (((⟨m0, m1, m2, m3, m4, m5, m6, m7, m8, m9, m10, m11⟩ : TMod)).steps (⟨⟨b0, b1, b2⟩, ⟨b3, b4, b5⟩⟩ : TBox)) nn0).x)), .v (.int .i64 ((plAt (((⟨m0, m1, m2, m3, m4, m5, m6, m7, m8, m9, m10, m11⟩ : TMod)).steps (⟨⟨b0, b1, b2⟩, ⟨b3, b4, b5⟩⟩ : TBox)) nn0).y)), .v (.int .i64 ((plAt (((⟨m0, m1, m2, m3, m4, m5, m6, m7, m8, m9, m10, m11⟩ : TMod)).steps (⟨⟨b0, b1, b2⟩, ⟨b3, b4, b5⟩⟩ : TBox)) nn0).z))]] : List (List CV)).length)) ∧ (((some (.t (.fn 67 [.px 6 0 (boxC [.v (.int .i64 b0), .v (.int .i64 b1), .v (.int .i64 b2), .v (.int .i64 b3), .v (.int .i64 b4), .v (.int .i64 b5)]), .px 12 0 (boxC [.v (.int .i64 m0), .v (.int .i64 m1), .v (.int .i64 m2), .v (.int .i64 m3), .v (.int .i64 m4), .v (.int .i64 m5), .v (.int .i64 m6), .v (.int .i64 m7), .v (.int .i64 m8), .v (.int .i64 m9), .v (.int .i64 m10), .v (.int .i64 m11)])])) : Option DV) = some (.t (.fn 67 [.px 6 0 (boxC [.v (.int .i64 b0), .v (.int .i64 b1), .v (.int .i64 b2), .v (.int .i64 b3), .v (.int .i64 b4), .v (.int .i64 b5)]), .px 12 0 (boxC [.v (.int .i64 m0), .v (.int .i64 m1), .v (.int .i64 m2), .v (.int .i64 m3), .v (.int .i64 m4), .v (.int .i64 m5), .v (.int .i64 m6), .v (.int .i64 m7), .v (.int .i64 m8), .v (.int .i64 m9), .v (.int .i64 m10), .v (.int .i64 m11)])]))) ∧ J 0 [nn0 + 1] (mk_track_ConeOf_0 m0 m1 m2 m3 m4 m5 m6 m7 m8 m9 m10 m11 b0 b1 b2 b3 b4 b5 l K (v0_0 ++ ([[.v (.int .i64 ((plAt (((⟨m0, m1, m2, m3, m4, m5, m6, m7, m8, m9, m10, m11⟩ : TMod)).steps (⟨⟨b0, b1, b2⟩, ⟨b3, b4, b5⟩⟩ : TBox)) nn0).x)), .v (.int .i64 ((plAt (((⟨m0, m1, m2, m3, m4, m5, m6, m7, m8, m9, m10, m11⟩ : TMod)).steps (⟨⟨b0, b1, b2⟩, ⟨b3, b4, b5⟩⟩ : TBox)) nn0).y)), .v (.int .i64 ((plAt (((⟨m0, m1, m2, m3, m4, m5, m6, m7, m8, m9, m10, m11⟩ : TMod)).steps (⟨⟨b0, b1, b2⟩, ⟨b3, b4, b5⟩⟩ : TBox)) nn0).z))]] : List (List CV)))))) (((some (.t (.fn 67 [.px 6 0 (boxC [.v (.int .i64 b0), .v (.int .i64 b1), .v (.int .i64 b2), .v (.int .i64 b3), .v (.int .i64 b4), .v (.int .i64 b5)]), .px 12 0 (boxC [.v (.int .i64 m0), .v (.int .i64 m1), .v (.int .i64 m2), .v (.int .i64 m3), .v (.int .i64 m4), .v (.int .i64 m5), .v (.int .i64 m6), .v (.int .i64 m7), .v (.int .i64 m8), .v (.int .i64 m9), .v (.int .i64 m10), .v (.int .i64 m11)])])) : Option DV) = some (.t (.fn 67 [.px 6 0 (boxC [.v (.int .i64 b0), .v (.int .i64 b1), .v (.int .i64 b2), .v (.int .i64 b3), .v (.int .i64 b4), .v (.int .i64 b5)]), .px 12 0 (boxC [.v (.int .i64 m0), .v (.int .i64 m1), .v (.int .i64 m2), .v (.int .i64 m3), .v (.int .i64 m4), .v (.int .i64 m5), .v (.int .i64 m6), .v (.int .i64 m7), .v (.int .i64 m8), .v (.int .i64 m9), .v (.int .i64 m10), .v (.int .i64 m11)])]))) ∧ J 0 [nn0 + 1] (mk_track_ConeOf_0 m0 m1 m2 m3 m4 m5 m6 m7 m8 m9 m10 m11 b0 b1 b2 b3 b4 b5 l K v0_0))))
theorem er_track_ConeOf_0 (J : Inv) (m0 m1 m2 m3 m4 m5 m6 m7 m8 m9 m10 m11 : Int) (b0 b1 b2 b3 b4 b5 : Int) (l : List THit) (K : Int) (v0_0 : List (List CV)) (nn0 : Nat) (post : DV → Prop) : round Try.prog tab Sky59 ann_track_ConeOf J Try.f10 post 0 (nn0 :: []) (mk_track_ConeOf_0 m0 m1 m2 m3 m4 m5 m6 m7 m8 m9 m10 m11 b0 b1 b2 b3 b4 b5 l K v0_0) = rd_track_ConeOf_0 J m0 m1 m2 m3 m4 m5 m6 m7 m8 m9 m10 m11 b0 b1 b2 b3 b4 b5 l K v0_0 nn0 post := by kernel_rfl
theorem lp_track_ConeOf (J : Inv) (post : DV → Prop) : AllG J (loopsFn Try.prog tab Sky59 ann_track_ConeOf J Try.f10 post) = ((∀ i s, J 0 [i] s → round Try.prog tab Sky59 ann_track_ConeOf J Try.f10 post 0 [i] s) ∧ True) := by kernel_rfl
def J_track_ConeOf (m0 m1 m2 m3 m4 m5 m6 m7 m8 m9 m10 m11 : Int) (b0 b1 b2 b3 b4 b5 : Int) (l : List THit) (K : Int) : Inv := fun b F s => match b, F with
 | 0, [nn0] => ∃ (v0_0 : List (List CV)), s = mk_track_ConeOf_0 m0 m1 m2 m3 m4 m5 m6 m7 m8 m9 m10 m11 b0 b1 b2 b3 b4 b5 l K v0_0 ∧ (coE (⟨m0, m1, m2, m3, m4, m5, m6, m7, m8, m9, m10, m11⟩ : TMod) (⟨⟨b0, b1, b2⟩, ⟨b3, b4, b5⟩⟩ : TBox) l K = 0 ∧ biE (⟨m0, m1, m2, m3, m4, m5, m6, m7, m8, m9, m10, m11⟩ : TMod) (⟨⟨b0, b1, b2⟩, ⟨b3, b4, b5⟩⟩ : TBox) l = 0 ∧ nn0 ≤ (((⟨m0, m1, m2, m3, m4, m5, m6, m7, m8, m9, m10, m11⟩ : TMod)).steps (⟨⟨b0, b1, b2⟩, ⟨b3, b4, b5⟩⟩ : TBox)).length ∧ v0_0 = (((((⟨m0, m1, m2, m3, m4, m5, m6, m7, m8, m9, m10, m11⟩ : TMod)).steps (⟨⟨b0, b1, b2⟩, ⟨b3, b4, b5⟩⟩ : TBox)).take nn0).filter (coQ (⟨m0, m1, m2, m3, m4, m5, m6, m7, m8, m9, m10, m11⟩ : TMod) (⟨⟨b0, b1, b2⟩, ⟨b3, b4, b5⟩⟩ : TBox) l K)).map v3Cv)
 | _, _ => False
set_option maxHeartbeats 8000000 in
set_option maxRecDepth 100000 in
theorem rnd_track_ConeOf_0 (m0 m1 m2 m3 m4 m5 m6 m7 m8 m9 m10 m11 : Int) (b0 b1 b2 b3 b4 b5 : Int) (l : List THit) (K : Int) (v0_0 : List (List CV)) (nn0 : Nat) (hi : coE (⟨m0, m1, m2, m3, m4, m5, m6, m7, m8, m9, m10, m11⟩ : TMod) (⟨⟨b0, b1, b2⟩, ⟨b3, b4, b5⟩⟩ : TBox) l K = 0 ∧ biE (⟨m0, m1, m2, m3, m4, m5, m6, m7, m8, m9, m10, m11⟩ : TMod) (⟨⟨b0, b1, b2⟩, ⟨b3, b4, b5⟩⟩ : TBox) l = 0 ∧ nn0 ≤ (((⟨m0, m1, m2, m3, m4, m5, m6, m7, m8, m9, m10, m11⟩ : TMod)).steps (⟨⟨b0, b1, b2⟩, ⟨b3, b4, b5⟩⟩ : TBox)).length ∧ v0_0 = (((((⟨m0, m1, m2, m3, m4, m5, m6, m7, m8, m9, m10, m11⟩ : TMod)).steps (⟨⟨b0, b1, b2⟩, ⟨b3, b4, b5⟩⟩ : TBox)).take nn0).filter (coQ (⟨m0, m1, m2, m3, m4, m5, m6, m7, m8, m9, m10, m11⟩ : TMod) (⟨⟨b0, b1, b2⟩, ⟨b3, b4, b5⟩⟩ : TBox) l K)).map v3Cv) : rd_track_ConeOf_0 (J_track_ConeOf m0 m1 m2 m3 m4 m5 m6 m7 m8 m9 m10 m11 b0 b1 b2 b3 b4 b5 l K) m0 m1 m2 m3 m4 m5 m6 m7 m8 m9 m10 m11 b0 b1 b2 b3 b4 b5 l K v0_0 nn0 (fun r => LeD r (.tu [.c (.sl 3 ((cnL (⟨m0, m1, m2, m3, m4, m5, m6, m7, m8, m9, m10, m11⟩ : TMod) (⟨⟨b0, b1, b2⟩, ⟨b3, b4, b5⟩⟩ : TBox) l K).length) (plsC (cnL (⟨m0, m1, m2, m3, m4, m5, m6, m7, m8, m9, m10, m11⟩ : TMod) (⟨⟨b0, b1, b2⟩, ⟨b3, b4, b5⟩⟩ : TBox) l K))), .c (.v (.int .i64 (cnE (⟨m0, m1, m2, m3, m4, m5, m6, m7, m8, m9, m10, m11⟩ : TMod) (⟨⟨b0, b1, b2⟩, ⟨b3, b4, b5⟩⟩ : TBox) l K)))])) := by
 obtain ⟨i1, i2, i3, i4⟩ := hi
 obtain ⟨q3, q4, q2, _⟩ := biE_0 i2
 have hl2 := steps_len (m := (⟨m0, m1, m2, m3, m4, m5, m6, m7, m8, m9, m10, m11⟩ : TMod)) q4
 obtain ⟨hl12, hok⟩ := hitsE_ok q2
 have ho := err_ok q3
 unfold rd_track_ConeOf_0
 simp only [hits_listC]
 refine ⟨fun h => ?_, fun h => ?_⟩
 ·have h : nn0 = (((⟨m0, m1, m2, m3, m4, m5, m6, m7, m8, m9, m10, m11⟩ : TMod)).steps (⟨⟨b0, b1, b2⟩, ⟨b3, b4, b5⟩⟩ : TBox)).length := h
  have e : cnE (⟨m0, m1, m2, m3, m4, m5, m6, m7, m8, m9, m10, m11⟩ : TMod) (⟨⟨b0, b1, b2⟩, ⟨b3, b4, b5⟩⟩ : TBox) l K = 0 := (if_neg (by rw [i1]; simp)).trans i2
  rw [show cnL (⟨m0, m1, m2, m3, m4, m5, m6, m7, m8, m9, m10, m11⟩ : TMod) (⟨⟨b0, b1, b2⟩, ⟨b3, b4, b5⟩⟩ : TBox) l K = coL (⟨m0, m1, m2, m3, m4, m5, m6, m7, m8, m9, m10, m11⟩ : TMod) (⟨⟨b0, b1, b2⟩, ⟨b3, b4, b5⟩⟩ : TBox) l K from if_pos e, e, i4, h, List.take_length]
  exact le_tu (le_v3 _) (LeD.refl _)
 ·have h : nn0 < (((⟨m0, m1, m2, m3, m4, m5, m6, m7, m8, m9, m10, m11⟩ : TMod)).steps (⟨⟨b0, b1, b2⟩, ⟨b3, b4, b5⟩⟩ : TBox)).length := h
  have hs := steps_ok (m := (⟨m0, m1, m2, m3, m4, m5, m6, m7, m8, m9, m10, m11⟩ : TMod)) q4 (plAt_in h)
  have hK : inB K 0 120000 = true := by have := (fn2 i1).2; rwa [unl_0 (by decide)] at this
  rw [inB_true] at hK
  have hB : -120000 ≤ bestS (⟨m0, m1, m2, m3, m4, m5, m6, m7, m8, m9, m10, m11⟩ : TMod) (⟨⟨b0, b1, b2⟩, ⟨b3, b4, b5⟩⟩ : TBox) l ∧ bestS (⟨m0, m1, m2, m3, m4, m5, m6, m7, m8, m9, m10, m11⟩ : TMod) (⟨⟨b0, b1, b2⟩, ⟨b3, b4, b5⟩⟩ : TBox) l ≤ 120000 := by
   unfold bestS
   split
   ·exact score_120 ho q2
   ·omega
  rw [show biS (⟨m0, m1, m2, m3, m4, m5, m6, m7, m8, m9, m10, m11⟩ : TMod) (⟨⟨b0, b1, b2⟩, ⟨b3, b4, b5⟩⟩ : TBox) l = bestS (⟨m0, m1, m2, m3, m4, m5, m6, m7, m8, m9, m10, m11⟩ : TMod) (⟨⟨b0, b1, b2⟩, ⟨b3, b4, b5⟩⟩ : TBox) l from if_pos i2]
  refine ⟨⟨numsP_hits l, ho, hs.1, hs.2, hl12, hok⟩, lt_i fun x1 h1 => ?_⟩
  rw [wi (by omega)] at h1
  subst h1
  have ef : ((((⟨m0, m1, m2, m3, m4, m5, m6, m7, m8, m9, m10, m11⟩ : TMod)).steps (⟨⟨b0, b1, b2⟩, ⟨b3, b4, b5⟩⟩ : TBox)).take (nn0 + 1)).filter (coQ (⟨m0, m1, m2, m3, m4, m5, m6, m7, m8, m9, m10, m11⟩ : TMod) (⟨⟨b0, b1, b2⟩, ⟨b3, b4, b5⟩⟩ : TBox) l K) = ((((⟨m0, m1, m2, m3, m4, m5, m6, m7, m8, m9, m10, m11⟩ : TMod)).steps (⟨⟨b0, b1, b2⟩, ⟨b3, b4, b5⟩⟩ : TBox)).take nn0).filter (coQ (⟨m0, m1, m2, m3, m4, m5, m6, m7, m8, m9, m10, m11⟩ : TMod) (⟨⟨b0, b1, b2⟩, ⟨b3, b4, b5⟩⟩ : TBox) l K) ++ (if coQ (⟨m0, m1, m2, m3, m4, m5, m6, m7, m8, m9, m10, m11⟩ : TMod) (⟨⟨b0, b1, b2⟩, ⟨b3, b4, b5⟩⟩ : TBox) l K (plAt (((⟨m0, m1, m2, m3, m4, m5, m6, m7, m8, m9, m10, m11⟩ : TMod)).steps (⟨⟨b0, b1, b2⟩, ⟨b3, b4, b5⟩⟩ : TBox)) nn0) = true then [plAt (((⟨m0, m1, m2, m3, m4, m5, m6, m7, m8, m9, m10, m11⟩ : TMod)).steps (⟨⟨b0, b1, b2⟩, ⟨b3, b4, b5⟩⟩ : TBox)) nn0] else []) := by
   rw [plAt_take h, List.filter_append, List.filter_cons, List.filter_nil]
  have hlen : (((((⟨m0, m1, m2, m3, m4, m5, m6, m7, m8, m9, m10, m11⟩ : TMod)).steps (⟨⟨b0, b1, b2⟩, ⟨b3, b4, b5⟩⟩ : TBox)).take nn0).filter (coQ (⟨m0, m1, m2, m3, m4, m5, m6, m7, m8, m9, m10, m11⟩ : TMod) (⟨⟨b0, b1, b2⟩, ⟨b3, b4, b5⟩⟩ : TBox) l K)).length ≤ 700 := Nat.le_trans (List.length_filter_le _ _) (by rw [List.length_take]; omega)
  refine cond_i (fun e => ⟨?_, by trivial, _, rfl, i1, i2, h, ?_⟩) (fun e => ⟨by trivial, _, rfl, i1, i2, h, ?_⟩)
  ·rw [i4]; unfold roomP maxLen; simp; omega
  ·rw [i4, ef, if_pos (show coQ (⟨m0, m1, m2, m3, m4, m5, m6, m7, m8, m9, m10, m11⟩ : TMod) (⟨⟨b0, b1, b2⟩, ⟨b3, b4, b5⟩⟩ : TBox) l K (plAt (((⟨m0, m1, m2, m3, m4, m5, m6, m7, m8, m9, m10, m11⟩ : TMod)).steps (⟨⟨b0, b1, b2⟩, ⟨b3, b4, b5⟩⟩ : TBox)) nn0) = true from e), List.map_append]; rfl
  ·rw [i4, ef, if_neg (by unfold coQ; rw [e]; simp), List.append_nil]
set_option maxHeartbeats 8000000 in
set_option maxRecDepth 100000 in
theorem spec_track_ConeOf (m0 m1 m2 m3 m4 m5 m6 m7 m8 m9 m10 m11 : Int) (b0 b1 b2 b3 b4 b5 : Int) (l : List THit) (K : Int) : vc_track_ConeOf (J_track_ConeOf m0 m1 m2 m3 m4 m5 m6 m7 m8 m9 m10 m11 b0 b1 b2 b3 b4 b5 l K) m0 m1 m2 m3 m4 m5 m6 m7 m8 m9 m10 m11 b0 b1 b2 b3 b4 b5 l K (fun r => LeD r (.tu [.c (.sl 3 ((cnL (⟨m0, m1, m2, m3, m4, m5, m6, m7, m8, m9, m10, m11⟩ : TMod) (⟨⟨b0, b1, b2⟩, ⟨b3, b4, b5⟩⟩ : TBox) l K).length) (plsC (cnL (⟨m0, m1, m2, m3, m4, m5, m6, m7, m8, m9, m10, m11⟩ : TMod) (⟨⟨b0, b1, b2⟩, ⟨b3, b4, b5⟩⟩ : TBox) l K))), .c (.v (.int .i64 (cnE (⟨m0, m1, m2, m3, m4, m5, m6, m7, m8, m9, m10, m11⟩ : TMod) (⟨⟨b0, b1, b2⟩, ⟨b3, b4, b5⟩⟩ : TBox) l K)))])) := by
 unfold vc_track_ConeOf
 simp only [hits_listC]
 rw [show firstNZ ([firstNZ [firstNZ [((⟨m0, m1, m2, m3, m4, m5, m6, m7, m8, m9, m10, m11⟩ : TMod)).err, ((⟨⟨b0, b1, b2⟩, ⟨b3, b4, b5⟩⟩ : TBox)).err], hitsE l], unl (inB K 0 120000) 2] : List Int) = coE (⟨m0, m1, m2, m3, m4, m5, m6, m7, m8, m9, m10, m11⟩ : TMod) (⟨⟨b0, b1, b2⟩, ⟨b3, b4, b5⟩⟩ : TBox) l K from rfl]
 refine ⟨numsP_hits l, ⟨numsP_gen [_, _], Nat.le_of_ble_eq_true rfl⟩, cond_i (fun h => ?_) (fun h => ⟨numsP_hits l, cond_i (fun g => ?_) (fun g => ?_)⟩)⟩
 ·have h : coE (⟨m0, m1, m2, m3, m4, m5, m6, m7, m8, m9, m10, m11⟩ : TMod) (⟨⟨b0, b1, b2⟩, ⟨b3, b4, b5⟩⟩ : TBox) l K ≠ 0 := by simpa using h
  have e : cnE (⟨m0, m1, m2, m3, m4, m5, m6, m7, m8, m9, m10, m11⟩ : TMod) (⟨⟨b0, b1, b2⟩, ⟨b3, b4, b5⟩⟩ : TBox) l K = coE (⟨m0, m1, m2, m3, m4, m5, m6, m7, m8, m9, m10, m11⟩ : TMod) (⟨⟨b0, b1, b2⟩, ⟨b3, b4, b5⟩⟩ : TBox) l K := if_pos h
  rw [show cnL (⟨m0, m1, m2, m3, m4, m5, m6, m7, m8, m9, m10, m11⟩ : TMod) (⟨⟨b0, b1, b2⟩, ⟨b3, b4, b5⟩⟩ : TBox) l K = [] from if_neg (by rw [e]; exact h), e]
  exact le_tu le_nil (LeD.refl _)
 ·have h : coE (⟨m0, m1, m2, m3, m4, m5, m6, m7, m8, m9, m10, m11⟩ : TMod) (⟨⟨b0, b1, b2⟩, ⟨b3, b4, b5⟩⟩ : TBox) l K = 0 := by simpa using h
  have g : biE (⟨m0, m1, m2, m3, m4, m5, m6, m7, m8, m9, m10, m11⟩ : TMod) (⟨⟨b0, b1, b2⟩, ⟨b3, b4, b5⟩⟩ : TBox) l ≠ 0 := by simpa using g
  have e : cnE (⟨m0, m1, m2, m3, m4, m5, m6, m7, m8, m9, m10, m11⟩ : TMod) (⟨⟨b0, b1, b2⟩, ⟨b3, b4, b5⟩⟩ : TBox) l K = biE (⟨m0, m1, m2, m3, m4, m5, m6, m7, m8, m9, m10, m11⟩ : TMod) (⟨⟨b0, b1, b2⟩, ⟨b3, b4, b5⟩⟩ : TBox) l := if_neg (by rw [h]; simp)
  rw [show cnL (⟨m0, m1, m2, m3, m4, m5, m6, m7, m8, m9, m10, m11⟩ : TMod) (⟨⟨b0, b1, b2⟩, ⟨b3, b4, b5⟩⟩ : TBox) l K = [] from if_neg (by rw [e]; exact g), e]
  exact le_tu le_nil (LeD.refl _)
 ·have h : coE (⟨m0, m1, m2, m3, m4, m5, m6, m7, m8, m9, m10, m11⟩ : TMod) (⟨⟨b0, b1, b2⟩, ⟨b3, b4, b5⟩⟩ : TBox) l K = 0 := by simpa using h
  have g : biE (⟨m0, m1, m2, m3, m4, m5, m6, m7, m8, m9, m10, m11⟩ : TMod) (⟨⟨b0, b1, b2⟩, ⟨b3, b4, b5⟩⟩ : TBox) l = 0 := by simpa using g
  obtain ⟨_, q4, _, _⟩ := biE_0 g
  have hb := box_in q4
  exact ⟨⟨rfl, rfl, hb.1, hb.2, box_ok q4⟩, _, rfl, h, g, Nat.zero_le _, rfl⟩
theorem all_track_ConeOf (m0 m1 m2 m3 m4 m5 m6 m7 m8 m9 m10 m11 : Int) (b0 b1 b2 b3 b4 b5 : Int) (l : List THit) (K : Int) : AllG (J_track_ConeOf m0 m1 m2 m3 m4 m5 m6 m7 m8 m9 m10 m11 b0 b1 b2 b3 b4 b5 l K) (loopsFn Try.prog tab Sky59 ann_track_ConeOf (J_track_ConeOf m0 m1 m2 m3 m4 m5 m6 m7 m8 m9 m10 m11 b0 b1 b2 b3 b4 b5 l K) Try.f10 (fun r => LeD r (.tu [.c (.sl 3 ((cnL (⟨m0, m1, m2, m3, m4, m5, m6, m7, m8, m9, m10, m11⟩ : TMod) (⟨⟨b0, b1, b2⟩, ⟨b3, b4, b5⟩⟩ : TBox) l K).length) (plsC (cnL (⟨m0, m1, m2, m3, m4, m5, m6, m7, m8, m9, m10, m11⟩ : TMod) (⟨⟨b0, b1, b2⟩, ⟨b3, b4, b5⟩⟩ : TBox) l K))), .c (.v (.int .i64 (cnE (⟨m0, m1, m2, m3, m4, m5, m6, m7, m8, m9, m10, m11⟩ : TMod) (⟨⟨b0, b1, b2⟩, ⟨b3, b4, b5⟩⟩ : TBox) l K)))]))) := by
 rw [lp_track_ConeOf]
 refine ⟨?_, trivial⟩
 ·intro i s h
  obtain ⟨w0, rfl, hi⟩ := h
  rw [er_track_ConeOf_0]
  exact rnd_track_ConeOf_0 m0 m1 m2 m3 m4 m5 m6 m7 m8 m9 m10 m11 b0 b1 b2 b3 b4 b5 l K _ _ hi
def con_track_ConeOf : Con := fun args => match args with
 | [.t (.a [.v (.int .i64 m0), .v (.int .i64 m1), .v (.int .i64 m2), .v (.int .i64 m3), .v (.int .i64 m4), .v (.int .i64 m5), .v (.int .i64 m6), .v (.int .i64 m7), .v (.int .i64 m8), .v (.int .i64 m9), .v (.int .i64 m10), .v (.int .i64 m11)]), .t (.a [.v (.int .i64 b0), .v (.int .i64 b1), .v (.int .i64 b2), .v (.int .i64 b3), .v (.int .i64 b4), .v (.int .i64 b5), .sl 5 n_l c_l]), .t (.c (.v (.int .i64 K)))] => some (.tu [.c (.sl 3 ((cnL (⟨m0, m1, m2, m3, m4, m5, m6, m7, m8, m9, m10, m11⟩ : TMod) (⟨⟨b0, b1, b2⟩, ⟨b3, b4, b5⟩⟩ : TBox) (listC n_l mkHit c_l) K).length) (plsC (cnL (⟨m0, m1, m2, m3, m4, m5, m6, m7, m8, m9, m10, m11⟩ : TMod) (⟨⟨b0, b1, b2⟩, ⟨b3, b4, b5⟩⟩ : TBox) (listC n_l mkHit c_l) K))), .c (.v (.int .i64 (cnE (⟨m0, m1, m2, m3, m4, m5, m6, m7, m8, m9, m10, m11⟩ : TMod) (⟨⟨b0, b1, b2⟩, ⟨b3, b4, b5⟩⟩ : TBox) (listC n_l mkHit c_l) K)))], some (numsP 5 n_l c_l), true)
 | _ => none
theorem ok_track_ConeOf : Ok Try.prog 10 con_track_ConeOf := by
 refine Ok.fnFr (ann := ann_track_ConeOf) mixed tabOK VSky59 VIkv51 rfl (fn := Try.f10) (by kernel_rfl) (by kernel_rfl) fit_track_ConeOf fun args r pre fresh h hp => ?_
 unfold con_track_ConeOf at h
 split at h
 ·rename_i m0 m1 m2 m3 m4 m5 m6 m7 m8 m9 m10 m11 b0 b1 b2 b3 b4 b5 n_l c_l K
  cases h
  have hp0 := hp
  refine ⟨rfl, (by intro x hx; simp only [List.mem_cons, List.not_mem_nil, or_false] at hx; rcases hx with rfl | rfl; exact (fun i j _ hj => plain_V3 _ i j); exact trivial), J_track_ConeOf m0 m1 m2 m3 m4 m5 m6 m7 m8 m9 m10 m11 b0 b1 b2 b3 b4 b5 (listC n_l mkHit c_l) K, [.t (.a [.v (.int .i64 m0), .v (.int .i64 m1), .v (.int .i64 m2), .v (.int .i64 m3), .v (.int .i64 m4), .v (.int .i64 m5), .v (.int .i64 m6), .v (.int .i64 m7), .v (.int .i64 m8), .v (.int .i64 m9), .v (.int .i64 m10), .v (.int .i64 m11)]), .t (.a [.v (.int .i64 b0), .v (.int .i64 b1), .v (.int .i64 b2), .v (.int .i64 b3), .v (.int .i64 b4), .v (.int .i64 b5), .sl 5 ((listC n_l mkHit c_l).length) (hitsC (listC n_l mkHit c_l))]), .t (.c (.v (.int .i64 K)))], ?_, Nat.le_of_ble_eq_true (by kernel_rfl), ?_, ?_⟩
  ·exact (LeA_cons (LeD.refl _) (LeA_cons (leT_a (LeCs.cons (LeC1.refl _) (LeCs.cons (LeC1.refl _) (LeCs.cons (LeC1.refl _) (LeCs.cons (LeC1.refl _) (LeCs.cons (LeC1.refl _) (LeCs.cons (LeC1.refl _) (LeCs.cons ((leL_THit hp0)) LeCs.nil)))))))) (LeA_cons (LeD.refl _) LeA_nil)))
  ·rw [ev_track_ConeOf]; exact spec_track_ConeOf m0 m1 m2 m3 m4 m5 m6 m7 m8 m9 m10 m11 b0 b1 b2 b3 b4 b5 (listC n_l mkHit c_l) K
  ·exact all_track_ConeOf m0 m1 m2 m3 m4 m5 m6 m7 m8 m9 m10 m11 b0 b1 b2 b3 b4 b5 (listC n_l mkHit c_l) K
 ·cases h
def Skz60 : Sum := addS Sky59 10 con_track_ConeOf
theorem VSkz60 : Valid Try.prog Skz60 := Valid.add VSky59 ok_track_ConeOf
end Go.Proofs.Ytfadkjcfjkmalaa