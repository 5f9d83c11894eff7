/- Texts of this claim, together. -/
import Derived.Test.YtmhgjlapkhdlmaaDoorFT9

set_option linter.unusedVariables false
set_option linter.unusedSimpArgs false
namespace Go.Proofs.YtmhgjlapkhdlmaaDoor
open Go.RowKit Ev
def spd (l : List FHit) (p : P3) : Int := max 0 ((tms l p).lo - (tms l p).hi)
def allS (l : List FHit) (x : Lat) : List (List Rg) := (allP x).map (sts l)
theorem allS_len {l : List FHit} {x : Lat} : (allS l x).length = x.sz.toNat := by rw [allS, List.length_map, allP_len]
theorem rlAt_all {l : List FHit} {x : Lat} {k : Nat} (hk : k < x.sz.toNat) : rlAt (allS l x) k = sts l (posAt x k) := by
 unfold allS
 rw [rlAt_lt (by rw [List.length_map, allP_len]; exact hk), List.getElem_map]
 congr 1
 simp [allP]
theorem sprF_all {l : List FHit} {x : Lat} {k : Nat} (hk : k < x.sz.toNat) : sprF (allS l x) k = spd l (posAt x k) := by
 unfold sprF
 rw [rlAt_all hk]; rfl
theorem opnS_all {l : List FHit} {x : Lat} (h : bothE l x = 0) : opnS l x = allS l x := if_pos h
def vtxR (l : List FHit) (x : Lat) : List Int := vtxL (allS l x)
theorem vtxO_R {l : List FHit} {x : Lat} (h : bothE l x = 0) : vtxO l x = vtxR l x := by
 rw [show vtxO l x = _ from if_pos h, opnS_all h]; rfl
theorem spd_0 {l : List FHit} {p : P3} : spd l p = 0 ↔ (tms l p).lo ≤ (tms l p).hi := by unfold spd; omega
theorem spd_nn (l : List FHit) (p : P3) : 0 ≤ spd l p := by unfold spd; omega
theorem mem_vtxR {l : List FHit} {x : Lat} {i : Int} : i ∈ vtxR l x ↔ ∃ k : Nat, i = k ∧ k < x.sz.toNat ∧ (tms l (posAt x k)).lo ≤ (tms l (posAt x k)).hi := by
 unfold vtxR vtxL vtxK
 rw [allS_len]
 constructor
 ·intro h
  obtain ⟨k, hk, rfl⟩ := List.mem_map.1 h
  obtain ⟨h1, h2⟩ := List.mem_filter.1 hk
  have h1 := List.mem_range.1 h1
  rw [sprF_all h1] at h2
  exact ⟨k, rfl, h1, spd_0.1 (by simpa using h2)⟩
 ·rintro ⟨k, rfl, h1, h2⟩
  refine List.mem_map.2 ⟨k, List.mem_filter.2 ⟨List.mem_range.2 h1, ?_⟩, rfl⟩
  rw [sprF_all h1, spd_0.2 h2]; rfl
theorem vtxR_rg {l : List FHit} {x : Lat} {i : Int} (h : i ∈ vtxR l x) : 0 ≤ i ∧ i < x.sz := by
 obtain ⟨k, rfl, h1, _⟩ := mem_vtxR.1 h; omega
theorem vtxR_len (l : List FHit) (x : Lat) : (vtxR l x).length ≤ x.sz.toNat := by
 have := vtxK_len (allS l x) (allS l x).length
 rw [allS_len] at this
 unfold vtxR vtxL
 rwa [allS_len]
structure Bx6 where
 (x y z : Rg)
def hullR (r : Rg) (n : Int) : Rg := ⟨min r.lo n, max r.hi n⟩
def hullB (b : Bx6) (p : P3) : Bx6 := ⟨hullR b.x p.x, hullR b.y p.y, hullR b.z p.z⟩
def box0 (p : P3) : Bx6 := ⟨⟨p.x, p.x⟩, ⟨p.y, p.y⟩, ⟨p.z, p.z⟩⟩
def boxF (x : Lat) (v : List Int) (k : Nat) : Bx6 := (v.take k).foldl (fun b i => hullB b (posAt x i)) (box0 (posAt x (v.getD 0 0)))
theorem boxF_succ {x : Lat} {v : List Int} {k : Nat} (hk : k < v.length) : boxF x v (k + 1) = hullB (boxF x v k) (posAt x (v.getD k 0)) := by
 unfold boxF
 rw [List.take_succ_eq_append_getElem hk, List.foldl_append]
 simp [List.getD, hk]
def Bx6.zero : Bx6 := ⟨⟨0, 0⟩, ⟨0, 0⟩, ⟨0, 0⟩⟩
def boxE (l : List FHit) (x : Lat) : Int := if bothE l x ≠ 0 then bothE l x else if (vtxR l x).length = 0 then 12 else 0
def boxO (l : List FHit) (x : Lat) : Bx6 := if boxE l x = 0 then boxF x (vtxR l x) (vtxR l x).length else Bx6.zero
theorem boxF_in {x : Lat} {v : List Int} {k : Nat} (hk : k ≤ v.length) : ∀ j, j < k → (boxF x v k).x.lo ≤ (posAt x (v.getD j 0)).x ∧ (posAt x (v.getD j 0)).x ≤ (boxF x v k).x.hi ∧ (boxF x v k).y.lo ≤ (posAt x (v.getD j 0)).y ∧ (posAt x (v.getD j 0)).y ≤ (boxF x v k).y.hi ∧ (boxF x v k).z.lo ≤ (posAt x (v.getD j 0)).z ∧ (posAt x (v.getD j 0)).z ≤ (boxF x v k).z.hi := by
 induction k with
 | zero => intro j hj; omega
 | succ k ih =>
  intro j hj
  rw [boxF_succ (by omega)]
  unfold hullB hullR
  simp only
  by_cases e : j = k
  ·subst e; omega
  ·have := ih (by omega) j (by omega)
   omega
theorem clsK_ok {sp : List (List Rg)} : ∀ k, 0 < k → (0 ≤ (clsK sp k).1 ∧ (clsK sp k).1 < k) ∧ (clsK sp k).2 = sprF sp (clsK sp k).1.toNat ∧ ∀ j, j < k → (clsK sp k).2 ≤ sprF sp j := by
 intro k
 induction k with
 | zero => intro h; omega
 | succ k ih =>
  intro _
  rw [clsK_succ]
  unfold clsS
  by_cases h0 : k = 0
  ·subst h0
   have e : clsK sp 0 = (-1, 0) := rfl
   rw [e]
   refine ⟨by simp, by simp, fun j hj => ?_⟩
   have : j = 0 := by omega
   subst this
   simp
  ·obtain ⟨⟨i1, i2⟩, i3, i4⟩ := ih (by omega)
   rw [decide_eq_false (show ¬ (clsK sp k).1 < 0 by omega)]
   simp only [_root_.cond_false]
   by_cases h : sprF sp k < (clsK sp k).2
   ·rw [if_pos (decide_eq_true h)]
    refine ⟨⟨by simp only; omega, by simp only; omega⟩, by simp, fun j hj => ?_⟩
    by_cases e : j = k
    ·rw [e]; exact Int.le_refl _
    ·have := i4 j (by omega); simp only; omega
   ·rw [if_neg (by rw [decide_eq_false h]; simp)]
    refine ⟨⟨i1, by omega⟩, i3, fun j hj => ?_⟩
    by_cases e : j = k
    ·rw [e]; omega
    ·exact i4 j (by omega)
def subR (all : List Rg) (s : List Int) : List Rg := s.map fun i => rgAt all i.toNat
def subH (l : List FHit) (s : List Int) : List FHit := s.map fun i => hitAt l i.toNat
def rowB (s : List Int) (all : List Rg) : Bool := decide ((comm (subR all s)).lo ≤ (comm (subR all s)).hi)
def explB (sp : List (List Rg)) (s : List Int) : Bool := s.isEmpty || sp.any (rowB s)
def contB (sp : List (List Rg)) (s : List Int) : Bool := !explB sp s
theorem comm_ex {l : List Rg} (h0 : 0 < l.length) : (comm l).lo ≤ (comm l).hi ↔ ∃ e, ∀ g ∈ l, g.lo ≤ e ∧ e ≤ g.hi :=
 ⟨fun h => ⟨(comm l).lo, (comm_iff h0).1 ⟨Int.le_refl _, h⟩⟩, fun ⟨e, he⟩ => by have := (comm_iff h0).2 he; omega⟩
theorem sts_sub {l : List FHit} {s : List Int} {p : P3} (h : ∀ i ∈ s, 0 ≤ i ∧ i < l.length) : sts (subH l s) p = subR (sts l p) s := by
 unfold subH subR
 rw [show sts (s.map fun i => hitAt l i.toNat) p = (s.map fun i => hitAt l i.toNat).map (stR p) from rfl, List.map_map]
 refine List.map_congr_left fun i hi => ?_
 have := h i hi
 exact (sts_at (by omega)).symm
theorem cont_iff {l : List FHit} {x : Lat} {s : List Int} (h : ∀ i ∈ s, 0 ≤ i ∧ i < l.length) (hs : s ≠ []) : contB (allS l x) s = true ↔ vtxR (subH l s) x = [] := by
 have e0 : s.isEmpty = false := by cases s <;> simp_all
 unfold contB explB
 rw [e0, Bool.false_or, Bool.not_eq_true', List.any_eq_false, List.eq_nil_iff_forall_not_mem]
 constructor
 ·intro ha i hi
  obtain ⟨k, rfl, h1, h2⟩ := mem_vtxR.1 hi
  refine ha (sts l (posAt x k)) (List.mem_map.2 ⟨posAt x k, List.mem_map.2 ⟨k, List.mem_range.2 h1, rfl⟩, rfl⟩) ?_
  unfold rowB
  rw [← sts_sub h]
  exact decide_eq_true h2
 ·intro ha a hm hr
  obtain ⟨p, hp, rfl⟩ := List.mem_map.1 hm
  obtain ⟨k, hk, rfl⟩ := List.mem_map.1 hp
  unfold rowB at hr
  rw [← sts_sub h] at hr
  exact ha k (mem_vtxR.2 ⟨k, rfl, List.mem_range.1 hk, of_decide_eq_true hr⟩)
theorem membs_8 : ((List.range 9).all fun n => (List.range (2 ^ n)).all fun k => decide (membs n k = membs 8 k)) = true := by kernel_rfl
theorem membs_n {n k : Nat} (hn : n ≤ 8) (hk : k < 2 ^ n) : membs n k = membs 8 k := by
 have h := List.all_eq_true.1 membs_8 n (List.mem_range.2 (by omega))
 exact of_decide_eq_true (List.all_eq_true.1 h k (List.mem_range.2 hk))
theorem mem_membs {n s : Nat} {x : Int} (h : x ∈ membs n s) : 0 ≤ x ∧ x < n := by
 unfold membs at h
 obtain ⟨i, hi, rfl⟩ := List.mem_map.1 h
 have := List.mem_range.1 (List.mem_filter.1 hi).1
 omega
theorem membs_0 {n k : Nat} (hn : n ≤ 8) (hk : k < 2 ^ n) (h0 : k ≠ 0) : membs 8 k ≠ [] := by
 obtain ⟨i, hi⟩ := Nat.exists_testBit_of_ne_zero h0
 have hin : i < n := by
  rcases Nat.lt_or_ge i n with h | h
  ·exact h
  ·rw [Nat.testBit_lt_two_pow (Nat.lt_of_lt_of_le hk (Nat.pow_le_pow_right (by decide) h))] at hi; cases hi
 intro e
 have : (i : Int) ∈ membs 8 k := List.mem_map.2 ⟨i, List.mem_filter.2 ⟨List.mem_range.2 (by omega), hi⟩, rfl⟩
 rw [e] at this
 cases this
def cnF (l : List FHit) (x : Lat) : Option (List Int) := foldS (contB (allS l x)) (2 ^ l.length)
def cnE (l : List FHit) (x : Lat) : Int := if bothE l x ≠ 0 then bothE l x else unl (cnF l x).isSome 12
def cnL (l : List FHit) (x : Lat) : List Int := if bothE l x = 0 then (cnF l x).getD [] else []
theorem sub_mem {l : List FHit} {s : List Int} (h : ∀ i ∈ s, 0 ≤ i ∧ i < l.length) : ∀ a ∈ subH l s, a ∈ l := by
 intro a ha
 obtain ⟨i, hi, rfl⟩ := List.mem_map.1 ha
 have := h i hi
 rw [show hitAt l i.toNat = l[i.toNat]'(by omega) by simp [hitAt, List.getD, show i.toNat < l.length by omega]]
 exact List.getElem_mem _
theorem vtx_more {l m : List FHit} {x : Lat} (hm : 0 < m.length) (hl : 0 < l.length) (h : ∀ a ∈ m, a ∈ l) {i : Int} (hi : i ∈ vtxR l x) : i ∈ vtxR m x := by
 obtain ⟨k, rfl, h1, h2⟩ := mem_vtxR.1 hi
 refine mem_vtxR.2 ⟨k, rfl, h1, ?_⟩
 unfold tms at *
 rw [comm_ex (by rw [sts_len]; exact hl)] at h2
 rw [comm_ex (by rw [sts_len]; exact hm)]
 obtain ⟨e, he⟩ := h2
 refine ⟨e, fun g hg => ?_⟩
 obtain ⟨a, ha, rfl⟩ := List.mem_map.1 hg
 exact he _ (List.mem_map.2 ⟨a, h a ha, rfl⟩)
theorem pow_8 {n : Nat} (h : n ≤ 8) : 2 ^ n ≤ 256 := Nat.pow_le_pow_right (n := 2) (by decide) h
theorem cn_rg {l : List FHit} {k : Nat} (hl : okH l) (hk : k < 2 ^ l.length) : ∀ i ∈ membs 8 k, 0 ≤ i ∧ i < l.length := fun i hi => by
 rw [← membs_n hl.2.1 hk] at hi
 exact mem_membs hi
theorem cn_zero (sp : List (List Rg)) : contB sp (membs 8 0) = false := rfl
theorem cn_ok {l : List FHit} {x : Lat} (hl : okH l) : (vtxR l x ≠ [] ∧ cnF l x = none) ∨ (vtxR l x = [] ∧ ∃ k, k < 2 ^ l.length ∧ k ≠ 0 ∧ cnF l x = some (membs 8 k) ∧ contB (allS l x) (membs 8 k) = true ∧ ∀ j, j < 2 ^ l.length → contB (allS l x) (membs 8 j) = true → (membs 8 k).length ≤ (membs 8 j).length) := by
 obtain ⟨g1, g2⟩ := foldS_ok (contB (allS l x)) (2 ^ l.length)
 by_cases hv : vtxR l x = []
 ·right
  refine ⟨hv, ?_⟩
  have hk : 2 ^ l.length - 1 < 2 ^ l.length := by have := Nat.two_pow_pos l.length; omega
  have h0 : 2 ^ l.length - 1 ≠ 0 := by
   have : 2 ^ 1 ≤ 2 ^ l.length := Nat.pow_le_pow_right (by decide) hl.1
   omega
  have hc : contB (allS l x) (membs 8 (2 ^ l.length - 1)) = true := by
   rw [cont_iff (cn_rg hl hk) (membs_0 hl.2.1 hk h0)]
   rw [List.eq_nil_iff_forall_not_mem] at hv ⊢
   intro i hi
   refine hv i (vtx_more hl.1 ?_ ?_ hi)
   ·unfold subH
    rw [List.length_map]
    exact List.length_pos_iff.2 (membs_0 hl.2.1 hk h0)
   ·intro a ha
    obtain ⟨j, hj, rfl⟩ := List.getElem_of_mem ha
    refine List.mem_map.2 ⟨(j : Int), ?_, by simp [hitAt, List.getD, hj]⟩
    have := hl.2.1
    exact List.mem_map.2 ⟨j, List.mem_filter.2 ⟨List.mem_range.2 (by omega), by rw [Nat.testBit_two_pow_sub_one]; exact decide_eq_true hj⟩, rfl⟩
  obtain ⟨b, e1, _⟩ := g1 _ hk hc
  obtain ⟨k, k1, rfl, k3⟩ := g2 b e1
  refine ⟨k, k1, ?_, e1, k3, fun j hj hcj => ?_⟩
  ·intro e
   rw [e, cn_zero] at k3; cases k3
  ·obtain ⟨b', e2, e3⟩ := g1 j hj hcj
   rw [e1] at e2
   cases e2
   exact e3
 ·left
  refine ⟨hv, ?_⟩
  cases hf : cnF l x with
  | none => rfl
  | some b =>
   obtain ⟨k, k1, rfl, k3⟩ := g2 b hf
   have h0 : k ≠ 0 := by intro e; rw [e, cn_zero] at k3; cases k3
   rw [cont_iff (cn_rg hl k1) (membs_0 hl.2.1 k1 h0)] at k3
   obtain ⟨i, hi⟩ := List.exists_mem_of_ne_nil _ hv
   have := vtx_more (m := subH l (membs 8 k)) (by unfold subH; rw [List.length_map]; exact List.length_pos_iff.2 (membs_0 hl.2.1 k1 h0)) hl.1 (sub_mem (cn_rg hl k1)) hi
   rw [k3] at this
   cases this
def owT (p : P3) (y : Int) (h : FHit) : FHit := ⟨h.p, ⟨max 0 (y + dly p h.p - mdF h.t.lo 5), y + dly p h.p + mdF h.t.hi 5⟩, h.c⟩
def wiT (p : P3) (y w : Int) (h : FHit) : FHit := ⟨h.p, ⟨max 0 (max 0 (y + dly p h.p - mdF h.t.lo 5) - w), y + dly p h.p + mdF h.t.hi 5 + w⟩, h.c⟩
theorem mdF_rg {c : Int} (hc : 0 < c ∧ c ≤ 1000) (a : Int) : 0 ≤ mdF a c ∧ mdF a c < c := by
 have h1 := Int.tmod_lt_of_pos a hc.1
 have h2 : -c < Int.tmod a c := by
  have := Int.tmod_lt_of_pos (-a) hc.1
  rw [Int.neg_tmod] at this
  omega
 unfold mdF
 split
 ·rw [wi (by omega)]; omega
 ·omega
theorem err_t {h : FHit} {c : Rg} (e : h.err = 0) (hc : 0 ≤ c.lo ∧ c.lo ≤ c.hi ∧ c.hi ≤ 1000000000) : (⟨h.p, c, h.c⟩ : FHit).err = 0 := by
 obtain ⟨b1, b2, b3⟩ := hit_ok e
 unfold FHit.err rgIn rgE
 simp only
 rw [posE_0.2 b1, (unl_0 (by decide)).2 (show (inB c.lo 0 1000000000 && inB c.hi 0 1000000000 && (inB h.c.lo 0 1000000 && inB h.c.hi 0 1000000)) = true by simp only [Bool.and_eq_true, inB_true]; omega), (unl_0 (by decide)).2 (decide_eq_true hc.2.1), (unl_0 (by decide)).2 (decide_eq_true b3.2.1)]
 rfl
theorem ot_ok {p : P3} {y w : Int} {l : List FHit} (hp : p.bd 15000) (hy : 0 ≤ y ∧ y ≤ 1000000) (hw : 0 ≤ w ∧ w ≤ 1000) (hl : okH l) : okH (l.map (owT p y)) ∧ okH (l.map (wiT p y w)) := by
 refine ⟨⟨by rw [List.length_map]; exact hl.1, by rw [List.length_map]; exact hl.2.1, fun x hx => ?_⟩, ⟨by rw [List.length_map]; exact hl.1, by rw [List.length_map]; exact hl.2.1, fun x hx => ?_⟩⟩
 all_goals
  obtain ⟨h, hh, rfl⟩ := List.mem_map.1 hx
  have d := dly_rg hp ((hit_ok (hl.2.2 h hh)).1.mono (B := 15000) (by decide))
  have m := mdF_rg (c := 5) (by decide) h.t.lo
  have n := mdF_rg (c := 5) (by decide) h.t.hi
  exact err_t (hl.2.2 h hh) (by simp only; omega)
theorem ot_tms {p : P3} {y : Int} {l : List FHit} (hp : p.bd 15000) (hy : 0 ≤ y ∧ y ≤ 1000000) (hl : okH l) : (tms (l.map (owT p y)) p).lo ≤ y ∧ y ≤ (tms (l.map (owT p y)) p).hi := by
 unfold tms
 rw [comm_iff (by rw [sts_len, List.length_map]; exact hl.1)]
 intro g hg
 obtain ⟨a, ha, rfl⟩ := List.mem_map.1 hg
 obtain ⟨h, hh, rfl⟩ := List.mem_map.1 ha
 have d := dly_rg hp ((hit_ok (hl.2.2 h hh)).1.mono (B := 15000) (by decide))
 have m := mdF_rg (c := 5) (by decide) h.t.lo
 have n := mdF_rg (c := 5) (by decide) h.t.hi
 unfold stR owT
 simp only
 omega
theorem ot_wide {p : P3} {y w : Int} {l : List FHit} {x : Lat} (hw : 0 ≤ w ∧ w ≤ 1000) (hl : 0 < l.length) {i : Int} (hi : i ∈ vtxR (l.map (owT p y)) x) : i ∈ vtxR (l.map (wiT p y w)) x := by
 obtain ⟨k, rfl, h1, h2⟩ := mem_vtxR.1 hi
 refine mem_vtxR.2 ⟨k, rfl, h1, ?_⟩
 unfold tms at *
 rw [comm_ex (by rw [sts_len, List.length_map]; exact hl)] at *
 obtain ⟨e, he⟩ := h2
 refine ⟨e, fun g hg => ?_⟩
 obtain ⟨a, ha, rfl⟩ := List.mem_map.1 hg
 obtain ⟨h, hh, rfl⟩ := List.mem_map.1 ha
 have := he (stR (posAt x k) (owT p y h)) (List.mem_map.2 ⟨_, List.mem_map.2 ⟨h, hh, rfl⟩, rfl⟩)
 unfold stR owT at this
 unfold stR wiT
 simp only at *
 omega
theorem truth_law {l : List FHit} {x : Lat} {n y w : Int} (hl : okH l) (hx : latE x = 0) (hn : 0 ≤ n ∧ n < x.sz) (hq : posE (posAt x n) = 0) (hy : 0 ≤ y ∧ y ≤ 1000000) (hw : 0 ≤ w ∧ w ≤ 1000) :
  (okH (l.map (owT (posAt x n) y)) ∧ okH (l.map (wiT (posAt x n) y w))) ∧ (tmsE (l.map (owT (posAt x n) y)) (posAt x n) = 0 ∧ (tmsV (l.map (owT (posAt x n) y)) (posAt x n)).lo ≤ y ∧ y ≤ (tmsV (l.map (owT (posAt x n) y)) (posAt x n)).hi) ∧
  n ∈ vtxR (l.map (owT (posAt x n) y)) x ∧ (boxE (l.map (owT (posAt x n) y)) x = 0 ∧ (boxO (l.map (owT (posAt x n) y)) x).x.lo ≤ (posAt x n).x ∧ (posAt x n).x ≤ (boxO (l.map (owT (posAt x n) y)) x).x.hi ∧ (boxO (l.map (owT (posAt x n) y)) x).y.lo ≤ (posAt x n).y ∧ (posAt x n).y ≤ (boxO (l.map (owT (posAt x n) y)) x).y.hi ∧ (boxO (l.map (owT (posAt x n) y)) x).z.lo ≤ (posAt x n).z ∧ (posAt x n).z ≤ (boxO (l.map (owT (posAt x n) y)) x).z.hi) ∧
  clsM (l.map (owT (posAt x n) y)) x = 0 ∧ cnE (l.map (owT (posAt x n) y)) x = 12 ∧ (∀ i ∈ vtxR (l.map (owT (posAt x n) y)) x, i ∈ vtxR (l.map (wiT (posAt x n) y w)) x) := by
 have hp := posAt_bd hx hn.1 hn.2
 obtain ⟨o1, o2⟩ := ot_ok (l := l) hp hy hw hl
 have t1 := ot_tms hp hy hl
 have hb : bothE (l.map (owT (posAt x n) y)) x = 0 := by unfold bothE; rw [okH_iff.2 o1, hx]; rfl
 have te : tmsE (l.map (owT (posAt x n) y)) (posAt x n) = 0 := by
  rw [show tmsE (l.map (owT (posAt x n) y)) (posAt x n) = _ from if_pos (by rw [okH_iff.2 o1, hq]; rfl), decide_eq_true (by omega)]; rfl
 have tv : tmsV (l.map (owT (posAt x n) y)) (posAt x n) = tms (l.map (owT (posAt x n) y)) (posAt x n) := if_pos te
 have hm : n ∈ vtxR (l.map (owT (posAt x n) y)) x := mem_vtxR.2 ⟨n.toNat, by omega, by omega, by rw [show ((n.toNat : Nat) : Int) = n by omega]; omega⟩
 obtain ⟨j, hj, ej⟩ := mem_getD hm
 have hlen : ¬ (vtxR (l.map (owT (posAt x n) y)) x).length = 0 := by omega
 have be : boxE (l.map (owT (posAt x n) y)) x = 0 := by
  unfold boxE
  rw [if_neg (by rw [hb]; simp), if_neg hlen]
 have bo : boxO (l.map (owT (posAt x n) y)) x = boxF x (vtxR (l.map (owT (posAt x n) y)) x) (vtxR (l.map (owT (posAt x n) y)) x).length := if_pos be
 have bi := boxF_in (x := x) (v := vtxR (l.map (owT (posAt x n) y)) x) (Nat.le_refl _) j hj
 rw [ej] at bi
 refine ⟨⟨o1, o2⟩, ⟨te, by rw [tv]; omega⟩, hm, ⟨be, by rw [bo]; exact bi⟩, ?_, ?_, fun i hi => ot_wide hw hl.1 hi⟩
 ·have hz := sz_rg hx
  rw [show clsM (l.map (owT (posAt x n) y)) x = _ from if_pos hb, opnS_all hb]
  obtain ⟨⟨c1, c2⟩, c3, c4⟩ := clsK_ok (sp := allS (l.map (owT (posAt x n) y)) x) (allS (l.map (owT (posAt x n) y)) x).length (by rw [allS_len]; omega)
  have c5 := c4 n.toNat (by rw [allS_len]; omega)
  rw [sprF_all (by omega), show ((n.toNat : Nat) : Int) = n by omega, spd_0.2 (by omega)] at c5
  rw [allS_len] at c2
  rw [sprF_all (by rw [allS_len]; omega)] at c3
  have := spd_nn (l.map (owT (posAt x n) y)) (posAt x ((clsK (allS (l.map (owT (posAt x n) y)) x) (allS (l.map (owT (posAt x n) y)) x).length).1.toNat))
  omega
 ·unfold cnE
  rw [if_neg (by rw [hb]; simp)]
  rcases cn_ok (x := x) o1 with ⟨_, h⟩ | ⟨h, _⟩
  ·rw [h]; rfl
  ·rw [h] at hm; cases hm
end Go.Proofs.YtmhgjlapkhdlmaaDoor
set_option linter.unusedVariables false
set_option linter.unusedSimpArgs false
namespace Go.Proofs.YtmhgjlapkhdlmaaDoor
open Go.RowKit Ev
def rowOk (s : List Int) (r : List Rg) : Prop := (∀ i ∈ s, 0 ≤ i ∧ i < r.length) ∧ 0 < s.length ∧ s.length ≤ 1000
def exOk (sp : List (List Rg)) (s : List Int) : Prop := (∀ a ∈ sp, ∀ i ∈ s, 0 ≤ i ∧ i < a.length) ∧ s.length ≤ 1000 ∧ sp.length ≤ 1000
def cnOk (q : Int) (sp : List (List Rg)) : Prop := (1 ≤ q ∧ q ≤ 8) ∧ sp.length ≤ 1000 ∧ ∀ a ∈ sp, (a.length : Int) = q
theorem cnOk_ex {q : Int} {sp : List (List Rg)} {k : Nat} (h : cnOk q sp) (hk : k < 2 ^ q.toNat) : exOk sp (membs 8 k) := by
 obtain ⟨h1, h2, h3⟩ := h
 refine ⟨fun a ha i hi => ?_, ?_, h2⟩
 ·rw [← membs_n (n := q.toNat) (by omega) hk] at hi
  have := mem_membs hi
  have := h3 a ha
  omega
 ·have := membs_lt 8 k; omega
theorem cnOk_opn {l : List FHit} {x : Lat} (h : bothE l x = 0) : cnOk (l.length : Nat) (opnS l x) := by
 obtain ⟨h1, h2⟩ := fn2 (show firstNZ [hitsE l, latE x] = 0 from h)
 obtain ⟨⟨z1, z2⟩, z3⟩ := hitsE_ok h1
 have hz := sz_rg h2
 refine ⟨by omega, by rw [opnS_all h, allS_len]; omega, fun a ha => ?_⟩
 rw [opnS_all h] at ha
 obtain ⟨p, hp, rfl⟩ := List.mem_map.1 ha
 rw [sts_len]
def vc_flash_hull (r0 r1 : Int) (a : Int) (post : DV → Prop) : Prop := lt ((if a < r0 then a else r0)) fun x1 => lt ((if a > r1 then a else r1)) fun x2 => post (.t (.a [.v (.int .i64 x1), .v (.int .i64 x2)]))
def ann_flash_hull : Ann := ⟨fun _ => none, fun _ => none, fun _ => [], I1, false, fun _ => none, fun _ => none⟩
theorem ev_flash_hull (J : Inv) (r0 r1 : Int) (a : Int) (post : DV → Prop) : evFn Tryd.prog tab Sx123 ann_flash_hull J Tryd.f134 [.t (.a [.v (.int .i64 r0), .v (.int .i64 r1)]), .t (.c (.v (.int .i64 a)))] post = vc_flash_hull r0 r1 a post := by kernel_rfl
theorem fit_flash_hull : okFn ann_flash_hull Tryd.f134 = true := by kernel_rfl
theorem lp_flash_hull (J : Inv) (post : DV → Prop) : AllG J (loopsFn Tryd.prog tab Sx123 ann_flash_hull J Tryd.f134 post) = (True) := by kernel_rfl
theorem spec_flash_hull (r0 r1 : Int) (a : Int) : vc_flash_hull r0 r1 a (fun r => LeD r (.t (.a [.v (.int .i64 ((hullR (⟨r0, r1⟩ : Rg) a).lo)), .v (.int .i64 ((hullR (⟨r0, r1⟩ : Rg) a).hi))]))) := by
 unfold vc_flash_hull hullR
 refine lt_i fun x1 h1 => lt_i fun x2 h2 => ?_
 rw [mn_if] at h1
 rw [mx_if] at h2
 subst h1 h2
 exact LeD.refl _
def con_flash_hull : Con := fun args => match args with
 | [.t (.a [.v (.int .i64 r0), .v (.int .i64 r1)]), .t (.c (.v (.int .i64 a)))] => some (.t (.a [.v (.int .i64 ((hullR (⟨r0, r1⟩ : Rg) a).lo)), .v (.int .i64 ((hullR (⟨r0, r1⟩ : Rg) a).hi))]), none, false)
 | _ => none
theorem ok_flash_hull : Ok Tryd.prog 134 con_flash_hull := by
 refine Ok.fn (ann := ann_flash_hull) mixed tabOK VSx123 VI1 (fn := Tryd.f134) (by kernel_rfl) (by kernel_rfl) fit_flash_hull fun args r pre fresh h hp => ?_
 unfold con_flash_hull at h
 split at h
 ·rename_i r0 r1 a
  cases h
  refine ⟨rfl, fun _ _ _ => False, _, LeA.refl _, Nat.le_of_ble_eq_true (by kernel_rfl), ?_, ?_⟩
  ·rw [ev_flash_hull]; exact spec_flash_hull r0 r1 a
  ·rw [lp_flash_hull]; trivial
 ·cases h
noncomputable def Sy124 : Sum := addS Sx123 134 con_flash_hull
theorem VSy124 : Valid Tryd.prog Sy124 := Valid.add VSx123 ok_flash_hull
def mk_flash_BoxOf_0 (l : List FHit) (g0 g1 g2 g3 g4 : Int) (v0_0 : Int) (v0_1 : Int) (v0_2 : Int) (v0_3 : Int) (v0_4 : Int) (v0_5 : Int) (v0_6 : List Int) (v0_7 : Int) : DS := ⟨[none, none, none, some (.t (.c (.p 3 0))), some (.t (.c (.p 4 0))), none, none, none, none, none, some (.t (.c (.p 10 0))), none, none, none, none, none, none, none, none, none, none, none, none, none, none, none, none, none, none, none, none, none, none, none, none, none, none, none, none, none, none, none, none, none, none, none, none, none, none, none, none, some (.t (.c (.os 51))), some (.t (.c (.v (.int .i64 (((vtxL (rlOf ((opnS (listC l.length mkHit (hitsC l)) (⟨⟨g0, g1, g2⟩, g3, g4⟩ : Lat)).length) (rlsC (opnS (listC l.length mkHit (hitsC l)) (⟨⟨g0, g1, g2⟩, g3, g4⟩ : Lat))))).length : Nat) : Int))))), some (.t (.c (.v (.int .i64 v0_7)))), none, none, none, none, none, none, none, none, none, none, none, none, none, none, none, none, none, none, none, none, none, none, none, none], [none, none, none, some (.box 26 [.v (.int .i64 g0), .v (.int .i64 g1), .v (.int .i64 g2), .v (.int .i64 g3), .v (.int .i64 g4)]), some (.box 116 [.v (.int .i64 0), .v (.int .i64 0), .v (.int .i64 0), .v (.int .i64 0), .v (.int .i64 0), .v (.int .i64 0)]), none, none, none, none, none, some (.box 116 [.v (.int .i64 v0_0), .v (.int .i64 v0_1), .v (.int .i64 v0_2), .v (.int .i64 v0_3), .v (.int .i64 v0_4), .v (.int .i64 v0_5)]), none, none, none, none, none, none, none, none, none, none, none, none, none, none, none, none, none, none, none, none, none, none, none, none, none, none, none, none, none, none, none, none, none, none, none, none, none, none, none, none, some (.num 3 .i64 v0_6), none, none, none, none, none, none, none, none, none, none, none, none, none, none, none, none, none, none, none, none, none, none, none, none, none, none]⟩
def vc_flash_BoxOf (J : Inv) (l : List FHit) (g0 g1 g2 g3 g4 : Int) (post : DV → Prop) : Prop := (numsP 7 l.length (hitsC l)) ∧ (cond ((bothE (listC l.length mkHit (hitsC l)) (⟨⟨g0, g1, g2⟩, g3, g4⟩ : Lat)) != (0 : Int)) (post (.tu [.a [.v (.int .i64 0), .v (.int .i64 0), .v (.int .i64 0), .v (.int .i64 0), .v (.int .i64 0), .v (.int .i64 0)], .c (.v (.int .i64 (bothE (listC l.length mkHit (hitsC l)) (⟨⟨g0, g1, g2⟩, g3, g4⟩ : Lat))))])) ((numsP 7 ((opnH (listC l.length mkHit (hitsC l)) (⟨⟨g0, g1, g2⟩, g3, g4⟩ : Lat)).length) (hitsC (opnH (listC l.length mkHit (hitsC l)) (⟨⟨g0, g1, g2⟩, g3, g4⟩ : Lat))) ∧ rlP ((opnS (listC l.length mkHit (hitsC l)) (⟨⟨g0, g1, g2⟩, g3, g4⟩ : Lat)).length) (rlsC (opnS (listC l.length mkHit (hitsC l)) (⟨⟨g0, g1, g2⟩, g3, g4⟩ : Lat))) ∧ spOk (rlOf ((opnS (listC l.length mkHit (hitsC l)) (⟨⟨g0, g1, g2⟩, g3, g4⟩ : Lat)).length) (rlsC (opnS (listC l.length mkHit (hitsC l)) (⟨⟨g0, g1, g2⟩, g3, g4⟩ : Lat))))) ∧ (cond ((((vtxL (rlOf ((opnS (listC l.length mkHit (hitsC l)) (⟨⟨g0, g1, g2⟩, g3, g4⟩ : Lat)).length) (rlsC (opnS (listC l.length mkHit (hitsC l)) (⟨⟨g0, g1, g2⟩, g3, g4⟩ : Lat))))).length : Nat) : Int) == (0 : Int)) (post (.tu [.a [.v (.int .i64 0), .v (.int .i64 0), .v (.int .i64 0), .v (.int .i64 0), .v (.int .i64 0), .v (.int .i64 0)], .c (.v (.int .i64 12))])) ((0 ≤ (0 : Int) ∧ (0 : Int) < (((vtxL (rlOf ((opnS (listC l.length mkHit (hitsC l)) (⟨⟨g0, g1, g2⟩, g3, g4⟩ : Lat)).length) (rlsC (opnS (listC l.length mkHit (hitsC l)) (⟨⟨g0, g1, g2⟩, g3, g4⟩ : Lat))))).length : Nat) : Int)) ∧ ((0 < (vtxL (rlOf ((opnS (listC l.length mkHit (hitsC l)) (⟨⟨g0, g1, g2⟩, g3, g4⟩ : Lat)).length) (rlsC (opnS (listC l.length mkHit (hitsC l)) (⟨⟨g0, g1, g2⟩, g3, g4⟩ : Lat))))).length) ∧ ((latE (⟨⟨g0, g1, g2⟩, g3, g4⟩ : Lat) = 0 ∧ 0 ≤ ((vtxL (rlOf ((opnS (listC l.length mkHit (hitsC l)) (⟨⟨g0, g1, g2⟩, g3, g4⟩ : Lat)).length) (rlsC (opnS (listC l.length mkHit (hitsC l)) (⟨⟨g0, g1, g2⟩, g3, g4⟩ : Lat))))).getD 0 0) ∧ ((vtxL (rlOf ((opnS (listC l.length mkHit (hitsC l)) (⟨⟨g0, g1, g2⟩, g3, g4⟩ : Lat)).length) (rlsC (opnS (listC l.length mkHit (hitsC l)) (⟨⟨g0, g1, g2⟩, g3, g4⟩ : Lat))))).getD 0 0) < ((⟨⟨g0, g1, g2⟩, g3, g4⟩ : Lat)).sz) ∧ (∃ n, J 0 (n :: []) (mk_flash_BoxOf_0 l g0 g1 g2 g3 g4 ((posAt (⟨⟨g0, g1, g2⟩, g3, g4⟩ : Lat) ((vtxL (rlOf ((opnS (listC l.length mkHit (hitsC l)) (⟨⟨g0, g1, g2⟩, g3, g4⟩ : Lat)).length) (rlsC (opnS (listC l.length mkHit (hitsC l)) (⟨⟨g0, g1, g2⟩, g3, g4⟩ : Lat))))).getD 0 0)).x) ((posAt (⟨⟨g0, g1, g2⟩, g3, g4⟩ : Lat) ((vtxL (rlOf ((opnS (listC l.length mkHit (hitsC l)) (⟨⟨g0, g1, g2⟩, g3, g4⟩ : Lat)).length) (rlsC (opnS (listC l.length mkHit (hitsC l)) (⟨⟨g0, g1, g2⟩, g3, g4⟩ : Lat))))).getD 0 0)).x) ((posAt (⟨⟨g0, g1, g2⟩, g3, g4⟩ : Lat) ((vtxL (rlOf ((opnS (listC l.length mkHit (hitsC l)) (⟨⟨g0, g1, g2⟩, g3, g4⟩ : Lat)).length) (rlsC (opnS (listC l.length mkHit (hitsC l)) (⟨⟨g0, g1, g2⟩, g3, g4⟩ : Lat))))).getD 0 0)).y) ((posAt (⟨⟨g0, g1, g2⟩, g3, g4⟩ : Lat) ((vtxL (rlOf ((opnS (listC l.length mkHit (hitsC l)) (⟨⟨g0, g1, g2⟩, g3, g4⟩ : Lat)).length) (rlsC (opnS (listC l.length mkHit (hitsC l)) (⟨⟨g0, g1, g2⟩, g3, g4⟩ : Lat))))).getD 0 0)).y) ((posAt (⟨⟨g0, g1, g2⟩, g3, g4⟩ : Lat) ((vtxL (rlOf ((opnS (listC l.length mkHit (hitsC l)) (⟨⟨g0, g1, g2⟩, g3, g4⟩ : Lat)).length) (rlsC (opnS (listC l.length mkHit (hitsC l)) (⟨⟨g0, g1, g2⟩, g3, g4⟩ : Lat))))).getD 0 0)).z) ((posAt (⟨⟨g0, g1, g2⟩, g3, g4⟩ : Lat) ((vtxL (rlOf ((opnS (listC l.length mkHit (hitsC l)) (⟨⟨g0, g1, g2⟩, g3, g4⟩ : Lat)).length) (rlsC (opnS (listC l.length mkHit (hitsC l)) (⟨⟨g0, g1, g2⟩, g3, g4⟩ : Lat))))).getD 0 0)).z) (vtxL (rlOf ((opnS (listC l.length mkHit (hitsC l)) (⟨⟨g0, g1, g2⟩, g3, g4⟩ : Lat)).length) (rlsC (opnS (listC l.length mkHit (hitsC l)) (⟨⟨g0, g1, g2⟩, g3, g4⟩ : Lat))))) 0))))))))
def ann_flash_BoxOf : Ann := ⟨fun r => lookA r [(7, ([[], [], [1], [1, 2], [0, 1, 2, 3], [], [0, 1, 2, 3, 4, 5]], [[34, 9], [34, 9], [34, 9], [34, 9], [9], [34], []])), (13, ([[], [0], [], [2], [0, 1, 2, 3], [], [5], [], [7], [0, 1, 2, 3, 4, 5, 6, 7, 8], [], [10], [], [12], [0, 1, 2, 3, 4, 5, 6, 7, 8, 9, 10, 11, 12, 13], [0, 1, 2, 3, 4, 5, 6, 7, 8, 9, 10, 11, 12, 13, 14], [0, 1, 2, 3, 4, 5, 6, 7, 8, 9, 10, 11, 12, 13, 14, 15]], [[64, 69, 74], [64, 69, 74], [64, 69, 74], [64, 69, 74], [69, 74], [64, 69, 74], [64, 69, 74], [64, 69, 74], [64, 69, 74], [74], [64, 69, 74], [64, 69, 74], [64, 69, 74], [64, 69, 74], [], [], []]))], fun b => lookA b [(0, (none, some ⟨[3, 4, 10, 52, 53], [3, 4, 10], [(51, .num 3 .i64 ([]))]⟩))], fun _ => [], I1, false, fun _ => none, fun _ => none⟩
theorem ev_flash_BoxOf (J : Inv) (l : List FHit) (g0 g1 g2 g3 g4 : Int) (post : DV → Prop) : evFn Tryd.prog tab Sy124 ann_flash_BoxOf J Tryd.f70 [.t (.c (.sl 7 l.length (hitsC l))), .t (.a [.v (.int .i64 g0), .v (.int .i64 g1), .v (.int .i64 g2), .v (.int .i64 g3), .v (.int .i64 g4)])] post = vc_flash_BoxOf J l g0 g1 g2 g3 g4 post := by kernel_rfl
theorem fit_flash_BoxOf : okFn ann_flash_BoxOf Tryd.f70 = true := by kernel_rfl
def rd_flash_BoxOf_0 (J : Inv) (l : List FHit) (g0 g1 g2 g3 g4 : Int) (v0_0 : Int) (v0_1 : Int) (v0_2 : Int) (v0_3 : Int) (v0_4 : Int) (v0_5 : Int) (v0_6 : List Int) (v0_7 : Int) (nn0 : Nat) (post : DV → Prop) : Prop := cond (decide (v0_7 < (((vtxL (rlOf ((opnS (listC l.length mkHit (hitsC l)) (⟨⟨g0, g1, g2⟩, g3, g4⟩ : Lat)).length) (rlsC (opnS (listC l.length mkHit (hitsC l)) (⟨⟨g0, g1, g2⟩, g3, g4⟩ : Lat))))).length : Nat) : Int))) ((0 ≤ v0_7 ∧ v0_7 < ((v0_6.length : Nat) : Int)) ∧ (((v0_7).toNat < v0_6.length) ∧ ((latE (⟨⟨g0, g1, g2⟩, g3, g4⟩ : Lat) = 0 ∧ 0 ≤ (v0_6.getD (v0_7).toNat 0) ∧ (v0_6.getD (v0_7).toNat 0) < ((⟨⟨g0, g1, g2⟩, g3, g4⟩ : Lat)).sz) ∧ (lt (IntKind.i64.wrap (v0_7 + (1 : Int))) fun x1 => J 0 (nn0 :: []) (mk_flash_BoxOf_0 l g0 g1 g2 g3 g4 ((hullR (⟨v0_0, v0_1⟩ : Rg) ((posAt (⟨⟨g0, g1, g2⟩, g3, g4⟩ : Lat) (v0_6.getD (v0_7).toNat 0)).x)).lo) ((hullR (⟨v0_0, v0_1⟩ : Rg) ((posAt (⟨⟨g0, g1, g2⟩, g3, g4⟩ : Lat) (v0_6.getD (v0_7).toNat 0)).x)).hi) ((hullR (⟨v0_2, v0_3⟩ : Rg) ((posAt (⟨⟨g0, g1, g2⟩, g3, g4⟩ : Lat) (v0_6.getD (v0_7).toNat 0)).y)).lo) ((hullR (⟨v0_2, v0_3⟩ : Rg) ((posAt (⟨⟨g0, g1, g2⟩, g3, g4⟩ : Lat) (v0_6.getD (v0_7).toNat 0)).y)).hi) ((hullR (⟨v0_4, v0_5⟩ : Rg) ((posAt (⟨⟨g0, g1, g2⟩, g3, g4⟩ : Lat) (v0_6.getD (v0_7).toNat 0)).z)).lo) ((hullR (⟨v0_4, v0_5⟩ : Rg) ((posAt (⟨⟨g0, g1, g2⟩, g3, g4⟩ : Lat) (v0_6.getD (v0_7).toNat 0)).z)).hi) v0_6 x1))))) (post (.tu [.a [.v (.int .i64 v0_0), .v (.int .i64 v0_1), .v (.int .i64 v0_2), .v (.int .i64 v0_3), .v (.int .i64 v0_4), .v (.int .i64 v0_5)], .c (.v (.int .i64 0))]))
theorem er_flash_BoxOf_0 (J : Inv) (l : List FHit) (g0 g1 g2 g3 g4 : Int) (v0_0 : Int) (v0_1 : Int) (v0_2 : Int) (v0_3 : Int) (v0_4 : Int) (v0_5 : Int) (v0_6 : List Int) (v0_7 : Int) (nn0 : Nat) (post : DV → Prop) : round Tryd.prog tab Sy124 ann_flash_BoxOf J Tryd.f70 post 0 (nn0 :: []) (mk_flash_BoxOf_0 l g0 g1 g2 g3 g4 v0_0 v0_1 v0_2 v0_3 v0_4 v0_5 v0_6 v0_7) = rd_flash_BoxOf_0 J l g0 g1 g2 g3 g4 v0_0 v0_1 v0_2 v0_3 v0_4 v0_5 v0_6 v0_7 nn0 post := by kernel_rfl
theorem lp_flash_BoxOf (J : Inv) (post : DV → Prop) : AllG J (loopsFn Tryd.prog tab Sy124 ann_flash_BoxOf J Tryd.f70 post) = (((∀ F s, ¬ J 0 (0 :: F) s) ∧ ∀ n F s, J 0 ((n + 1) :: F) s → round Tryd.prog tab Sy124 ann_flash_BoxOf J Tryd.f70 post 0 (n :: F) s) ∧ True) := by kernel_rfl
def J_flash_BoxOf (l : List FHit) (g0 g1 g2 g3 g4 : Int) : Inv := fun b F s => match b, F with
 | 0, [nn0] => ∃ (v0_0 : Int) (v0_1 : Int) (v0_2 : Int) (v0_3 : Int) (v0_4 : Int) (v0_5 : Int) (v0_6 : List Int) (v0_7 : Int), s = mk_flash_BoxOf_0 l g0 g1 g2 g3 g4 v0_0 v0_1 v0_2 v0_3 v0_4 v0_5 v0_6 v0_7 ∧ (bothE l (⟨⟨g0, g1, g2⟩, g3, g4⟩ : Lat) = 0 ∧ 0 < (vtxR l (⟨⟨g0, g1, g2⟩, g3, g4⟩ : Lat)).length ∧ 0 ≤ v0_7 ∧ v0_7 ≤ (vtxR l (⟨⟨g0, g1, g2⟩, g3, g4⟩ : Lat)).length ∧ (nn0 : Int) + v0_7 = (vtxR l (⟨⟨g0, g1, g2⟩, g3, g4⟩ : Lat)).length + 1 ∧ (⟨⟨v0_0, v0_1⟩, ⟨v0_2, v0_3⟩, ⟨v0_4, v0_5⟩⟩ : Bx6) = boxF (⟨⟨g0, g1, g2⟩, g3, g4⟩ : Lat) (vtxR l (⟨⟨g0, g1, g2⟩, g3, g4⟩ : Lat)) v0_7.toNat ∧ v0_6 = vtxR l (⟨⟨g0, g1, g2⟩, g3, g4⟩ : Lat))
 | _, _ => False
set_option maxHeartbeats 8000000 in
set_option maxRecDepth 100000 in
theorem rnd_flash_BoxOf_0 (l : List FHit) (g0 g1 g2 g3 g4 : Int) (v0_0 : Int) (v0_1 : Int) (v0_2 : Int) (v0_3 : Int) (v0_4 : Int) (v0_5 : Int) (v0_6 : List Int) (v0_7 : Int) (nn0 : Nat) (hi : bothE l (⟨⟨g0, g1, g2⟩, g3, g4⟩ : Lat) = 0 ∧ 0 < (vtxR l (⟨⟨g0, g1, g2⟩, g3, g4⟩ : Lat)).length ∧ 0 ≤ v0_7 ∧ v0_7 ≤ (vtxR l (⟨⟨g0, g1, g2⟩, g3, g4⟩ : Lat)).length ∧ ((nn0 + 1) : Int) + v0_7 = (vtxR l (⟨⟨g0, g1, g2⟩, g3, g4⟩ : Lat)).length + 1 ∧ (⟨⟨v0_0, v0_1⟩, ⟨v0_2, v0_3⟩, ⟨v0_4, v0_5⟩⟩ : Bx6) = boxF (⟨⟨g0, g1, g2⟩, g3, g4⟩ : Lat) (vtxR l (⟨⟨g0, g1, g2⟩, g3, g4⟩ : Lat)) v0_7.toNat ∧ v0_6 = vtxR l (⟨⟨g0, g1, g2⟩, g3, g4⟩ : Lat)) : rd_flash_BoxOf_0 (J_flash_BoxOf l g0 g1 g2 g3 g4) l g0 g1 g2 g3 g4 v0_0 v0_1 v0_2 v0_3 v0_4 v0_5 v0_6 v0_7 nn0 (fun r => LeD r (.tu [.a [.v (.int .i64 ((boxO l (⟨⟨g0, g1, g2⟩, g3, g4⟩ : Lat)).x.lo)), .v (.int .i64 ((boxO l (⟨⟨g0, g1, g2⟩, g3, g4⟩ : Lat)).x.hi)), .v (.int .i64 ((boxO l (⟨⟨g0, g1, g2⟩, g3, g4⟩ : Lat)).y.lo)), .v (.int .i64 ((boxO l (⟨⟨g0, g1, g2⟩, g3, g4⟩ : Lat)).y.hi)), .v (.int .i64 ((boxO l (⟨⟨g0, g1, g2⟩, g3, g4⟩ : Lat)).z.lo)), .v (.int .i64 ((boxO l (⟨⟨g0, g1, g2⟩, g3, g4⟩ : Lat)).z.hi))], .c (.v (.int .i64 (boxE l (⟨⟨g0, g1, g2⟩, g3, g4⟩ : Lat))))])) := by
 obtain ⟨h, i0, i1, i2, i3, i4, rfl⟩ := hi
 obtain ⟨k, rfl⟩ : ∃ k : Nat, v0_7 = k := ⟨v0_7.toNat, by omega⟩
 have hk : (k : Int).toNat = k := rfl
 rw [hk] at i4
 unfold rd_flash_BoxOf_0
 have eV : vtxL (opnS l (⟨⟨g0, g1, g2⟩, g3, g4⟩ : Lat)) = vtxR l (⟨⟨g0, g1, g2⟩, g3, g4⟩ : Lat) := by rw [opnS_all h]; rfl
 have hx := (fn2 (show firstNZ [hitsE l, latE (⟨⟨g0, g1, g2⟩, g3, g4⟩ : Lat)] = 0 from h)).2
 have q := vtxR_len l (⟨⟨g0, g1, g2⟩, g3, g4⟩ : Lat)
 have hz := sz_rg hx
 simp only [hits_listC, rls_of, eV, hk]
 refine cond_i (fun g => ?_) (fun g => ?_)
 ·have hlt : k < (vtxR l (⟨⟨g0, g1, g2⟩, g3, g4⟩ : Lat)).length := by have := of_decide_eq_true g; omega
  have r := vtxR_rg (getD_mem hlt)
  refine ⟨by omega, by omega, ⟨hx, r⟩, lt_i fun x h1 => ?_⟩
  rw [wi (by omega)] at h1
  subst h1
  refine ⟨_, _, _, _, _, _, _, _, rfl, h, i0, by omega, by omega, by omega, ?_, rfl⟩
  rw [show ((k : Int) + 1).toNat = k + 1 by omega, boxF_succ hlt, ← i4]; rfl
 ·have hge : k = (vtxR l (⟨⟨g0, g1, g2⟩, g3, g4⟩ : Lat)).length := by have := of_decide_eq_false g; omega
  have e : ¬ (vtxR l (⟨⟨g0, g1, g2⟩, g3, g4⟩ : Lat)).length = 0 := by omega
  have e2 : boxE l (⟨⟨g0, g1, g2⟩, g3, g4⟩ : Lat) = 0 := by unfold boxE; rw [if_neg (by rw [h]; simp), if_neg e]
  rw [show boxO l (⟨⟨g0, g1, g2⟩, g3, g4⟩ : Lat) = _ from if_pos e2, ← hge, ← i4, e2]
  exact LeD.refl _
theorem zero_flash_BoxOf_0 (l : List FHit) (g0 g1 g2 g3 g4 : Int) (v0_0 : Int) (v0_1 : Int) (v0_2 : Int) (v0_3 : Int) (v0_4 : Int) (v0_5 : Int) (v0_6 : List Int) (v0_7 : Int)  (hi : bothE l (⟨⟨g0, g1, g2⟩, g3, g4⟩ : Lat) = 0 ∧ 0 < (vtxR l (⟨⟨g0, g1, g2⟩, g3, g4⟩ : Lat)).length ∧ 0 ≤ v0_7 ∧ v0_7 ≤ (vtxR l (⟨⟨g0, g1, g2⟩, g3, g4⟩ : Lat)).length ∧ (0 : Int) + v0_7 = (vtxR l (⟨⟨g0, g1, g2⟩, g3, g4⟩ : Lat)).length + 1 ∧ (⟨⟨v0_0, v0_1⟩, ⟨v0_2, v0_3⟩, ⟨v0_4, v0_5⟩⟩ : Bx6) = boxF (⟨⟨g0, g1, g2⟩, g3, g4⟩ : Lat) (vtxR l (⟨⟨g0, g1, g2⟩, g3, g4⟩ : Lat)) v0_7.toNat ∧ v0_6 = vtxR l (⟨⟨g0, g1, g2⟩, g3, g4⟩ : Lat)) : False := by
 omega
set_option maxHeartbeats 8000000 in
set_option maxRecDepth 100000 in
theorem spec_flash_BoxOf (l : List FHit) (g0 g1 g2 g3 g4 : Int) : vc_flash_BoxOf (J_flash_BoxOf l g0 g1 g2 g3 g4) l g0 g1 g2 g3 g4 (fun r => LeD r (.tu [.a [.v (.int .i64 ((boxO l (⟨⟨g0, g1, g2⟩, g3, g4⟩ : Lat)).x.lo)), .v (.int .i64 ((boxO l (⟨⟨g0, g1, g2⟩, g3, g4⟩ : Lat)).x.hi)), .v (.int .i64 ((boxO l (⟨⟨g0, g1, g2⟩, g3, g4⟩ : Lat)).y.lo)), .v (.int .i64 ((boxO l (⟨⟨g0, g1, g2⟩, g3, g4⟩ : Lat)).y.hi)), .v (.int .i64 ((boxO l (⟨⟨g0, g1, g2⟩, g3, g4⟩ : Lat)).z.lo)), .v (.int .i64 ((boxO l (⟨⟨g0, g1, g2⟩, g3, g4⟩ : Lat)).z.hi))], .c (.v (.int .i64 (boxE l (⟨⟨g0, g1, g2⟩, g3, g4⟩ : Lat))))])) := by
 unfold vc_flash_BoxOf
 simp only [hits_listC, rls_of]
 refine ⟨numsP_hits l, cond_i (fun h => ?_) (fun h => ⟨⟨numsP_hits _, rlP_rls _, spOk_opn (by simpa using h)⟩, cond_i (fun e => ?_) (fun e => ?_)⟩)⟩
 ·have h : bothE l (⟨⟨g0, g1, g2⟩, g3, g4⟩ : Lat) ≠ 0 := by simpa using h
  have e : boxE l (⟨⟨g0, g1, g2⟩, g3, g4⟩ : Lat) = bothE l (⟨⟨g0, g1, g2⟩, g3, g4⟩ : Lat) := if_pos h
  rw [show boxO l (⟨⟨g0, g1, g2⟩, g3, g4⟩ : Lat) = Bx6.zero from if_neg (by rw [e]; exact h), e]
  exact LeD.refl _
 all_goals
  have h : bothE l (⟨⟨g0, g1, g2⟩, g3, g4⟩ : Lat) = 0 := by simpa using h
  have eV : vtxL (opnS l (⟨⟨g0, g1, g2⟩, g3, g4⟩ : Lat)) = vtxR l (⟨⟨g0, g1, g2⟩, g3, g4⟩ : Lat) := by rw [opnS_all h]; rfl
  simp only [eV] at e ⊢
 ·have e : (vtxR l (⟨⟨g0, g1, g2⟩, g3, g4⟩ : Lat)).length = 0 := by simpa using e
  have e2 : boxE l (⟨⟨g0, g1, g2⟩, g3, g4⟩ : Lat) = 12 := by unfold boxE; rw [if_neg (by rw [h]; simp), if_pos e]
  rw [show boxO l (⟨⟨g0, g1, g2⟩, g3, g4⟩ : Lat) = Bx6.zero from if_neg (by rw [e2]; decide), e2]
  exact LeD.refl _
 ·have e : (vtxR l (⟨⟨g0, g1, g2⟩, g3, g4⟩ : Lat)).length ≠ 0 := by simpa using e
  have r := vtxR_rg (getD_mem (l := vtxR l (⟨⟨g0, g1, g2⟩, g3, g4⟩ : Lat)) (k := 0) (by omega))
  have q := vtxR_len l (⟨⟨g0, g1, g2⟩, g3, g4⟩ : Lat)
  exact ⟨by omega, by omega, ⟨(fn2 (show firstNZ [hitsE l, latE (⟨⟨g0, g1, g2⟩, g3, g4⟩ : Lat)] = 0 from h)).2, r⟩, (vtxR l (⟨⟨g0, g1, g2⟩, g3, g4⟩ : Lat)).length + 1, _, _, _, _, _, _, _, _, rfl, h, by omega, by omega, by omega, by omega, rfl, rfl⟩
theorem all_flash_BoxOf (l : List FHit) (g0 g1 g2 g3 g4 : Int) : AllG (J_flash_BoxOf l g0 g1 g2 g3 g4) (loopsFn Tryd.prog tab Sy124 ann_flash_BoxOf (J_flash_BoxOf l g0 g1 g2 g3 g4) Tryd.f70 (fun r => LeD r (.tu [.a [.v (.int .i64 ((boxO l (⟨⟨g0, g1, g2⟩, g3, g4⟩ : Lat)).x.lo)), .v (.int .i64 ((boxO l (⟨⟨g0, g1, g2⟩, g3, g4⟩ : Lat)).x.hi)), .v (.int .i64 ((boxO l (⟨⟨g0, g1, g2⟩, g3, g4⟩ : Lat)).y.lo)), .v (.int .i64 ((boxO l (⟨⟨g0, g1, g2⟩, g3, g4⟩ : Lat)).y.hi)), .v (.int .i64 ((boxO l (⟨⟨g0, g1, g2⟩, g3, g4⟩ : Lat)).z.lo)), .v (.int .i64 ((boxO l (⟨⟨g0, g1, g2⟩, g3, g4⟩ : Lat)).z.hi))], .c (.v (.int .i64 (boxE l (⟨⟨g0, g1, g2⟩, g3, g4⟩ : Lat))))]))) := by
 rw [lp_flash_BoxOf]
 refine ⟨⟨?_, ?_⟩, trivial⟩
 ·intro F s h
  obtain _ | ⟨g, F⟩ := F
  case cons => exact h.elim
  obtain ⟨w0, w1, w2, w3, w4, w5, w6, w7, rfl, hi⟩ := h
  exact zero_flash_BoxOf_0 l g0 g1 g2 g3 g4 w0 w1 w2 w3 w4 w5 w6 w7 hi
 ·intro n F s h
  obtain _ | ⟨g, F⟩ := F
  case cons => exact h.elim
  obtain ⟨w0, w1, w2, w3, w4, w5, w6, w7, rfl, hi⟩ := h
  rw [er_flash_BoxOf_0]
  exact rnd_flash_BoxOf_0 l g0 g1 g2 g3 g4 _ _ _ _ _ _ _ _ _ hi
def con_flash_BoxOf : Con := fun args => match args with
 | [.t (.c (.sl 7 n_l c_l)), .t (.a [.v (.int .i64 g0), .v (.int .i64 g1), .v (.int .i64 g2), .v (.int .i64 g3), .v (.int .i64 g4)])] => some (.tu [.a [.v (.int .i64 ((boxO (listC n_l mkHit c_l) (⟨⟨g0, g1, g2⟩, g3, g4⟩ : Lat)).x.lo)), .v (.int .i64 ((boxO (listC n_l mkHit c_l) (⟨⟨g0, g1, g2⟩, g3, g4⟩ : Lat)).x.hi)), .v (.int .i64 ((boxO (listC n_l mkHit c_l) (⟨⟨g0, g1, g2⟩, g3, g4⟩ : Lat)).y.lo)), .v (.int .i64 ((boxO (listC n_l mkHit c_l) (⟨⟨g0, g1, g2⟩, g3, g4⟩ : Lat)).y.hi)), .v (.int .i64 ((boxO (listC n_l mkHit c_l) (⟨⟨g0, g1, g2⟩, g3, g4⟩ : Lat)).z.lo)), .v (.int .i64 ((boxO (listC n_l mkHit c_l) (⟨⟨g0, g1, g2⟩, g3, g4⟩ : Lat)).z.hi))], .c (.v (.int .i64 (boxE (listC n_l mkHit c_l) (⟨⟨g0, g1, g2⟩, g3, g4⟩ : Lat))))], some (numsP 7 n_l c_l), false)
 | _ => none
theorem ok_flash_BoxOf : Ok Tryd.prog 70 con_flash_BoxOf := by
 refine Ok.fn (ann := ann_flash_BoxOf) mixed tabOK VSy124 VI1 (fn := Tryd.f70) (by kernel_rfl) (by kernel_rfl) fit_flash_BoxOf fun args r pre fresh h hp => ?_
 unfold con_flash_BoxOf at h
 split at h
 ·rename_i n_l c_l g0 g1 g2 g3 g4
  cases h
  have hp0 := hp
  refine ⟨rfl, J_flash_BoxOf (listC n_l mkHit c_l) g0 g1 g2 g3 g4, [.t (.c (.sl 7 ((listC n_l mkHit c_l).length) (hitsC (listC n_l mkHit c_l)))), .t (.a [.v (.int .i64 g0), .v (.int .i64 g1), .v (.int .i64 g2), .v (.int .i64 g3), .v (.int .i64 g4)])], ?_, Nat.le_of_ble_eq_true (by kernel_rfl), ?_, ?_⟩
  ·exact (LeA_cons (leT_c ((leL_FHit hp0))) (LeA_cons (LeD.refl _) LeA_nil))
  ·rw [ev_flash_BoxOf]; exact spec_flash_BoxOf (listC n_l mkHit c_l) g0 g1 g2 g3 g4
  ·exact all_flash_BoxOf (listC n_l mkHit c_l) g0 g1 g2 g3 g4
 ·cases h
noncomputable def Sy125 : Sum := addS Sy124 70 con_flash_BoxOf
theorem VSy125 : Valid Tryd.prog Sy125 := Valid.add VSy124 ok_flash_BoxOf
def mk_cherenkov_flash_search_explained_1_0 (a : List Rg) (v : List Int) (v0_0 : List (List CV)) (v0_1 : Int) : DS := ⟨[some (.t (.c (.sl 2 a.length (rgsC a)))), none, none, none, some (.t (.c (.os 4))), none, none, none, some (.t (.c (.sl 1 v.length (intsC v)))), some (.t (.c (.v (.int .i64 ((v.length : Nat) : Int))))), some (.t (.c (.v (.int .i64 v0_1)))), none, none, none, none, none, none, none, none, none, none, none, none, none, none, none, none, none, none], [none, none, none, none, some (.gen 94 2 v0_0), none, none, none, none, none, none, none, none, none, none, none, none, none, none, none, none, none, none, none, none, none, none, none, none]⟩
def vc_cherenkov_flash_search_explained_1 (J : Inv) (a : List Rg) (v : List Int) (post : DV → Prop) : Prop := ∃ n, J 0 (n :: []) (mk_cherenkov_flash_search_explained_1_0 a v ([]) 0)
def ann_cherenkov_flash_search_explained_1 : Ann := ⟨fun _ => none, fun b => lookA b [(0, (none, some ⟨[0, 8, 9, 10], [], [(4, .gen 94 2 [])]⟩))], fun _ => [], I1, false, fun _ => none, fun _ => none⟩
theorem ev_cherenkov_flash_search_explained_1 (J : Inv) (a : List Rg) (v : List Int) (post : DV → Prop) : evFn Tryd.prog tab Sy125 ann_cherenkov_flash_search_explained_1 J Tryd.f154 [.t (.c (.sl 2 a.length (rgsC a))), .t (.c (.px 1 0 (boxC [.sl 1 v.length (intsC v)])))] post = vc_cherenkov_flash_search_explained_1 J a v post := by kernel_rfl
theorem fit_cherenkov_flash_search_explained_1 : okFn ann_cherenkov_flash_search_explained_1 Tryd.f154 = true := by kernel_rfl
def rd_cherenkov_flash_search_explained_1_0 (J : Inv) (a : List Rg) (v : List Int) (v0_0 : List (List CV)) (v0_1 : Int) (nn0 : Nat) (post : DV → Prop) : Prop := cond (decide (v0_1 < ((v.length : Nat) : Int))) ((0 ≤ v0_1 ∧ v0_1 < ((v.length : Nat) : Int)) ∧ ((0 ≤ (v.getD v0_1.toNat 0) ∧ (v.getD v0_1.toNat 0) < ((a.length : Nat) : Int)) ∧ ((roomP 16 (v0_0.length + ([[.v (.int .i64 ((rgAt a ((v.getD v0_1.toNat 0).toNat)).lo)), .v (.int .i64 ((rgAt a ((v.getD v0_1.toNat 0).toNat)).hi))]] : List (List CV)).length)) ∧ (lt (IntKind.i64.wrap (v0_1 + (1 : Int))) fun x1 => J 0 (nn0 :: []) (mk_cherenkov_flash_search_explained_1_0 a v (v0_0 ++ ([[.v (.int .i64 ((rgAt a ((v.getD v0_1.toNat 0).toNat)).lo)), .v (.int .i64 ((rgAt a ((v.getD v0_1.toNat 0).toNat)).hi))]] : List (List CV))) x1))))) ((numsP 2 v0_0.length (genC v0_0) ∧ 0 < ((listC v0_0.length mkRg (genC v0_0))).length ∧ ((listC v0_0.length mkRg (genC v0_0))).length ≤ 1000000) ∧ (post (.t (.c (.v (.bool (decide (((comm (listC v0_0.length mkRg (genC v0_0))).lo) ≤ ((comm (listC v0_0.length mkRg (genC v0_0))).hi)))))))))
theorem er_cherenkov_flash_search_explained_1_0 (J : Inv) (a : List Rg) (v : List Int) (v0_0 : List (List CV)) (v0_1 : Int) (nn0 : Nat) (post : DV → Prop) : round Tryd.prog tab Sy125 ann_cherenkov_flash_search_explained_1 J Tryd.f154 post 0 (nn0 :: []) (mk_cherenkov_flash_search_explained_1_0 a v v0_0 v0_1) = rd_cherenkov_flash_search_explained_1_0 J a v v0_0 v0_1 nn0 post := by kernel_rfl
theorem lp_cherenkov_flash_search_explained_1 (J : Inv) (post : DV → Prop) : AllG J (loopsFn Tryd.prog tab Sy125 ann_cherenkov_flash_search_explained_1 J Tryd.f154 post) = (((∀ F s, ¬ J 0 (0 :: F) s) ∧ ∀ n F s, J 0 ((n + 1) :: F) s → round Tryd.prog tab Sy125 ann_cherenkov_flash_search_explained_1 J Tryd.f154 post 0 (n :: F) s) ∧ True) := by kernel_rfl
def J_cherenkov_flash_search_explained_1 (a : List Rg) (v : List Int) : Inv := fun b F s => match b, F with
 | 0, [nn0] => ∃ (v0_0 : List (List CV)) (v0_1 : Int), s = mk_cherenkov_flash_search_explained_1_0 a v v0_0 v0_1 ∧ (rowOk v a ∧ 0 ≤ v0_1 ∧ v0_1 ≤ v.length ∧ (nn0 : Int) + v0_1 = v.length + 1 ∧ v0_0 = (subR a (v.take v0_1.toNat)).map rgCv)
 | _, _ => False
theorem rnd_cherenkov_flash_search_explained_1_0 (a : List Rg) (v : List Int) (v0_0 : List (List CV)) (v0_1 : Int) (nn0 : Nat) (hp : rowOk v a) (hi : rowOk v a ∧ 0 ≤ v0_1 ∧ v0_1 ≤ v.length ∧ ((nn0 + 1) : Int) + v0_1 = v.length + 1 ∧ v0_0 = (subR a (v.take v0_1.toNat)).map rgCv) : rd_cherenkov_flash_search_explained_1_0 (J_cherenkov_flash_search_explained_1 a v) a v v0_0 v0_1 nn0 (fun r => LeD r (.t (.c (.v (.bool (rowB v a)))))) := by
 obtain ⟨⟨q1, q2, q3⟩, i1, i2, i3, i4⟩ := hi
 obtain ⟨k, rfl⟩ : ∃ k : Nat, v0_1 = k := ⟨v0_1.toNat, by omega⟩
 have hk : (k : Int).toNat = k := rfl
 rw [hk] at i4
 unfold rd_cherenkov_flash_search_explained_1_0
 rw [hk]
 refine cond_i (fun h => ?_) (fun h => ?_)
 ·have hlt : k < v.length := by have := of_decide_eq_true h; omega
  have hx := q1 _ (getD_mem hlt)
  refine ⟨by omega, by omega, ?_, lt_i fun x hx => ?_⟩
  ·rw [i4]; unfold roomP maxLen subR; simp; omega
  ·rw [wi (by omega)] at hx
   subst hx
   refine ⟨_, _, rfl, ⟨q1, q2, q3⟩, by omega, by omega, by omega, ?_⟩
   rw [show ((k : Int) + 1).toNat = k + 1 by omega, take_getD (0 : Int) hlt, i4]
   unfold subR
   rw [List.map_append, List.map_append]; rfl
 ·have hge : k = v.length := by have := of_decide_eq_false h; omega
  rw [hge, List.take_length] at i4
  subst i4
  simp only [rgg_listC]
  have e : (subR a v).length = v.length := by unfold subR; rw [List.length_map]
  exact ⟨⟨numsP_rgg _, by omega, by omega⟩, LeD.refl _⟩
theorem zero_cherenkov_flash_search_explained_1_0 (a : List Rg) (v : List Int) (v0_0 : List (List CV)) (v0_1 : Int)  (hi : rowOk v a ∧ 0 ≤ v0_1 ∧ v0_1 ≤ v.length ∧ (0 : Int) + v0_1 = v.length + 1 ∧ v0_0 = (subR a (v.take v0_1.toNat)).map rgCv) : False := by
 omega
theorem spec_cherenkov_flash_search_explained_1 (a : List Rg) (v : List Int) (hp : rowOk v a) : vc_cherenkov_flash_search_explained_1 (J_cherenkov_flash_search_explained_1 a v) a v (fun r => LeD r (.t (.c (.v (.bool (rowB v a)))))) := by
 unfold vc_cherenkov_flash_search_explained_1
 exact ⟨v.length + 1, [], 0, rfl, hp, by omega, by omega, by omega, rfl⟩
theorem all_cherenkov_flash_search_explained_1 (a : List Rg) (v : List Int) (hp : rowOk v a) : AllG (J_cherenkov_flash_search_explained_1 a v) (loopsFn Tryd.prog tab Sy125 ann_cherenkov_flash_search_explained_1 (J_cherenkov_flash_search_explained_1 a v) Tryd.f154 (fun r => LeD r (.t (.c (.v (.bool (rowB v a))))))) := by
 rw [lp_cherenkov_flash_search_explained_1]
 refine ⟨⟨?_, ?_⟩, trivial⟩
 ·intro F s h
  obtain _ | ⟨g, F⟩ := F
  case cons => exact h.elim
  obtain ⟨w0, w1, rfl, hi⟩ := h
  exact zero_cherenkov_flash_search_explained_1_0 a v w0 w1 hi
 ·intro n F s h
  obtain _ | ⟨g, F⟩ := F
  case cons => exact h.elim
  obtain ⟨w0, w1, rfl, hi⟩ := h
  rw [er_cherenkov_flash_search_explained_1_0]
  exact rnd_cherenkov_flash_search_explained_1_0 a v _ _ _ hp hi
def con_cherenkov_flash_search_explained_1 : Con := fun args => match args with
 | [.t (.c (.sl 2 n_a c_a)), .t (.c (.px 1 0 c_pm))] => some (.t (.c (.v (.bool (rowB (listC (cvLen (c_pm 0)) mkInt (cvCells (c_pm 0))) (listC n_a mkRg c_a))))), some (numsP 2 n_a c_a ∧ intsB [] c_pm = true ∧ slP 1 (c_pm 0) ∧ numsP 1 (cvLen (c_pm 0)) (cvCells (c_pm 0)) ∧ rowOk (listC (cvLen (c_pm 0)) mkInt (cvCells (c_pm 0))) (listC n_a mkRg c_a)), false)
 | _ => none
theorem ok_cherenkov_flash_search_explained_1 : Ok Tryd.prog 154 con_cherenkov_flash_search_explained_1 := by
 refine Ok.fn (ann := ann_cherenkov_flash_search_explained_1) mixed tabOK VSy125 VI1 (fn := Tryd.f154) (by kernel_rfl) (by kernel_rfl) fit_cherenkov_flash_search_explained_1 fun args r pre fresh h hp => ?_
 unfold con_cherenkov_flash_search_explained_1 at h
 split at h
 ·rename_i n_a c_a c_pm
  cases h
  obtain ⟨hp0, hp1, hp2, hp3, hp⟩ := hp
  refine ⟨rfl, J_cherenkov_flash_search_explained_1 (listC n_a mkRg c_a) (listC (cvLen (c_pm 0)) mkInt (cvCells (c_pm 0))), [.t (.c (.sl 2 ((listC n_a mkRg c_a).length) (rgsC (listC n_a mkRg c_a)))), .t (.c (.px 1 0 (boxC [.sl 1 ((listC (cvLen (c_pm 0)) mkInt (cvCells (c_pm 0))).length) (intsC (listC (cvLen (c_pm 0)) mkInt (cvCells (c_pm 0))))])))], ?_, Nat.le_of_ble_eq_true (by kernel_rfl), ?_, ?_⟩
  ·exact (LeA_cons (leT_c ((leL_Rg hp0))) (LeA_cons (leT_c (leC_p (LeCs.cons (leC_s hp2 (leL_int hp3)) LeCs.nil))) LeA_nil))
  ·rw [ev_cherenkov_flash_search_explained_1]; exact spec_cherenkov_flash_search_explained_1 (listC n_a mkRg c_a) (listC (cvLen (c_pm 0)) mkInt (cvCells (c_pm 0))) hp
  ·exact all_cherenkov_flash_search_explained_1 (listC n_a mkRg c_a) (listC (cvLen (c_pm 0)) mkInt (cvCells (c_pm 0))) hp
 ·cases h
noncomputable def Sy126 : Sum := addS Sy125 154 con_cherenkov_flash_search_explained_1
theorem VSy126 : Valid Tryd.prog Sy126 := Valid.add VSy125 ok_cherenkov_flash_search_explained_1
def mk_slices_IndexFunc_cherenkov_api_Range_cherenkov_api_Range_0 (sp : List (List Rg)) (v : List Int) (v0_0 : Int) : DS := ⟨[some (.t (.c (.sl 1 sp.length (rlsC sp)))), some (.t (.fn 154 [.px 1 0 (boxC [.sl 1 v.length (intsC v)])])), none, none, none, none, none, some (.t (.c (.v (.int .i64 ((sp.length : Nat) : Int))))), some (.t (.c (.v (.int .i64 v0_0)))), none, none, none, none, none, none, none, none, none, none], [none, none, none, none, none, none, none, none, none, none, none, none, none, none, none, none, none, none, none]⟩
def vc_slices_IndexFunc_cherenkov_api_Range_cherenkov_api_Range (J : Inv) (sp : List (List Rg)) (v : List Int) (post : DV → Prop) : Prop := ∃ n, J 0 (n :: []) (mk_slices_IndexFunc_cherenkov_api_Range_cherenkov_api_Range_0 sp v 0)
def ann_slices_IndexFunc_cherenkov_api_Range_cherenkov_api_Range : Ann := ⟨fun _ => none, fun b => lookA b [(0, (none, some ⟨[0, 1, 7, 8], [], []⟩))], fun _ => [], I1, false, fun _ => none, fun _ => none⟩
theorem ev_slices_IndexFunc_cherenkov_api_Range_cherenkov_api_Range (J : Inv) (sp : List (List Rg)) (v : List Int) (post : DV → Prop) : evFn Tryd.prog tab Sy126 ann_slices_IndexFunc_cherenkov_api_Range_cherenkov_api_Range J Tryd.f160 [.t (.c (.sl 1 sp.length (rlsC sp))), .t (.fn 154 [.px 1 0 (boxC [.sl 1 v.length (intsC v)])])] post = vc_slices_IndexFunc_cherenkov_api_Range_cherenkov_api_Range J sp v post := by kernel_rfl
theorem fit_slices_IndexFunc_cherenkov_api_Range_cherenkov_api_Range : okFn ann_slices_IndexFunc_cherenkov_api_Range_cherenkov_api_Range Tryd.f160 = true := by kernel_rfl
def rd_slices_IndexFunc_cherenkov_api_Range_cherenkov_api_Range_0 (J : Inv) (sp : List (List Rg)) (v : List Int) (v0_0 : Int) (nn0 : Nat) (post : DV → Prop) : Prop := cond (decide (v0_0 < ((sp.length : Nat) : Int))) ((0 ≤ v0_0 ∧ v0_0 < ((sp.length : Nat) : Int)) ∧ ((numsP 2 ((rlAt sp v0_0.toNat).length) (rgsC (rlAt sp v0_0.toNat)) ∧ intsB [] (boxC [.sl 1 v.length (intsC v)]) = true ∧ slP 1 ((boxC [.sl 1 v.length (intsC v)]) 0) ∧ numsP 1 v.length (intsC v) ∧ rowOk (listC v.length mkInt (intsC v)) (listC ((rlAt sp v0_0.toNat).length) mkRg (rgsC (rlAt sp v0_0.toNat)))) ∧ (cond (rowB (listC v.length mkInt (intsC v)) (listC ((rlAt sp v0_0.toNat).length) mkRg (rgsC (rlAt sp v0_0.toNat)))) (post (.t (.c (.v (.int .i64 v0_0))))) (lt (IntKind.i64.wrap (v0_0 + (1 : Int))) fun x1 => J 0 (nn0 :: []) (mk_slices_IndexFunc_cherenkov_api_Range_cherenkov_api_Range_0 sp v x1))))) (post (.t (.c (.v (.int .i64 (-1))))))
theorem er_slices_IndexFunc_cherenkov_api_Range_cherenkov_api_Range_0 (J : Inv) (sp : List (List Rg)) (v : List Int) (v0_0 : Int) (nn0 : Nat) (post : DV → Prop) : round Tryd.prog tab Sy126 ann_slices_IndexFunc_cherenkov_api_Range_cherenkov_api_Range J Tryd.f160 post 0 (nn0 :: []) (mk_slices_IndexFunc_cherenkov_api_Range_cherenkov_api_Range_0 sp v v0_0) = rd_slices_IndexFunc_cherenkov_api_Range_cherenkov_api_Range_0 J sp v v0_0 nn0 post := by kernel_rfl
theorem lp_slices_IndexFunc_cherenkov_api_Range_cherenkov_api_Range (J : Inv) (post : DV → Prop) : AllG J (loopsFn Tryd.prog tab Sy126 ann_slices_IndexFunc_cherenkov_api_Range_cherenkov_api_Range J Tryd.f160 post) = (((∀ F s, ¬ J 0 (0 :: F) s) ∧ ∀ n F s, J 0 ((n + 1) :: F) s → round Tryd.prog tab Sy126 ann_slices_IndexFunc_cherenkov_api_Range_cherenkov_api_Range J Tryd.f160 post 0 (n :: F) s) ∧ True) := by kernel_rfl
def J_slices_IndexFunc_cherenkov_api_Range_cherenkov_api_Range (sp : List (List Rg)) (v : List Int) : Inv := fun b F s => match b, F with
 | 0, [nn0] => ∃ (v0_0 : Int), s = mk_slices_IndexFunc_cherenkov_api_Range_cherenkov_api_Range_0 sp v v0_0 ∧ (sp.length ≤ 1000000 ∧ 0 ≤ v0_0 ∧ v0_0 ≤ sp.length ∧ (nn0 : Int) + v0_0 = sp.length + 1 ∧ ∀ k : Nat, (k : Int) < v0_0 → rowB v (rlAt sp k) = false)
 | _, _ => False
theorem rnd_slices_IndexFunc_cherenkov_api_Range_cherenkov_api_Range_0 (sp : List (List Rg)) (v : List Int) (v0_0 : Int) (nn0 : Nat) (hp : exOk sp v ∧ 0 < (v).length) (hi : sp.length ≤ 1000000 ∧ 0 ≤ v0_0 ∧ v0_0 ≤ sp.length ∧ ((nn0 + 1) : Int) + v0_0 = sp.length + 1 ∧ ∀ k : Nat, (k : Int) < v0_0 → rowB v (rlAt sp k) = false) : rd_slices_IndexFunc_cherenkov_api_Range_cherenkov_api_Range_0 (J_slices_IndexFunc_cherenkov_api_Range_cherenkov_api_Range sp v) sp v v0_0 nn0 (fun r => LeD r (.t (.c (.v (.int .i64 (idxP (rowB v) sp)))))) := by
 obtain ⟨i0, i1, i2, i3, i4⟩ := hi
 obtain ⟨k, rfl⟩ : ∃ k : Nat, v0_0 = k := ⟨v0_0.toNat, by omega⟩
 have hk : (k : Int).toNat = k := rfl
 unfold rd_slices_IndexFunc_cherenkov_api_Range_cherenkov_api_Range_0
 rw [hk, ints_listC, rgs_listC]
 refine cond_i (fun h => ?_) (fun h => leI ?_)
 ·have hlt : k < sp.length := by have := of_decide_eq_true h; omega
  refine ⟨by omega, ⟨numsP_rgs _, rfl, rfl, numsP_ints v, ⟨fun i hi => hp.1.1 _ (by rw [rlAt_lt hlt]; exact List.getElem_mem hlt) i hi, hp.2, hp.1.2.1⟩⟩, cond_i (fun e => leI ?_) (fun e => lt_i fun x hx => ?_)⟩
  ·exact (idxP_at (d := ([] : List Rg)) hlt (fun j hj => i4 j (by omega)) e).symm
  ·rw [wi (by omega)] at hx
   subst hx
   exact ⟨_, rfl, i0, by omega, by omega, by omega, fun j hj => by
    by_cases q : j = k
    ·rw [q]; exact e
    ·exact i4 j (by omega)⟩
 ·have hge : k = sp.length := by have := of_decide_eq_false h; omega
  subst hge
  exact (idxP_none (d := ([] : List Rg)) fun j hj => i4 j (by omega)).symm
theorem zero_slices_IndexFunc_cherenkov_api_Range_cherenkov_api_Range_0 (sp : List (List Rg)) (v : List Int) (v0_0 : Int)  (hi : sp.length ≤ 1000000 ∧ 0 ≤ v0_0 ∧ v0_0 ≤ sp.length ∧ (0 : Int) + v0_0 = sp.length + 1 ∧ ∀ k : Nat, (k : Int) < v0_0 → rowB v (rlAt sp k) = false) : False := by
 omega
theorem spec_slices_IndexFunc_cherenkov_api_Range_cherenkov_api_Range (sp : List (List Rg)) (v : List Int) (hp : exOk sp v ∧ 0 < (v).length) : vc_slices_IndexFunc_cherenkov_api_Range_cherenkov_api_Range (J_slices_IndexFunc_cherenkov_api_Range_cherenkov_api_Range sp v) sp v (fun r => LeD r (.t (.c (.v (.int .i64 (idxP (rowB v) sp)))))) := by
 have hp3 := hp.1.2.2
 unfold vc_slices_IndexFunc_cherenkov_api_Range_cherenkov_api_Range
 exact ⟨sp.length + 1, 0, rfl, by omega, by omega, by omega, by omega, fun j hj => by omega⟩
theorem all_slices_IndexFunc_cherenkov_api_Range_cherenkov_api_Range (sp : List (List Rg)) (v : List Int) (hp : exOk sp v ∧ 0 < (v).length) : AllG (J_slices_IndexFunc_cherenkov_api_Range_cherenkov_api_Range sp v) (loopsFn Tryd.prog tab Sy126 ann_slices_IndexFunc_cherenkov_api_Range_cherenkov_api_Range (J_slices_IndexFunc_cherenkov_api_Range_cherenkov_api_Range sp v) Tryd.f160 (fun r => LeD r (.t (.c (.v (.int .i64 (idxP (rowB v) sp))))))) := by
 rw [lp_slices_IndexFunc_cherenkov_api_Range_cherenkov_api_Range]
 refine ⟨⟨?_, ?_⟩, trivial⟩
 ·intro F s h
  obtain _ | ⟨g, F⟩ := F
  case cons => exact h.elim
  obtain ⟨w0, rfl, hi⟩ := h
  exact zero_slices_IndexFunc_cherenkov_api_Range_cherenkov_api_Range_0 sp v w0 hi
 ·intro n F s h
  obtain _ | ⟨g, F⟩ := F
  case cons => exact h.elim
  obtain ⟨w0, rfl, hi⟩ := h
  rw [er_slices_IndexFunc_cherenkov_api_Range_cherenkov_api_Range_0]
  exact rnd_slices_IndexFunc_cherenkov_api_Range_cherenkov_api_Range_0 sp v _ _ hp hi
def con_slices_IndexFunc_cherenkov_api_Range_cherenkov_api_Range : Con := fun args => match args with
 | [.t (.c (.sl 1 n_sp c_sp)), .t (.fn 154 [.px 1 0 c_pm])] => some (.t (.c (.v (.int .i64 (idxP (rowB (listC (cvLen (c_pm 0)) mkInt (cvCells (c_pm 0)))) (rlOf n_sp c_sp))))), some (rlP n_sp c_sp ∧ intsB [] c_pm = true ∧ slP 1 (c_pm 0) ∧ numsP 1 (cvLen (c_pm 0)) (cvCells (c_pm 0)) ∧ exOk (rlOf n_sp c_sp) (listC (cvLen (c_pm 0)) mkInt (cvCells (c_pm 0))) ∧ 0 < ((listC (cvLen (c_pm 0)) mkInt (cvCells (c_pm 0)))).length), false)
 | _ => none
theorem ok_slices_IndexFunc_cherenkov_api_Range_cherenkov_api_Range : Ok Tryd.prog 160 con_slices_IndexFunc_cherenkov_api_Range_cherenkov_api_Range := by
 refine Ok.fn (ann := ann_slices_IndexFunc_cherenkov_api_Range_cherenkov_api_Range) mixed tabOK VSy126 VI1 (fn := Tryd.f160) (by kernel_rfl) (by kernel_rfl) fit_slices_IndexFunc_cherenkov_api_Range_cherenkov_api_Range fun args r pre fresh h hp => ?_
 unfold con_slices_IndexFunc_cherenkov_api_Range_cherenkov_api_Range at h
 split at h
 ·rename_i n_sp c_sp c_pm
  cases h
  obtain ⟨hp0, hp1, hp2, hp3, hp⟩ := hp
  refine ⟨rfl, J_slices_IndexFunc_cherenkov_api_Range_cherenkov_api_Range (rlOf n_sp c_sp) (listC (cvLen (c_pm 0)) mkInt (cvCells (c_pm 0))), [.t (.c (.sl 1 ((rlOf n_sp c_sp).length) (rlsC (rlOf n_sp c_sp)))), .t (.fn 154 [.px 1 0 (boxC [.sl 1 ((listC (cvLen (c_pm 0)) mkInt (cvCells (c_pm 0))).length) (intsC (listC (cvLen (c_pm 0)) mkInt (cvCells (c_pm 0))))])])], ?_, Nat.le_of_ble_eq_true (by kernel_rfl), ?_, ?_⟩
  ·exact (LeA_cons (leT_c ((leL_LRg hp0))) (LeA_cons (leT_f (LeCs.cons (leC_p (LeCs.cons (leC_s hp2 (leL_int hp3)) LeCs.nil)) LeCs.nil)) LeA_nil))
  ·rw [ev_slices_IndexFunc_cherenkov_api_Range_cherenkov_api_Range]; exact spec_slices_IndexFunc_cherenkov_api_Range_cherenkov_api_Range (rlOf n_sp c_sp) (listC (cvLen (c_pm 0)) mkInt (cvCells (c_pm 0))) hp
  ·exact all_slices_IndexFunc_cherenkov_api_Range_cherenkov_api_Range (rlOf n_sp c_sp) (listC (cvLen (c_pm 0)) mkInt (cvCells (c_pm 0))) hp
 ·cases h
noncomputable def Sy127 : Sum := addS Sy126 160 con_slices_IndexFunc_cherenkov_api_Range_cherenkov_api_Range
theorem VSy127 : Valid Tryd.prog Sy127 := Valid.add VSy126 ok_slices_IndexFunc_cherenkov_api_Range_cherenkov_api_Range
def vc_slices_ContainsFunc_cherenkov_api_Range_cherenkov_api_Range (sp : List (List Rg)) (v : List Int) (post : DV → Prop) : Prop := (rlP sp.length (rlsC sp) ∧ intsB [] (boxC [.sl 1 v.length (intsC v)]) = true ∧ slP 1 ((boxC [.sl 1 v.length (intsC v)]) 0) ∧ numsP 1 v.length (intsC v) ∧ exOk (rlOf sp.length (rlsC sp)) (listC v.length mkInt (intsC v)) ∧ 0 < ((listC v.length mkInt (intsC v))).length) ∧ (post (.t (.c (.v (.bool (decide ((idxP (rowB (listC v.length mkInt (intsC v))) (rlOf sp.length (rlsC sp))) ≥ (0 : Int))))))))
def ann_slices_ContainsFunc_cherenkov_api_Range_cherenkov_api_Range : Ann := ⟨fun _ => none, fun _ => none, fun _ => [], I1, false, fun _ => none, fun _ => none⟩
theorem ev_slices_ContainsFunc_cherenkov_api_Range_cherenkov_api_Range (J : Inv) (sp : List (List Rg)) (v : List Int) (post : DV → Prop) : evFn Tryd.prog tab Sy127 ann_slices_ContainsFunc_cherenkov_api_Range_cherenkov_api_Range J Tryd.f153 [.t (.c (.sl 1 sp.length (rlsC sp))), .t (.fn 154 [.px 1 0 (boxC [.sl 1 v.length (intsC v)])])] post = vc_slices_ContainsFunc_cherenkov_api_Range_cherenkov_api_Range sp v post := by kernel_rfl
theorem fit_slices_ContainsFunc_cherenkov_api_Range_cherenkov_api_Range : okFn ann_slices_ContainsFunc_cherenkov_api_Range_cherenkov_api_Range Tryd.f153 = true := by kernel_rfl
theorem lp_slices_ContainsFunc_cherenkov_api_Range_cherenkov_api_Range (J : Inv) (post : DV → Prop) : AllG J (loopsFn Tryd.prog tab Sy127 ann_slices_ContainsFunc_cherenkov_api_Range_cherenkov_api_Range J Tryd.f153 post) = (True) := by kernel_rfl
theorem spec_slices_ContainsFunc_cherenkov_api_Range_cherenkov_api_Range (sp : List (List Rg)) (v : List Int) (hp : exOk sp v ∧ 0 < (v).length) : vc_slices_ContainsFunc_cherenkov_api_Range_cherenkov_api_Range sp v (fun r => LeD r (.t (.c (.v (.bool ((sp).any (rowB v))))))) := by
 unfold vc_slices_ContainsFunc_cherenkov_api_Range_cherenkov_api_Range
 simp only [ints_listC, rls_of]
 refine ⟨⟨rlP_rls sp, rfl, rfl, numsP_ints v, hp⟩, leB ?_⟩
 rw [idxP_any]
def con_slices_ContainsFunc_cherenkov_api_Range_cherenkov_api_Range : Con := fun args => match args with
 | [.t (.c (.sl 1 n_sp c_sp)), .t (.fn 154 [.px 1 0 c_pm])] => some (.t (.c (.v (.bool (((rlOf n_sp c_sp)).any (rowB (listC (cvLen (c_pm 0)) mkInt (cvCells (c_pm 0)))))))), some (rlP n_sp c_sp ∧ intsB [] c_pm = true ∧ slP 1 (c_pm 0) ∧ numsP 1 (cvLen (c_pm 0)) (cvCells (c_pm 0)) ∧ exOk (rlOf n_sp c_sp) (listC (cvLen (c_pm 0)) mkInt (cvCells (c_pm 0))) ∧ 0 < ((listC (cvLen (c_pm 0)) mkInt (cvCells (c_pm 0)))).length), false)
 | _ => none
theorem ok_slices_ContainsFunc_cherenkov_api_Range_cherenkov_api_Range : Ok Tryd.prog 153 con_slices_ContainsFunc_cherenkov_api_Range_cherenkov_api_Range := by
 refine Ok.fn (ann := ann_slices_ContainsFunc_cherenkov_api_Range_cherenkov_api_Range) mixed tabOK VSy127 VI1 (fn := Tryd.f153) (by kernel_rfl) (by kernel_rfl) fit_slices_ContainsFunc_cherenkov_api_Range_cherenkov_api_Range fun args r pre fresh h hp => ?_
 unfold con_slices_ContainsFunc_cherenkov_api_Range_cherenkov_api_Range at h
 split at h
 ·rename_i n_sp c_sp c_pm
  cases h
  obtain ⟨hp0, hp1, hp2, hp3, hp⟩ := hp
  refine ⟨rfl, fun _ _ _ => False, [.t (.c (.sl 1 ((rlOf n_sp c_sp).length) (rlsC (rlOf n_sp c_sp)))), .t (.fn 154 [.px 1 0 (boxC [.sl 1 ((listC (cvLen (c_pm 0)) mkInt (cvCells (c_pm 0))).length) (intsC (listC (cvLen (c_pm 0)) mkInt (cvCells (c_pm 0))))])])], ?_, Nat.le_of_ble_eq_true (by kernel_rfl), ?_, ?_⟩
  ·exact (LeA_cons (leT_c ((leL_LRg hp0))) (LeA_cons (leT_f (LeCs.cons (leC_p (LeCs.cons (leC_s hp2 (leL_int hp3)) LeCs.nil)) LeCs.nil)) LeA_nil))
  ·rw [ev_slices_ContainsFunc_cherenkov_api_Range_cherenkov_api_Range]; exact spec_slices_ContainsFunc_cherenkov_api_Range_cherenkov_api_Range (rlOf n_sp c_sp) (listC (cvLen (c_pm 0)) mkInt (cvCells (c_pm 0))) hp
  ·rw [lp_slices_ContainsFunc_cherenkov_api_Range_cherenkov_api_Range]; trivial
 ·cases h
noncomputable def Sy128 : Sum := addS Sy127 153 con_slices_ContainsFunc_cherenkov_api_Range_cherenkov_api_Range
theorem VSy128 : Valid Tryd.prog Sy128 := Valid.add VSy127 ok_slices_ContainsFunc_cherenkov_api_Range_cherenkov_api_Range
def vc_cherenkov_flash_search_explained (l : List FHit) (g0 g1 g2 g3 g4 : Int) (sp : List (List Rg)) (v : List Int) (post : DV → Prop) : Prop := cond (((v.length : Nat) : Int) == (0 : Int)) (post (.t (.c (.v (.bool true))))) ((rlP sp.length (rlsC sp) ∧ intsB [] (boxC [.sl 1 v.length (intsC v)]) = true ∧ slP 1 ((boxC [.sl 1 v.length (intsC v)]) 0) ∧ numsP 1 v.length (intsC v) ∧ exOk (rlOf sp.length (rlsC sp)) (listC v.length mkInt (intsC v)) ∧ 0 < ((listC v.length mkInt (intsC v))).length) ∧ (post (.t (.c (.v (.bool (((rlOf sp.length (rlsC sp))).any (rowB (listC v.length mkInt (intsC v))))))))))
def ann_cherenkov_flash_search_explained : Ann := ⟨fun _ => none, fun _ => none, fun _ => [], I1, false, fun _ => none, fun _ => none⟩
theorem ev_cherenkov_flash_search_explained (J : Inv) (l : List FHit) (g0 g1 g2 g3 g4 : Int) (sp : List (List Rg)) (v : List Int) (post : DV → Prop) : evFn Tryd.prog tab Sy128 ann_cherenkov_flash_search_explained J Tryd.f130 [.t (.a [.sl 7 l.length (hitsC l), .v (.int .i64 g0), .v (.int .i64 g1), .v (.int .i64 g2), .v (.int .i64 g3), .v (.int .i64 g4), .sl 1 sp.length (rlsC sp)]), .t (.c (.sl 1 v.length (intsC v)))] post = vc_cherenkov_flash_search_explained l g0 g1 g2 g3 g4 sp v post := by kernel_rfl
theorem fit_cherenkov_flash_search_explained : okFn ann_cherenkov_flash_search_explained Tryd.f130 = true := by kernel_rfl
theorem lp_cherenkov_flash_search_explained (J : Inv) (post : DV → Prop) : AllG J (loopsFn Tryd.prog tab Sy128 ann_cherenkov_flash_search_explained J Tryd.f130 post) = (True) := by kernel_rfl
theorem spec_cherenkov_flash_search_explained (l : List FHit) (g0 g1 g2 g3 g4 : Int) (sp : List (List Rg)) (v : List Int) (hp : exOk sp v) : vc_cherenkov_flash_search_explained l g0 g1 g2 g3 g4 sp v (fun r => LeD r (.t (.c (.v (.bool (explB sp v)))))) := by
 unfold vc_cherenkov_flash_search_explained
 simp only [ints_listC, rls_of]
 refine cond_i (fun h => leB ?_) (fun h => ⟨⟨rlP_rls sp, rfl, rfl, numsP_ints v, hp, ?_⟩, leB ?_⟩)
 ·have h : v = [] := by simpa using h
  subst h; rfl
 ·have h : v ≠ [] := by simpa using h
  exact List.length_pos_iff.2 h
 ·have h : v ≠ [] := by simpa using h
  unfold explB
  rw [show v.isEmpty = false by cases v <;> simp_all]; rfl
def con_cherenkov_flash_search_explained : Con := fun args => match args with
 | [.t (.a [.sl 7 n_l c_l, .v (.int .i64 g0), .v (.int .i64 g1), .v (.int .i64 g2), .v (.int .i64 g3), .v (.int .i64 g4), .sl 1 n_sp c_sp]), .t (.c (.sl 1 n_v c_v))] => some (.t (.c (.v (.bool (explB (rlOf n_sp c_sp) (listC n_v mkInt c_v))))), some (numsP 7 n_l c_l ∧ rlP n_sp c_sp ∧ numsP 1 n_v c_v ∧ exOk (rlOf n_sp c_sp) (listC n_v mkInt c_v)), false)
 | _ => none
theorem ok_cherenkov_flash_search_explained : Ok Tryd.prog 130 con_cherenkov_flash_search_explained := by
 refine Ok.fn (ann := ann_cherenkov_flash_search_explained) mixed tabOK VSy128 VI1 (fn := Tryd.f130) (by kernel_rfl) (by kernel_rfl) fit_cherenkov_flash_search_explained fun args r pre fresh h hp => ?_
 unfold con_cherenkov_flash_search_explained at h
 split at h
 ·rename_i n_l c_l g0 g1 g2 g3 g4 n_sp c_sp n_v c_v
  cases h
  obtain ⟨hp0, hp1, hp2, hp⟩ := hp
  refine ⟨rfl, fun _ _ _ => False, [.t (.a [.sl 7 ((listC n_l mkHit c_l).length) (hitsC (listC n_l mkHit c_l)), .v (.int .i64 g0), .v (.int .i64 g1), .v (.int .i64 g2), .v (.int .i64 g3), .v (.int .i64 g4), .sl 1 ((rlOf n_sp c_sp).length) (rlsC (rlOf n_sp c_sp))]), .t (.c (.sl 1 ((listC n_v mkInt c_v).length) (intsC (listC n_v mkInt c_v))))], ?_, Nat.le_of_ble_eq_true (by kernel_rfl), ?_, ?_⟩
  ·exact (LeA_cons (leT_a (LeCs.cons ((leL_FHit hp0)) (LeCs.cons (LeC1.refl _) (LeCs.cons (LeC1.refl _) (LeCs.cons (LeC1.refl _) (LeCs.cons (LeC1.refl _) (LeCs.cons (LeC1.refl _) (LeCs.cons ((leL_LRg hp1)) LeCs.nil)))))))) (LeA_cons (leT_c ((leL_int hp2))) LeA_nil))
  ·rw [ev_cherenkov_flash_search_explained]; exact spec_cherenkov_flash_search_explained (listC n_l mkHit c_l) g0 g1 g2 g3 g4 (rlOf n_sp c_sp) (listC n_v mkInt c_v) hp
  ·rw [lp_cherenkov_flash_search_explained]; trivial
 ·cases h
noncomputable def Sy129 : Sum := addS Sy128 130 con_cherenkov_flash_search_explained
theorem VSy129 : Valid Tryd.prog Sy129 := Valid.add VSy128 ok_cherenkov_flash_search_explained
def vc_flash_Contradicting_1 (v : List Int) (l : List FHit) (g0 g1 g2 g3 g4 : Int) (sp : List (List Rg)) (post : DV → Prop) : Prop := (numsP 7 l.length (hitsC l) ∧ rlP sp.length (rlsC sp) ∧ numsP 1 v.length (intsC v) ∧ exOk (rlOf sp.length (rlsC sp)) (listC v.length mkInt (intsC v))) ∧ (post (.t (.c (.v (.bool (!(explB (rlOf sp.length (rlsC sp)) (listC v.length mkInt (intsC v)))))))))
def ann_flash_Contradicting_1 : Ann := ⟨fun _ => none, fun _ => none, fun _ => [], I1, false, fun _ => none, fun _ => none⟩
theorem ev_flash_Contradicting_1 (J : Inv) (v : List Int) (l : List FHit) (g0 g1 g2 g3 g4 : Int) (sp : List (List Rg)) (post : DV → Prop) : evFn Tryd.prog tab Sy129 ann_flash_Contradicting_1 J Tryd.f129 [.t (.c (.sl 1 v.length (intsC v))), .t (.c (.px 7 0 (boxC [.sl 7 l.length (hitsC l), .v (.int .i64 g0), .v (.int .i64 g1), .v (.int .i64 g2), .v (.int .i64 g3), .v (.int .i64 g4), .sl 1 sp.length (rlsC sp)])))] post = vc_flash_Contradicting_1 v l g0 g1 g2 g3 g4 sp post := by kernel_rfl
theorem fit_flash_Contradicting_1 : okFn ann_flash_Contradicting_1 Tryd.f129 = true := by kernel_rfl
theorem lp_flash_Contradicting_1 (J : Inv) (post : DV → Prop) : AllG J (loopsFn Tryd.prog tab Sy129 ann_flash_Contradicting_1 J Tryd.f129 post) = (True) := by kernel_rfl
theorem spec_flash_Contradicting_1 (v : List Int) (l : List FHit) (g0 g1 g2 g3 g4 : Int) (sp : List (List Rg)) (hp : exOk sp v) : vc_flash_Contradicting_1 v l g0 g1 g2 g3 g4 sp (fun r => LeD r (.t (.c (.v (.bool (contB sp v)))))) := by
 unfold vc_flash_Contradicting_1
 simp only [ints_listC, rls_of]
 exact ⟨⟨numsP_hits l, rlP_rls sp, numsP_ints v, hp⟩, LeD.refl _⟩
def con_flash_Contradicting_1 : Con := fun args => match args with
 | [.t (.c (.sl 1 n_v c_v)), .t (.c (.px 7 0 c_ps))] => some (.t (.c (.v (.bool (contB (rlOf (cvLen (c_ps 6)) (cvCells (c_ps 6))) (listC n_v mkInt c_v))))), some (numsP 1 n_v c_v ∧ intsB [1, 2, 3, 4, 5] c_ps = true ∧ slP 7 (c_ps 0) ∧ numsP 7 (cvLen (c_ps 0)) (cvCells (c_ps 0)) ∧ slP 1 (c_ps 6) ∧ rlP (cvLen (c_ps 6)) (cvCells (c_ps 6)) ∧ exOk (rlOf (cvLen (c_ps 6)) (cvCells (c_ps 6))) (listC n_v mkInt c_v)), false)
 | _ => none
theorem ok_flash_Contradicting_1 : Ok Tryd.prog 129 con_flash_Contradicting_1 := by
 refine Ok.fn (ann := ann_flash_Contradicting_1) mixed tabOK VSy129 VI1 (fn := Tryd.f129) (by kernel_rfl) (by kernel_rfl) fit_flash_Contradicting_1 fun args r pre fresh h hp => ?_
 unfold con_flash_Contradicting_1 at h
 split at h
 ·rename_i n_v c_v c_ps
  cases h
  obtain ⟨hp0, hp1, hp2, hp3, hp4, hp5, hp⟩ := hp
  refine ⟨rfl, fun _ _ _ => False, [.t (.c (.sl 1 ((listC n_v mkInt c_v).length) (intsC (listC n_v mkInt c_v)))), .t (.c (.px 7 0 (boxC [.sl 7 ((listC (cvLen (c_ps 0)) mkHit (cvCells (c_ps 0))).length) (hitsC (listC (cvLen (c_ps 0)) mkHit (cvCells (c_ps 0)))), .v (.int .i64 (cvInt (c_ps 1))), .v (.int .i64 (cvInt (c_ps 2))), .v (.int .i64 (cvInt (c_ps 3))), .v (.int .i64 (cvInt (c_ps 4))), .v (.int .i64 (cvInt (c_ps 5))), .sl 1 ((rlOf (cvLen (c_ps 6)) (cvCells (c_ps 6))).length) (rlsC (rlOf (cvLen (c_ps 6)) (cvCells (c_ps 6))))])))], ?_, Nat.le_of_ble_eq_true (by kernel_rfl), ?_, ?_⟩
  ·exact (LeA_cons (leT_c ((leL_int hp0))) (LeA_cons (leT_c (leC_p (LeCs.cons (leC_s hp2 (leL_FHit hp3)) (LeCs.cons (leC_i (intsB_get hp1 1 (by decide))) (LeCs.cons (leC_i (intsB_get hp1 2 (by decide))) (LeCs.cons (leC_i (intsB_get hp1 3 (by decide))) (LeCs.cons (leC_i (intsB_get hp1 4 (by decide))) (LeCs.cons (leC_i (intsB_get hp1 5 (by decide))) (LeCs.cons (leC_s hp4 (leL_LRg hp5)) LeCs.nil))))))))) LeA_nil))
  ·rw [ev_flash_Contradicting_1]; exact spec_flash_Contradicting_1 (listC n_v mkInt c_v) (listC (cvLen (c_ps 0)) mkHit (cvCells (c_ps 0))) (cvInt (c_ps 1)) (cvInt (c_ps 2)) (cvInt (c_ps 3)) (cvInt (c_ps 4)) (cvInt (c_ps 5)) (rlOf (cvLen (c_ps 6)) (cvCells (c_ps 6))) hp
  ·rw [lp_flash_Contradicting_1]; trivial
 ·cases h
noncomputable def Sy130 : Sum := addS Sy129 129 con_flash_Contradicting_1
theorem VSy130 : Valid Tryd.prog Sy130 := Valid.add VSy129 ok_flash_Contradicting_1
def mk_flash_smallest_b_0 (q : Int) (l : List FHit) (g0 g1 g2 g3 g4 : Int) (sp : List (List Rg)) (v0_0 : List Int) (v0_1 : Int) (v0_2 : Int) (v0_3 : Bool) : DS := ⟨[none, some (.t (.fn 129 [.px 7 0 (boxC [.sl 7 l.length (hitsC l), .v (.int .i64 g0), .v (.int .i64 g1), .v (.int .i64 g2), .v (.int .i64 g3), .v (.int .i64 g4), .sl 1 sp.length (rlsC sp)])])), none, none, none, none, some (.t (.c (.os 6))), some (.t (.c (.v (.bool v0_3)))), none, none, none, some (.t (.c (.v (.int .u64 v0_1)))), some (.t (.c (.v (.int .u64 v0_2)))), none, none, none, none, none, none, none, none, none, none, none, none, none, none, none, none, none, none, none, none, none, none, none, none, none, none, none, none, none, none, none, none, none, none, none], [none, none, none, none, none, none, some (.num 3 .i64 v0_0), none, none, none, none, none, none, none, none, none, none, none, none, none, none, none, none, none, none, none, none, none, none, none, none, none, none, none, none, none, none, none, none, none, none, none, none, none, none, none, none, none]⟩
def vc_flash_smallest_b (J : Inv) (q : Int) (l : List FHit) (g0 g1 g2 g3 g4 : Int) (sp : List (List Rg)) (post : DV → Row → Prop) : Prop := lt (IntKind.u64.wrap ((1 : Int) * 2 ^ (min (q).toNat 64))) fun x1 => (0 ≤ q) ∧ (∃ n, J 0 (n :: []) (mk_flash_smallest_b_0 q l g0 g1 g2 g3 g4 sp ([]) x1 0 false))
def ann_flash_smallest_b : Ann := ⟨fun _ => none, fun b => lookA b [(0, (none, some ⟨[1, 7, 11, 12], [], [(6, .num 3 .i64 ([]))]⟩))], fun _ => [], I1, false, fun r => lookA r [(7, (2, [43]))], fun _ => none⟩
theorem ev_flash_smallest_b (J : Inv) (q : Int) (l : List FHit) (g0 g1 g2 g3 g4 : Int) (sp : List (List Rg)) (post : DV → Row → Prop) : evFnO Tryd.prog tab Sy130 ann_flash_smallest_b J Tryd.f105 [.t (.c (.v (.int .i64 q))), .t (.fn 129 [.px 7 0 (boxC [.sl 7 l.length (hitsC l), .v (.int .i64 g0), .v (.int .i64 g1), .v (.int .i64 g2), .v (.int .i64 g3), .v (.int .i64 g4), .sl 1 sp.length (rlsC sp)])])] post = vc_flash_smallest_b J q l g0 g1 g2 g3 g4 sp post := by kernel_rfl
theorem fit_flash_smallest_b : okFn ann_flash_smallest_b Tryd.f105 = true := by kernel_rfl
def rd_flash_smallest_b_0 (J : Inv) (q : Int) (l : List FHit) (g0 g1 g2 g3 g4 : Int) (sp : List (List Rg)) (v0_0 : List Int) (v0_1 : Int) (v0_2 : Int) (v0_3 : Bool) (nn0 : Nat) (post : DV → Row → Prop) : Prop := cond (decide (v0_2 < v0_1)) ((0 ≤ v0_2 ∧ v0_2 < 256) ∧ ((cond v0_3 (cond (decide ((((membs 8 (v0_2).toNat).length : Nat) : Int) > ((v0_0.length : Nat) : Int))) ((true = true) ∧ ((true = true) ∧ (True))) (cond ((((membs 8 (v0_2).toNat).length : Nat) : Int) == ((v0_0.length : Nat) : Int)) ((numsP 1 ((membs 8 (v0_2).toNat).length) (numsC .i64 (membs 8 (v0_2).toNat)) ∧ numsP 1 v0_0.length (numsC .i64 v0_0) ∧ ((listC ((membs 8 (v0_2).toNat).length) mkInt (numsC .i64 (membs 8 (v0_2).toNat)))).length ≤ 1000000) ∧ (cond (decide ((cmpL (listC ((membs 8 (v0_2).toNat).length) mkInt (numsC .i64 (membs 8 (v0_2).toNat))) (listC v0_0.length mkInt (numsC .i64 v0_0))) > (0 : Int))) ((true = true) ∧ (True)) ((numsP 1 ((membs 8 (v0_2).toNat).length) (numsC .i64 (membs 8 (v0_2).toNat)) ∧ intsB [1, 2, 3, 4, 5] (boxC [.sl 7 l.length (hitsC l), .v (.int .i64 g0), .v (.int .i64 g1), .v (.int .i64 g2), .v (.int .i64 g3), .v (.int .i64 g4), .sl 1 sp.length (rlsC sp)]) = true ∧ slP 7 ((boxC [.sl 7 l.length (hitsC l), .v (.int .i64 g0), .v (.int .i64 g1), .v (.int .i64 g2), .v (.int .i64 g3), .v (.int .i64 g4), .sl 1 sp.length (rlsC sp)]) 0) ∧ numsP 7 l.length (hitsC l) ∧ slP 1 ((boxC [.sl 7 l.length (hitsC l), .v (.int .i64 g0), .v (.int .i64 g1), .v (.int .i64 g2), .v (.int .i64 g3), .v (.int .i64 g4), .sl 1 sp.length (rlsC sp)]) 6) ∧ rlP sp.length (rlsC sp) ∧ exOk (rlOf sp.length (rlsC sp)) (listC ((membs 8 (v0_2).toNat).length) mkInt (numsC .i64 (membs 8 (v0_2).toNat)))) ∧ (True)))) ((false = false) ∧ ((numsP 1 ((membs 8 (v0_2).toNat).length) (numsC .i64 (membs 8 (v0_2).toNat)) ∧ intsB [1, 2, 3, 4, 5] (boxC [.sl 7 l.length (hitsC l), .v (.int .i64 g0), .v (.int .i64 g1), .v (.int .i64 g2), .v (.int .i64 g3), .v (.int .i64 g4), .sl 1 sp.length (rlsC sp)]) = true ∧ slP 7 ((boxC [.sl 7 l.length (hitsC l), .v (.int .i64 g0), .v (.int .i64 g1), .v (.int .i64 g2), .v (.int .i64 g3), .v (.int .i64 g4), .sl 1 sp.length (rlsC sp)]) 0) ∧ numsP 7 l.length (hitsC l) ∧ slP 1 ((boxC [.sl 7 l.length (hitsC l), .v (.int .i64 g0), .v (.int .i64 g1), .v (.int .i64 g2), .v (.int .i64 g3), .v (.int .i64 g4), .sl 1 sp.length (rlsC sp)]) 6) ∧ rlP sp.length (rlsC sp) ∧ exOk (rlOf sp.length (rlsC sp)) (listC ((membs 8 (v0_2).toNat).length) mkInt (numsC .i64 (membs 8 (v0_2).toNat)))) ∧ (True))))) ((false = false) ∧ ((numsP 1 ((membs 8 (v0_2).toNat).length) (numsC .i64 (membs 8 (v0_2).toNat)) ∧ intsB [1, 2, 3, 4, 5] (boxC [.sl 7 l.length (hitsC l), .v (.int .i64 g0), .v (.int .i64 g1), .v (.int .i64 g2), .v (.int .i64 g3), .v (.int .i64 g4), .sl 1 sp.length (rlsC sp)]) = true ∧ slP 7 ((boxC [.sl 7 l.length (hitsC l), .v (.int .i64 g0), .v (.int .i64 g1), .v (.int .i64 g2), .v (.int .i64 g3), .v (.int .i64 g4), .sl 1 sp.length (rlsC sp)]) 0) ∧ numsP 7 l.length (hitsC l) ∧ slP 1 ((boxC [.sl 7 l.length (hitsC l), .v (.int .i64 g0), .v (.int .i64 g1), .v (.int .i64 g2), .v (.int .i64 g3), .v (.int .i64 g4), .sl 1 sp.length (rlsC sp)]) 6) ∧ rlP sp.length (rlsC sp) ∧ exOk (rlOf sp.length (rlsC sp)) (listC ((membs 8 (v0_2).toNat).length) mkInt (numsC .i64 (membs 8 (v0_2).toNat)))) ∧ (True)))) ∧ (lt ((bif v0_3 then (bif decide ((((membs 8 (v0_2).toNat).length : Nat) : Int) > ((v0_0.length : Nat) : Int)) then true else (bif ((((membs 8 (v0_2).toNat).length : Nat) : Int) == ((v0_0.length : Nat) : Int)) then (bif decide ((cmpL (listC ((membs 8 (v0_2).toNat).length) mkInt (numsC .i64 (membs 8 (v0_2).toNat))) (listC v0_0.length mkInt (numsC .i64 v0_0))) > (0 : Int)) then true else (!(contB (rlOf sp.length (rlsC sp)) (listC ((membs 8 (v0_2).toNat).length) mkInt (numsC .i64 (membs 8 (v0_2).toNat)))))) else (!(contB (rlOf sp.length (rlsC sp)) (listC ((membs 8 (v0_2).toNat).length) mkInt (numsC .i64 (membs 8 (v0_2).toNat))))))) else (!(contB (rlOf sp.length (rlsC sp)) (listC ((membs 8 (v0_2).toNat).length) mkInt (numsC .i64 (membs 8 (v0_2).toNat))))))) fun x1 => cond x1 (lt (IntKind.u64.wrap (v0_2 + (1 : Int))) fun x2 => J 0 (nn0 :: []) (mk_flash_smallest_b_0 q l g0 g1 g2 g3 g4 sp v0_0 v0_1 x2 v0_3)) (lt (IntKind.u64.wrap (v0_2 + (1 : Int))) fun x3 => J 0 (nn0 :: []) (mk_flash_smallest_b_0 q l g0 g1 g2 g3 g4 sp (membs 8 (v0_2).toNat) v0_1 x3 true))))) (post (.tu [.c (.os 0), .c (.v (.bool v0_3))]) (.num 3 .i64 v0_0))
theorem er_flash_smallest_b_0 (J : Inv) (q : Int) (l : List FHit) (g0 g1 g2 g3 g4 : Int) (sp : List (List Rg)) (v0_0 : List Int) (v0_1 : Int) (v0_2 : Int) (v0_3 : Bool) (nn0 : Nat) (post : DV → Row → Prop) : roundO Tryd.prog tab Sy130 ann_flash_smallest_b J Tryd.f105 post 0 (nn0 :: []) (mk_flash_smallest_b_0 q l g0 g1 g2 g3 g4 sp v0_0 v0_1 v0_2 v0_3) = rd_flash_smallest_b_0 J q l g0 g1 g2 g3 g4 sp v0_0 v0_1 v0_2 v0_3 nn0 post := by kernel_rfl
theorem lp_flash_smallest_b (J : Inv) (post : DV → Row → Prop) : AllG J (loopsFnO Tryd.prog tab Sy130 ann_flash_smallest_b J Tryd.f105 post) = (((∀ F s, ¬ J 0 (0 :: F) s) ∧ ∀ n F s, J 0 ((n + 1) :: F) s → roundO Tryd.prog tab Sy130 ann_flash_smallest_b J Tryd.f105 post 0 (n :: F) s) ∧ True) := by kernel_rfl
def J_flash_smallest_b (q : Int) (l : List FHit) (g0 g1 g2 g3 g4 : Int) (sp : List (List Rg)) : Inv := fun b F s => match b, F with
 | 0, [nn0] => ∃ (v0_0 : List Int) (v0_1 : Int) (v0_2 : Int) (v0_3 : Bool), s = mk_flash_smallest_b_0 q l g0 g1 g2 g3 g4 sp v0_0 v0_1 v0_2 v0_3 ∧ (cnOk q sp ∧ v0_1 = ((2 ^ q.toNat : Nat) : Int) ∧ 0 ≤ v0_2 ∧ v0_2 ≤ v0_1 ∧ (nn0 : Int) + v0_2 = v0_1 + 1 ∧ v0_3 = (foldS (contB sp) v0_2.toNat).isSome ∧ v0_0 = (foldS (contB sp) v0_2.toNat).getD [])
 | _, _ => False
set_option maxHeartbeats 8000000 in
set_option maxRecDepth 100000 in
theorem rnd_flash_smallest_b_0 (q : Int) (l : List FHit) (g0 g1 g2 g3 g4 : Int) (sp : List (List Rg)) (v0_0 : List Int) (v0_1 : Int) (v0_2 : Int) (v0_3 : Bool) (nn0 : Nat) (hp : cnOk q sp) (hi : cnOk q sp ∧ v0_1 = ((2 ^ q.toNat : Nat) : Int) ∧ 0 ≤ v0_2 ∧ v0_2 ≤ v0_1 ∧ ((nn0 + 1) : Int) + v0_2 = v0_1 + 1 ∧ v0_3 = (foldS (contB sp) v0_2.toNat).isSome ∧ v0_0 = (foldS (contB sp) v0_2.toNat).getD []) : rd_flash_smallest_b_0 (J_flash_smallest_b q l g0 g1 g2 g3 g4 sp) q l g0 g1 g2 g3 g4 sp v0_0 v0_1 v0_2 v0_3 nn0 (fun r' R' => r' = (.tu [.c (.os 0), .c (.v (.bool ((foldS (contB sp) (2 ^ (q).toNat)).isSome)))]) ∧ R' = (.num 3 .i64 ((foldS (contB sp) (2 ^ (q).toNat)).getD []))) := by
 obtain ⟨q1, q2, i1, i2, i3, i4, i5⟩ := hi
 obtain ⟨k, rfl⟩ : ∃ k : Nat, v0_2 = k := ⟨v0_2.toNat, by omega⟩
 have hk : (k : Int).toNat = k := rfl
 rw [hk] at i4 i5
 have h256 := pow_8 (n := q.toNat) (by have := q1.1; omega)
 unfold rd_flash_smallest_b_0
 simp only [hk, nums_listC, rls_of]
 obtain ⟨o, ho⟩ : ∃ o, foldS (contB sp) k = o := ⟨_, rfl⟩
 rw [ho] at i4 i5
 subst i4 i5
 refine cond_i (fun h => ?_) (fun h => ?_)
 ·have h := of_decide_eq_true h
  have hlen := membs_len (k := k) (by omega)
  have hx : exOk sp (membs 8 k) := cnOk_ex q1 (by omega)
  have step : foldS (contB sp) (k + 1) = smStep (contB sp) o (membs 8 k) := by rw [← ho]; unfold foldS; rw [List.range_succ, List.foldl_append]; rfl
  refine ⟨by omega, ?_, lt_i fun x1 h1 => ?_⟩
  ·refine cond_i (fun _ => cond_i (fun _ => ⟨by trivial, by trivial, trivial⟩) (fun _ => cond_i (fun _ => ⟨⟨numsP_ints _, numsP_ints _, by omega⟩, cond_i (fun _ => ⟨by trivial, trivial⟩) (fun _ => ⟨⟨numsP_ints _, rfl, rfl, numsP_hits l, rfl, rlP_rls sp, hx⟩, trivial⟩)⟩) (fun _ => ⟨by trivial, ⟨numsP_ints _, rfl, rfl, numsP_hits l, rfl, rlP_rls sp, hx⟩, trivial⟩))) (fun _ => ⟨by trivial, ⟨numsP_ints _, rfl, rfl, numsP_hits l, rfl, rlP_rls sp, hx⟩, trivial⟩)
  ·have e := smStep_skip (hd := contB sp) (o := o) (s := membs 8 k)
   rw [h1] at e
   refine cond_i (fun hx => lt_i fun x2 h2 => ?_) (fun hx => lt_i fun x2 h2 => ?_)
   all_goals
    rw [hx] at e
    rw [u64_succ (by omega)] at h2
    subst h2
    refine ⟨_, _, _, _, rfl, q1, q2, by omega, by omega, by omega, ?_, ?_⟩
   all_goals
    rw [show ((k : Int) + 1).toNat = k + 1 by omega, step, e]; rfl
 ·have h := of_decide_eq_false h
  have hk : k = 2 ^ q.toNat := by omega
  rw [← hk, ho]
  exact ⟨by trivial, rfl⟩
theorem zero_flash_smallest_b_0 (q : Int) (l : List FHit) (g0 g1 g2 g3 g4 : Int) (sp : List (List Rg)) (v0_0 : List Int) (v0_1 : Int) (v0_2 : Int) (v0_3 : Bool)  (hi : cnOk q sp ∧ v0_1 = ((2 ^ q.toNat : Nat) : Int) ∧ 0 ≤ v0_2 ∧ v0_2 ≤ v0_1 ∧ (0 : Int) + v0_2 = v0_1 + 1 ∧ v0_3 = (foldS (contB sp) v0_2.toNat).isSome ∧ v0_0 = (foldS (contB sp) v0_2.toNat).getD []) : False := by
 omega
set_option maxHeartbeats 8000000 in
set_option maxRecDepth 100000 in
theorem spec_flash_smallest_b (q : Int) (l : List FHit) (g0 g1 g2 g3 g4 : Int) (sp : List (List Rg)) (hp : cnOk q sp) : vc_flash_smallest_b (J_flash_smallest_b q l g0 g1 g2 g3 g4 sp) q l g0 g1 g2 g3 g4 sp (fun r' R' => r' = (.tu [.c (.os 0), .c (.v (.bool ((foldS (contB sp) (2 ^ (q).toNat)).isSome)))]) ∧ R' = (.num 3 .i64 ((foldS (contB sp) (2 ^ (q).toNat)).getD []))) := by
 have hq := hp.1
 unfold vc_flash_smallest_b
 refine lt_i fun x1 h1 => ⟨by omega, (2 ^ q.toNat + 1), [], x1, 0, false, rfl, hp, ?_, by omega, ?_, ?_, rfl, rfl⟩
 all_goals
  have e : x1 = ((2 ^ q.toNat : Nat) : Int) := by
   rcases (by omega : q = 1 ∨ q = 2 ∨ q = 3 ∨ q = 4 ∨ q = 5 ∨ q = 6 ∨ q = 7 ∨ q = 8) with rfl | rfl | rfl | rfl | rfl | rfl | rfl | rfl <;> (rw [← h1]; kernel_rfl)
  rw [e]
 ·exact Int.natCast_nonneg _
 ·generalize 2 ^ q.toNat = M; omega
theorem all_flash_smallest_b (q : Int) (l : List FHit) (g0 g1 g2 g3 g4 : Int) (sp : List (List Rg)) (hp : cnOk q sp) : AllG (J_flash_smallest_b q l g0 g1 g2 g3 g4 sp) (loopsFnO Tryd.prog tab Sy130 ann_flash_smallest_b (J_flash_smallest_b q l g0 g1 g2 g3 g4 sp) Tryd.f105 (fun r' R' => r' = (.tu [.c (.os 0), .c (.v (.bool ((foldS (contB sp) (2 ^ (q).toNat)).isSome)))]) ∧ R' = (.num 3 .i64 ((foldS (contB sp) (2 ^ (q).toNat)).getD [])))) := by
 rw [lp_flash_smallest_b]
 refine ⟨⟨?_, ?_⟩, trivial⟩
 ·intro F s h
  obtain _ | ⟨g, F⟩ := F
  case cons => exact h.elim
  obtain ⟨w0, w1, w2, w3, rfl, hi⟩ := h
  exact zero_flash_smallest_b_0 q l g0 g1 g2 g3 g4 sp w0 w1 w2 w3 hi
 ·intro n F s h
  obtain _ | ⟨g, F⟩ := F
  case cons => exact h.elim
  obtain ⟨w0, w1, w2, w3, rfl, hi⟩ := h
  rw [er_flash_smallest_b_0]
  exact rnd_flash_smallest_b_0 q l g0 g1 g2 g3 g4 sp _ _ _ _ _ hp hi
def con_flash_smallest_b : Con := fun args => match args with
 | [.t (.c (.v (.int .i64 q))), .t (.fn 129 [.px 7 0 c_ps])] => some (.tu [.c (.os 0), .c (.v (.bool ((foldS (contB (rlOf (cvLen (c_ps 6)) (cvCells (c_ps 6)))) (2 ^ (q).toNat)).isSome)))], some (intsB [1, 2, 3, 4, 5] c_ps = true ∧ slP 7 (c_ps 0) ∧ numsP 7 (cvLen (c_ps 0)) (cvCells (c_ps 0)) ∧ slP 1 (c_ps 6) ∧ rlP (cvLen (c_ps 6)) (cvCells (c_ps 6)) ∧ cnOk q (rlOf (cvLen (c_ps 6)) (cvCells (c_ps 6)))), .own (.num 3 .i64 ((foldS (contB (rlOf (cvLen (c_ps 6)) (cvCells (c_ps 6)))) (2 ^ (q).toNat)).getD [])))
 | _ => none
theorem ok_flash_smallest_b : Ok Tryd.prog 105 con_flash_smallest_b := by
 refine Ok.fnO (ann := ann_flash_smallest_b) mixed tabOK VSy130 VI1 (fn := Tryd.f105) (by kernel_rfl) (by kernel_rfl) fit_flash_smallest_b fun args r pre fresh h hp => ?_
 unfold con_flash_smallest_b at h
 split at h
 ·rename_i q c_ps
  cases h
  obtain ⟨hp0, hp1, hp2, hp3, hp4, hp⟩ := hp
  refine ⟨_, rfl, trivial, J_flash_smallest_b q (listC (cvLen (c_ps 0)) mkHit (cvCells (c_ps 0))) (cvInt (c_ps 1)) (cvInt (c_ps 2)) (cvInt (c_ps 3)) (cvInt (c_ps 4)) (cvInt (c_ps 5)) (rlOf (cvLen (c_ps 6)) (cvCells (c_ps 6))), [.t (.c (.v (.int .i64 q))), .t (.fn 129 [.px 7 0 (boxC [.sl 7 ((listC (cvLen (c_ps 0)) mkHit (cvCells (c_ps 0))).length) (hitsC (listC (cvLen (c_ps 0)) mkHit (cvCells (c_ps 0)))), .v (.int .i64 (cvInt (c_ps 1))), .v (.int .i64 (cvInt (c_ps 2))), .v (.int .i64 (cvInt (c_ps 3))), .v (.int .i64 (cvInt (c_ps 4))), .v (.int .i64 (cvInt (c_ps 5))), .sl 1 ((rlOf (cvLen (c_ps 6)) (cvCells (c_ps 6))).length) (rlsC (rlOf (cvLen (c_ps 6)) (cvCells (c_ps 6))))])])], ?_, Nat.le_of_ble_eq_true (by kernel_rfl), ?_, ?_⟩
  ·exact (LeA_cons (LeD.refl _) (LeA_cons (leT_f (LeCs.cons (leC_p (LeCs.cons (leC_s hp1 (leL_FHit hp2)) (LeCs.cons (leC_i (intsB_get hp0 1 (by decide))) (LeCs.cons (leC_i (intsB_get hp0 2 (by decide))) (LeCs.cons (leC_i (intsB_get hp0 3 (by decide))) (LeCs.cons (leC_i (intsB_get hp0 4 (by decide))) (LeCs.cons (leC_i (intsB_get hp0 5 (by decide))) (LeCs.cons (leC_s hp3 (leL_LRg hp4)) LeCs.nil)))))))) LeCs.nil)) LeA_nil))
  ·rw [ev_flash_smallest_b]; exact spec_flash_smallest_b q (listC (cvLen (c_ps 0)) mkHit (cvCells (c_ps 0))) (cvInt (c_ps 1)) (cvInt (c_ps 2)) (cvInt (c_ps 3)) (cvInt (c_ps 4)) (cvInt (c_ps 5)) (rlOf (cvLen (c_ps 6)) (cvCells (c_ps 6))) hp
  ·exact all_flash_smallest_b q (listC (cvLen (c_ps 0)) mkHit (cvCells (c_ps 0))) (cvInt (c_ps 1)) (cvInt (c_ps 2)) (cvInt (c_ps 3)) (cvInt (c_ps 4)) (cvInt (c_ps 5)) (rlOf (cvLen (c_ps 6)) (cvCells (c_ps 6))) hp
 ·cases h
noncomputable def Sy131 : Sum := addF Sy130 105 con_flash_smallest_b
theorem VSy131 : Valid Tryd.prog Sy131 := Valid.addF VSy130 ok_flash_smallest_b
def vc_flash_Contradicting (l : List FHit) (g0 g1 g2 g3 g4 : Int) (post : DV → Prop) : Prop := (numsP 7 l.length (hitsC l)) ∧ (cond ((bothE (listC l.length mkHit (hitsC l)) (⟨⟨g0, g1, g2⟩, g3, g4⟩ : Lat)) != (0 : Int)) (post (.tu [.c (.v (.slice none 0 0)), .c (.v (.int .i64 (bothE (listC l.length mkHit (hitsC l)) (⟨⟨g0, g1, g2⟩, g3, g4⟩ : Lat))))])) ((intsB [1, 2, 3, 4, 5] (boxC [.sl 7 ((opnH (listC l.length mkHit (hitsC l)) (⟨⟨g0, g1, g2⟩, g3, g4⟩ : Lat)).length) (hitsC (opnH (listC l.length mkHit (hitsC l)) (⟨⟨g0, g1, g2⟩, g3, g4⟩ : Lat))), .v (.int .i64 ((opnX (listC l.length mkHit (hitsC l)) (⟨⟨g0, g1, g2⟩, g3, g4⟩ : Lat)).o.x)), .v (.int .i64 ((opnX (listC l.length mkHit (hitsC l)) (⟨⟨g0, g1, g2⟩, g3, g4⟩ : Lat)).o.y)), .v (.int .i64 ((opnX (listC l.length mkHit (hitsC l)) (⟨⟨g0, g1, g2⟩, g3, g4⟩ : Lat)).o.z)), .v (.int .i64 ((opnX (listC l.length mkHit (hitsC l)) (⟨⟨g0, g1, g2⟩, g3, g4⟩ : Lat)).st)), .v (.int .i64 ((opnX (listC l.length mkHit (hitsC l)) (⟨⟨g0, g1, g2⟩, g3, g4⟩ : Lat)).n)), .sl 1 ((opnS (listC l.length mkHit (hitsC l)) (⟨⟨g0, g1, g2⟩, g3, g4⟩ : Lat)).length) (rlsC (opnS (listC l.length mkHit (hitsC l)) (⟨⟨g0, g1, g2⟩, g3, g4⟩ : Lat)))]) = true ∧ slP 7 ((boxC [.sl 7 ((opnH (listC l.length mkHit (hitsC l)) (⟨⟨g0, g1, g2⟩, g3, g4⟩ : Lat)).length) (hitsC (opnH (listC l.length mkHit (hitsC l)) (⟨⟨g0, g1, g2⟩, g3, g4⟩ : Lat))), .v (.int .i64 ((opnX (listC l.length mkHit (hitsC l)) (⟨⟨g0, g1, g2⟩, g3, g4⟩ : Lat)).o.x)), .v (.int .i64 ((opnX (listC l.length mkHit (hitsC l)) (⟨⟨g0, g1, g2⟩, g3, g4⟩ : Lat)).o.y)), .v (.int .i64 ((opnX (listC l.length mkHit (hitsC l)) (⟨⟨g0, g1, g2⟩, g3, g4⟩ : Lat)).o.z)), .v (.int .i64 ((opnX (listC l.length mkHit (hitsC l)) (⟨⟨g0, g1, g2⟩, g3, g4⟩ : Lat)).st)), .v (.int .i64 ((opnX (listC l.length mkHit (hitsC l)) (⟨⟨g0, g1, g2⟩, g3, g4⟩ : Lat)).n)), .sl 1 ((opnS (listC l.length mkHit (hitsC l)) (⟨⟨g0, g1, g2⟩, g3, g4⟩ : Lat)).length) (rlsC (opnS (listC l.length mkHit (hitsC l)) (⟨⟨g0, g1, g2⟩, g3, g4⟩ : Lat)))]) 0) ∧ numsP 7 ((opnH (listC l.length mkHit (hitsC l)) (⟨⟨g0, g1, g2⟩, g3, g4⟩ : Lat)).length) (hitsC (opnH (listC l.length mkHit (hitsC l)) (⟨⟨g0, g1, g2⟩, g3, g4⟩ : Lat))) ∧ slP 1 ((boxC [.sl 7 ((opnH (listC l.length mkHit (hitsC l)) (⟨⟨g0, g1, g2⟩, g3, g4⟩ : Lat)).length) (hitsC (opnH (listC l.length mkHit (hitsC l)) (⟨⟨g0, g1, g2⟩, g3, g4⟩ : Lat))), .v (.int .i64 ((opnX (listC l.length mkHit (hitsC l)) (⟨⟨g0, g1, g2⟩, g3, g4⟩ : Lat)).o.x)), .v (.int .i64 ((opnX (listC l.length mkHit (hitsC l)) (⟨⟨g0, g1, g2⟩, g3, g4⟩ : Lat)).o.y)), .v (.int .i64 ((opnX (listC l.length mkHit (hitsC l)) (⟨⟨g0, g1, g2⟩, g3, g4⟩ : Lat)).o.z)), .v (.int .i64 ((opnX (listC l.length mkHit (hitsC l)) (⟨⟨g0, g1, g2⟩, g3, g4⟩ : Lat)).st)), .v (.int .i64 ((opnX (listC l.length mkHit (hitsC l)) (⟨⟨g0, g1, g2⟩, g3, g4⟩ : Lat)).n)), .sl 1 ((opnS (listC l.length mkHit (hitsC l)) (⟨⟨g0, g1, g2⟩, g3, g4⟩ : Lat)).length) (rlsC (opnS (listC l.length mkHit (hitsC l)) (⟨⟨g0, g1, g2⟩, g3, g4⟩ : Lat)))]) 6) ∧ rlP ((opnS (listC l.length mkHit (hitsC l)) (⟨⟨g0, g1, g2⟩, g3, g4⟩ : Lat)).length) (rlsC (opnS (listC l.length mkHit (hitsC l)) (⟨⟨g0, g1, g2⟩, g3, g4⟩ : Lat))) ∧ cnOk ((l.length : Nat) : Int) (rlOf ((opnS (listC l.length mkHit (hitsC l)) (⟨⟨g0, g1, g2⟩, g3, g4⟩ : Lat)).length) (rlsC (opnS (listC l.length mkHit (hitsC l)) (⟨⟨g0, g1, g2⟩, g3, g4⟩ : Lat))))) ∧ (post (.tu [.c (.sl 1 (((foldS (contB (rlOf ((opnS (listC l.length mkHit (hitsC l)) (⟨⟨g0, g1, g2⟩, g3, g4⟩ : Lat)).length) (rlsC (opnS (listC l.length mkHit (hitsC l)) (⟨⟨g0, g1, g2⟩, g3, g4⟩ : Lat))))) (2 ^ (((l.length : Nat) : Int)).toNat)).getD []).length) (numsC .i64 ((foldS (contB (rlOf ((opnS (listC l.length mkHit (hitsC l)) (⟨⟨g0, g1, g2⟩, g3, g4⟩ : Lat)).length) (rlsC (opnS (listC l.length mkHit (hitsC l)) (⟨⟨g0, g1, g2⟩, g3, g4⟩ : Lat))))) (2 ^ (((l.length : Nat) : Int)).toNat)).getD []))), .c (.v (.int .i64 (unl ((foldS (contB (rlOf ((opnS (listC l.length mkHit (hitsC l)) (⟨⟨g0, g1, g2⟩, g3, g4⟩ : Lat)).length) (rlsC (opnS (listC l.length mkHit (hitsC l)) (⟨⟨g0, g1, g2⟩, g3, g4⟩ : Lat))))) (2 ^ (((l.length : Nat) : Int)).toNat)).isSome) (12 : Int))))]))))
def ann_flash_Contradicting : Ann := ⟨fun _ => none, fun _ => none, fun _ => [], I1, true, fun _ => none, fun _ => none⟩
theorem ev_flash_Contradicting (J : Inv) (l : List FHit) (g0 g1 g2 g3 g4 : Int) (post : DV → Prop) : evFn Tryd.prog tab Sy131 ann_flash_Contradicting J Tryd.f66 [.t (.c (.sl 7 l.length (hitsC l))), .t (.a [.v (.int .i64 g0), .v (.int .i64 g1), .v (.int .i64 g2), .v (.int .i64 g3), .v (.int .i64 g4)])] post = vc_flash_Contradicting l g0 g1 g2 g3 g4 post := by kernel_rfl
theorem fit_flash_Contradicting : okFn ann_flash_Contradicting Tryd.f66 = true := by kernel_rfl
theorem lp_flash_Contradicting (J : Inv) (post : DV → Prop) : AllG J (loopsFn Tryd.prog tab Sy131 ann_flash_Contradicting J Tryd.f66 post) = (True) := by kernel_rfl
theorem spec_flash_Contradicting (l : List FHit) (g0 g1 g2 g3 g4 : Int) : vc_flash_Contradicting l g0 g1 g2 g3 g4 (fun r => LeD r (.tu [.c (.sl 1 ((cnL l (⟨⟨g0, g1, g2⟩, g3, g4⟩ : Lat)).length) (intsC (cnL l (⟨⟨g0, g1, g2⟩, g3, g4⟩ : Lat)))), .c (.v (.int .i64 (cnE l (⟨⟨g0, g1, g2⟩, g3, g4⟩ : Lat))))])) := by
 unfold vc_flash_Contradicting
 simp only [hits_listC, rls_of]
 refine ⟨numsP_hits l, cond_i (fun h => ?_) (fun h => ?_)⟩
 ·have h : bothE l (⟨⟨g0, g1, g2⟩, g3, g4⟩ : Lat) ≠ 0 := by simpa using h
  rw [show cnL l (⟨⟨g0, g1, g2⟩, g3, g4⟩ : Lat) = [] from if_neg h, show cnE l (⟨⟨g0, g1, g2⟩, g3, g4⟩ : Lat) = bothE l (⟨⟨g0, g1, g2⟩, g3, g4⟩ : Lat) from if_pos h]
  exact le_tu le_nil (LeD.refl _)
 ·have h : bothE l (⟨⟨g0, g1, g2⟩, g3, g4⟩ : Lat) = 0 := by simpa using h
  rw [show cnL l (⟨⟨g0, g1, g2⟩, g3, g4⟩ : Lat) = _ from if_pos h, show cnE l (⟨⟨g0, g1, g2⟩, g3, g4⟩ : Lat) = _ from if_neg (by rw [h]; simp)]
  refine ⟨⟨rfl, rfl, numsP_hits _, rfl, rlP_rls _, cnOk_opn h⟩, ?_⟩
  rw [opnS_all h]
  exact LeD.refl _
def con_flash_Contradicting : Con := fun args => match args with
 | [.t (.c (.sl 7 n_l c_l)), .t (.a [.v (.int .i64 g0), .v (.int .i64 g1), .v (.int .i64 g2), .v (.int .i64 g3), .v (.int .i64 g4)])] => some (.tu [.c (.sl 1 ((cnL (listC n_l mkHit c_l) (⟨⟨g0, g1, g2⟩, g3, g4⟩ : Lat)).length) (intsC (cnL (listC n_l mkHit c_l) (⟨⟨g0, g1, g2⟩, g3, g4⟩ : Lat)))), .c (.v (.int .i64 (cnE (listC n_l mkHit c_l) (⟨⟨g0, g1, g2⟩, g3, g4⟩ : Lat))))], some (numsP 7 n_l c_l), true)
 | _ => none
theorem ok_flash_Contradicting : Ok Tryd.prog 66 con_flash_Contradicting := by
 refine Ok.fnFr (ann := ann_flash_Contradicting) mixed tabOK VSy131 VI1 rfl (fn := Tryd.f66) (by kernel_rfl) (by kernel_rfl) fit_flash_Contradicting fun args r pre fresh h hp => ?_
 unfold con_flash_Contradicting at h
 split at h
 ·rename_i n_l c_l g0 g1 g2 g3 g4
  cases h
  have hp0 := hp
  refine ⟨rfl, (by intro x hx; simp only [List.mem_cons, List.not_mem_nil, or_false] at hx; rcases hx with rfl | rfl; exact (fun i j _ hj => plain_int _ i j); exact trivial), fun _ _ _ => False, [.t (.c (.sl 7 ((listC n_l mkHit c_l).length) (hitsC (listC n_l mkHit c_l)))), .t (.a [.v (.int .i64 g0), .v (.int .i64 g1), .v (.int .i64 g2), .v (.int .i64 g3), .v (.int .i64 g4)])], ?_, Nat.le_of_ble_eq_true (by kernel_rfl), ?_, ?_⟩
  ·exact (LeA_cons (leT_c ((leL_FHit hp0))) (LeA_cons (LeD.refl _) LeA_nil))
  ·rw [ev_flash_Contradicting]; exact spec_flash_Contradicting (listC n_l mkHit c_l) g0 g1 g2 g3 g4
  ·rw [lp_flash_Contradicting]; trivial
 ·cases h
noncomputable def Sy132 : Sum := addS Sy131 66 con_flash_Contradicting
theorem VSy132 : Valid Tryd.prog Sy132 := Valid.add VSy131 ok_flash_Contradicting
end Go.Proofs.YtmhgjlapkhdlmaaDoor
set_option linter.unusedVariables false
set_option linter.unusedSimpArgs false
namespace Go.Proofs.YtmhgjlapkhdlmaaDoor
open Go.RowKit Ev
theorem plAt_all {x : Lat} {k : Nat} (hk : k < x.sz.toNat) : plAt (allP x) k = posAt x k := by
 simp only [plAt, allP, List.getD, List.getElem?_map, List.getElem?_range hk, Option.map_some, Option.getD_some]
theorem lt_v {α : Type} {v : α} {k : α → Prop} : lt v k = k v := by unfold lt; rfl
theorem n00 : (((0 : Nat) : Int) == (0 : Int)) = true := rfl
theorem wr00 : IntKind.i64.wrap (((0 : Nat) : Int) + ((0 : Nat) : Int)) = 0 := rfl
def vc_ref06_BothErr (l : List FHit) (g0 g1 g2 g3 g4 : Int) (post : DV → Prop) : Prop := (numsP 7 l.length (hitsC l)) ∧ (cond ((hitsE (listC l.length mkHit (hitsC l))) != (0 : Int)) (post (.t (.c (.v (.int .i64 (hitsE (listC l.length mkHit (hitsC l)))))))) (post (.t (.c (.v (.int .i64 (latE (⟨⟨g0, g1, g2⟩, g3, g4⟩ : Lat))))))))
def ann_ref06_BothErr : Ann := ⟨fun _ => none, fun _ => none, fun _ => [], I1, false, fun _ => none, fun _ => none⟩
theorem ev_ref06_BothErr (J : Inv) (l : List FHit) (g0 g1 g2 g3 g4 : Int) (post : DV → Prop) : evFn Tryd.prog tab Sy132 ann_ref06_BothErr J Tryd.f65 [.t (.c (.sl 7 l.length (hitsC l))), .t (.a [.v (.int .i64 g0), .v (.int .i64 g1), .v (.int .i64 g2), .v (.int .i64 g3), .v (.int .i64 g4)])] post = vc_ref06_BothErr l g0 g1 g2 g3 g4 post := by kernel_rfl
theorem fit_ref06_BothErr : okFn ann_ref06_BothErr Tryd.f65 = true := by kernel_rfl
theorem lp_ref06_BothErr (J : Inv) (post : DV → Prop) : AllG J (loopsFn Tryd.prog tab Sy132 ann_ref06_BothErr J Tryd.f65 post) = (True) := by kernel_rfl
theorem spec_ref06_BothErr (l : List FHit) (g0 g1 g2 g3 g4 : Int) : vc_ref06_BothErr l g0 g1 g2 g3 g4 (fun r => LeD r (.t (.c (.v (.int .i64 (bothE l (⟨⟨g0, g1, g2⟩, g3, g4⟩ : Lat))))))) := by
 unfold vc_ref06_BothErr
 simp only [hits_listC]
 refine ⟨numsP_hits l, cond_i (fun h => leI ?_) (fun h => leI ?_)⟩
 ·have h : hitsE l ≠ 0 := by simpa using h
  simp [bothE, firstNZ, h]
 ·have h : hitsE l = 0 := by simpa using h
  unfold bothE
  rw [h]
  by_cases e : latE (⟨⟨g0, g1, g2⟩, g3, g4⟩ : Lat) = 0
  ·rw [e]; rfl
  ·simp [firstNZ, e]
def con_ref06_BothErr : Con := fun args => match args with
 | [.t (.c (.sl 7 n_l c_l)), .t (.a [.v (.int .i64 g0), .v (.int .i64 g1), .v (.int .i64 g2), .v (.int .i64 g3), .v (.int .i64 g4)])] => some (.t (.c (.v (.int .i64 (bothE (listC n_l mkHit c_l) (⟨⟨g0, g1, g2⟩, g3, g4⟩ : Lat))))), some (numsP 7 n_l c_l), false)
 | _ => none
theorem ok_ref06_BothErr : Ok Tryd.prog 65 con_ref06_BothErr := by
 refine Ok.fn (ann := ann_ref06_BothErr) mixed tabOK VSy132 VI1 (fn := Tryd.f65) (by kernel_rfl) (by kernel_rfl) fit_ref06_BothErr fun args r pre fresh h hp => ?_
 unfold con_ref06_BothErr at h
 split at h
 ·rename_i n_l c_l g0 g1 g2 g3 g4
  cases h
  have hp0 := hp
  refine ⟨rfl, fun _ _ _ => False, [.t (.c (.sl 7 ((listC n_l mkHit c_l).length) (hitsC (listC n_l mkHit c_l)))), .t (.a [.v (.int .i64 g0), .v (.int .i64 g1), .v (.int .i64 g2), .v (.int .i64 g3), .v (.int .i64 g4)])], ?_, Nat.le_of_ble_eq_true (by kernel_rfl), ?_, ?_⟩
  ·exact (LeA_cons (leT_c ((leL_FHit hp0))) (LeA_cons (LeD.refl _) LeA_nil))
  ·rw [ev_ref06_BothErr]; exact spec_ref06_BothErr (listC n_l mkHit c_l) g0 g1 g2 g3 g4
  ·rw [lp_ref06_BothErr]; trivial
 ·cases h
noncomputable def Sz133 : Sum := addS Sy132 65 con_ref06_BothErr
theorem VSz133 : Valid Tryd.prog Sz133 := Valid.add VSy132 ok_ref06_BothErr
noncomputable def Sz134 : Sum := Sz133
theorem VSz134 : Valid Tryd.prog Sz134 := VSz133
noncomputable def Sz135 : Sum := Sz134
theorem VSz135 : Valid Tryd.prog Sz135 := VSz134
noncomputable def Sz136 : Sum := Sz135
theorem VSz136 : Valid Tryd.prog Sz136 := VSz135
noncomputable def Sz137 : Sum := Sz136
theorem VSz137 : Valid Tryd.prog Sz137 := VSz136
noncomputable def Sz138 : Sum := Sz137
theorem VSz138 : Valid Tryd.prog Sz138 := VSz137
noncomputable def Sz139 : Sum := Sz138
theorem VSz139 : Valid Tryd.prog Sz139 := VSz138
noncomputable def Sz140 : Sum := Sz139
theorem VSz140 : Valid Tryd.prog Sz140 := VSz139
end Go.Proofs.YtmhgjlapkhdlmaaDoor