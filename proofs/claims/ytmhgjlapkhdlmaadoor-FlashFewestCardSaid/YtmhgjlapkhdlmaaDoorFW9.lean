/- Texts of this claim, together. -/
import Derived.Test.YtmhgjlapkhdlmaaDoorFW8
import Derived.RangeFuncLeaves
import Derived.OwnWalkIn
import Derived.TacticsInMore
import Derived.LoopNIn
import Derived.LoopIn

set_option linter.unusedVariables false
set_option linter.unusedSimpArgs false
namespace Go.Proofs.YtmhgjlapkhdlmaaDoor
open Go.RowKit Ev
theorem nums_ints : numsC .i64 = intsC := rfl
noncomputable def hd {α : Type} (x : α) : α := Classical.choose (⟨x, rfl⟩ : ∃ y, y = x)
theorem hd_eq {α : Type} (x : α) : hd x = x := Classical.choose_spec (⟨x, rfl⟩ : ∃ y, y = x)
def S95 : Sum := S94
theorem VS95 : Valid Tryd.prog S95 := VS94
def S96 : Sum := S95
theorem VS96 : Valid Tryd.prog S96 := VS95
def S97 : Sum := S96
theorem VS97 : Valid Tryd.prog S97 := VS96
def S98 : Sum := S97
theorem VS98 : Valid Tryd.prog S98 := VS97
def S99 : Sum := S98
theorem VS99 : Valid Tryd.prog S99 := VS98
noncomputable def S100 : Sum := S99
theorem VS100 : Valid Tryd.prog S100 := VS99
noncomputable def conh_flash_PartOf : Con := fun args => match args with
 | [.t (.c (.sl 2 n_m c_m)), .t (.a [.v (.int .i64 f), .sl 1 n_v c_v])] => some (.tu [.a [.v (.int .i64 (hd (prtN (muOf n_m c_m) f (listC n_v mkInt c_v)))), .v (.int .i64 (hd (prtD (muOf n_m c_m) f (listC n_v mkInt c_v))))], .c (.v (.int .i64 (hd (vvE (muOf n_m c_m) f (listC n_v mkInt c_v)))))], some (muP n_m c_m ∧ numsP 1 n_v c_v ∧ muSm (muOf n_m c_m) ∧ ((listC n_v mkInt c_v)).length ≤ 1000000), false)
 | _ => none
theorem okh_flash_PartOf : Ok Tryd.prog 38 conh_flash_PartOf := by
 refine Ok.over ok_flash_PartOf fun args r' pre' fresh h hp => ?_
 unfold conh_flash_PartOf at h
 split at h
 ·cases h
  exact ⟨_, _, rfl, hp, by simp only [hd_eq]⟩
 ·cases h
noncomputable def S101 : Sum := addS S100 38 conh_flash_PartOf
theorem VS101 : Valid Tryd.prog S101 := Valid.add VS100 okh_flash_PartOf
noncomputable def S102 : Sum := S101
theorem VS102 : Valid Tryd.prog S102 := VS101
noncomputable def S103 : Sum := S102
theorem VS103 : Valid Tryd.prog S103 := VS102
noncomputable def S104 : Sum := S103
theorem VS104 : Valid Tryd.prog S104 := VS103
noncomputable def S105 : Sum := S104
theorem VS105 : Valid Tryd.prog S105 := VS104
end Go.Proofs.YtmhgjlapkhdlmaaDoor
set_option linter.unusedVariables false
set_option linter.unusedSimpArgs false
namespace Go.Proofs.YtmhgjlapkhdlmaaDoor
open Go.RowKit Ev
end Go.Proofs.YtmhgjlapkhdlmaaDoor
set_option linter.unusedVariables false
set_option linter.unusedSimpArgs false
namespace Go.Proofs.YtmhgjlapkhdlmaaDoor
open Go.RowKit Ev
noncomputable def St106 : Sum := S105
theorem VSt106 : Valid Tryd.prog St106 := VS105
noncomputable def St107 : Sum := St106
theorem VSt107 : Valid Tryd.prog St107 := VSt106
noncomputable def St108 : Sum := St107
theorem VSt108 : Valid Tryd.prog St108 := VSt107
noncomputable def St109 : Sum := St108
theorem VSt109 : Valid Tryd.prog St109 := VSt108
noncomputable def St110 : Sum := St109
theorem VSt110 : Valid Tryd.prog St110 := VSt109
noncomputable def St111 : Sum := St110
theorem VSt111 : Valid Tryd.prog St111 := VSt110
noncomputable def St112 : Sum := St111
theorem VSt112 : Valid Tryd.prog St112 := VSt111
noncomputable def St113 : Sum := St112
theorem VSt113 : Valid Tryd.prog St113 := VSt112
noncomputable def St114 : Sum := St113
theorem VSt114 : Valid Tryd.prog St114 := VSt113
end Go.Proofs.YtmhgjlapkhdlmaaDoor
set_option linter.unusedVariables false
set_option linter.unusedSimpArgs false
namespace Go.Proofs.YtmhgjlapkhdlmaaDoor
open Go.RowKit Ev
end Go.Proofs.YtmhgjlapkhdlmaaDoor
set_option linter.unusedVariables false
set_option linter.unusedSimpArgs false
namespace Go.Proofs.YtmhgjlapkhdlmaaDoor
open Go.RowKit Ev
noncomputable def Su115 : Sum := St114
theorem VSu115 : Valid Tryd.prog Su115 := VSt114
noncomputable def Su116 : Sum := Su115
theorem VSu116 : Valid Tryd.prog Su116 := VSu115
noncomputable def Su117 : Sum := Su116
theorem VSu117 : Valid Tryd.prog Su117 := VSu116
noncomputable def Su118 : Sum := Su117
theorem VSu118 : Valid Tryd.prog Su118 := VSu117
noncomputable def Su119 : Sum := Su118
theorem VSu119 : Valid Tryd.prog Su119 := VSu118
noncomputable def Su120 : Sum := Su119
theorem VSu120 : Valid Tryd.prog Su120 := VSu119
end Go.Proofs.YtmhgjlapkhdlmaaDoor
set_option linter.unusedVariables false
set_option linter.unusedSimpArgs false
namespace Go.Proofs.YtmhgjlapkhdlmaaDoor
open Go.RowKit Ev
def okH (l : List FHit) : Prop := 0 < l.length ∧ l.length ≤ 8 ∧ ∀ h ∈ l, h.err = 0
theorem okH_iff {l : List FHit} : hitsE l = 0 ↔ okH l := by
 constructor
 ·intro h
  obtain ⟨⟨h1, h2⟩, h3⟩ := hitsE_ok h
  refine ⟨h1, h2, fun x hx => ?_⟩
  obtain ⟨i, hi, rfl⟩ := List.getElem_of_mem hx
  have := h3 i hi
  rwa [show hitAt l i = l[i] by simp [hitAt, List.getD, hi]] at this
 ·rintro ⟨h1, h2, h3⟩
  unfold hitsE
  have hc : cntE l.length 8 = 0 := by unfold cntE; rw [decide_eq_true (show (l.length : Int) > 0 by omega), decide_eq_true (show (l.length : Int) ≤ 8 by omega)]; rfl
  rw [if_pos hc]
  exact scan_end fun i hi => by rw [show hitAt l i = l[i] by simp [hitAt, List.getD, hi]]; exact h3 _ (List.getElem_mem hi)
theorem comm_iff : ∀ {l : List Rg} {e : Int}, 0 < l.length → ((comm l).lo ≤ e ∧ e ≤ (comm l).hi ↔ ∀ g ∈ l, g.lo ≤ e ∧ e ≤ g.hi) := by
 have key : ∀ (l : List Rg) (a : Rg) (e : Int), ((l.foldl meetR a).lo ≤ e ∧ e ≤ (l.foldl meetR a).hi ↔ (a.lo ≤ e ∧ e ≤ a.hi) ∧ ∀ g ∈ l, g.lo ≤ e ∧ e ≤ g.hi) := by
  intro l
  induction l with
  | nil => intro a e; simp
  | cons g l ih =>
   intro a e
   rw [List.foldl_cons, ih]
   simp only [List.mem_cons, forall_eq_or_imp]
   have : ((meetR a g).lo ≤ e ∧ e ≤ (meetR a g).hi) ↔ (a.lo ≤ e ∧ e ≤ a.hi) ∧ g.lo ≤ e ∧ e ≤ g.hi := by
    show (max a.lo g.lo ≤ e ∧ e ≤ min a.hi g.hi) ↔ _
    omega
   rw [this, and_assoc]
 intro l e h0
 cases l with
 | nil => simp at h0
 | cons g l =>
  have := key l g e
  simp only [List.mem_cons, forall_eq_or_imp]
  exact this
end Go.Proofs.YtmhgjlapkhdlmaaDoor
set_option linter.unusedVariables false
set_option linter.unusedSimpArgs false
namespace Go.Proofs.YtmhgjlapkhdlmaaDoor
open Go.RowKit Ev
end Go.Proofs.YtmhgjlapkhdlmaaDoor
set_option linter.unusedVariables false
set_option linter.unusedSimpArgs false
namespace Go.Proofs.YtmhgjlapkhdlmaaDoor
open Go.RowKit Ev
def sprF (sp : List (List Rg)) (k : Nat) : Int := max 0 ((comm (rlAt sp k)).lo - (comm (rlAt sp k)).hi)
def sprY (sp : List (List Rg)) (i : Nat) : List TV := [.c (.v (.int .i64 (i : Int))), .c (.v (.int .i64 (sprF sp i)))]
theorem comm_rg {l : List Rg} {K : Int} (h0 : 0 < l.length) (h : ∀ g ∈ l, -K ≤ g.lo ∧ g.lo ≤ K ∧ -K ≤ g.hi ∧ g.hi ≤ K) : -K ≤ (comm l).lo ∧ (comm l).lo ≤ K ∧ -K ≤ (comm l).hi ∧ (comm l).hi ≤ K := by
 have key : ∀ (l : List Rg) (a : Rg), (-K ≤ a.lo ∧ a.lo ≤ K ∧ -K ≤ a.hi ∧ a.hi ≤ K) → (∀ g ∈ l, -K ≤ g.lo ∧ g.lo ≤ K ∧ -K ≤ g.hi ∧ g.hi ≤ K) → -K ≤ (l.foldl meetR a).lo ∧ (l.foldl meetR a).lo ≤ K ∧ -K ≤ (l.foldl meetR a).hi ∧ (l.foldl meetR a).hi ≤ K := by
  intro l
  induction l with
  | nil => exact fun a h _ => h
  | cons g l ih =>
   intro a ha hl
   have hg := hl g (by simp)
   refine ih _ ?_ fun x hx => hl x (by simp [hx])
   show -K ≤ max a.lo g.lo ∧ max a.lo g.lo ≤ K ∧ -K ≤ min a.hi g.hi ∧ min a.hi g.hi ≤ K
   omega
 cases l with
 | nil => simp at h0
 | cons g l => exact key l g (h g (by simp)) fun x hx => h x (by simp [hx])
set_option maxRecDepth 100000 in
set_option maxHeartbeats 2000000 in
theorem seq_spreads (w : World) (N : Nat → Prop) (vs : List Value) (sp : List (List Rg)) (x y z a b c d : CV) (hsp : ∀ k, k < sp.length → 0 < (rlAt sp k).length ∧ (rlAt sp k).length ≤ 8 ∧ ∀ g ∈ rlAt sp k, -2000000000 ≤ g.lo ∧ g.lo ≤ 2000000000 ∧ -2000000000 ≤ g.hi ∧ g.hi ≤ 2000000000) (hl : sp.length ≤ 1000)
  (hv : All2 (RelF w N) [x, y, z, a, b, c, .sl 1 sp.length (rlsC sp)] vs) :
  SeqIt Tryd.prog 131 #[.agg vs.toArray] #[] sp.length (fun i => ((sprY sp i).map tvVal).toArray) (fun A B => A.heap.size ≤ B.heap.size ∧ ∀ b, b < w.heap.size → N b → B.heap[b]? = A.heap[b]?) w := by
 intro l J Jx W hb hJ hJx hgJ hgX hY h0
 refine callsIn_of_wp Tryd.func131 rfl trivial ?_ rfl
 obtain ⟨v0, us0, rfl, r0, hv0⟩ := hv.cons_inv
 obtain ⟨v1, us1, rfl, r1, hv1⟩ := hv0.cons_inv
 obtain ⟨v2, us2, rfl, r2, hv2⟩ := hv1.cons_inv
 obtain ⟨v3, us3, rfl, r3, hv3⟩ := hv2.cons_inv
 obtain ⟨v4, us4, rfl, r4, hv4⟩ := hv3.cons_inv
 obtain ⟨v5, us5, rfl, r5, hv5⟩ := hv4.cons_inv
 obtain ⟨v6, us6, rfl, r6, hv6⟩ := hv5.cons_inv
 obtain rfl := hv6.nil_inv
 obtain ⟨ao, cap, rfl, hcap, hmx, hnil, hcells⟩ := r6
 simp only [Tryd.ntmps131, List.size_toArray, List.length_cons, List.length_nil, Nat.reduceAdd, Nat.reduceSub, Array.replicate_succ, Array.replicate_zero, List.push_toArray, List.append_toArray, List.nil_append, List.cons_append]
 have hW := hb.size
 have hcells : ∀ k, k < sp.length → ∃ b off, ao = some ⟨b, off, none⟩ ∧ b < w.heap.size ∧ N b ∧ ∃ ao' cap', w.cell? ⟨b, off + k, none⟩ = some (.slice ao' (rlAt sp k).length cap') ∧ RelF w N (.sl 2 (rlAt sp k).length (rgsC (rlAt sp k))) (.slice ao' (rlAt sp k).length cap') := by
  intro k hk
  obtain ⟨b, off, e1, e2, e3, e4⟩ := hcells (by omega)
  obtain ⟨x, x1, x2⟩ := e4 k 0 hk (by omega)
  obtain ⟨ao', cap', y1, y2⟩ := id x2
  rw [Nat.mul_one, Nat.add_zero, y1] at x1
  rw [y1] at x2
  exact ⟨b, off, e1, e2, e3, ao', cap', x1, x2⟩
 have HC := hid hcells
 have HY := hid hY
 have HSP := hid hsp
 have HJ := hid hJ
 have HG := hid hgJ
 clear hcells hY hsp hJ hgJ hgX hJx r0 r1 r2 r3 r4 r5 hcap hmx hnil hv hv0 hv1 hv2 hv3 hv4 hv5 hv6
 gi_wp2
 gi_loopw [10] (fun i wr => ∃ k : Nat, k ≤ sp.length ∧ i = .int .i64 k ∧ J k wr ∧ W.heap.size ≤ wr.heap.size ∧ Hid (∀ b, b < w.heap.size → N b → wr.heap[b]? = W.heap[b]?)) (fun i _ => sp.length - (intOf i).toNat)
 case atStart => exact ⟨0, Nat.zero_le _, rfl, HJ.out 0 W _ none h0 (below_grown ((Below.refl _ _).alloc (Nat.le_refl _) _)) (fun r e => by cases e), by simp, hid fun b hb0 _ => Below.heap_alloc _ _ _ (by omega)⟩
 case round =>
  obtain ⟨k, hk, rfl, hJs, hsz, HK⟩ := hrel
  by_cases hlt : k < sp.length
  ·obtain ⟨b, off, rfl, hb1, hN1, ao', cap', hc, hrl⟩ := HC.out k hlt
   have hcx : wr.cell? ⟨b, off + k, none⟩ = some (.slice ao' (rlAt sp k).length cap') := (World.cell?_of_block (w := w) (a := ⟨b, off + k, none⟩) ((HK.out b hb1 hN1).trans (hb.block b hb1))).trans hc
   have HR := hid hrl
   clear hrl hc
   have hGr := HG.out k wr hJs
   obtain ⟨s1, s2, s3⟩ := HSP.out k hlt
   have HCOM : Hid (Calls Tryd.prog 125 #[.slice ao' (rlAt sp k).length cap'] wr fun e w' => e = .returned (.agg #[.int .i64 (comm (rlAt sp k)).lo, .int .i64 (comm (rlAt sp k)).hi]) ∧ Below wr.heap.size wr w') := by
    refine hid (((ok_flash_common [.t (.c (.sl 2 (rlAt sp k).length (rgsC (rlAt sp k))))] _ _ _ rfl ⟨numsP_rgs _, by rw [rgs_listC]; omega, by rw [rgs_listC]; omega⟩).2 wr N [.slice ao' (rlAt sp k).length cap'] hGr ⟨RelF.mono (by omega) (fun b hb0 hlt0 off => World.cell?_of_block (w := w) (a := ⟨b, off, none⟩) ((HK.out b hlt0 hb0).trans (hb.block b hlt0))) (fun b hb0 _ => hb0) _ HR.out, trivial⟩).mono ?_)
    rintro e w' ⟨v, rfl, hr, hbl⟩
    rw [rgs_listC] at hr
    obtain ⟨us, rfl, t1⟩ := hr
    obtain ⟨x0, us0, rfl, t2, t3⟩ := t1.cons_inv
    obtain ⟨x1, us1, rfl, t4, t5⟩ := t3.cons_inv
    obtain rfl := t5.nil_inv
    obtain ⟨rfl, _⟩ := t2
    obtain ⟨rfl, _⟩ := t4
    exact ⟨rfl, hbl⟩
   gi_wp2
   refine ⟨trivial, rfl, callsIn_wide.2 (HCOM.out.mono ?_)⟩
   rintro _ w1 ⟨rfl, hb1'⟩
   have cr := comm_rg (K := 2000000000) s1 (fun g hg => by have := s3 g hg; omega)
   have hsv : sprF sp k = max 0 ((comm (rlAt sp k)).lo - (comm (rlAt sp k)).hi) := rfl
   have HSV := hid hsv
   obtain ⟨lo, elo⟩ : ∃ lo, lo = (comm (rlAt sp k)).lo := ⟨_, rfl⟩
   obtain ⟨hi, ehi⟩ : ∃ hi, hi = (comm (rlAt sp k)).hi := ⟨_, rfl⟩
   rw [← elo, ← ehi] at cr hsv ⊢
   have HE := hid hsv
   have hw : wrap64 (lo - hi) = lo - hi := IntWalk.wrap64_in _ (by omega)
   clear elo ehi HSV HCOM hsv s3
   have HYK : ∀ W1, J k W1 → ∀ m, m = sprF sp k → YieldAt Fence.wide 0 Tryd.prog l #[.int .i64 (k : Int), .int .i64 m] W1 fun e W' => (e = .returned (.bool true) ∧ J (k + 1) W' ∧ W1.heap.size ≤ W'.heap.size ∧ ∀ b, b < w.heap.size → N b → W'.heap[b]? = W1.heap[b]?) ∨ (e = .returned (.bool false) ∧ Jx () W') := fun W1 h1 m hm => by
    subst hm
    exact HY.out k W1 hlt h1
   have HYK := hid HYK
   have hJ1 : Hid (J k (w1.alloc (Obj.cells #[Value.int IntKind.i64 lo, Value.int IntKind.i64 hi] 94))) := hid (HJ.out k wr _ none hJs (below_grown (hb1'.alloc hb1'.size _)) (fun r e => by cases e))
   by_cases hpos : 0 < lo - hi
   ·obtain ⟨fn, tmps, assign, body, hy, hR⟩ := HYK.out _ hJ1.out (lo - hi) (by rw [HE.out]; omega)
    gi_wp2
    refine ⟨rfl, hR.mono ?_⟩
    rintro e W3 (⟨rfl, hJ3, hs3, hk3⟩ | ⟨rfl, hJx3⟩)
    ·gi_wp2
     go_roundw
     case rel =>
      refine ⟨k + 1, by omega, by simp, hJ3, ?_, hid fun b0 hb0 hN0 => ?_⟩
      ·have := hb1'.size
       rw [World.size_alloc] at hs3
       omega
      ·have h1 := hb1'.size
       rw [hk3 b0 hb0 hN0, Below.heap_alloc _ _ _ (by omega), hb1'.block b0 (by omega), HK.out b0 hb0 hN0]
     case measure => simp [intOf]; omega
    ·gi_wp2
     refine bodyPost_ret (results_none rfl _ _ _) rfl ?_
     exact ⟨⟨_, rfl⟩, .inr hJx3⟩
   ·obtain ⟨fn, tmps, assign, body, hy, hR⟩ := HYK.out _ hJ1.out 0 (by rw [HE.out]; omega)
    gi_wp2
    refine ⟨rfl, hR.mono ?_⟩
    rintro e W3 (⟨rfl, hJ3, hs3, hk3⟩ | ⟨rfl, hJx3⟩)
    ·gi_wp2
     go_roundw
     case rel =>
      refine ⟨k + 1, by omega, by simp, hJ3, ?_, hid fun b0 hb0 hN0 => ?_⟩
      ·have := hb1'.size
       rw [World.size_alloc] at hs3
       omega
      ·have h1 := hb1'.size
       rw [hk3 b0 hb0 hN0, Below.heap_alloc _ _ _ (by omega), hb1'.block b0 (by omega), HK.out b0 hb0 hN0]
     case measure => simp [intOf]; omega
    ·gi_wp2
     refine bodyPost_ret (results_none rfl _ _ _) rfl ?_
     exact ⟨⟨_, rfl⟩, .inr hJx3⟩
  ·obtain rfl : k = sp.length := by omega
   gi_wp2
   go_end0
   exact ⟨⟨_, rfl⟩, .inl hJs⟩
end Go.Proofs.YtmhgjlapkhdlmaaDoor
set_option linter.unusedVariables false
set_option linter.unusedSimpArgs false
namespace Go.Proofs.YtmhgjlapkhdlmaaDoor
open Go.RowKit Ev
def spOk (sp : List (List Rg)) : Prop := sp.length ≤ 1000 ∧ ∀ k, k < sp.length → 0 < (rlAt sp k).length ∧ (rlAt sp k).length ≤ 8 ∧ ∀ g ∈ rlAt sp k, -2000000000 ≤ g.lo ∧ g.lo ≤ 2000000000 ∧ -2000000000 ≤ g.hi ∧ g.hi ≤ 2000000000
def con_spreads : ItC := fun l => match l with
 | [.sl 7 n_l c_l, .v (.int .i64 g0), .v (.int .i64 g1), .v (.int .i64 g2), .v (.int .i64 g3), .v (.int .i64 g4), .sl 1 n_sp c_sp] => some ⟨(rlOf n_sp c_sp).length, 2, sprY (rlOf n_sp c_sp), some (rlP n_sp c_sp ∧ spOk (rlOf n_sp c_sp)), true⟩
 | _ => none
theorem ok_spreads : OkIt Tryd.prog 131 con_spreads := by
 intro l R h hp
 unfold con_spreads at h
 split at h
 ·rename_i n_l c_l g0 g1 g2 g3 g4 n_sp c_sp
  cases h
  obtain ⟨hp0, hp1, hp2⟩ := hp
  refine ⟨Enters.of (fn := Tryd.f131) (by kernel_rfl) (by kernel_rfl) (by kernel_rfl), fun i _ => ⟨rfl, rfl⟩, fun w N vs hv => ?_⟩
  obtain ⟨v0, us0, rfl, r0, hv0⟩ := hv.cons_inv
  obtain ⟨v1, us1, rfl, r1, hv1⟩ := hv0.cons_inv
  obtain ⟨v2, us2, rfl, r2, hv2⟩ := hv1.cons_inv
  obtain ⟨v3, us3, rfl, r3, hv3⟩ := hv2.cons_inv
  obtain ⟨v4, us4, rfl, r4, hv4⟩ := hv3.cons_inv
  obtain ⟨v5, us5, rfl, r5, hv5⟩ := hv4.cons_inv
  obtain ⟨v6, us6, rfl, r6, hv6⟩ := hv5.cons_inv
  obtain rfl := hv6.nil_inv
  exact seq_spreads w N _ (rlOf n_sp c_sp) _ _ _ _ _ _ (.v (.int .i64 0)) hp2 hp1 ⟨r0, r1, r2, r3, r4, r5, leL_LRg hp0 w N v6 r6, trivial⟩
 ·cases h
def I1 : It := addI noIt 131 con_spreads
theorem VI1 : ValidIt Tryd.prog I1 := ValidIt.add ValidIt.no ok_spreads
end Go.Proofs.YtmhgjlapkhdlmaaDoor
set_option linter.unusedVariables false
set_option linter.unusedSimpArgs false
namespace Go.Proofs.YtmhgjlapkhdlmaaDoor
open Go.RowKit Ev
theorem spOk_opn {l : List FHit} {x : Lat} (h : bothE l x = 0) : spOk (opnS l x) := by
 obtain ⟨h1, h2⟩ := fn2 (show firstNZ [hitsE l, latE x] = 0 from h)
 obtain ⟨⟨z1, z2⟩, z3⟩ := hitsE_ok h1
 have hz := sz_rg h2
 rw [show opnS l x = _ from if_pos h]
 have hl : ((allP x).map (sts l)).length = x.sz.toNat := by rw [List.length_map, allP_len]
 refine ⟨by omega, fun k hk => ?_⟩
 rw [hl] at hk
 have e : rlAt ((allP x).map (sts l)) k = sts l (posAt x k) := by
  rw [rlAt_lt (by omega), List.getElem_map]
  congr 1
  simp [allP]
 rw [e, sts_len]
 refine ⟨z1, z2, fun g hg => ?_⟩
 obtain ⟨a, ha, rfl⟩ := List.mem_map.1 hg
 obtain ⟨i, hi, rfl⟩ := List.getElem_of_mem ha
 obtain ⟨b1, b2, _⟩ := hit_ok (z3 i hi)
 rw [show hitAt l i = l[i] by simp [hitAt, List.getD, hi]] at b1 b2
 have dd := dly_rg (posAt_bd h2 (show (0 : Int) ≤ (k : Int) by omega) (by omega)) (b1.mono (B := 15000) (by decide))
 unfold stR
 simp only
 omega
end Go.Proofs.YtmhgjlapkhdlmaaDoor
set_option linter.unusedVariables false
set_option linter.unusedSimpArgs false
namespace Go.Proofs.YtmhgjlapkhdlmaaDoor
open Go.RowKit Ev
def clsS (sp : List (List Rg)) (o : Int × Int) (i : Nat) : Int × Int := if (bif decide (o.1 < 0) then true else decide (sprF sp i < o.2)) = true then ((i : Int), sprF sp i) else o
def clsK (sp : List (List Rg)) (k : Nat) : Int × Int := (List.range k).foldl (clsS sp) (-1, 0)
theorem clsK_succ (sp : List (List Rg)) (k : Nat) : clsK sp (k + 1) = clsS sp (clsK sp k) k := by
 unfold clsK
 rw [List.range_succ, List.foldl_append]; rfl
def clsA (l : List FHit) (x : Lat) : Int := if bothE l x = 0 then (clsK (opnS l x) (opnS l x).length).1 else 0
def clsM (l : List FHit) (x : Lat) : Int := if bothE l x = 0 then (clsK (opnS l x) (opnS l x).length).2 else 0
def vtxK (sp : List (List Rg)) (k : Nat) : List Int := ((List.range k).filter fun i => sprF sp i == 0).map fun i : Nat => (i : Int)
theorem vtxK_succ (sp : List (List Rg)) (k : Nat) : vtxK sp (k + 1) = vtxK sp k ++ (if (sprF sp k == 0) = true then [(k : Int)] else []) := by
 unfold vtxK
 rw [List.range_succ, List.filter_append, List.map_append]
 congr 1
 rw [List.filter_cons]
 cases (sprF sp k == 0) <;> rfl
theorem vtxK_len (sp : List (List Rg)) (k : Nat) : (vtxK sp k).length ≤ k := by
 unfold vtxK
 rw [List.length_map]
 have := List.length_filter_le (fun i => sprF sp i == 0) (List.range k)
 rwa [List.length_range] at this
def vtxL (sp : List (List Rg)) : List Int := vtxK sp sp.length
def vtxO (l : List FHit) (x : Lat) : List Int := if bothE l x = 0 then vtxL (opnS l x) else []
def mk_cherenkov_flash_search_vertices_0 (l : List FHit) (g0 g1 g2 g3 g4 : Int) (sp : List (List Rg)) (v0_0 : List Int) : DS := ⟨[none, none, none, some (.t (.c (.p 3 0))), none, none, none, some (.t (.fb 131 [.sl 7 l.length (hitsC l), .v (.int .i64 g0), .v (.int .i64 g1), .v (.int .i64 g2), .v (.int .i64 g3), .v (.int .i64 g4), .sl 1 sp.length (rlsC sp)])), none, none, none, none, none, none, none, none, none], [some (.num 3 .i64 v0_0), none, none, some (.box 53 [.os 0]), none, none, none, none, none, none, none, none, none, none, none, none, none]⟩
def vc_cherenkov_flash_search_vertices (J : Inv) (l : List FHit) (g0 g1 g2 g3 g4 : Int) (sp : List (List Rg)) (post : DV → Row → Prop) : Prop := (rlP sp.length (rlsC sp) ∧ spOk (rlOf (sp.length) (rlsC sp))) ∧ (J 0 [0] (mk_cherenkov_flash_search_vertices_0 l g0 g1 g2 g3 g4 sp ([])))
def ann_cherenkov_flash_search_vertices : Ann := ⟨fun _ => none, fun b => lookA b [(0, (none, some ⟨[3, 7], [3], []⟩))], fun b => (lookA b [(0, [(3, 0, 0, .num 3 .i64 ([]))])]).getD [], I1, false, fun _ => none, fun _ => none⟩
theorem ev_cherenkov_flash_search_vertices (J : Inv) (l : List FHit) (g0 g1 g2 g3 g4 : Int) (sp : List (List Rg)) (post : DV → Row → Prop) : evFnO Tryd.prog tab Su120 ann_cherenkov_flash_search_vertices J Tryd.f132 [.t (.a [.sl 7 l.length (hitsC l), .v (.int .i64 g0), .v (.int .i64 g1), .v (.int .i64 g2), .v (.int .i64 g3), .v (.int .i64 g4), .sl 1 sp.length (rlsC sp)])] post = vc_cherenkov_flash_search_vertices J l g0 g1 g2 g3 g4 sp post := by kernel_rfl
theorem fit_cherenkov_flash_search_vertices : okFn ann_cherenkov_flash_search_vertices Tryd.f132 = true := by kernel_rfl
def rd_cherenkov_flash_search_vertices_0 (J : Inv) (l : List FHit) (g0 g1 g2 g3 g4 : Int) (sp : List (List Rg)) (v0_0 : List Int) (nn0 : Nat) (post : DV → Row → Prop) : Prop := (nn0 = (rlOf (sp.length) (rlsC sp)).length → post (.t (.c (.os 0))) (.num 3 .i64 v0_0)) ∧ (nn0 < (rlOf (sp.length) (rlsC sp)).length → cond ((sprF (rlOf (sp.length) (rlsC sp)) nn0) == (0 : Int)) (((IntKind.i64 = IntKind.i64 ∧ True) ∧ roomP 8 (v0_0.length + ([((nn0 : Nat) : Int)] : List Int).length)) ∧ (((some (.t (.fb 131 [.sl 7 l.length (hitsC l), .v (.int .i64 g0), .v (.int .i64 g1), .v (.int .i64 g2), .v (.int .i64 g3), .v (.int .i64 g4), .sl 1 sp.length (rlsC sp)])) : Option DV) = some (.t (.fb 131 [.sl 7 l.length (hitsC l), .v (.int .i64 g0), .v (.int .i64 g1), .v (.int .i64 g2), .v (.int .i64 g3), .v (.int .i64 g4), .sl 1 sp.length (rlsC sp)]))) ∧ J 0 [nn0 + 1] (mk_cherenkov_flash_search_vertices_0 l g0 g1 g2 g3 g4 sp (v0_0 ++ ([((nn0 : Nat) : Int)]))))) (((some (.t (.fb 131 [.sl 7 l.length (hitsC l), .v (.int .i64 g0), .v (.int .i64 g1), .v (.int .i64 g2), .v (.int .i64 g3), .v (.int .i64 g4), .sl 1 sp.length (rlsC sp)])) : Option DV) = some (.t (.fb 131 [.sl 7 l.length (hitsC l), .v (.int .i64 g0), .v (.int .i64 g1), .v (.int .i64 g2), .v (.int .i64 g3), .v (.int .i64 g4), .sl 1 sp.length (rlsC sp)]))) ∧ J 0 [nn0 + 1] (mk_cherenkov_flash_search_vertices_0 l g0 g1 g2 g3 g4 sp v0_0)))
theorem er_cherenkov_flash_search_vertices_0 (J : Inv) (l : List FHit) (g0 g1 g2 g3 g4 : Int) (sp : List (List Rg)) (v0_0 : List Int) (nn0 : Nat) (post : DV → Row → Prop) : roundO Tryd.prog tab Su120 ann_cherenkov_flash_search_vertices J Tryd.f132 post 0 (nn0 :: []) (mk_cherenkov_flash_search_vertices_0 l g0 g1 g2 g3 g4 sp v0_0) = rd_cherenkov_flash_search_vertices_0 J l g0 g1 g2 g3 g4 sp v0_0 nn0 post := by kernel_rfl
theorem lp_cherenkov_flash_search_vertices (J : Inv) (post : DV → Row → Prop) : AllG J (loopsFnO Tryd.prog tab Su120 ann_cherenkov_flash_search_vertices J Tryd.f132 post) = ((∀ i s, J 0 [i] s → roundO Tryd.prog tab Su120 ann_cherenkov_flash_search_vertices J Tryd.f132 post 0 [i] s) ∧ True) := by kernel_rfl
def J_cherenkov_flash_search_vertices (l : List FHit) (g0 g1 g2 g3 g4 : Int) (sp : List (List Rg)) : Inv := fun b F s => match b, F with
 | 0, [nn0] => ∃ (v0_0 : List Int), s = mk_cherenkov_flash_search_vertices_0 l g0 g1 g2 g3 g4 sp v0_0 ∧ (spOk sp ∧ nn0 ≤ sp.length ∧ v0_0 = vtxK sp nn0)
 | _, _ => False
theorem rnd_cherenkov_flash_search_vertices_0 (l : List FHit) (g0 g1 g2 g3 g4 : Int) (sp : List (List Rg)) (v0_0 : List Int) (nn0 : Nat) (hp : spOk sp) (hi : spOk sp ∧ nn0 ≤ sp.length ∧ v0_0 = vtxK sp nn0) : rd_cherenkov_flash_search_vertices_0 (J_cherenkov_flash_search_vertices l g0 g1 g2 g3 g4 sp) l g0 g1 g2 g3 g4 sp v0_0 nn0 (fun r' R' => r' = (.t (.c (.os 0))) ∧ R' = (.num 3 .i64 (vtxL sp))) := by
 obtain ⟨i0, i1, i2⟩ := hi
 have hl := vtxK_len sp nn0
 have h1 := i0.1
 unfold rd_cherenkov_flash_search_vertices_0
 simp only [rls_of]
 refine ⟨fun h => ?_, fun h => cond_i (fun e => ⟨⟨by trivial, ?_⟩, by trivial, _, rfl, i0, by omega, ?_⟩) (fun e => ⟨by trivial, _, rfl, i0, by omega, ?_⟩)⟩
 ·subst h
  subst i2
  exact ⟨by trivial, rfl⟩
 ·rw [i2]; unfold roomP maxLen; simp; omega
 ·rw [vtxK_succ, i2, if_pos e]
 ·rw [vtxK_succ, i2, if_neg (by rw [e]; simp), List.append_nil]
theorem spec_cherenkov_flash_search_vertices (l : List FHit) (g0 g1 g2 g3 g4 : Int) (sp : List (List Rg)) (hp : spOk sp) : vc_cherenkov_flash_search_vertices (J_cherenkov_flash_search_vertices l g0 g1 g2 g3 g4 sp) l g0 g1 g2 g3 g4 sp (fun r' R' => r' = (.t (.c (.os 0))) ∧ R' = (.num 3 .i64 (vtxL sp))) := by
 unfold vc_cherenkov_flash_search_vertices
 rw [rls_of]
 exact ⟨⟨rlP_rls sp, hp⟩, _, rfl, hp, Nat.zero_le _, rfl⟩
theorem all_cherenkov_flash_search_vertices (l : List FHit) (g0 g1 g2 g3 g4 : Int) (sp : List (List Rg)) (hp : spOk sp) : AllG (J_cherenkov_flash_search_vertices l g0 g1 g2 g3 g4 sp) (loopsFnO Tryd.prog tab Su120 ann_cherenkov_flash_search_vertices (J_cherenkov_flash_search_vertices l g0 g1 g2 g3 g4 sp) Tryd.f132 (fun r' R' => r' = (.t (.c (.os 0))) ∧ R' = (.num 3 .i64 (vtxL sp)))) := by
 rw [lp_cherenkov_flash_search_vertices]
 refine ⟨?_, trivial⟩
 ·intro i s h
  obtain ⟨w0, rfl, hi⟩ := h
  rw [er_cherenkov_flash_search_vertices_0]
  exact rnd_cherenkov_flash_search_vertices_0 l g0 g1 g2 g3 g4 sp _ _ hp hi
def con_cherenkov_flash_search_vertices : Con := fun args => match args with
 | [.t (.a [.sl 7 n_l c_l, .v (.int .i64 g0), .v (.int .i64 g1), .v (.int .i64 g2), .v (.int .i64 g3), .v (.int .i64 g4), .sl 1 n_sp c_sp])] => some (.t (.c (.os 0)), some (numsP 7 n_l c_l ∧ rlP n_sp c_sp ∧ spOk (rlOf n_sp c_sp)), .own (.num 3 .i64 (vtxL (rlOf n_sp c_sp))))
 | _ => none
theorem ok_cherenkov_flash_search_vertices : Ok Tryd.prog 132 con_cherenkov_flash_search_vertices := by
 refine Ok.fnO (ann := ann_cherenkov_flash_search_vertices) mixed tabOK VSu120 VI1 (fn := Tryd.f132) (by kernel_rfl) (by kernel_rfl) fit_cherenkov_flash_search_vertices fun args r pre fresh h hp => ?_
 unfold con_cherenkov_flash_search_vertices at h
 split at h
 ·rename_i n_l c_l g0 g1 g2 g3 g4 n_sp c_sp
  cases h
  obtain ⟨hp0, hp1, hp⟩ := hp
  refine ⟨_, rfl, trivial, J_cherenkov_flash_search_vertices (listC n_l mkHit c_l) g0 g1 g2 g3 g4 (rlOf n_sp c_sp), [.t (.a [.sl 7 ((listC n_l mkHit c_l).length) (hitsC (listC n_l mkHit c_l)), .v (.int .i64 g0), .v (.int .i64 g1), .v (.int .i64 g2), .v (.int .i64 g3), .v (.int .i64 g4), .sl 1 ((rlOf n_sp c_sp).length) (rlsC (rlOf n_sp c_sp))])], ?_, Nat.le_of_ble_eq_true (by kernel_rfl), ?_, ?_⟩
  ·exact (LeA_cons (leT_a (LeCs.cons ((leL_FHit hp0)) (LeCs.cons (LeC1.refl _) (LeCs.cons (LeC1.refl _) (LeCs.cons (LeC1.refl _) (LeCs.cons (LeC1.refl _) (LeCs.cons (LeC1.refl _) (LeCs.cons ((leL_LRg hp1)) LeCs.nil)))))))) LeA_nil)
  ·rw [ev_cherenkov_flash_search_vertices]; exact spec_cherenkov_flash_search_vertices (listC n_l mkHit c_l) g0 g1 g2 g3 g4 (rlOf n_sp c_sp) hp
  ·exact all_cherenkov_flash_search_vertices (listC n_l mkHit c_l) g0 g1 g2 g3 g4 (rlOf n_sp c_sp) hp
 ·cases h
noncomputable def Sx121 : Sum := addS Su120 132 con_cherenkov_flash_search_vertices
theorem VSx121 : Valid Tryd.prog Sx121 := Valid.add VSu120 ok_cherenkov_flash_search_vertices
def mk_flash_ClosestOf_0 (l : List FHit) (g0 g1 g2 g3 g4 : Int) (v0_0 : Int) (v0_1 : Int) : DS := ⟨[none, none, none, none, none, none, none, none, none, some (.t (.c (.p 9 0))), some (.t (.c (.p 10 0))), none, none, none, none, none, none, none, none, none, none, none, none, some (.t (.fb 131 [.sl 7 ((opnH (listC l.length mkHit (hitsC l)) (⟨⟨g0, g1, g2⟩, g3, g4⟩ : Lat)).length) (hitsC (opnH (listC l.length mkHit (hitsC l)) (⟨⟨g0, g1, g2⟩, g3, g4⟩ : Lat))), .v (.int .i64 ((opnX (listC l.length mkHit (hitsC l)) (⟨⟨g0, g1, g2⟩, g3, g4⟩ : Lat)).o.x)), .v (.int .i64 ((opnX (listC l.length mkHit (hitsC l)) (⟨⟨g0, g1, g2⟩, g3, g4⟩ : Lat)).o.y)), .v (.int .i64 ((opnX (listC l.length mkHit (hitsC l)) (⟨⟨g0, g1, g2⟩, g3, g4⟩ : Lat)).o.z)), .v (.int .i64 ((opnX (listC l.length mkHit (hitsC l)) (⟨⟨g0, g1, g2⟩, g3, g4⟩ : Lat)).st)), .v (.int .i64 ((opnX (listC l.length mkHit (hitsC l)) (⟨⟨g0, g1, g2⟩, g3, g4⟩ : Lat)).n)), .sl 1 ((opnS (listC l.length mkHit (hitsC l)) (⟨⟨g0, g1, g2⟩, g3, g4⟩ : Lat)).length) (rlsC (opnS (listC l.length mkHit (hitsC l)) (⟨⟨g0, g1, g2⟩, g3, g4⟩ : Lat)))])), none, none, none, none, none, none, none, none, none, none, none, none, none], [none, none, none, none, none, none, none, none, none, some (.box 3 [.v (.int .i64 v0_1)]), some (.box 3 [.v (.int .i64 v0_0)]), none, none, none, none, none, none, none, none, none, none, none, none, none, none, none, none, none, none, none, none, none, none, none, none, none, none]⟩
def vc_flash_ClosestOf (J : Inv) (l : List FHit) (g0 g1 g2 g3 g4 : Int) (post : DV → Prop) : Prop := (numsP 7 l.length (hitsC l)) ∧ (cond ((bothE (listC l.length mkHit (hitsC l)) (⟨⟨g0, g1, g2⟩, g3, g4⟩ : Lat)) != (0 : Int)) (post (.tu [.c (.v (.int .i64 0)), .c (.v (.int .i64 0)), .c (.v (.int .i64 (bothE (listC l.length mkHit (hitsC l)) (⟨⟨g0, g1, g2⟩, g3, g4⟩ : Lat))))])) ((rlP (opnS (listC l.length mkHit (hitsC l)) (⟨⟨g0, g1, g2⟩, g3, g4⟩ : Lat)).length (rlsC (opnS (listC l.length mkHit (hitsC l)) (⟨⟨g0, g1, g2⟩, g3, g4⟩ : Lat))) ∧ spOk (rlOf (opnS (listC l.length mkHit (hitsC l)) (⟨⟨g0, g1, g2⟩, g3, g4⟩ : Lat)).length (rlsC (opnS (listC l.length mkHit (hitsC l)) (⟨⟨g0, g1, g2⟩, g3, g4⟩ : Lat))))) ∧ (J 0 [0] (mk_flash_ClosestOf_0 l g0 g1 g2 g3 g4 0 (-1)))))
def ann_flash_ClosestOf : Ann := ⟨fun r => lookA r [(10, ([[], [], [0], [0, 1, 2], [0, 1, 2, 3]], [[], [], [], [], []]))], fun b => lookA b [(0, (none, some ⟨[9, 10, 23], [9, 10], []⟩))], fun _ => [], I1, false, fun r => lookA r [(8, (3, [32]))], fun _ => none⟩
theorem ev_flash_ClosestOf (J : Inv) (l : List FHit) (g0 g1 g2 g3 g4 : Int) (post : DV → Prop) : evFn Tryd.prog tab Sx121 ann_flash_ClosestOf J Tryd.f67 [.t (.c (.sl 7 l.length (hitsC l))), .t (.a [.v (.int .i64 g0), .v (.int .i64 g1), .v (.int .i64 g2), .v (.int .i64 g3), .v (.int .i64 g4)])] post = vc_flash_ClosestOf J l g0 g1 g2 g3 g4 post := by kernel_rfl
theorem fit_flash_ClosestOf : okFn ann_flash_ClosestOf Tryd.f67 = true := by kernel_rfl
def rd_flash_ClosestOf_0 (J : Inv) (l : List FHit) (g0 g1 g2 g3 g4 : Int) (v0_0 : Int) (v0_1 : Int) (nn0 : Nat) (post : DV → Prop) : Prop := (nn0 = (rlOf (opnS (listC l.length mkHit (hitsC l)) (⟨⟨g0, g1, g2⟩, g3, g4⟩ : Lat)).length (rlsC (opnS (listC l.length mkHit (hitsC l)) (⟨⟨g0, g1, g2⟩, g3, g4⟩ : Lat)))).length → post (.tu [.c (.v (.int .i64 v0_1)), .c (.v (.int .i64 v0_0)), .c (.v (.int .i64 0))])) ∧ (nn0 < (rlOf (opnS (listC l.length mkHit (hitsC l)) (⟨⟨g0, g1, g2⟩, g3, g4⟩ : Lat)).length (rlsC (opnS (listC l.length mkHit (hitsC l)) (⟨⟨g0, g1, g2⟩, g3, g4⟩ : Lat)))).length → (cond (decide (v0_1 < (0 : Int))) ((true = true) ∧ (True)) (True)) ∧ (lt ((bif decide (v0_1 < (0 : Int)) then true else decide ((sprF (rlOf (opnS (listC l.length mkHit (hitsC l)) (⟨⟨g0, g1, g2⟩, g3, g4⟩ : Lat)).length (rlsC (opnS (listC l.length mkHit (hitsC l)) (⟨⟨g0, g1, g2⟩, g3, g4⟩ : Lat)))) nn0) < v0_0))) fun x1 => cond x1 (((some (.t (.fb 131 [.sl 7 ((opnH (listC l.length mkHit (hitsC l)) (⟨⟨g0, g1, g2⟩, g3, g4⟩ : Lat)).length) (hitsC (opnH (listC l.length mkHit (hitsC l)) (⟨⟨g0, g1, g2⟩, g3, g4⟩ : Lat))), .v (.int .i64 ((opnX (listC l.length mkHit (hitsC l)) (⟨⟨g0, g1, g2⟩, g3, g4⟩ : Lat)).o.x)), .v (.int .i64 ((opnX (listC l.length mkHit (hitsC l)) (⟨⟨g0, g1, g2⟩, g3, g4⟩ : Lat)).o.y)), .v (.int .i64 ((opnX (listC l.length mkHit (hitsC l)) (⟨⟨g0, g1, g2⟩, g3, g4⟩ : Lat)).o.z)), .v (.int .i64 ((opnX (listC l.length mkHit (hitsC l)) (⟨⟨g0, g1, g2⟩, g3, g4⟩ : Lat)).st)), .v (.int .i64 ((opnX (listC l.length mkHit (hitsC l)) (⟨⟨g0, g1, g2⟩, g3, g4⟩ : Lat)).n)), .sl 1 ((opnS (listC l.length mkHit (hitsC l)) (⟨⟨g0, g1, g2⟩, g3, g4⟩ : Lat)).length) (rlsC (opnS (listC l.length mkHit (hitsC l)) (⟨⟨g0, g1, g2⟩, g3, g4⟩ : Lat)))])) : Option DV) = some (.t (.fb 131 [.sl 7 ((opnH (listC l.length mkHit (hitsC l)) (⟨⟨g0, g1, g2⟩, g3, g4⟩ : Lat)).length) (hitsC (opnH (listC l.length mkHit (hitsC l)) (⟨⟨g0, g1, g2⟩, g3, g4⟩ : Lat))), .v (.int .i64 ((opnX (listC l.length mkHit (hitsC l)) (⟨⟨g0, g1, g2⟩, g3, g4⟩ : Lat)).o.x)), .v (.int .i64 ((opnX (listC l.length mkHit (hitsC l)) (⟨⟨g0, g1, g2⟩, g3, g4⟩ : Lat)).o.y)), .v (.int .i64 ((opnX (listC l.length mkHit (hitsC l)) (⟨⟨g0, g1, g2⟩, g3, g4⟩ : Lat)).o.z)), .v (.int .i64 ((opnX (listC l.length mkHit (hitsC l)) (⟨⟨g0, g1, g2⟩, g3, g4⟩ : Lat)).st)), .v (.int .i64 ((opnX (listC l.length mkHit (hitsC l)) (⟨⟨g0, g1, g2⟩, g3, g4⟩ : Lat)).n)), .sl 1 ((opnS (listC l.length mkHit (hitsC l)) (⟨⟨g0, g1, g2⟩, g3, g4⟩ : Lat)).length) (rlsC (opnS (listC l.length mkHit (hitsC l)) (⟨⟨g0, g1, g2⟩, g3, g4⟩ : Lat)))]))) ∧ J 0 [nn0 + 1] (mk_flash_ClosestOf_0 l g0 g1 g2 g3 g4 (sprF (rlOf (opnS (listC l.length mkHit (hitsC l)) (⟨⟨g0, g1, g2⟩, g3, g4⟩ : Lat)).length (rlsC (opnS (listC l.length mkHit (hitsC l)) (⟨⟨g0, g1, g2⟩, g3, g4⟩ : Lat)))) nn0) ((nn0 : Nat) : Int))) (((some (.t (.fb 131 [.sl 7 ((opnH (listC l.length mkHit (hitsC l)) (⟨⟨g0, g1, g2⟩, g3, g4⟩ : Lat)).length) (hitsC (opnH (listC l.length mkHit (hitsC l)) (⟨⟨g0, g1, g2⟩, g3, g4⟩ : Lat))), .v (.int .i64 ((opnX (listC l.length mkHit (hitsC l)) (⟨⟨g0, g1, g2⟩, g3, g4⟩ : Lat)).o.x)), .v (.int .i64 ((opnX (listC l.length mkHit (hitsC l)) (⟨⟨g0, g1, g2⟩, g3, g4⟩ : Lat)).o.y)), .v (.int .i64 ((opnX (listC l.length mkHit (hitsC l)) (⟨⟨g0, g1, g2⟩, g3, g4⟩ : Lat)).o.z)), .v (.int .i64 ((opnX (listC l.length mkHit (hitsC l)) (⟨⟨g0, g1, g2⟩, g3, g4⟩ : Lat)).st)), .v (.int .i64 ((opnX (listC l.length mkHit (hitsC l)) (⟨⟨g0, g1, g2⟩, g3, g4⟩ : Lat)).n)), .sl 1 ((opnS (listC l.length mkHit (hitsC l)) (⟨⟨g0, g1, g2⟩, g3, g4⟩ : Lat)).length) (rlsC (opnS (listC l.length mkHit (hitsC l)) (⟨⟨g0, g1, g2⟩, g3, g4⟩ : Lat)))])) : Option DV) = some (.t (.fb 131 [.sl 7 ((opnH (listC l.length mkHit (hitsC l)) (⟨⟨g0, g1, g2⟩, g3, g4⟩ : Lat)).length) (hitsC (opnH (listC l.length mkHit (hitsC l)) (⟨⟨g0, g1, g2⟩, g3, g4⟩ : Lat))), .v (.int .i64 ((opnX (listC l.length mkHit (hitsC l)) (⟨⟨g0, g1, g2⟩, g3, g4⟩ : Lat)).o.x)), .v (.int .i64 ((opnX (listC l.length mkHit (hitsC l)) (⟨⟨g0, g1, g2⟩, g3, g4⟩ : Lat)).o.y)), .v (.int .i64 ((opnX (listC l.length mkHit (hitsC l)) (⟨⟨g0, g1, g2⟩, g3, g4⟩ : Lat)).o.z)), .v (.int .i64 ((opnX (listC l.length mkHit (hitsC l)) (⟨⟨g0, g1, g2⟩, g3, g4⟩ : Lat)).st)), .v (.int .i64 ((opnX (listC l.length mkHit (hitsC l)) (⟨⟨g0, g1, g2⟩, g3, g4⟩ : Lat)).n)), .sl 1 ((opnS (listC l.length mkHit (hitsC l)) (⟨⟨g0, g1, g2⟩, g3, g4⟩ : Lat)).length) (rlsC (opnS (listC l.length mkHit (hitsC l)) (⟨⟨g0, g1, g2⟩, g3, g4⟩ : Lat)))]))) ∧ J 0 [nn0 + 1] (mk_flash_ClosestOf_0 l g0 g1 g2 g3 g4 v0_0 v0_1))))
theorem er_flash_ClosestOf_0 (J : Inv) (l : List FHit) (g0 g1 g2 g3 g4 : Int) (v0_0 : Int) (v0_1 : Int) (nn0 : Nat) (post : DV → Prop) : round Tryd.prog tab Sx121 ann_flash_ClosestOf J Tryd.f67 post 0 (nn0 :: []) (mk_flash_ClosestOf_0 l g0 g1 g2 g3 g4 v0_0 v0_1) = rd_flash_ClosestOf_0 J l g0 g1 g2 g3 g4 v0_0 v0_1 nn0 post := by kernel_rfl
theorem lp_flash_ClosestOf (J : Inv) (post : DV → Prop) : AllG J (loopsFn Tryd.prog tab Sx121 ann_flash_ClosestOf J Tryd.f67 post) = ((∀ i s, J 0 [i] s → round Tryd.prog tab Sx121 ann_flash_ClosestOf J Tryd.f67 post 0 [i] s) ∧ True) := by kernel_rfl
def J_flash_ClosestOf (l : List FHit) (g0 g1 g2 g3 g4 : Int) : Inv := fun b F s => match b, F with
 | 0, [nn0] => ∃ (v0_0 : Int) (v0_1 : Int), s = mk_flash_ClosestOf_0 l g0 g1 g2 g3 g4 v0_0 v0_1 ∧ (bothE l (⟨⟨g0, g1, g2⟩, g3, g4⟩ : Lat) = 0 ∧ nn0 ≤ (opnS l (⟨⟨g0, g1, g2⟩, g3, g4⟩ : Lat)).length ∧ (v0_1, v0_0) = clsK (opnS l (⟨⟨g0, g1, g2⟩, g3, g4⟩ : Lat)) nn0)
 | _, _ => False
theorem rnd_flash_ClosestOf_0 (l : List FHit) (g0 g1 g2 g3 g4 : Int) (v0_0 : Int) (v0_1 : Int) (nn0 : Nat) (hi : bothE l (⟨⟨g0, g1, g2⟩, g3, g4⟩ : Lat) = 0 ∧ nn0 ≤ (opnS l (⟨⟨g0, g1, g2⟩, g3, g4⟩ : Lat)).length ∧ (v0_1, v0_0) = clsK (opnS l (⟨⟨g0, g1, g2⟩, g3, g4⟩ : Lat)) nn0) : rd_flash_ClosestOf_0 (J_flash_ClosestOf l g0 g1 g2 g3 g4) l g0 g1 g2 g3 g4 v0_0 v0_1 nn0 (fun r => LeD r (.tu [.c (.v (.int .i64 (clsA l (⟨⟨g0, g1, g2⟩, g3, g4⟩ : Lat)))), .c (.v (.int .i64 (clsM l (⟨⟨g0, g1, g2⟩, g3, g4⟩ : Lat)))), .c (.v (.int .i64 (bothE l (⟨⟨g0, g1, g2⟩, g3, g4⟩ : Lat))))])) := by
 obtain ⟨i0, i1, i2⟩ := hi
 unfold rd_flash_ClosestOf_0
 simp only [hits_listC, rls_of]
 refine ⟨fun h => ?_, fun h => ⟨cond_i (fun _ => by trivial) (fun _ => trivial), lt_i fun x1 h1 => cond_i (fun c => ⟨by trivial, _, _, rfl, i0, by omega, ?_⟩) (fun c => ⟨by trivial, _, _, rfl, i0, by omega, ?_⟩)⟩⟩
 ·rw [show clsA l (⟨⟨g0, g1, g2⟩, g3, g4⟩ : Lat) = _ from if_pos i0, show clsM l (⟨⟨g0, g1, g2⟩, g3, g4⟩ : Lat) = _ from if_pos i0, i0, ← h, ← i2]
  exact LeD.refl _
 ·rw [clsK_succ, ← i2]; unfold clsS; simp only; rw [h1, if_pos c]
 ·rw [clsK_succ, ← i2]; unfold clsS; simp only; rw [h1, if_neg (by rw [c]; simp)]
theorem spec_flash_ClosestOf (l : List FHit) (g0 g1 g2 g3 g4 : Int) : vc_flash_ClosestOf (J_flash_ClosestOf l g0 g1 g2 g3 g4) l g0 g1 g2 g3 g4 (fun r => LeD r (.tu [.c (.v (.int .i64 (clsA l (⟨⟨g0, g1, g2⟩, g3, g4⟩ : Lat)))), .c (.v (.int .i64 (clsM l (⟨⟨g0, g1, g2⟩, g3, g4⟩ : Lat)))), .c (.v (.int .i64 (bothE l (⟨⟨g0, g1, g2⟩, g3, g4⟩ : Lat))))])) := by
 unfold vc_flash_ClosestOf
 simp only [hits_listC, rls_of]
 refine ⟨numsP_hits l, cond_i (fun h => ?_) (fun h => ?_)⟩
 ·have h : bothE l (⟨⟨g0, g1, g2⟩, g3, g4⟩ : Lat) ≠ 0 := by simpa using h
  rw [show clsA l (⟨⟨g0, g1, g2⟩, g3, g4⟩ : Lat) = 0 from if_neg h, show clsM l (⟨⟨g0, g1, g2⟩, g3, g4⟩ : Lat) = 0 from if_neg h]
  exact LeD.refl _
 ·have h : bothE l (⟨⟨g0, g1, g2⟩, g3, g4⟩ : Lat) = 0 := by simpa using h
  exact ⟨⟨rlP_rls _, spOk_opn h⟩, _, _, rfl, h, Nat.zero_le _, rfl⟩
theorem all_flash_ClosestOf (l : List FHit) (g0 g1 g2 g3 g4 : Int) : AllG (J_flash_ClosestOf l g0 g1 g2 g3 g4) (loopsFn Tryd.prog tab Sx121 ann_flash_ClosestOf (J_flash_ClosestOf l g0 g1 g2 g3 g4) Tryd.f67 (fun r => LeD r (.tu [.c (.v (.int .i64 (clsA l (⟨⟨g0, g1, g2⟩, g3, g4⟩ : Lat)))), .c (.v (.int .i64 (clsM l (⟨⟨g0, g1, g2⟩, g3, g4⟩ : Lat)))), .c (.v (.int .i64 (bothE l (⟨⟨g0, g1, g2⟩, g3, g4⟩ : Lat))))]))) := by
 rw [lp_flash_ClosestOf]
 refine ⟨?_, trivial⟩
 ·intro i s h
  obtain ⟨w0, w1, rfl, hi⟩ := h
  rw [er_flash_ClosestOf_0]
  exact rnd_flash_ClosestOf_0 l g0 g1 g2 g3 g4 _ _ _ hi
def con_flash_ClosestOf : Con := fun args => match args with
 | [.t (.c (.sl 7 n_l c_l)), .t (.a [.v (.int .i64 g0), .v (.int .i64 g1), .v (.int .i64 g2), .v (.int .i64 g3), .v (.int .i64 g4)])] => some (.tu [.c (.v (.int .i64 (clsA (listC n_l mkHit c_l) (⟨⟨g0, g1, g2⟩, g3, g4⟩ : Lat)))), .c (.v (.int .i64 (clsM (listC n_l mkHit c_l) (⟨⟨g0, g1, g2⟩, g3, g4⟩ : Lat)))), .c (.v (.int .i64 (bothE (listC n_l mkHit c_l) (⟨⟨g0, g1, g2⟩, g3, g4⟩ : Lat))))], some (numsP 7 n_l c_l), false)
 | _ => none
theorem ok_flash_ClosestOf : Ok Tryd.prog 67 con_flash_ClosestOf := by
 refine Ok.fn (ann := ann_flash_ClosestOf) mixed tabOK VSx121 VI1 (fn := Tryd.f67) (by kernel_rfl) (by kernel_rfl) fit_flash_ClosestOf fun args r pre fresh h hp => ?_
 unfold con_flash_ClosestOf at h
 split at h
 ·rename_i n_l c_l g0 g1 g2 g3 g4
  cases h
  have hp0 := hp
  refine ⟨rfl, J_flash_ClosestOf (listC n_l mkHit c_l) g0 g1 g2 g3 g4, [.t (.c (.sl 7 ((listC n_l mkHit c_l).length) (hitsC (listC n_l mkHit c_l)))), .t (.a [.v (.int .i64 g0), .v (.int .i64 g1), .v (.int .i64 g2), .v (.int .i64 g3), .v (.int .i64 g4)])], ?_, Nat.le_of_ble_eq_true (by kernel_rfl), ?_, ?_⟩
  ·exact (LeA_cons (leT_c ((leL_FHit hp0))) (LeA_cons (LeD.refl _) LeA_nil))
  ·rw [ev_flash_ClosestOf]; exact spec_flash_ClosestOf (listC n_l mkHit c_l) g0 g1 g2 g3 g4
  ·exact all_flash_ClosestOf (listC n_l mkHit c_l) g0 g1 g2 g3 g4
 ·cases h
noncomputable def Sx122 : Sum := addS Sx121 67 con_flash_ClosestOf
theorem VSx122 : Valid Tryd.prog Sx122 := Valid.add VSx121 ok_flash_ClosestOf
def vc_flash_VerticesOf (l : List FHit) (g0 g1 g2 g3 g4 : Int) (post : DV → Prop) : Prop := (numsP 7 l.length (hitsC l)) ∧ (cond ((bothE (listC l.length mkHit (hitsC l)) (⟨⟨g0, g1, g2⟩, g3, g4⟩ : Lat)) != (0 : Int)) (post (.tu [.c (.v (.slice none 0 0)), .c (.v (.int .i64 (bothE (listC l.length mkHit (hitsC l)) (⟨⟨g0, g1, g2⟩, g3, g4⟩ : Lat))))])) ((numsP 7 ((opnH (listC l.length mkHit (hitsC l)) (⟨⟨g0, g1, g2⟩, g3, g4⟩ : Lat)).length) (hitsC (opnH (listC l.length mkHit (hitsC l)) (⟨⟨g0, g1, g2⟩, g3, g4⟩ : Lat))) ∧ rlP ((opnS (listC l.length mkHit (hitsC l)) (⟨⟨g0, g1, g2⟩, g3, g4⟩ : Lat)).length) (rlsC (opnS (listC l.length mkHit (hitsC l)) (⟨⟨g0, g1, g2⟩, g3, g4⟩ : Lat))) ∧ spOk (rlOf ((opnS (listC l.length mkHit (hitsC l)) (⟨⟨g0, g1, g2⟩, g3, g4⟩ : Lat)).length) (rlsC (opnS (listC l.length mkHit (hitsC l)) (⟨⟨g0, g1, g2⟩, g3, g4⟩ : Lat))))) ∧ (post (.tu [.c (.sl 1 ((vtxL (rlOf ((opnS (listC l.length mkHit (hitsC l)) (⟨⟨g0, g1, g2⟩, g3, g4⟩ : Lat)).length) (rlsC (opnS (listC l.length mkHit (hitsC l)) (⟨⟨g0, g1, g2⟩, g3, g4⟩ : Lat))))).length) (numsC .i64 (vtxL (rlOf ((opnS (listC l.length mkHit (hitsC l)) (⟨⟨g0, g1, g2⟩, g3, g4⟩ : Lat)).length) (rlsC (opnS (listC l.length mkHit (hitsC l)) (⟨⟨g0, g1, g2⟩, g3, g4⟩ : Lat))))))), .c (.v (.int .i64 0))]))))
def ann_flash_VerticesOf : Ann := ⟨fun _ => none, fun _ => none, fun _ => [], I1, true, fun _ => none, fun _ => none⟩
theorem ev_flash_VerticesOf (J : Inv) (l : List FHit) (g0 g1 g2 g3 g4 : Int) (post : DV → Prop) : evFn Tryd.prog tab Sx122 ann_flash_VerticesOf J Tryd.f68 [.t (.c (.sl 7 l.length (hitsC l))), .t (.a [.v (.int .i64 g0), .v (.int .i64 g1), .v (.int .i64 g2), .v (.int .i64 g3), .v (.int .i64 g4)])] post = vc_flash_VerticesOf l g0 g1 g2 g3 g4 post := by kernel_rfl
theorem fit_flash_VerticesOf : okFn ann_flash_VerticesOf Tryd.f68 = true := by kernel_rfl
theorem lp_flash_VerticesOf (J : Inv) (post : DV → Prop) : AllG J (loopsFn Tryd.prog tab Sx122 ann_flash_VerticesOf J Tryd.f68 post) = (True) := by kernel_rfl
theorem spec_flash_VerticesOf (l : List FHit) (g0 g1 g2 g3 g4 : Int) : vc_flash_VerticesOf l g0 g1 g2 g3 g4 (fun r => LeD r (.tu [.c (.sl 1 ((vtxO l (⟨⟨g0, g1, g2⟩, g3, g4⟩ : Lat)).length) (intsC (vtxO l (⟨⟨g0, g1, g2⟩, g3, g4⟩ : Lat)))), .c (.v (.int .i64 (bothE l (⟨⟨g0, g1, g2⟩, g3, g4⟩ : Lat))))])) := by
 unfold vc_flash_VerticesOf
 simp only [hits_listC, rls_of]
 refine ⟨numsP_hits l, cond_i (fun h => ?_) (fun h => ?_)⟩
 ·have h : bothE l (⟨⟨g0, g1, g2⟩, g3, g4⟩ : Lat) ≠ 0 := by simpa using h
  rw [show vtxO l (⟨⟨g0, g1, g2⟩, g3, g4⟩ : Lat) = [] from if_neg h]
  exact le_tu le_nil (LeD.refl _)
 ·have h : bothE l (⟨⟨g0, g1, g2⟩, g3, g4⟩ : Lat) = 0 := by simpa using h
  rw [show vtxO l (⟨⟨g0, g1, g2⟩, g3, g4⟩ : Lat) = _ from if_pos h, h]
  refine ⟨⟨numsP_hits _, rlP_rls _, spOk_opn h⟩, LeD.refl _⟩
def con_flash_VerticesOf : Con := fun args => match args with
 | [.t (.c (.sl 7 n_l c_l)), .t (.a [.v (.int .i64 g0), .v (.int .i64 g1), .v (.int .i64 g2), .v (.int .i64 g3), .v (.int .i64 g4)])] => some (.tu [.c (.sl 1 ((vtxO (listC n_l mkHit c_l) (⟨⟨g0, g1, g2⟩, g3, g4⟩ : Lat)).length) (intsC (vtxO (listC n_l mkHit c_l) (⟨⟨g0, g1, g2⟩, g3, g4⟩ : Lat)))), .c (.v (.int .i64 (bothE (listC n_l mkHit c_l) (⟨⟨g0, g1, g2⟩, g3, g4⟩ : Lat))))], some (numsP 7 n_l c_l), true)
 | _ => none
theorem ok_flash_VerticesOf : Ok Tryd.prog 68 con_flash_VerticesOf := by
 refine Ok.fnFr (ann := ann_flash_VerticesOf) mixed tabOK VSx122 VI1 rfl (fn := Tryd.f68) (by kernel_rfl) (by kernel_rfl) fit_flash_VerticesOf fun args r pre fresh h hp => ?_
 unfold con_flash_VerticesOf at h
 split at h
 ·rename_i n_l c_l g0 g1 g2 g3 g4
  cases h
  have hp0 := hp
  refine ⟨rfl, (by intro x hx; simp only [List.mem_cons, List.not_mem_nil, or_false] at hx; rcases hx with rfl | rfl; exact (fun i j _ hj => plain_int _ i j); exact trivial), fun _ _ _ => False, [.t (.c (.sl 7 ((listC n_l mkHit c_l).length) (hitsC (listC n_l mkHit c_l)))), .t (.a [.v (.int .i64 g0), .v (.int .i64 g1), .v (.int .i64 g2), .v (.int .i64 g3), .v (.int .i64 g4)])], ?_, Nat.le_of_ble_eq_true (by kernel_rfl), ?_, ?_⟩
  ·exact (LeA_cons (leT_c ((leL_FHit hp0))) (LeA_cons (LeD.refl _) LeA_nil))
  ·rw [ev_flash_VerticesOf]; exact spec_flash_VerticesOf (listC n_l mkHit c_l) g0 g1 g2 g3 g4
  ·rw [lp_flash_VerticesOf]; trivial
 ·cases h
noncomputable def Sx123 : Sum := addS Sx122 68 con_flash_VerticesOf
theorem VSx123 : Valid Tryd.prog Sx123 := Valid.add VSx122 ok_flash_VerticesOf
end Go.Proofs.YtmhgjlapkhdlmaaDoor
set_option linter.unusedVariables false
set_option linter.unusedSimpArgs false
namespace Go.Proofs.YtmhgjlapkhdlmaaDoor
open Go.RowKit Ev
theorem befL_irr : ∀ l, befL l l = false := by
 intro l
 induction l with
 | nil => rfl
 | cons a l ih => simp [befL, ih]
theorem befL_total : ∀ l m, l = m ∨ befL l m = true ∨ befL m l = true := by
 intro l
 induction l with
 | nil => intro m; cases m <;> simp [befL]
 | cons a l ih =>
  intro m
  cases m with
  | nil => simp [befL]
  | cons b m =>
   simp only [befL, Bool.or_eq_true, Bool.and_eq_true, decide_eq_true_eq, List.cons.injEq]
   rcases Int.lt_trichotomy a b with h | h | h
   ·exact Or.inr (Or.inl (Or.inl h))
   ·rcases ih m with g | g | g
    ·exact Or.inl ⟨h, g⟩
    ·exact Or.inr (Or.inl (Or.inr ⟨h, g⟩))
    ·exact Or.inr (Or.inr (Or.inr ⟨h.symm, g⟩))
   ·exact Or.inr (Or.inr (Or.inl h))
theorem befL_trans : ∀ l m n, befL l m = true → befL m n = true → befL l n = true := by
 intro l
 induction l with
 | nil => intro m n h g; cases n with
  | nil => cases m <;> simp [befL] at g
  | cons c n => rfl
 | cons a l ih =>
  intro m n h g
  cases m with
  | nil => simp [befL] at h
  | cons b m =>
   cases n with
   | nil => simp [befL] at g
   | cons c n =>
    simp only [befL, Bool.or_eq_true, Bool.and_eq_true, decide_eq_true_eq] at *
    rcases h with h | ⟨h, h'⟩ <;> rcases g with g | ⟨g, g'⟩
    ·left; omega
    ·left; omega
    ·left; omega
    ·right; exact ⟨by omega, ih m n h' g'⟩
theorem lessL_irr (a : List Int) : lessL a a = false := by simp [lessL, befL_irr]
theorem lessL_total (a b : List Int) : a = b ∨ lessL a b = true ∨ lessL b a = true := by
 unfold lessL
 simp only [Bool.or_eq_true, Bool.and_eq_true, decide_eq_true_eq]
 rcases Nat.lt_trichotomy a.length b.length with h | h | h
 ·exact Or.inr (Or.inl (Or.inl h))
 ·rcases befL_total a b with g | g | g
  ·exact Or.inl g
  ·exact Or.inr (Or.inl (Or.inr ⟨h, g⟩))
  ·exact Or.inr (Or.inr (Or.inr ⟨h.symm, g⟩))
 ·exact Or.inr (Or.inr (Or.inl h))
theorem lessL_trans {a b c : List Int} (h : lessL a b = true) (g : lessL b c = true) : lessL a c = true := by
 unfold lessL at *
 simp only [Bool.or_eq_true, Bool.and_eq_true, decide_eq_true_eq] at *
 rcases h with h | ⟨h, h'⟩ <;> rcases g with g | ⟨g, g'⟩
 ·left; omega
 ·left; omega
 ·left; omega
 ·right; exact ⟨by omega, befL_trans _ _ _ h' g'⟩
def rfB (hd : Bool) (o : Option (List Int)) (s : List Int) : Bool := hd && (match o with
 | none => true
 | some b => lessL s b)
theorem sm_ref (hd : List Int → Bool) (o : Option (List Int)) (s : List Int) : smStep hd o s = if rfB (hd s) o s = true then some s else o := by
 cases o with
 | none => unfold smStep rfB; simp
 | some b =>
  unfold smStep rfB
  cases hs : hd s
  ·simp
  ·simp only [Bool.true_and, if_true]
   rcases lessL_total b s with h | h | h
   ·subst h; simp [lessL_irr]
   ·have : lessL s b = false := by
     cases q : lessL s b
     ·rfl
     ·have := lessL_trans h q; rw [lessL_irr] at this; cases this
    rw [if_pos h, if_neg (by rw [this]; simp)]
   ·have : lessL b s = false := by
     cases q : lessL b s
     ·rfl
     ·have := lessL_trans h q; rw [lessL_irr] at this; cases this
    rw [if_neg (by rw [this]; simp), if_pos h]
def foldS (hd : List Int → Bool) (n : Nat) : Option (List Int) := (List.range n).foldl (fun o k => smStep hd o (membs 8 k)) none
theorem foldS_succ (hd : List Int → Bool) (n : Nat) : foldS hd (n + 1) = if rfB (hd (membs 8 n)) (foldS hd n) (membs 8 n) = true then some (membs 8 n) else foldS hd n := by
 unfold foldS
 rw [List.range_succ, List.foldl_append, List.foldl_cons, List.foldl_nil, sm_ref]
theorem foldS_ok (hd : List Int → Bool) : ∀ n, (∀ k, k < n → hd (membs 8 k) = true → ∃ b, foldS hd n = some b ∧ b.length ≤ (membs 8 k).length) ∧ ∀ b, foldS hd n = some b → ∃ k, k < n ∧ b = membs 8 k ∧ hd b = true := by
 intro n
 induction n with
 | zero => exact ⟨fun k hk => by omega, fun b h => by cases h⟩
 | succ n ih =>
  obtain ⟨i1, i2⟩ := ih
  rw [foldS_succ]
  by_cases q : rfB (hd (membs 8 n)) (foldS hd n) (membs 8 n) = true
  ·rw [if_pos q]
   have hh : hd (membs 8 n) = true := by unfold rfB at q; rw [Bool.and_eq_true] at q; exact q.1
   refine ⟨fun k hk h => ⟨_, rfl, ?_⟩, fun b h => ?_⟩
   ·by_cases e : k = n
    ·rw [e]; exact Nat.le_refl _
    ·obtain ⟨b, e1, e2⟩ := i1 k (by omega) h
     rw [e1, rfB, Bool.and_eq_true] at q
     have q := q.2
     simp only [lessL, Bool.or_eq_true, Bool.and_eq_true, decide_eq_true_eq] at q
     omega
   ·cases h
    exact ⟨n, by omega, rfl, hh⟩
  ·rw [if_neg q]
   refine ⟨fun k hk h => ?_, fun b h => ?_⟩
   ·by_cases e : k = n
    ·subst e
     cases hf : foldS hd k with
     | none => rw [hf, rfB, h] at q; exact absurd rfl q
     | some b =>
      refine ⟨b, rfl, ?_⟩
      rw [hf, rfB, h] at q
      simp only [Bool.true_and, lessL, Bool.or_eq_true, Bool.and_eq_true, decide_eq_true_eq, not_or, not_and] at q
      omega
    ·exact i1 k (by omega) h
   ·obtain ⟨k, e1, e2⟩ := i2 b h
    exact ⟨k, by omega, e2⟩
theorem membs_lt (i k : Nat) : (membs i k).length ≤ i := by
 unfold membs
 rw [List.length_map]
 have := List.length_filter_le (fun j : Nat => k.testBit j) (List.range i)
 rwa [List.length_range] at this
end Go.Proofs.YtmhgjlapkhdlmaaDoor
set_option linter.unusedVariables false
set_option linter.unusedSimpArgs false
namespace Go.Proofs.YtmhgjlapkhdlmaaDoor
open Go.RowKit Ev
def spd (l : List FHit) (p : P3) : Int := max 0 ((tms l p).lo - (tms l p).hi)
def allS (l : List FHit) (x : Lat) : List (List Rg) := (allP x).map (sts l)
theorem allS_len {l : List FHit} {x : Lat} : (allS l x).length = x.sz.toNat := by rw [allS, List.length_map, allP_len]
theorem rlAt_all {l : List FHit} {x : Lat} {k : Nat} (hk : k < x.sz.toNat) : rlAt (allS l x) k = sts l (posAt x k) := by
 unfold allS
 rw [rlAt_lt (by rw [List.length_map, allP_len]; exact hk), List.getElem_map]
 congr 1
 simp [allP]
theorem sprF_all {l : List FHit} {x : Lat} {k : Nat} (hk : k < x.sz.toNat) : sprF (allS l x) k = spd l (posAt x k) := by
 unfold sprF
 rw [rlAt_all hk]; rfl
theorem opnS_all {l : List FHit} {x : Lat} (h : bothE l x = 0) : opnS l x = allS l x := if_pos h
def vtxR (l : List FHit) (x : Lat) : List Int := vtxL (allS l x)
theorem vtxO_R {l : List FHit} {x : Lat} (h : bothE l x = 0) : vtxO l x = vtxR l x := by
 rw [show vtxO l x = _ from if_pos h, opnS_all h]; rfl
theorem spd_0 {l : List FHit} {p : P3} : spd l p = 0 ↔ (tms l p).lo ≤ (tms l p).hi := by unfold spd; omega
theorem spd_nn (l : List FHit) (p : P3) : 0 ≤ spd l p := by unfold spd; omega
theorem mem_vtxR {l : List FHit} {x : Lat} {i : Int} : i ∈ vtxR l x ↔ ∃ k : Nat, i = k ∧ k < x.sz.toNat ∧ (tms l (posAt x k)).lo ≤ (tms l (posAt x k)).hi := by
 unfold vtxR vtxL vtxK
 rw [allS_len]
 constructor
 ·intro h
  obtain ⟨k, hk, rfl⟩ := List.mem_map.1 h
  obtain ⟨h1, h2⟩ := List.mem_filter.1 hk
  have h1 := List.mem_range.1 h1
  rw [sprF_all h1] at h2
  exact ⟨k, rfl, h1, spd_0.1 (by simpa using h2)⟩
 ·rintro ⟨k, rfl, h1, h2⟩
  refine List.mem_map.2 ⟨k, List.mem_filter.2 ⟨List.mem_range.2 h1, ?_⟩, rfl⟩
  rw [sprF_all h1, spd_0.2 h2]; rfl
structure Bx6 where
 (x y z : Rg)
def Bx6.zero : Bx6 := ⟨⟨0, 0⟩, ⟨0, 0⟩, ⟨0, 0⟩⟩
theorem clsK_ok {sp : List (List Rg)} : ∀ k, 0 < k → (0 ≤ (clsK sp k).1 ∧ (clsK sp k).1 < k) ∧ (clsK sp k).2 = sprF sp (clsK sp k).1.toNat ∧ ∀ j, j < k → (clsK sp k).2 ≤ sprF sp j := by
 intro k
 induction k with
 | zero => intro h; omega
 | succ k ih =>
  intro _
  rw [clsK_succ]
  unfold clsS
  by_cases h0 : k = 0
  ·subst h0
   have e : clsK sp 0 = (-1, 0) := rfl
   rw [e]
   refine ⟨by simp, by simp, fun j hj => ?_⟩
   have : j = 0 := by omega
   subst this
   simp
  ·obtain ⟨⟨i1, i2⟩, i3, i4⟩ := ih (by omega)
   rw [decide_eq_false (show ¬ (clsK sp k).1 < 0 by omega)]
   simp only [_root_.cond_false]
   by_cases h : sprF sp k < (clsK sp k).2
   ·rw [if_pos (decide_eq_true h)]
    refine ⟨⟨by simp only; omega, by simp only; omega⟩, by simp, fun j hj => ?_⟩
    by_cases e : j = k
    ·rw [e]; exact Int.le_refl _
    ·have := i4 j (by omega); simp only; omega
   ·rw [if_neg (by rw [decide_eq_false h]; simp)]
    refine ⟨⟨i1, by omega⟩, i3, fun j hj => ?_⟩
    by_cases e : j = k
    ·rw [e]; omega
    ·exact i4 j (by omega)
def subR (all : List Rg) (s : List Int) : List Rg := s.map fun i => rgAt all i.toNat
def subH (l : List FHit) (s : List Int) : List FHit := s.map fun i => hitAt l i.toNat
def rowB (s : List Int) (all : List Rg) : Bool := decide ((comm (subR all s)).lo ≤ (comm (subR all s)).hi)
def explB (sp : List (List Rg)) (s : List Int) : Bool := s.isEmpty || sp.any (rowB s)
def contB (sp : List (List Rg)) (s : List Int) : Bool := !explB sp s
theorem comm_ex {l : List Rg} (h0 : 0 < l.length) : (comm l).lo ≤ (comm l).hi ↔ ∃ e, ∀ g ∈ l, g.lo ≤ e ∧ e ≤ g.hi :=
 ⟨fun h => ⟨(comm l).lo, (comm_iff h0).1 ⟨Int.le_refl _, h⟩⟩, fun ⟨e, he⟩ => by have := (comm_iff h0).2 he; omega⟩
theorem sts_sub {l : List FHit} {s : List Int} {p : P3} (h : ∀ i ∈ s, 0 ≤ i ∧ i < l.length) : sts (subH l s) p = subR (sts l p) s := by
 unfold subH subR
 rw [show sts (s.map fun i => hitAt l i.toNat) p = (s.map fun i => hitAt l i.toNat).map (stR p) from rfl, List.map_map]
 refine List.map_congr_left fun i hi => ?_
 have := h i hi
 exact (sts_at (by omega)).symm
theorem cont_iff {l : List FHit} {x : Lat} {s : List Int} (h : ∀ i ∈ s, 0 ≤ i ∧ i < l.length) (hs : s ≠ []) : contB (allS l x) s = true ↔ vtxR (subH l s) x = [] := by
 have e0 : s.isEmpty = false := by cases s <;> simp_all
 unfold contB explB
 rw [e0, Bool.false_or, Bool.not_eq_true', List.any_eq_false, List.eq_nil_iff_forall_not_mem]
 constructor
 ·intro ha i hi
  obtain ⟨k, rfl, h1, h2⟩ := mem_vtxR.1 hi
  refine ha (sts l (posAt x k)) (List.mem_map.2 ⟨posAt x k, List.mem_map.2 ⟨k, List.mem_range.2 h1, rfl⟩, rfl⟩) ?_
  unfold rowB
  rw [← sts_sub h]
  exact decide_eq_true h2
 ·intro ha a hm hr
  obtain ⟨p, hp, rfl⟩ := List.mem_map.1 hm
  obtain ⟨k, hk, rfl⟩ := List.mem_map.1 hp
  unfold rowB at hr
  rw [← sts_sub h] at hr
  exact ha k (mem_vtxR.2 ⟨k, rfl, List.mem_range.1 hk, of_decide_eq_true hr⟩)
theorem membs_8 : ((List.range 9).all fun n => (List.range (2 ^ n)).all fun k => decide (membs n k = membs 8 k)) = true := by kernel_rfl
theorem membs_n {n k : Nat} (hn : n ≤ 8) (hk : k < 2 ^ n) : membs n k = membs 8 k := by
 have h := List.all_eq_true.1 membs_8 n (List.mem_range.2 (by omega))
 exact of_decide_eq_true (List.all_eq_true.1 h k (List.mem_range.2 hk))
theorem mem_membs {n s : Nat} {x : Int} (h : x ∈ membs n s) : 0 ≤ x ∧ x < n := by
 unfold membs at h
 obtain ⟨i, hi, rfl⟩ := List.mem_map.1 h
 have := List.mem_range.1 (List.mem_filter.1 hi).1
 omega
theorem membs_sorted (n s : Nat) : (membs n s).Pairwise (· < ·) := by
 unfold membs
 rw [List.pairwise_map]
 exact (List.pairwise_lt_range.filter _).imp (fun h => by omega)
theorem membs_0 {n k : Nat} (hn : n ≤ 8) (hk : k < 2 ^ n) (h0 : k ≠ 0) : membs 8 k ≠ [] := by
 obtain ⟨i, hi⟩ := Nat.exists_testBit_of_ne_zero h0
 have hin : i < n := by
  rcases Nat.lt_or_ge i n with h | h
  ·exact h
  ·rw [Nat.testBit_lt_two_pow (Nat.lt_of_lt_of_le hk (Nat.pow_le_pow_right (by decide) h))] at hi; cases hi
 intro e
 have : (i : Int) ∈ membs 8 k := List.mem_map.2 ⟨i, List.mem_filter.2 ⟨List.mem_range.2 (by omega), hi⟩, rfl⟩
 rw [e] at this
 cases this
def cnF (l : List FHit) (x : Lat) : Option (List Int) := foldS (contB (allS l x)) (2 ^ l.length)
def cnE (l : List FHit) (x : Lat) : Int := if bothE l x ≠ 0 then bothE l x else unl (cnF l x).isSome 12
def cnL (l : List FHit) (x : Lat) : List Int := if bothE l x = 0 then (cnF l x).getD [] else []
theorem sub_mem {l : List FHit} {s : List Int} (h : ∀ i ∈ s, 0 ≤ i ∧ i < l.length) : ∀ a ∈ subH l s, a ∈ l := by
 intro a ha
 obtain ⟨i, hi, rfl⟩ := List.mem_map.1 ha
 have := h i hi
 rw [show hitAt l i.toNat = l[i.toNat]'(by omega) by simp [hitAt, List.getD, show i.toNat < l.length by omega]]
 exact List.getElem_mem _
theorem okH_sub {l : List FHit} {s : List Int} (hl : okH l) (h : ∀ i ∈ s, 0 ≤ i ∧ i < l.length) (hs : s ≠ []) (h8 : s.length ≤ 8) : okH (subH l s) := by
 refine ⟨?_, by unfold subH; rw [List.length_map]; exact h8, fun a ha => hl.2.2 a (sub_mem h a ha)⟩
 unfold subH
 rw [List.length_map]
 exact List.length_pos_iff.2 hs
theorem vtx_more {l m : List FHit} {x : Lat} (hm : 0 < m.length) (hl : 0 < l.length) (h : ∀ a ∈ m, a ∈ l) {i : Int} (hi : i ∈ vtxR l x) : i ∈ vtxR m x := by
 obtain ⟨k, rfl, h1, h2⟩ := mem_vtxR.1 hi
 refine mem_vtxR.2 ⟨k, rfl, h1, ?_⟩
 unfold tms at *
 rw [comm_ex (by rw [sts_len]; exact hl)] at h2
 rw [comm_ex (by rw [sts_len]; exact hm)]
 obtain ⟨e, he⟩ := h2
 refine ⟨e, fun g hg => ?_⟩
 obtain ⟨a, ha, rfl⟩ := List.mem_map.1 hg
 exact he _ (List.mem_map.2 ⟨a, h a ha, rfl⟩)
theorem pow_8 {n : Nat} (h : n ≤ 8) : 2 ^ n ≤ 256 := Nat.pow_le_pow_right (n := 2) (by decide) h
theorem cn_rg {l : List FHit} {k : Nat} (hl : okH l) (hk : k < 2 ^ l.length) : ∀ i ∈ membs 8 k, 0 ≤ i ∧ i < l.length := fun i hi => by
 rw [← membs_n hl.2.1 hk] at hi
 exact mem_membs hi
theorem cn_zero (sp : List (List Rg)) : contB sp (membs 8 0) = false := rfl
theorem cn_ok {l : List FHit} {x : Lat} (hl : okH l) : (vtxR l x ≠ [] ∧ cnF l x = none) ∨ (vtxR l x = [] ∧ ∃ k, k < 2 ^ l.length ∧ k ≠ 0 ∧ cnF l x = some (membs 8 k) ∧ contB (allS l x) (membs 8 k) = true ∧ ∀ j, j < 2 ^ l.length → contB (allS l x) (membs 8 j) = true → (membs 8 k).length ≤ (membs 8 j).length) := by
 obtain ⟨g1, g2⟩ := foldS_ok (contB (allS l x)) (2 ^ l.length)
 by_cases hv : vtxR l x = []
 ·right
  refine ⟨hv, ?_⟩
  have hk : 2 ^ l.length - 1 < 2 ^ l.length := by have := Nat.two_pow_pos l.length; omega
  have h0 : 2 ^ l.length - 1 ≠ 0 := by
   have : 2 ^ 1 ≤ 2 ^ l.length := Nat.pow_le_pow_right (by decide) hl.1
   omega
  have hc : contB (allS l x) (membs 8 (2 ^ l.length - 1)) = true := by
   rw [cont_iff (cn_rg hl hk) (membs_0 hl.2.1 hk h0)]
   rw [List.eq_nil_iff_forall_not_mem] at hv ⊢
   intro i hi
   refine hv i (vtx_more hl.1 ?_ ?_ hi)
   ·unfold subH
    rw [List.length_map]
    exact List.length_pos_iff.2 (membs_0 hl.2.1 hk h0)
   ·intro a ha
    obtain ⟨j, hj, rfl⟩ := List.getElem_of_mem ha
    refine List.mem_map.2 ⟨(j : Int), ?_, by simp [hitAt, List.getD, hj]⟩
    have := hl.2.1
    exact List.mem_map.2 ⟨j, List.mem_filter.2 ⟨List.mem_range.2 (by omega), by rw [Nat.testBit_two_pow_sub_one]; exact decide_eq_true hj⟩, rfl⟩
  obtain ⟨b, e1, _⟩ := g1 _ hk hc
  obtain ⟨k, k1, rfl, k3⟩ := g2 b e1
  refine ⟨k, k1, ?_, e1, k3, fun j hj hcj => ?_⟩
  ·intro e
   rw [e, cn_zero] at k3; cases k3
  ·obtain ⟨b', e2, e3⟩ := g1 j hj hcj
   rw [e1] at e2
   cases e2
   exact e3
 ·left
  refine ⟨hv, ?_⟩
  cases hf : cnF l x with
  | none => rfl
  | some b =>
   obtain ⟨k, k1, rfl, k3⟩ := g2 b hf
   have h0 : k ≠ 0 := by intro e; rw [e, cn_zero] at k3; cases k3
   rw [cont_iff (cn_rg hl k1) (membs_0 hl.2.1 k1 h0)] at k3
   obtain ⟨i, hi⟩ := List.exists_mem_of_ne_nil _ hv
   have := vtx_more (m := subH l (membs 8 k)) (by unfold subH; rw [List.length_map]; exact List.length_pos_iff.2 (membs_0 hl.2.1 k1 h0)) hl.1 (sub_mem (cn_rg hl k1)) hi
   rw [k3] at this
   cases this
theorem membs_part {n s k : Nat} (hk : k < n) : ∃ t, t < 2 ^ n ∧ membs n t = (membs n s).filter (fun i => decide (i ≠ (k : Int))) := by
 refine ⟨(s % 2 ^ n) ^^^ (if s.testBit k then 2 ^ k else 0), ?_, ?_⟩
 ·refine Nat.xor_lt_two_pow (Nat.mod_lt _ (Nat.two_pow_pos n)) ?_
  split
  ·exact Nat.pow_lt_pow_right (by omega) hk
  ·exact Nat.two_pow_pos n
 ·unfold membs
  rw [List.filter_map, List.filter_filter]
  congr 1
  apply List.filter_congr
  intro i hi
  have hin := List.mem_range.1 hi
  have e1 : (s % 2 ^ n).testBit i = s.testBit i := by rw [Nat.testBit_mod_two_pow]; simp [hin]
  rw [Nat.testBit_xor, e1]
  by_cases hik : i = k
  ·subst hik
   cases hb : s.testBit i
   ·simp [hb]
   ·simp [hb, Nat.testBit_two_pow_self]
  ·have e2 : (if s.testBit k then 2 ^ k else 0 : Nat).testBit i = false := by
    split
    ·rw [Nat.testBit_two_pow]; simp; omega
    ·simp
   rw [e2]
   have : ((i : Int) ≠ (k : Int)) := by omega
   simp [this]
def wo (s : List Int) (j : Int) : List Int := ((List.range s.length).filter fun i : Nat => decide ((i : Int) ≠ j)).map fun i : Nat => s.getD i 0
theorem list_range (s : List Int) : (List.range s.length).map (fun i => s.getD i 0) = s := by
 apply List.ext_getElem?
 intro i
 by_cases hi : i < s.length
 ·simp [hi, List.getD]
 ·rw [List.getElem?_eq_none (by simpa using hi), List.getElem?_eq_none (by omega)]
theorem wo_none (s : List Int) : wo s (-1) = s := by
 unfold wo
 rw [List.filter_eq_self.2 fun i _ => decide_eq_true (by omega), list_range]
theorem wo_at {s : List Int} (hs : s.Pairwise (· < ·)) {j : Nat} (hj : j < s.length) : wo s j = s.filter (fun i => decide (i ≠ s.getD j 0)) := by
 have e : s.filter (fun i => decide (i ≠ s.getD j 0)) = ((List.range s.length).map (fun i => s.getD i 0)).filter (fun i => decide (i ≠ s.getD j 0)) := by rw [list_range]
 rw [e, List.filter_map]
 unfold wo
 congr 1
 refine List.filter_congr fun i hi => ?_
 have hi := List.mem_range.1 hi
 refine decide_eq_decide.2 (not_congr ?_)
 rw [List.pairwise_iff_getElem] at hs
 simp only [List.getD, List.getElem?_eq_getElem hi, List.getElem?_eq_getElem hj, Option.getD_some]
 rcases Nat.lt_trichotomy i j with h | h | h
 ·have := hs i j hi hj h; omega
 ·subst h; simp
 ·have := hs j i hj hi h; omega
theorem wo_len {s : List Int} (hs : s.Pairwise (· < ·)) {j : Nat} (hj : j < s.length) : (wo s j).length < s.length ∧ (2 ≤ s.length → wo s j ≠ []) := by
 have hin : s.getD j 0 ∈ s := by rw [show s.getD j 0 = s[j] by simp [List.getD, hj]]; exact List.getElem_mem hj
 constructor
 ·rw [wo_at hs hj]
  exact List.length_filter_lt_length_iff_exists.2 ⟨_, hin, by simp⟩
 ·intro h2 e
  obtain ⟨i, hi, hij⟩ : ∃ i, i < s.length ∧ i ≠ j := by
   by_cases h : j = 0
   ·exact ⟨1, by omega, by omega⟩
   ·exact ⟨0, by omega, by omega⟩
  have : s.getD i 0 ∈ wo s j := List.mem_map.2 ⟨i, List.mem_filter.2 ⟨List.mem_range.2 hi, decide_eq_true (by omega)⟩, rfl⟩
  rw [e] at this
  cases this
theorem wo_rg {s : List Int} {j : Int} {P : Int → Prop} (h : ∀ i ∈ s, P i) : ∀ i ∈ wo s j, P i := by
 intro i hi
 obtain ⟨k, hk, rfl⟩ := List.mem_map.1 hi
 have hk := List.mem_range.1 (List.mem_filter.1 hk).1
 refine h _ ?_
 rw [show s.getD k 0 = s[k] by simp [List.getD, hk]]
 exact List.getElem_mem hk
theorem one_vtx {h : FHit} {x : Lat} (e : h.err = 0) (hx : latE x = 0) : vtxR [h] x ≠ [] := by
 have hz := sz_rg hx
 intro h0
 have : (0 : Int) ∈ vtxR [h] x := mem_vtxR.2 ⟨0, rfl, by omega, by
  obtain ⟨_, b2, _⟩ := hit_ok e
  show (stR (posAt x (0 : Nat)) h).lo ≤ (stR (posAt x (0 : Nat)) h).hi
  unfold stR; simp only; omega⟩
 rw [h0] at this
 cases this
theorem few_ok {l : List FHit} {x : Lat} {k : Nat} (hl : okH l) (hx : latE x = 0) (hk : k < 2 ^ l.length) (h0 : k ≠ 0) (hc : contB (allS l x) (membs 8 k) = true) (hm : ∀ j, j < 2 ^ l.length → contB (allS l x) (membs 8 j) = true → (membs 8 k).length ≤ (membs 8 j).length) :
  (2 ≤ (membs 8 k).length ∧ (membs 8 k).length ≤ l.length) ∧ okH (subH l (membs 8 k)) ∧ vtxR (subH l (membs 8 k)) x = [] ∧ ∀ j : Nat, j < (membs 8 k).length → okH (subH l (wo (membs 8 k) j)) ∧ vtxR (subH l (wo (membs 8 k) j)) x ≠ [] := by
 have hr := cn_rg hl hk
 have hne := membs_0 hl.2.1 hk h0
 have h8 : (membs 8 k).length ≤ l.length := by rw [← membs_n hl.2.1 hk]; exact membs_lt l.length k
 have hs := membs_sorted 8 k
 have l8 := hl.2.1
 have hv := (cont_iff hr hne).1 hc
 have h2 : 2 ≤ (membs 8 k).length := by
  rcases Nat.lt_or_ge (membs 8 k).length 2 with h | h
  ·exfalso
   have h1 : (membs 8 k).length = 1 := by have := List.length_pos_iff.2 hne; omega
   obtain ⟨a, ea⟩ := List.length_eq_one_iff.1 h1
   rw [ea] at hv hr
   have ha := hr a (by simp)
   refine one_vtx (h := hitAt l a.toNat) (x := x) ?_ hx hv
   exact hl.2.2 _ (by rw [show hitAt l a.toNat = l[a.toNat]'(by omega) by simp [hitAt, List.getD, show a.toNat < l.length by omega]]; exact List.getElem_mem _)
  ·exact h
 refine ⟨⟨h2, h8⟩, okH_sub hl hr hne (by omega), hv, fun j hj => ?_⟩
 obtain ⟨w1, w2⟩ := wo_len hs hj
 have w2 := w2 h2
 have wr := wo_rg (j := (j : Int)) hr
 refine ⟨okH_sub hl wr w2 (by omega), fun e => ?_⟩
 have hcw := (cont_iff wr w2).2 e
 have hin : (membs 8 k).getD j 0 ∈ membs 8 k := by rw [show (membs 8 k).getD j 0 = (membs 8 k)[j] by simp [List.getD, hj]]; exact List.getElem_mem hj
 have hb := hr _ hin
 obtain ⟨t, ht, et⟩ := membs_part (n := l.length) (s := k) (k := ((membs 8 k).getD j 0).toNat) (by omega)
 rw [membs_n hl.2.1 ht, membs_n hl.2.1 hk, show ((((membs 8 k).getD j 0).toNat : Nat) : Int) = (membs 8 k).getD j 0 by omega, ← wo_at hs hj] at et
 rw [← et] at hcw w1
 have := hm t ht hcw
 omega
theorem cls_0 {l : List FHit} {x : Lat} (hb : bothE l x = 0) : 0 ≤ clsM l x ∧ (clsM l x = 0 ↔ vtxR l x ≠ []) := by
 have hz := sz_rg (fn2 (show firstNZ [hitsE l, latE x] = 0 from hb)).2
 rw [show clsM l x = _ from if_pos hb, opnS_all hb]
 obtain ⟨⟨c1, c2⟩, c3, c4⟩ := clsK_ok (sp := allS l x) (allS l x).length (by rw [allS_len]; omega)
 have hL := allS_len (l := l) (x := x)
 rw [sprF_all (by omega)] at c3
 have nn := spd_nn l (posAt x ((clsK (allS l x) (allS l x).length).1.toNat))
 refine ⟨by omega, fun h => ?_, fun h => ?_⟩
 ·rw [c3, spd_0] at h
  intro e
  have := mem_vtxR.2 ⟨_, rfl, by omega, h⟩
  rw [e] at this
  cases this
 ·obtain ⟨i, hi⟩ := List.exists_mem_of_ne_nil _ h
  obtain ⟨k, rfl, k1, k2⟩ := mem_vtxR.1 hi
  have c5 := c4 k (by rw [allS_len]; exact k1)
  rw [sprF_all k1, spd_0.2 k2] at c5
  omega
end Go.Proofs.YtmhgjlapkhdlmaaDoor