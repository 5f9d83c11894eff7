/- Texts of this claim, together. -/
import Derived.Test.YtmhgjlapkhdlmaaDoorFV10

set_option linter.unusedVariables false
set_option linter.unusedSimpArgs false
namespace Go.Proofs.YtmhgjlapkhdlmaaDoor
open Go.RowKit Ev
theorem comm_app {m : List Rg} {x : Rg} (h : m ≠ []) : comm (m ++ [x]) = meetR (comm m) x := by
 cases m with
 | nil => exact (h rfl).elim
 | cons a m =>
  show (m ++ [x]).foldl meetR a = meetR (m.foldl meetR a) x
  rw [List.foldl_append]; rfl
theorem comm_one (x : Rg) : comm [x] = x := rfl
theorem tms_rg {l : List FHit} {p : P3} (h : hitsE l = 0) (hp : p.bd 15000) : -2000000000 ≤ (tms l p).lo ∧ (tms l p).lo ≤ 2000000000 ∧ -2000000000 ≤ (tms l p).hi ∧ (tms l p).hi ≤ 2000000000 := by
 obtain ⟨⟨z1, z2⟩, z3⟩ := hitsE_ok h
 refine comm_rg (by rw [sts_len]; exact z1) fun g hg => ?_
 obtain ⟨a, ha, rfl⟩ := List.mem_map.1 hg
 obtain ⟨i, hi, rfl⟩ := List.getElem_of_mem ha
 obtain ⟨b1, b2, _⟩ := hit_ok (z3 i hi)
 rw [show hitAt l i = l[i] by simp [hitAt, List.getD, hi]] at b1 b2
 have dd := dly_rg hp (b1.mono (B := 15000) (by decide))
 unfold stR
 simp only
 omega
theorem plAt_all {x : Lat} {k : Nat} (hk : k < x.sz.toNat) : plAt (allP x) k = posAt x k := by
 simp only [plAt, allP, List.getD, List.getElem?_map, List.getElem?_range hk, Option.map_some, Option.getD_some]
theorem clsK_1 (sp : List (List Rg)) : (clsK sp (1 : Int).toNat).1 = 0 := by
 rw [show ((1 : Int)).toNat = 0 + 1 from rfl, clsK_succ]
 rfl
theorem foldS_1 (sp : List (List Rg)) : foldS (contB sp) 1 = none := by
 rw [foldS_succ, cn_zero]
 rfl
theorem shl_8 {n : Nat} (h : n ≤ 8) : IntKind.i64.wrap ((1 : Int) * 2 ^ (min (((n : Nat) : Int)).toNat 64)) = ((2 ^ n : Nat) : Int) := by
 rcases (by omega : n = 0 ∨ n = 1 ∨ n = 2 ∨ n = 3 ∨ n = 4 ∨ n = 5 ∨ n = 6 ∨ n = 7 ∨ n = 8) with rfl | rfl | rfl | rfl | rfl | rfl | rfl | rfl | rfl <;> kernel_rfl
theorem rfB_and (hd : Bool) (o : Option (List Int)) (s : List Int) : rfB hd o s = (hd && rfB true o s) := by
 unfold rfB
 cases hd <;> simp
theorem skip_if {fd : Bool} {o : Option (List Int)} {s best : List Int} (h1 : fd = o.isSome) (h2 : best = o.getD []) : (bif fd then (bif decide (((s.length : Nat) : Int) > ((best.length : Nat) : Int)) then true else (bif (((s.length : Nat) : Int) == ((best.length : Nat) : Int)) then (!(befL s best)) else false)) else false) = !(rfB true o s) := by
 subst h1 h2
 cases o with
 | none => rfl
 | some b =>
  unfold rfB lessL
  simp only [Option.isSome_some, Option.getD_some, _root_.cond_true, Bool.true_and]
  rcases Nat.lt_trichotomy s.length b.length with h | h | h
  ·rw [decide_eq_false (show ¬ (s.length : Int) > b.length by omega), decide_eq_true h, show ((s.length : Int) == (b.length : Int)) = false by simp; omega]; rfl
  ·rw [decide_eq_false (show ¬ (s.length : Int) > b.length by omega), decide_eq_false (show ¬ s.length < b.length by omega), decide_eq_true h, h]
   simp
  ·rw [decide_eq_true (show (s.length : Int) > b.length by omega), decide_eq_false (show ¬ s.length < b.length by omega), decide_eq_false (show ¬ s.length = b.length by omega)]
   rfl
theorem lt_v {α : Type} {v : α} {k : α → Prop} : lt v k = k v := by unfold lt; rfl
theorem n00 : (((0 : Nat) : Int) == (0 : Int)) = true := rfl
theorem wr00 : IntKind.i64.wrap (((0 : Nat) : Int) + ((0 : Nat) : Int)) = 0 := rfl
theorem tm_cases (l : List FHit) (p : P3) : (hitsE l ≠ 0 ∧ tmsE l p = hitsE l ∧ tmsV l p = ⟨0, 0⟩) ∨ (hitsE l = 0 ∧ posE p ≠ 0 ∧ tmsE l p = posE p ∧ tmsV l p = ⟨0, 0⟩) ∨ (hitsE l = 0 ∧ posE p = 0 ∧ (tms l p).lo > (tms l p).hi ∧ tmsE l p = 12 ∧ tmsV l p = ⟨0, 0⟩) ∨ (hitsE l = 0 ∧ posE p = 0 ∧ ¬ (tms l p).lo > (tms l p).hi ∧ tmsE l p = 0 ∧ tmsV l p = tms l p) := by
 by_cases a : hitsE l = 0
 ·by_cases b : posE p = 0
  ·have h : firstNZ [hitsE l, posE p] = 0 := by rw [a, b]; rfl
   have e : tmsE l p = unl (decide ((tms l p).lo ≤ (tms l p).hi)) 12 := if_pos h
   by_cases c : (tms l p).lo > (tms l p).hi
   ·have e : tmsE l p = 12 := by rw [e, decide_eq_false (by omega)]; rfl
    exact Or.inr (Or.inr (Or.inl ⟨a, b, c, e, if_neg (by rw [e]; decide)⟩))
   ·have e : tmsE l p = 0 := by rw [e, decide_eq_true (by omega)]; rfl
    exact Or.inr (Or.inr (Or.inr ⟨a, b, c, e, if_pos e⟩))
  ·have h : firstNZ [hitsE l, posE p] = posE p := by rw [a]; simp [firstNZ]; intro h; exact h.symm
   have e : tmsE l p = posE p := (if_neg (by rw [h]; exact b)).trans h
   exact Or.inr (Or.inl ⟨a, b, e, if_neg (by rw [e]; exact b)⟩)
 ·have h : firstNZ [hitsE l, posE p] = hitsE l := by simp [firstNZ, a]
  have e : tmsE l p = hitsE l := (if_neg (by rw [h]; exact a)).trans h
  exact Or.inl ⟨a, e, if_neg (by rw [e]; exact a)⟩
theorem vx_cases (l : List FHit) (x : Lat) : (bothE l x ≠ 0 ∧ vtxO l x = [] ∧ boxE l x = bothE l x ∧ boxO l x = ⟨⟨0, 0⟩, ⟨0, 0⟩, ⟨0, 0⟩⟩ ∧ clsA l x = 0 ∧ clsM l x = 0 ∧ cnE l x = bothE l x ∧ cnL l x = []) ∨
  (bothE l x = 0 ∧ hitsE l = 0 ∧ latE x = 0 ∧ vtxO l x = vtxR l x ∧ clsA l x = (clsK (allS l x) (allS l x).length).1 ∧ clsM l x = (clsK (allS l x) (allS l x).length).2 ∧ 0 < (vtxR l x).length ∧ boxE l x = 0 ∧ boxO l x = boxF x (vtxR l x) (vtxR l x).length ∧ cnF l x = none ∧ cnE l x = 12 ∧ cnL l x = []) ∨
  ∃ s, bothE l x = 0 ∧ hitsE l = 0 ∧ latE x = 0 ∧ vtxO l x = vtxR l x ∧ clsA l x = (clsK (allS l x) (allS l x).length).1 ∧ clsM l x = (clsK (allS l x) (allS l x).length).2 ∧ (vtxR l x).length = 0 ∧ boxE l x = 12 ∧ boxO l x = ⟨⟨0, 0⟩, ⟨0, 0⟩, ⟨0, 0⟩⟩ ∧ cnF l x = some s ∧ cnE l x = 0 ∧ cnL l x = s ∧ s.length ≤ 8 := by
 by_cases h : bothE l x = 0
 ·obtain ⟨h1, h2⟩ := fn2 (show firstNZ [hitsE l, latE x] = 0 from h)
  have cA : clsA l x = (clsK (allS l x) (allS l x).length).1 := by rw [show clsA l x = _ from if_pos h, opnS_all h]
  have cM : clsM l x = (clsK (allS l x) (allS l x).length).2 := by rw [show clsM l x = _ from if_pos h, opnS_all h]
  have eE : cnE l x = unl (cnF l x).isSome 12 := if_neg (by rw [h]; simp)
  have eL : cnL l x = (cnF l x).getD [] := if_pos h
  rcases cn_ok (x := x) (okH_iff.1 h1) with ⟨q1, q2⟩ | ⟨q1, k, k1, k2, k3, _⟩
  ·have hp := List.length_pos_iff.2 q1
   have b : boxE l x = 0 := by unfold boxE; rw [if_neg (by rw [h]; simp), if_neg (by omega)]
   exact Or.inr (Or.inl ⟨h, h1, h2, vtxO_R h, cA, cM, hp, b, if_pos b, q2, by rw [eE, q2]; rfl, by rw [eL, q2]; rfl⟩)
  ·have hp : (vtxR l x).length = 0 := by rw [q1]; rfl
   have b : boxE l x = 12 := by unfold boxE; rw [if_neg (by rw [h]; simp), if_pos hp]
   exact Or.inr (Or.inr ⟨_, h, h1, h2, vtxO_R h, cA, cM, hp, b, if_neg (by rw [b]; decide), k3, by rw [eE, k3]; rfl, by rw [eL, k3]; rfl, membs_lt 8 k⟩)
 ·have b : boxE l x = bothE l x := if_pos h
  exact Or.inl ⟨h, if_neg h, b, if_neg (by rw [b]; exact h), if_neg h, if_neg h, if_pos h, if_neg h⟩
def vc_ref06_BothErr (l : List FHit) (g0 g1 g2 g3 g4 : Int) (post : DV → Prop) : Prop := (numsP 7 l.length (hitsC l)) ∧ (cond ((hitsE (listC l.length mkHit (hitsC l))) != (0 : Int)) (post (.t (.c (.v (.int .i64 (hitsE (listC l.length mkHit (hitsC l)))))))) (post (.t (.c (.v (.int .i64 (latE (⟨⟨g0, g1, g2⟩, g3, g4⟩ : Lat))))))))
def ann_ref06_BothErr : Ann := ⟨fun _ => none, fun _ => none, fun _ => [], I1, false, fun _ => none, fun _ => none⟩
theorem ev_ref06_BothErr (J : Inv) (l : List FHit) (g0 g1 g2 g3 g4 : Int) (post : DV → Prop) : evFn Tryd.prog tab Sy132 ann_ref06_BothErr J Tryd.f65 [.t (.c (.sl 7 l.length (hitsC l))), .t (.a [.v (.int .i64 g0), .v (.int .i64 g1), .v (.int .i64 g2), .v (.int .i64 g3), .v (.int .i64 g4)])] post = vc_ref06_BothErr l g0 g1 g2 g3 g4 post := by kernel_rfl
theorem fit_ref06_BothErr : okFn ann_ref06_BothErr Tryd.f65 = true := by kernel_rfl
theorem lp_ref06_BothErr (J : Inv) (post : DV → Prop) : AllG J (loopsFn Tryd.prog tab Sy132 ann_ref06_BothErr J Tryd.f65 post) = (True) := by kernel_rfl
theorem spec_ref06_BothErr (l : List FHit) (g0 g1 g2 g3 g4 : Int) : vc_ref06_BothErr l g0 g1 g2 g3 g4 (fun r => LeD r (.t (.c (.v (.int .i64 (bothE l (⟨⟨g0, g1, g2⟩, g3, g4⟩ : Lat))))))) := by
 unfold vc_ref06_BothErr
 simp only [hits_listC]
 refine ⟨numsP_hits l, cond_i (fun h => leI ?_) (fun h => leI ?_)⟩
 ·have h : hitsE l ≠ 0 := by simpa using h
  simp [bothE, firstNZ, h]
 ·have h : hitsE l = 0 := by simpa using h
  unfold bothE
  rw [h]
  by_cases e : latE (⟨⟨g0, g1, g2⟩, g3, g4⟩ : Lat) = 0
  ·rw [e]; rfl
  ·simp [firstNZ, e]
def con_ref06_BothErr : Con := fun args => match args with
 | [.t (.c (.sl 7 n_l c_l)), .t (.a [.v (.int .i64 g0), .v (.int .i64 g1), .v (.int .i64 g2), .v (.int .i64 g3), .v (.int .i64 g4)])] => some (.t (.c (.v (.int .i64 (bothE (listC n_l mkHit c_l) (⟨⟨g0, g1, g2⟩, g3, g4⟩ : Lat))))), some (numsP 7 n_l c_l), false)
 | _ => none
theorem ok_ref06_BothErr : Ok Tryd.prog 65 con_ref06_BothErr := by
 refine Ok.fn (ann := ann_ref06_BothErr) mixed tabOK VSy132 VI1 (fn := Tryd.f65) (by kernel_rfl) (by kernel_rfl) fit_ref06_BothErr fun args r pre fresh h hp => ?_
 unfold con_ref06_BothErr at h
 split at h
 ·rename_i n_l c_l g0 g1 g2 g3 g4
  cases h
  have hp0 := hp
  refine ⟨rfl, fun _ _ _ => False, [.t (.c (.sl 7 ((listC n_l mkHit c_l).length) (hitsC (listC n_l mkHit c_l)))), .t (.a [.v (.int .i64 g0), .v (.int .i64 g1), .v (.int .i64 g2), .v (.int .i64 g3), .v (.int .i64 g4)])], ?_, Nat.le_of_ble_eq_true (by kernel_rfl), ?_, ?_⟩
  ·exact (LeA_cons (leT_c ((leL_FHit hp0))) (LeA_cons (LeD.refl _) LeA_nil))
  ·rw [ev_ref06_BothErr]; exact spec_ref06_BothErr (listC n_l mkHit c_l) g0 g1 g2 g3 g4
  ·rw [lp_ref06_BothErr]; trivial
 ·cases h
noncomputable def Sz133 : Sum := addS Sy132 65 con_ref06_BothErr
theorem VSz133 : Valid Tryd.prog Sz133 := Valid.add VSy132 ok_ref06_BothErr
def mk_ref06_Times_0 (l : List FHit) (p0 p1 p2 : Int) (v0_0 : Int) (v0_1 : Int) (v0_2 : Int) : DS := ⟨[some (.t (.c (.sl 7 l.length (hitsC l)))), none, none, some (.t (.c (.p 3 0))), some (.t (.c (.p 4 0))), some (.t (.c (.p 5 0))), some (.t (.c (.v (.int .i64 v0_2)))), none, none, none, none, none, none, none, none, none, none, none, none, none, none, none, none, none, none, none, none, none, none, none, none, none, none, none, none, none, none, none, none, none, none, none, none, none, none, none, none, none, none, none, none, none, none, none], [none, none, none, some (.box 24 [.v (.int .i64 p0), .v (.int .i64 p1), .v (.int .i64 p2)]), some (.box 94 [.v (.int .i64 0), .v (.int .i64 0)]), some (.box 94 [.v (.int .i64 v0_0), .v (.int .i64 v0_1)]), none, none, none, none, none, none, none, none, none, none, none, none, none, none, none, none, none, none, none, none, none, none, none, none, none, none, none, none, none, none, none, none, none, none, none, none, none, none, none, none, none, none, none, none, none, none, none, none]⟩
def vc_ref06_Times (J : Inv) (l : List FHit) (p0 p1 p2 : Int) (post : DV → Prop) : Prop := ∃ n, J 0 (n :: []) (mk_ref06_Times_0 l p0 p1 p2 0 0 0)
def ann_ref06_Times : Ann := ⟨fun r => lookA r [(5, ([[], [], [], [1, 2], [1, 2, 3], [1, 2, 3, 4], [0, 1, 2, 3, 4, 5], [0, 1, 2, 3, 4, 5, 6]], [[22], [22], [22], [22], [22], [22], [], []])), (6, ([[], [], [0, 1], [0, 1, 2], [0, 1, 2, 3], [0, 1, 2, 3, 4], [], [0, 1, 2, 3, 4, 5, 6], [], [], [8, 9], [8, 9, 10], [8, 9, 10, 11], [8, 9, 10, 11, 12], [], [8, 9, 10, 11, 12, 13, 14], [0, 1, 2, 3, 4, 5, 6, 7], [0, 1, 2, 3, 4, 5, 6, 7, 8, 9, 10, 11, 12, 13, 14, 15, 16]], [[], [], [], [], [], [], [], [], [], [], [], [], [], [], [], [], [], []]))], fun b => lookA b [(0, (none, some ⟨[0, 3, 4, 5, 6], [3, 4, 5], []⟩))], fun _ => [], I1, false, fun _ => none, fun _ => none⟩
theorem ev_ref06_Times (J : Inv) (l : List FHit) (p0 p1 p2 : Int) (post : DV → Prop) : evFn Tryd.prog tab Sz133 ann_ref06_Times J Tryd.f71 [.t (.c (.sl 7 l.length (hitsC l))), .t (.a [.v (.int .i64 p0), .v (.int .i64 p1), .v (.int .i64 p2)])] post = vc_ref06_Times J l p0 p1 p2 post := by kernel_rfl
theorem fit_ref06_Times : okFn ann_ref06_Times Tryd.f71 = true := by kernel_rfl
def rd_ref06_Times_0 (J : Inv) (l : List FHit) (p0 p1 p2 : Int) (v0_0 : Int) (v0_1 : Int) (v0_2 : Int) (nn0 : Nat) (post : DV → Prop) : Prop := cond (decide (v0_2 < ((l.length : Nat) : Int))) ((0 ≤ v0_2 ∧ v0_2 < ((l.length : Nat) : Int)) ∧ ((((⟨p0, p1, p2⟩ : P3)).bd 15000 ∧ ((hitAt l v0_2.toNat).p).bd 15000) ∧ ((0 ≤ v0_2 ∧ v0_2 < ((l.length : Nat) : Int)) ∧ (lt (IntKind.i64.wrap (((hitAt l v0_2.toNat).t.lo) - (dly (⟨p0, p1, p2⟩ : P3) (hitAt l v0_2.toNat).p))) fun x1 => (0 ≤ v0_2 ∧ v0_2 < ((l.length : Nat) : Int)) ∧ (lt (IntKind.i64.wrap (((hitAt l v0_2.toNat).t.hi) - (dly (⟨p0, p1, p2⟩ : P3) (hitAt l v0_2.toNat).p))) fun x2 => cond (v0_2 == (0 : Int)) (lt ((if x1 > x1 then x1 else x1)) fun x3 => lt ((if x2 < x2 then x2 else x2)) fun x4 => lt (IntKind.i64.wrap (v0_2 + (1 : Int))) fun x5 => J 0 (nn0 :: []) (mk_ref06_Times_0 l p0 p1 p2 x3 x4 x5)) (lt ((if x1 > v0_0 then x1 else v0_0)) fun x6 => lt ((if x2 < v0_1 then x2 else v0_1)) fun x7 => lt (IntKind.i64.wrap (v0_2 + (1 : Int))) fun x8 => J 0 (nn0 :: []) (mk_ref06_Times_0 l p0 p1 p2 x6 x7 x8))))))) (post (.t (.a [.v (.int .i64 v0_0), .v (.int .i64 v0_1)])))
theorem er_ref06_Times_0 (J : Inv) (l : List FHit) (p0 p1 p2 : Int) (v0_0 : Int) (v0_1 : Int) (v0_2 : Int) (nn0 : Nat) (post : DV → Prop) : round Tryd.prog tab Sz133 ann_ref06_Times J Tryd.f71 post 0 (nn0 :: []) (mk_ref06_Times_0 l p0 p1 p2 v0_0 v0_1 v0_2) = rd_ref06_Times_0 J l p0 p1 p2 v0_0 v0_1 v0_2 nn0 post := by kernel_rfl
theorem lp_ref06_Times (J : Inv) (post : DV → Prop) : AllG J (loopsFn Tryd.prog tab Sz133 ann_ref06_Times J Tryd.f71 post) = (((∀ F s, ¬ J 0 (0 :: F) s) ∧ ∀ n F s, J 0 ((n + 1) :: F) s → round Tryd.prog tab Sz133 ann_ref06_Times J Tryd.f71 post 0 (n :: F) s) ∧ True) := by kernel_rfl
def J_ref06_Times (l : List FHit) (p0 p1 p2 : Int) : Inv := fun b F s => match b, F with
 | 0, [nn0] => ∃ (v0_0 : Int) (v0_1 : Int) (v0_2 : Int), s = mk_ref06_Times_0 l p0 p1 p2 v0_0 v0_1 v0_2 ∧ ((hitsE l = 0 ∧ (⟨p0, p1, p2⟩ : P3).bd 15000) ∧ 0 ≤ v0_2 ∧ v0_2 ≤ l.length ∧ (nn0 : Int) + v0_2 = l.length + 1 ∧ (0 < v0_2 → (⟨v0_0, v0_1⟩ : Rg) = comm ((l.take v0_2.toNat).map (stR (⟨p0, p1, p2⟩ : P3)))))
 | _, _ => False
theorem rnd_ref06_Times_0 (l : List FHit) (p0 p1 p2 : Int) (v0_0 : Int) (v0_1 : Int) (v0_2 : Int) (nn0 : Nat) (hp : hitsE l = 0 ∧ ((⟨p0, p1, p2⟩ : P3)).bd 15000) (hi : (hitsE l = 0 ∧ (⟨p0, p1, p2⟩ : P3).bd 15000) ∧ 0 ≤ v0_2 ∧ v0_2 ≤ l.length ∧ ((nn0 + 1) : Int) + v0_2 = l.length + 1 ∧ (0 < v0_2 → (⟨v0_0, v0_1⟩ : Rg) = comm ((l.take v0_2.toNat).map (stR (⟨p0, p1, p2⟩ : P3))))) : rd_ref06_Times_0 (J_ref06_Times l p0 p1 p2) l p0 p1 p2 v0_0 v0_1 v0_2 nn0 (fun r => LeD r (.t (.a [.v (.int .i64 ((tms l (⟨p0, p1, p2⟩ : P3)).lo)), .v (.int .i64 ((tms l (⟨p0, p1, p2⟩ : P3)).hi))]))) := by
 obtain ⟨⟨q1, q2⟩, i1, i2, i3, i4⟩ := hi
 obtain ⟨k, rfl⟩ : ∃ k : Nat, v0_2 = k := ⟨v0_2.toNat, by omega⟩
 have hk : (k : Int).toNat = k := rfl
 rw [hk] at i4
 obtain ⟨⟨z1, z2⟩, z3⟩ := hitsE_ok q1
 unfold rd_ref06_Times_0
 rw [hk]
 refine cond_i (fun h => ?_) (fun h => ?_)
 ·have hlt : k < l.length := by have := of_decide_eq_true h; omega
  obtain ⟨b1, b2, b3⟩ := hit_ok (z3 k hlt)
  have b4 := b1.mono (B := 15000) (by decide)
  have dd := dly_rg q2 b4
  refine ⟨by omega, ⟨q2, b4⟩, by omega, lt_i fun x1 h1 => ⟨by omega, lt_i fun x2 h2 => ?_⟩⟩
  rw [wi (by omega)] at h1 h2
  have eT : (l.take (k + 1)).map (stR (⟨p0, p1, p2⟩ : P3)) = (l.take k).map (stR (⟨p0, p1, p2⟩ : P3)) ++ [⟨x1, x2⟩] := by rw [hitAt_take hlt, List.map_append, ← h1, ← h2]; rfl
  refine cond_i (fun e => lt_i fun x3 h3 => lt_i fun x4 h4 => lt_i fun x5 h5 => ?_) (fun e => lt_i fun x3 h3 => lt_i fun x4 h4 => lt_i fun x5 h5 => ?_)
  all_goals
   rw [mx_if] at h3
   rw [mn_if] at h4
   rw [wi (by omega)] at h5
   subst h5
   refine ⟨_, _, _, rfl, ⟨q1, q2⟩, by omega, by omega, by omega, fun _ => ?_⟩
   rw [show ((k : Int) + 1).toNat = k + 1 by omega, eT]
  ·have e : k = 0 := by simpa using e
   rw [e, List.take_zero, List.map_nil, List.nil_append, comm_one, ← h3, ← h4]
   simp
  ·have e : k ≠ 0 := by simpa using e
   rw [comm_app (by intro q; have := congrArg List.length q; rw [List.length_map, List.length_take, List.length_nil] at this; omega), ← i4 (by omega), ← h3, ← h4]; rfl
 ·have hge : k = l.length := by have := of_decide_eq_false h; omega
  have i4 := i4 (by omega)
  rw [hge, List.take_length] at i4
  have e : tms l (⟨p0, p1, p2⟩ : P3) = ⟨v0_0, v0_1⟩ := i4.symm
  rw [e]
  exact LeD.refl _
theorem zero_ref06_Times_0 (l : List FHit) (p0 p1 p2 : Int) (v0_0 : Int) (v0_1 : Int) (v0_2 : Int)  (hi : (hitsE l = 0 ∧ (⟨p0, p1, p2⟩ : P3).bd 15000) ∧ 0 ≤ v0_2 ∧ v0_2 ≤ l.length ∧ (0 : Int) + v0_2 = l.length + 1 ∧ (0 < v0_2 → (⟨v0_0, v0_1⟩ : Rg) = comm ((l.take v0_2.toNat).map (stR (⟨p0, p1, p2⟩ : P3))))) : False := by
 omega
theorem spec_ref06_Times (l : List FHit) (p0 p1 p2 : Int) (hp : hitsE l = 0 ∧ ((⟨p0, p1, p2⟩ : P3)).bd 15000) : vc_ref06_Times (J_ref06_Times l p0 p1 p2) l p0 p1 p2 (fun r => LeD r (.t (.a [.v (.int .i64 ((tms l (⟨p0, p1, p2⟩ : P3)).lo)), .v (.int .i64 ((tms l (⟨p0, p1, p2⟩ : P3)).hi))]))) := by
 unfold vc_ref06_Times
 exact ⟨l.length + 1, 0, 0, 0, rfl, hp, by omega, by omega, by omega, fun h => by omega⟩
theorem all_ref06_Times (l : List FHit) (p0 p1 p2 : Int) (hp : hitsE l = 0 ∧ ((⟨p0, p1, p2⟩ : P3)).bd 15000) : AllG (J_ref06_Times l p0 p1 p2) (loopsFn Tryd.prog tab Sz133 ann_ref06_Times (J_ref06_Times l p0 p1 p2) Tryd.f71 (fun r => LeD r (.t (.a [.v (.int .i64 ((tms l (⟨p0, p1, p2⟩ : P3)).lo)), .v (.int .i64 ((tms l (⟨p0, p1, p2⟩ : P3)).hi))])))) := by
 rw [lp_ref06_Times]
 refine ⟨⟨?_, ?_⟩, trivial⟩
 ·intro F s h
  obtain _ | ⟨g, F⟩ := F
  case cons => exact h.elim
  obtain ⟨w0, w1, w2, rfl, hi⟩ := h
  exact zero_ref06_Times_0 l p0 p1 p2 w0 w1 w2 hi
 ·intro n F s h
  obtain _ | ⟨g, F⟩ := F
  case cons => exact h.elim
  obtain ⟨w0, w1, w2, rfl, hi⟩ := h
  rw [er_ref06_Times_0]
  exact rnd_ref06_Times_0 l p0 p1 p2 _ _ _ _ hp hi
def con_ref06_Times : Con := fun args => match args with
 | [.t (.c (.sl 7 n_l c_l)), .t (.a [.v (.int .i64 p0), .v (.int .i64 p1), .v (.int .i64 p2)])] => some (.t (.a [.v (.int .i64 ((tms (listC n_l mkHit c_l) (⟨p0, p1, p2⟩ : P3)).lo)), .v (.int .i64 ((tms (listC n_l mkHit c_l) (⟨p0, p1, p2⟩ : P3)).hi))]), some (numsP 7 n_l c_l ∧ hitsE (listC n_l mkHit c_l) = 0 ∧ ((⟨p0, p1, p2⟩ : P3)).bd 15000), false)
 | _ => none
theorem ok_ref06_Times : Ok Tryd.prog 71 con_ref06_Times := by
 refine Ok.fn (ann := ann_ref06_Times) mixed tabOK VSz133 VI1 (fn := Tryd.f71) (by kernel_rfl) (by kernel_rfl) fit_ref06_Times fun args r pre fresh h hp => ?_
 unfold con_ref06_Times at h
 split at h
 ·rename_i n_l c_l p0 p1 p2
  cases h
  obtain ⟨hp0, hp⟩ := hp
  refine ⟨rfl, J_ref06_Times (listC n_l mkHit c_l) p0 p1 p2, [.t (.c (.sl 7 ((listC n_l mkHit c_l).length) (hitsC (listC n_l mkHit c_l)))), .t (.a [.v (.int .i64 p0), .v (.int .i64 p1), .v (.int .i64 p2)])], ?_, Nat.le_of_ble_eq_true (by kernel_rfl), ?_, ?_⟩
  ·exact (LeA_cons (leT_c ((leL_FHit hp0))) (LeA_cons (LeD.refl _) LeA_nil))
  ·rw [ev_ref06_Times]; exact spec_ref06_Times (listC n_l mkHit c_l) p0 p1 p2 hp
  ·exact all_ref06_Times (listC n_l mkHit c_l) p0 p1 p2 hp
 ·cases h
noncomputable def Sz134 : Sum := addS Sz133 71 con_ref06_Times
theorem VSz134 : Valid Tryd.prog Sz134 := Valid.add VSz133 ok_ref06_Times
def vc_ref06_Spread (l : List FHit) (p0 p1 p2 : Int) (post : DV → Prop) : Prop := (numsP 7 l.length (hitsC l) ∧ hitsE (listC l.length mkHit (hitsC l)) = 0 ∧ ((⟨p0, p1, p2⟩ : P3)).bd 15000) ∧ (lt (IntKind.i64.wrap (((tms (listC l.length mkHit (hitsC l)) (⟨p0, p1, p2⟩ : P3)).lo) - ((tms (listC l.length mkHit (hitsC l)) (⟨p0, p1, p2⟩ : P3)).hi))) fun x1 => lt ((if x1 > (0 : Int) then x1 else (0 : Int))) fun x2 => post (.t (.c (.v (.int .i64 x2)))))
def ann_ref06_Spread : Ann := ⟨fun _ => none, fun _ => none, fun _ => [], I1, false, fun _ => none, fun _ => none⟩
theorem ev_ref06_Spread (J : Inv) (l : List FHit) (p0 p1 p2 : Int) (post : DV → Prop) : evFn Tryd.prog tab Sz134 ann_ref06_Spread J Tryd.f135 [.t (.c (.sl 7 l.length (hitsC l))), .t (.a [.v (.int .i64 p0), .v (.int .i64 p1), .v (.int .i64 p2)])] post = vc_ref06_Spread l p0 p1 p2 post := by kernel_rfl
theorem fit_ref06_Spread : okFn ann_ref06_Spread Tryd.f135 = true := by kernel_rfl
theorem lp_ref06_Spread (J : Inv) (post : DV → Prop) : AllG J (loopsFn Tryd.prog tab Sz134 ann_ref06_Spread J Tryd.f135 post) = (True) := by kernel_rfl
theorem spec_ref06_Spread (l : List FHit) (p0 p1 p2 : Int) (hp : hitsE l = 0 ∧ ((⟨p0, p1, p2⟩ : P3)).bd 15000) : vc_ref06_Spread l p0 p1 p2 (fun r => LeD r (.t (.c (.v (.int .i64 (spd l (⟨p0, p1, p2⟩ : P3))))))) := by
 have r := tms_rg hp.1 hp.2
 unfold vc_ref06_Spread
 simp only [hits_listC]
 refine ⟨⟨numsP_hits l, hp⟩, lt_i fun x1 h1 => lt_i fun x2 h2 => leI ?_⟩
 rw [wi (by omega)] at h1
 rw [mx_if] at h2
 unfold spd
 rw [h1, h2]
def con_ref06_Spread : Con := fun args => match args with
 | [.t (.c (.sl 7 n_l c_l)), .t (.a [.v (.int .i64 p0), .v (.int .i64 p1), .v (.int .i64 p2)])] => some (.t (.c (.v (.int .i64 (spd (listC n_l mkHit c_l) (⟨p0, p1, p2⟩ : P3))))), some (numsP 7 n_l c_l ∧ hitsE (listC n_l mkHit c_l) = 0 ∧ ((⟨p0, p1, p2⟩ : P3)).bd 15000), false)
 | _ => none
theorem ok_ref06_Spread : Ok Tryd.prog 135 con_ref06_Spread := by
 refine Ok.fn (ann := ann_ref06_Spread) mixed tabOK VSz134 VI1 (fn := Tryd.f135) (by kernel_rfl) (by kernel_rfl) fit_ref06_Spread fun args r pre fresh h hp => ?_
 unfold con_ref06_Spread at h
 split at h
 ·rename_i n_l c_l p0 p1 p2
  cases h
  obtain ⟨hp0, hp⟩ := hp
  refine ⟨rfl, fun _ _ _ => False, [.t (.c (.sl 7 ((listC n_l mkHit c_l).length) (hitsC (listC n_l mkHit c_l)))), .t (.a [.v (.int .i64 p0), .v (.int .i64 p1), .v (.int .i64 p2)])], ?_, Nat.le_of_ble_eq_true (by kernel_rfl), ?_, ?_⟩
  ·exact (LeA_cons (leT_c ((leL_FHit hp0))) (LeA_cons (LeD.refl _) LeA_nil))
  ·rw [ev_ref06_Spread]; exact spec_ref06_Spread (listC n_l mkHit c_l) p0 p1 p2 hp
  ·rw [lp_ref06_Spread]; trivial
 ·cases h
noncomputable def Sz135 : Sum := addS Sz134 135 con_ref06_Spread
theorem VSz135 : Valid Tryd.prog Sz135 := Valid.add VSz134 ok_ref06_Spread
def mk_ref06_Vertices_0 (l : List FHit) (g0 g1 g2 g3 g4 : Int) (v0_0 : List Int) (v0_1 : Int) : DS := ⟨[some (.t (.c (.sl 7 l.length (hitsC l)))), none, none, none, none, some (.t (.c (.os 5))), some (.t (.c (.sl 3 ((allP (⟨⟨g0, g1, g2⟩, g3, g4⟩ : Lat)).length) (plsC (allP (⟨⟨g0, g1, g2⟩, g3, g4⟩ : Lat)))))), some (.t (.c (.v (.int .i64 v0_1)))), none, none, none, none, none, none, none, none, none, none, none, none, none, none, none, none, none, none, none, none], [none, none, none, none, none, some (.num 3 .i64 v0_0), none, none, none, none, none, none, none, none, none, none, none, none, none, none, none, none, none, none, none, none, none, none]⟩
def vc_ref06_Vertices (J : Inv) (l : List FHit) (g0 g1 g2 g3 g4 : Int) (post : DV → Prop) : Prop := (latE (⟨⟨g0, g1, g2⟩, g3, g4⟩ : Lat) = 0) ∧ (∃ n, J 0 (n :: []) (mk_ref06_Vertices_0 l g0 g1 g2 g3 g4 ([]) 0))
def ann_ref06_Vertices : Ann := ⟨fun _ => none, fun b => lookA b [(0, (none, some ⟨[0, 6, 7], [], [(5, .num 3 .i64 ([]))]⟩))], fun _ => [], I1, true, fun _ => none, fun _ => none⟩
theorem ev_ref06_Vertices (J : Inv) (l : List FHit) (g0 g1 g2 g3 g4 : Int) (post : DV → Prop) : evFn Tryd.prog tab Sz135 ann_ref06_Vertices J Tryd.f72 [.t (.c (.sl 7 l.length (hitsC l))), .t (.a [.v (.int .i64 g0), .v (.int .i64 g1), .v (.int .i64 g2), .v (.int .i64 g3), .v (.int .i64 g4)])] post = vc_ref06_Vertices J l g0 g1 g2 g3 g4 post := by kernel_rfl
theorem fit_ref06_Vertices : okFn ann_ref06_Vertices Tryd.f72 = true := by kernel_rfl
def rd_ref06_Vertices_0 (J : Inv) (l : List FHit) (g0 g1 g2 g3 g4 : Int) (v0_0 : List Int) (v0_1 : Int) (nn0 : Nat) (post : DV → Prop) : Prop := cond (decide (v0_1 < (((allP (⟨⟨g0, g1, g2⟩, g3, g4⟩ : Lat)).length : Nat) : Int))) ((0 ≤ v0_1 ∧ v0_1 < (((allP (⟨⟨g0, g1, g2⟩, g3, g4⟩ : Lat)).length : Nat) : Int)) ∧ ((numsP 7 l.length (hitsC l) ∧ hitsE (listC l.length mkHit (hitsC l)) = 0 ∧ ((plAt (allP (⟨⟨g0, g1, g2⟩, g3, g4⟩ : Lat)) v0_1.toNat)).bd 15000) ∧ (cond ((spd (listC l.length mkHit (hitsC l)) (plAt (allP (⟨⟨g0, g1, g2⟩, g3, g4⟩ : Lat)) v0_1.toNat)) == (0 : Int)) (((IntKind.i64 = IntKind.i64 ∧ True) ∧ roomP 8 (v0_0.length + ([v0_1] : List Int).length)) ∧ (lt (IntKind.i64.wrap (v0_1 + (1 : Int))) fun x1 => J 0 (nn0 :: []) (mk_ref06_Vertices_0 l g0 g1 g2 g3 g4 (v0_0 ++ ([v0_1])) x1))) (lt (IntKind.i64.wrap (v0_1 + (1 : Int))) fun x2 => J 0 (nn0 :: []) (mk_ref06_Vertices_0 l g0 g1 g2 g3 g4 v0_0 x2))))) (post (.t (.c (.sl 1 v0_0.length (numsC .i64 v0_0)))))
theorem er_ref06_Vertices_0 (J : Inv) (l : List FHit) (g0 g1 g2 g3 g4 : Int) (v0_0 : List Int) (v0_1 : Int) (nn0 : Nat) (post : DV → Prop) : round Tryd.prog tab Sz135 ann_ref06_Vertices J Tryd.f72 post 0 (nn0 :: []) (mk_ref06_Vertices_0 l g0 g1 g2 g3 g4 v0_0 v0_1) = rd_ref06_Vertices_0 J l g0 g1 g2 g3 g4 v0_0 v0_1 nn0 post := by kernel_rfl
theorem lp_ref06_Vertices (J : Inv) (post : DV → Prop) : AllG J (loopsFn Tryd.prog tab Sz135 ann_ref06_Vertices J Tryd.f72 post) = (((∀ F s, ¬ J 0 (0 :: F) s) ∧ ∀ n F s, J 0 ((n + 1) :: F) s → round Tryd.prog tab Sz135 ann_ref06_Vertices J Tryd.f72 post 0 (n :: F) s) ∧ True) := by kernel_rfl
def J_ref06_Vertices (l : List FHit) (g0 g1 g2 g3 g4 : Int) : Inv := fun b F s => match b, F with
 | 0, [nn0] => ∃ (v0_0 : List Int) (v0_1 : Int), s = mk_ref06_Vertices_0 l g0 g1 g2 g3 g4 v0_0 v0_1 ∧ ((hitsE l = 0 ∧ latE (⟨⟨g0, g1, g2⟩, g3, g4⟩ : Lat) = 0) ∧ 0 ≤ v0_1 ∧ v0_1 ≤ (⟨⟨g0, g1, g2⟩, g3, g4⟩ : Lat).sz ∧ (nn0 : Int) + v0_1 = (⟨⟨g0, g1, g2⟩, g3, g4⟩ : Lat).sz + 1 ∧ v0_0 = vtxK (allS l (⟨⟨g0, g1, g2⟩, g3, g4⟩ : Lat)) v0_1.toNat)
 | _, _ => False
theorem rnd_ref06_Vertices_0 (l : List FHit) (g0 g1 g2 g3 g4 : Int) (v0_0 : List Int) (v0_1 : Int) (nn0 : Nat) (hp : hitsE l = 0 ∧ latE (⟨⟨g0, g1, g2⟩, g3, g4⟩ : Lat) = 0) (hi : (hitsE l = 0 ∧ latE (⟨⟨g0, g1, g2⟩, g3, g4⟩ : Lat) = 0) ∧ 0 ≤ v0_1 ∧ v0_1 ≤ (⟨⟨g0, g1, g2⟩, g3, g4⟩ : Lat).sz ∧ ((nn0 + 1) : Int) + v0_1 = (⟨⟨g0, g1, g2⟩, g3, g4⟩ : Lat).sz + 1 ∧ v0_0 = vtxK (allS l (⟨⟨g0, g1, g2⟩, g3, g4⟩ : Lat)) v0_1.toNat) : rd_ref06_Vertices_0 (J_ref06_Vertices l g0 g1 g2 g3 g4) l g0 g1 g2 g3 g4 v0_0 v0_1 nn0 (fun r => LeD r (.t (.c (.sl 1 ((vtxR l (⟨⟨g0, g1, g2⟩, g3, g4⟩ : Lat)).length) (intsC (vtxR l (⟨⟨g0, g1, g2⟩, g3, g4⟩ : Lat))))))) := by
 obtain ⟨⟨q1, q2⟩, i1, i2, i3, i4⟩ := hi
 obtain ⟨k, rfl⟩ : ∃ k : Nat, v0_1 = k := ⟨v0_1.toNat, by omega⟩
 have hk : (k : Int).toNat = k := rfl
 rw [hk] at i4
 have hz := sz_rg q2
 have hl := vtxK_len (allS l (⟨⟨g0, g1, g2⟩, g3, g4⟩ : Lat)) k
 unfold rd_ref06_Vertices_0
 simp only [hits_listC, hk, allP_len]
 refine cond_i (fun h => ?_) (fun h => ?_)
 ·have hlt : k < (⟨⟨g0, g1, g2⟩, g3, g4⟩ : Lat).sz.toNat := by have := of_decide_eq_true h; omega
  rw [plAt_all hlt]
  have eS := vtxK_succ (allS l (⟨⟨g0, g1, g2⟩, g3, g4⟩ : Lat)) k
  rw [sprF_all hlt] at eS
  refine ⟨by omega, ⟨numsP_hits l, q1, posAt_bd q2 (by omega) (by omega)⟩, cond_i (fun e => ⟨⟨by trivial, ?_⟩, lt_i fun x hx => ?_⟩) (fun e => lt_i fun x hx => ?_)⟩
  ·rw [i4]; unfold roomP maxLen; simp; omega
  all_goals
   rw [wi (by omega)] at hx
   subst hx
   refine ⟨_, _, rfl, ⟨q1, q2⟩, by omega, by omega, by omega, ?_⟩
   rw [show ((k : Int) + 1).toNat = k + 1 by omega, eS, i4]
  ·rw [if_pos e]
  ·rw [if_neg (by rw [e]; simp), List.append_nil]
 ·have hge : k = (⟨⟨g0, g1, g2⟩, g3, g4⟩ : Lat).sz.toNat := by have := of_decide_eq_false h; omega
  have e : vtxR l (⟨⟨g0, g1, g2⟩, g3, g4⟩ : Lat) = v0_0 := by rw [i4, hge, ← allS_len (l := l)]; rfl
  rw [e]
  exact LeD.refl _
theorem zero_ref06_Vertices_0 (l : List FHit) (g0 g1 g2 g3 g4 : Int) (v0_0 : List Int) (v0_1 : Int)  (hi : (hitsE l = 0 ∧ latE (⟨⟨g0, g1, g2⟩, g3, g4⟩ : Lat) = 0) ∧ 0 ≤ v0_1 ∧ v0_1 ≤ (⟨⟨g0, g1, g2⟩, g3, g4⟩ : Lat).sz ∧ (0 : Int) + v0_1 = (⟨⟨g0, g1, g2⟩, g3, g4⟩ : Lat).sz + 1 ∧ v0_0 = vtxK (allS l (⟨⟨g0, g1, g2⟩, g3, g4⟩ : Lat)) v0_1.toNat) : False := by
 omega
theorem spec_ref06_Vertices (l : List FHit) (g0 g1 g2 g3 g4 : Int) (hp : hitsE l = 0 ∧ latE (⟨⟨g0, g1, g2⟩, g3, g4⟩ : Lat) = 0) : vc_ref06_Vertices (J_ref06_Vertices l g0 g1 g2 g3 g4) l g0 g1 g2 g3 g4 (fun r => LeD r (.t (.c (.sl 1 ((vtxR l (⟨⟨g0, g1, g2⟩, g3, g4⟩ : Lat)).length) (intsC (vtxR l (⟨⟨g0, g1, g2⟩, g3, g4⟩ : Lat))))))) := by
 have hz := sz_rg hp.2
 unfold vc_ref06_Vertices
 exact ⟨hp.2, ((⟨⟨g0, g1, g2⟩, g3, g4⟩ : Lat).sz.toNat + 1), [], 0, rfl, hp, by omega, by omega, by omega, rfl⟩
theorem all_ref06_Vertices (l : List FHit) (g0 g1 g2 g3 g4 : Int) (hp : hitsE l = 0 ∧ latE (⟨⟨g0, g1, g2⟩, g3, g4⟩ : Lat) = 0) : AllG (J_ref06_Vertices l g0 g1 g2 g3 g4) (loopsFn Tryd.prog tab Sz135 ann_ref06_Vertices (J_ref06_Vertices l g0 g1 g2 g3 g4) Tryd.f72 (fun r => LeD r (.t (.c (.sl 1 ((vtxR l (⟨⟨g0, g1, g2⟩, g3, g4⟩ : Lat)).length) (intsC (vtxR l (⟨⟨g0, g1, g2⟩, g3, g4⟩ : Lat)))))))) := by
 rw [lp_ref06_Vertices]
 refine ⟨⟨?_, ?_⟩, trivial⟩
 ·intro F s h
  obtain _ | ⟨g, F⟩ := F
  case cons => exact h.elim
  obtain ⟨w0, w1, rfl, hi⟩ := h
  exact zero_ref06_Vertices_0 l g0 g1 g2 g3 g4 w0 w1 hi
 ·intro n F s h
  obtain _ | ⟨g, F⟩ := F
  case cons => exact h.elim
  obtain ⟨w0, w1, rfl, hi⟩ := h
  rw [er_ref06_Vertices_0]
  exact rnd_ref06_Vertices_0 l g0 g1 g2 g3 g4 _ _ _ hp hi
def con_ref06_Vertices : Con := fun args => match args with
 | [.t (.c (.sl 7 n_l c_l)), .t (.a [.v (.int .i64 g0), .v (.int .i64 g1), .v (.int .i64 g2), .v (.int .i64 g3), .v (.int .i64 g4)])] => some (.t (.c (.sl 1 ((vtxR (listC n_l mkHit c_l) (⟨⟨g0, g1, g2⟩, g3, g4⟩ : Lat)).length) (intsC (vtxR (listC n_l mkHit c_l) (⟨⟨g0, g1, g2⟩, g3, g4⟩ : Lat))))), some (numsP 7 n_l c_l ∧ hitsE (listC n_l mkHit c_l) = 0 ∧ latE (⟨⟨g0, g1, g2⟩, g3, g4⟩ : Lat) = 0), true)
 | _ => none
theorem ok_ref06_Vertices : Ok Tryd.prog 72 con_ref06_Vertices := by
 refine Ok.fnFr (ann := ann_ref06_Vertices) mixed tabOK VSz135 VI1 rfl (fn := Tryd.f72) (by kernel_rfl) (by kernel_rfl) fit_ref06_Vertices fun args r pre fresh h hp => ?_
 unfold con_ref06_Vertices at h
 split at h
 ·rename_i n_l c_l g0 g1 g2 g3 g4
  cases h
  obtain ⟨hp0, hp⟩ := hp
  refine ⟨rfl, (fun i j _ hj => plain_int _ i j), J_ref06_Vertices (listC n_l mkHit c_l) g0 g1 g2 g3 g4, [.t (.c (.sl 7 ((listC n_l mkHit c_l).length) (hitsC (listC n_l mkHit c_l)))), .t (.a [.v (.int .i64 g0), .v (.int .i64 g1), .v (.int .i64 g2), .v (.int .i64 g3), .v (.int .i64 g4)])], ?_, Nat.le_of_ble_eq_true (by kernel_rfl), ?_, ?_⟩
  ·exact (LeA_cons (leT_c ((leL_FHit hp0))) (LeA_cons (LeD.refl _) LeA_nil))
  ·rw [ev_ref06_Vertices]; exact spec_ref06_Vertices (listC n_l mkHit c_l) g0 g1 g2 g3 g4 hp
  ·exact all_ref06_Vertices (listC n_l mkHit c_l) g0 g1 g2 g3 g4 hp
 ·cases h
noncomputable def Sz136 : Sum := addS Sz135 72 con_ref06_Vertices
theorem VSz136 : Valid Tryd.prog Sz136 := Valid.add VSz135 ok_ref06_Vertices
def mk_ref06_Box_0 (l : List FHit) (g0 g1 g2 g3 g4 : Int) (v0_0 : Int) (v0_1 : Int) (v0_2 : Int) (v0_3 : Int) (v0_4 : Int) (v0_5 : Int) (v0_6 : Int) (v0_7 : Int) (v0_8 : Int) (v0_9 : Int) : DS := ⟨[none, none, none, none, some (.t (.c (.p 4 0))), some (.t (.c (.sl 3 ((allP (⟨⟨g0, g1, g2⟩, g3, g4⟩ : Lat)).length) (plsC (allP (⟨⟨g0, g1, g2⟩, g3, g4⟩ : Lat)))))), some (.t (.c (.sl 1 ((vtxR (listC l.length mkHit (hitsC l)) (⟨⟨g0, g1, g2⟩, g3, g4⟩ : Lat)).length) (intsC (vtxR (listC l.length mkHit (hitsC l)) (⟨⟨g0, g1, g2⟩, g3, g4⟩ : Lat)))))), some (.t (.c (.p 7 0))), some (.t (.c (.p 8 0))), some (.t (.c (.v (.int .i64 v0_9)))), none, none, none, none, none, none, none, none, none, none, none, none, none, none, none, none, none, none, none, none, none, none, none, none, none, none, none, none, none, none, none, none, none, none, none, none, none, none, none, none, none, none, none, none, none, none, none, none, none, none, none, none, none, none, none, none, none, none, none, none, none, none, none, none, none, none, none, none, none, none, none, none, none, none, none, none, none, none, none, none, none, none, none], [none, none, none, none, some (.box 116 [.v (.int .i64 0), .v (.int .i64 0), .v (.int .i64 0), .v (.int .i64 0), .v (.int .i64 0), .v (.int .i64 0)]), none, none, some (.box 24 [.v (.int .i64 v0_0), .v (.int .i64 v0_1), .v (.int .i64 v0_2)]), some (.box 116 [.v (.int .i64 v0_3), .v (.int .i64 v0_4), .v (.int .i64 v0_5), .v (.int .i64 v0_6), .v (.int .i64 v0_7), .v (.int .i64 v0_8)]), none, none, none, none, none, none, none, none, none, none, none, none, none, none, none, none, none, none, none, none, none, none, none, none, none, none, none, none, none, none, none, none, none, none, none, none, none, none, none, none, none, none, none, none, none, none, none, none, none, none, none, none, none, none, none, none, none, none, none, none, none, none, none, none, none, none, none, none, none, none, none, none, none, none, none, none, none, none, none, none, none, none, none, none]⟩
def vc_ref06_Box (J : Inv) (l : List FHit) (g0 g1 g2 g3 g4 : Int) (post : DV → Prop) : Prop := (latE (⟨⟨g0, g1, g2⟩, g3, g4⟩ : Lat) = 0) ∧ ((numsP 7 l.length (hitsC l) ∧ hitsE (listC l.length mkHit (hitsC l)) = 0 ∧ latE (⟨⟨g0, g1, g2⟩, g3, g4⟩ : Lat) = 0) ∧ ((0 ≤ (0 : Int) ∧ (0 : Int) < (((vtxR (listC l.length mkHit (hitsC l)) (⟨⟨g0, g1, g2⟩, g3, g4⟩ : Lat)).length : Nat) : Int)) ∧ ((0 ≤ ((vtxR (listC l.length mkHit (hitsC l)) (⟨⟨g0, g1, g2⟩, g3, g4⟩ : Lat)).getD 0 0) ∧ ((vtxR (listC l.length mkHit (hitsC l)) (⟨⟨g0, g1, g2⟩, g3, g4⟩ : Lat)).getD 0 0) < (((allP (⟨⟨g0, g1, g2⟩, g3, g4⟩ : Lat)).length : Nat) : Int)) ∧ (∃ n, J 0 (n :: []) (mk_ref06_Box_0 l g0 g1 g2 g3 g4 ((plAt (allP (⟨⟨g0, g1, g2⟩, g3, g4⟩ : Lat)) (((vtxR (listC l.length mkHit (hitsC l)) (⟨⟨g0, g1, g2⟩, g3, g4⟩ : Lat)).getD 0 0).toNat)).x) ((plAt (allP (⟨⟨g0, g1, g2⟩, g3, g4⟩ : Lat)) (((vtxR (listC l.length mkHit (hitsC l)) (⟨⟨g0, g1, g2⟩, g3, g4⟩ : Lat)).getD 0 0).toNat)).y) ((plAt (allP (⟨⟨g0, g1, g2⟩, g3, g4⟩ : Lat)) (((vtxR (listC l.length mkHit (hitsC l)) (⟨⟨g0, g1, g2⟩, g3, g4⟩ : Lat)).getD 0 0).toNat)).z) ((plAt (allP (⟨⟨g0, g1, g2⟩, g3, g4⟩ : Lat)) (((vtxR (listC l.length mkHit (hitsC l)) (⟨⟨g0, g1, g2⟩, g3, g4⟩ : Lat)).getD 0 0).toNat)).x) ((plAt (allP (⟨⟨g0, g1, g2⟩, g3, g4⟩ : Lat)) (((vtxR (listC l.length mkHit (hitsC l)) (⟨⟨g0, g1, g2⟩, g3, g4⟩ : Lat)).getD 0 0).toNat)).x) ((plAt (allP (⟨⟨g0, g1, g2⟩, g3, g4⟩ : Lat)) (((vtxR (listC l.length mkHit (hitsC l)) (⟨⟨g0, g1, g2⟩, g3, g4⟩ : Lat)).getD 0 0).toNat)).y) ((plAt (allP (⟨⟨g0, g1, g2⟩, g3, g4⟩ : Lat)) (((vtxR (listC l.length mkHit (hitsC l)) (⟨⟨g0, g1, g2⟩, g3, g4⟩ : Lat)).getD 0 0).toNat)).y) ((plAt (allP (⟨⟨g0, g1, g2⟩, g3, g4⟩ : Lat)) (((vtxR (listC l.length mkHit (hitsC l)) (⟨⟨g0, g1, g2⟩, g3, g4⟩ : Lat)).getD 0 0).toNat)).z) ((plAt (allP (⟨⟨g0, g1, g2⟩, g3, g4⟩ : Lat)) (((vtxR (listC l.length mkHit (hitsC l)) (⟨⟨g0, g1, g2⟩, g3, g4⟩ : Lat)).getD 0 0).toNat)).z) 1)))))
def ann_ref06_Box : Ann := ⟨fun r => lookA r [(1, ([[], [0], [], [], [0, 1, 2, 3], [0, 1, 2, 3, 4], [0, 1, 2, 3, 4, 5]], [[11, 14], [14], [11, 14], [11, 14], [], [], []]))], fun b => lookA b [(0, (none, some ⟨[4, 5, 6, 7, 8, 9], [4, 7, 8], []⟩))], fun _ => [], I1, false, fun _ => none, fun _ => none⟩
theorem ev_ref06_Box (J : Inv) (l : List FHit) (g0 g1 g2 g3 g4 : Int) (post : DV → Prop) : evFn Tryd.prog tab Sz136 ann_ref06_Box J Tryd.f75 [.t (.c (.sl 7 l.length (hitsC l))), .t (.a [.v (.int .i64 g0), .v (.int .i64 g1), .v (.int .i64 g2), .v (.int .i64 g3), .v (.int .i64 g4)])] post = vc_ref06_Box J l g0 g1 g2 g3 g4 post := by kernel_rfl
theorem fit_ref06_Box : okFn ann_ref06_Box Tryd.f75 = true := by kernel_rfl
def rd_ref06_Box_0 (J : Inv) (l : List FHit) (g0 g1 g2 g3 g4 : Int) (v0_0 : Int) (v0_1 : Int) (v0_2 : Int) (v0_3 : Int) (v0_4 : Int) (v0_5 : Int) (v0_6 : Int) (v0_7 : Int) (v0_8 : Int) (v0_9 : Int) (nn0 : Nat) (post : DV → Prop) : Prop := cond (decide (v0_9 < (((vtxR (listC l.length mkHit (hitsC l)) (⟨⟨g0, g1, g2⟩, g3, g4⟩ : Lat)).length : Nat) : Int))) ((0 ≤ v0_9 ∧ v0_9 < (((vtxR (listC l.length mkHit (hitsC l)) (⟨⟨g0, g1, g2⟩, g3, g4⟩ : Lat)).length : Nat) : Int)) ∧ ((0 ≤ ((vtxR (listC l.length mkHit (hitsC l)) (⟨⟨g0, g1, g2⟩, g3, g4⟩ : Lat)).getD v0_9.toNat 0) ∧ ((vtxR (listC l.length mkHit (hitsC l)) (⟨⟨g0, g1, g2⟩, g3, g4⟩ : Lat)).getD v0_9.toNat 0) < (((allP (⟨⟨g0, g1, g2⟩, g3, g4⟩ : Lat)).length : Nat) : Int)) ∧ (lt ((if ((plAt (allP (⟨⟨g0, g1, g2⟩, g3, g4⟩ : Lat)) (((vtxR (listC l.length mkHit (hitsC l)) (⟨⟨g0, g1, g2⟩, g3, g4⟩ : Lat)).getD v0_9.toNat 0).toNat)).x) < v0_3 then ((plAt (allP (⟨⟨g0, g1, g2⟩, g3, g4⟩ : Lat)) (((vtxR (listC l.length mkHit (hitsC l)) (⟨⟨g0, g1, g2⟩, g3, g4⟩ : Lat)).getD v0_9.toNat 0).toNat)).x) else v0_3)) fun x1 => lt ((if ((plAt (allP (⟨⟨g0, g1, g2⟩, g3, g4⟩ : Lat)) (((vtxR (listC l.length mkHit (hitsC l)) (⟨⟨g0, g1, g2⟩, g3, g4⟩ : Lat)).getD v0_9.toNat 0).toNat)).x) > v0_4 then ((plAt (allP (⟨⟨g0, g1, g2⟩, g3, g4⟩ : Lat)) (((vtxR (listC l.length mkHit (hitsC l)) (⟨⟨g0, g1, g2⟩, g3, g4⟩ : Lat)).getD v0_9.toNat 0).toNat)).x) else v0_4)) fun x2 => lt ((if ((plAt (allP (⟨⟨g0, g1, g2⟩, g3, g4⟩ : Lat)) (((vtxR (listC l.length mkHit (hitsC l)) (⟨⟨g0, g1, g2⟩, g3, g4⟩ : Lat)).getD v0_9.toNat 0).toNat)).y) < v0_5 then ((plAt (allP (⟨⟨g0, g1, g2⟩, g3, g4⟩ : Lat)) (((vtxR (listC l.length mkHit (hitsC l)) (⟨⟨g0, g1, g2⟩, g3, g4⟩ : Lat)).getD v0_9.toNat 0).toNat)).y) else v0_5)) fun x3 => lt ((if ((plAt (allP (⟨⟨g0, g1, g2⟩, g3, g4⟩ : Lat)) (((vtxR (listC l.length mkHit (hitsC l)) (⟨⟨g0, g1, g2⟩, g3, g4⟩ : Lat)).getD v0_9.toNat 0).toNat)).y) > v0_6 then ((plAt (allP (⟨⟨g0, g1, g2⟩, g3, g4⟩ : Lat)) (((vtxR (listC l.length mkHit (hitsC l)) (⟨⟨g0, g1, g2⟩, g3, g4⟩ : Lat)).getD v0_9.toNat 0).toNat)).y) else v0_6)) fun x4 => lt ((if ((plAt (allP (⟨⟨g0, g1, g2⟩, g3, g4⟩ : Lat)) (((vtxR (listC l.length mkHit (hitsC l)) (⟨⟨g0, g1, g2⟩, g3, g4⟩ : Lat)).getD v0_9.toNat 0).toNat)).z) < v0_7 then ((plAt (allP (⟨⟨g0, g1, g2⟩, g3, g4⟩ : Lat)) (((vtxR (listC l.length mkHit (hitsC l)) (⟨⟨g0, g1, g2⟩, g3, g4⟩ : Lat)).getD v0_9.toNat 0).toNat)).z) else v0_7)) fun x5 => lt ((if ((plAt (allP (⟨⟨g0, g1, g2⟩, g3, g4⟩ : Lat)) (((vtxR (listC l.length mkHit (hitsC l)) (⟨⟨g0, g1, g2⟩, g3, g4⟩ : Lat)).getD v0_9.toNat 0).toNat)).z) > v0_8 then ((plAt (allP (⟨⟨g0, g1, g2⟩, g3, g4⟩ : Lat)) (((vtxR (listC l.length mkHit (hitsC l)) (⟨⟨g0, g1, g2⟩, g3, g4⟩ : Lat)).getD v0_9.toNat 0).toNat)).z) else v0_8)) fun x6 => lt (IntKind.i64.wrap (v0_9 + (1 : Int))) fun x7 => J 0 (nn0 :: []) (mk_ref06_Box_0 l g0 g1 g2 g3 g4 ((plAt (allP (⟨⟨g0, g1, g2⟩, g3, g4⟩ : Lat)) (((vtxR (listC l.length mkHit (hitsC l)) (⟨⟨g0, g1, g2⟩, g3, g4⟩ : Lat)).getD v0_9.toNat 0).toNat)).x) ((plAt (allP (⟨⟨g0, g1, g2⟩, g3, g4⟩ : Lat)) (((vtxR (listC l.length mkHit (hitsC l)) (⟨⟨g0, g1, g2⟩, g3, g4⟩ : Lat)).getD v0_9.toNat 0).toNat)).y) ((plAt (allP (⟨⟨g0, g1, g2⟩, g3, g4⟩ : Lat)) (((vtxR (listC l.length mkHit (hitsC l)) (⟨⟨g0, g1, g2⟩, g3, g4⟩ : Lat)).getD v0_9.toNat 0).toNat)).z) x1 x2 x3 x4 x5 x6 x7)))) (post (.t (.a [.v (.int .i64 v0_3), .v (.int .i64 v0_4), .v (.int .i64 v0_5), .v (.int .i64 v0_6), .v (.int .i64 v0_7), .v (.int .i64 v0_8)])))
theorem er_ref06_Box_0 (J : Inv) (l : List FHit) (g0 g1 g2 g3 g4 : Int) (v0_0 : Int) (v0_1 : Int) (v0_2 : Int) (v0_3 : Int) (v0_4 : Int) (v0_5 : Int) (v0_6 : Int) (v0_7 : Int) (v0_8 : Int) (v0_9 : Int) (nn0 : Nat) (post : DV → Prop) : round Tryd.prog tab Sz136 ann_ref06_Box J Tryd.f75 post 0 (nn0 :: []) (mk_ref06_Box_0 l g0 g1 g2 g3 g4 v0_0 v0_1 v0_2 v0_3 v0_4 v0_5 v0_6 v0_7 v0_8 v0_9) = rd_ref06_Box_0 J l g0 g1 g2 g3 g4 v0_0 v0_1 v0_2 v0_3 v0_4 v0_5 v0_6 v0_7 v0_8 v0_9 nn0 post := by kernel_rfl
theorem lp_ref06_Box (J : Inv) (post : DV → Prop) : AllG J (loopsFn Tryd.prog tab Sz136 ann_ref06_Box J Tryd.f75 post) = (((∀ F s, ¬ J 0 (0 :: F) s) ∧ ∀ n F s, J 0 ((n + 1) :: F) s → round Tryd.prog tab Sz136 ann_ref06_Box J Tryd.f75 post 0 (n :: F) s) ∧ True) := by kernel_rfl
def J_ref06_Box (l : List FHit) (g0 g1 g2 g3 g4 : Int) : Inv := fun b F s => match b, F with
 | 0, [nn0] => ∃ (v0_0 : Int) (v0_1 : Int) (v0_2 : Int) (v0_3 : Int) (v0_4 : Int) (v0_5 : Int) (v0_6 : Int) (v0_7 : Int) (v0_8 : Int) (v0_9 : Int), s = mk_ref06_Box_0 l g0 g1 g2 g3 g4 v0_0 v0_1 v0_2 v0_3 v0_4 v0_5 v0_6 v0_7 v0_8 v0_9 ∧ ((hitsE l = 0 ∧ latE (⟨⟨g0, g1, g2⟩, g3, g4⟩ : Lat) = 0 ∧ 0 < (vtxR l (⟨⟨g0, g1, g2⟩, g3, g4⟩ : Lat)).length) ∧ 1 ≤ v0_9 ∧ v0_9 ≤ (vtxR l (⟨⟨g0, g1, g2⟩, g3, g4⟩ : Lat)).length ∧ (nn0 : Int) + v0_9 = (vtxR l (⟨⟨g0, g1, g2⟩, g3, g4⟩ : Lat)).length + 1 ∧ (⟨⟨v0_3, v0_4⟩, ⟨v0_5, v0_6⟩, ⟨v0_7, v0_8⟩⟩ : Bx6) = boxF (⟨⟨g0, g1, g2⟩, g3, g4⟩ : Lat) (vtxR l (⟨⟨g0, g1, g2⟩, g3, g4⟩ : Lat)) v0_9.toNat)
 | _, _ => False
set_option maxHeartbeats 8000000 in
set_option maxRecDepth 100000 in
theorem rnd_ref06_Box_0 (l : List FHit) (g0 g1 g2 g3 g4 : Int) (v0_0 : Int) (v0_1 : Int) (v0_2 : Int) (v0_3 : Int) (v0_4 : Int) (v0_5 : Int) (v0_6 : Int) (v0_7 : Int) (v0_8 : Int) (v0_9 : Int) (nn0 : Nat) (hp : hitsE l = 0 ∧ latE (⟨⟨g0, g1, g2⟩, g3, g4⟩ : Lat) = 0 ∧ 0 < (vtxR l (⟨⟨g0, g1, g2⟩, g3, g4⟩ : Lat)).length) (hi : (hitsE l = 0 ∧ latE (⟨⟨g0, g1, g2⟩, g3, g4⟩ : Lat) = 0 ∧ 0 < (vtxR l (⟨⟨g0, g1, g2⟩, g3, g4⟩ : Lat)).length) ∧ 1 ≤ v0_9 ∧ v0_9 ≤ (vtxR l (⟨⟨g0, g1, g2⟩, g3, g4⟩ : Lat)).length ∧ ((nn0 + 1) : Int) + v0_9 = (vtxR l (⟨⟨g0, g1, g2⟩, g3, g4⟩ : Lat)).length + 1 ∧ (⟨⟨v0_3, v0_4⟩, ⟨v0_5, v0_6⟩, ⟨v0_7, v0_8⟩⟩ : Bx6) = boxF (⟨⟨g0, g1, g2⟩, g3, g4⟩ : Lat) (vtxR l (⟨⟨g0, g1, g2⟩, g3, g4⟩ : Lat)) v0_9.toNat) : rd_ref06_Box_0 (J_ref06_Box l g0 g1 g2 g3 g4) l g0 g1 g2 g3 g4 v0_0 v0_1 v0_2 v0_3 v0_4 v0_5 v0_6 v0_7 v0_8 v0_9 nn0 (fun r => LeD r (.t (.a [.v (.int .i64 ((boxF (⟨⟨g0, g1, g2⟩, g3, g4⟩ : Lat) (vtxR l (⟨⟨g0, g1, g2⟩, g3, g4⟩ : Lat)) (vtxR l (⟨⟨g0, g1, g2⟩, g3, g4⟩ : Lat)).length).x.lo)), .v (.int .i64 ((boxF (⟨⟨g0, g1, g2⟩, g3, g4⟩ : Lat) (vtxR l (⟨⟨g0, g1, g2⟩, g3, g4⟩ : Lat)) (vtxR l (⟨⟨g0, g1, g2⟩, g3, g4⟩ : Lat)).length).x.hi)), .v (.int .i64 ((boxF (⟨⟨g0, g1, g2⟩, g3, g4⟩ : Lat) (vtxR l (⟨⟨g0, g1, g2⟩, g3, g4⟩ : Lat)) (vtxR l (⟨⟨g0, g1, g2⟩, g3, g4⟩ : Lat)).length).y.lo)), .v (.int .i64 ((boxF (⟨⟨g0, g1, g2⟩, g3, g4⟩ : Lat) (vtxR l (⟨⟨g0, g1, g2⟩, g3, g4⟩ : Lat)) (vtxR l (⟨⟨g0, g1, g2⟩, g3, g4⟩ : Lat)).length).y.hi)), .v (.int .i64 ((boxF (⟨⟨g0, g1, g2⟩, g3, g4⟩ : Lat) (vtxR l (⟨⟨g0, g1, g2⟩, g3, g4⟩ : Lat)) (vtxR l (⟨⟨g0, g1, g2⟩, g3, g4⟩ : Lat)).length).z.lo)), .v (.int .i64 ((boxF (⟨⟨g0, g1, g2⟩, g3, g4⟩ : Lat) (vtxR l (⟨⟨g0, g1, g2⟩, g3, g4⟩ : Lat)) (vtxR l (⟨⟨g0, g1, g2⟩, g3, g4⟩ : Lat)).length).z.hi))]))) := by
 obtain ⟨⟨q1, q2, q3⟩, i1, i2, i3, i4⟩ := hi
 obtain ⟨k, rfl⟩ : ∃ k : Nat, v0_9 = k := ⟨v0_9.toNat, by omega⟩
 have hk : (k : Int).toNat = k := rfl
 rw [hk] at i4
 have hz := sz_rg q2
 have q := vtxR_len l (⟨⟨g0, g1, g2⟩, g3, g4⟩ : Lat)
 unfold rd_ref06_Box_0
 simp only [hits_listC, hk, allP_len]
 refine cond_i (fun h => ?_) (fun h => ?_)
 ·have hlt : k < (vtxR l (⟨⟨g0, g1, g2⟩, g3, g4⟩ : Lat)).length := by have := of_decide_eq_true h; omega
  have r := vtxR_rg (getD_mem hlt)
  rw [plAt_all (by omega), show (((vtxR l (⟨⟨g0, g1, g2⟩, g3, g4⟩ : Lat)).getD k 0).toNat : Int) = (vtxR l (⟨⟨g0, g1, g2⟩, g3, g4⟩ : Lat)).getD k 0 by omega]
  refine ⟨by omega, by omega, lt_i fun x1 h1 => lt_i fun x2 h2 => lt_i fun x3 h3 => lt_i fun x4 h4 => lt_i fun x5 h5 => lt_i fun x6 h6 => lt_i fun x7 h7 => ?_⟩
  rw [mn_if] at h1 h3 h5
  rw [mx_if] at h2 h4 h6
  rw [wi (by omega)] at h7
  subst h7
  refine ⟨_, _, _, _, _, _, _, _, _, _, rfl, ⟨q1, q2, q3⟩, by omega, by omega, by omega, ?_⟩
  rw [show ((k : Int) + 1).toNat = k + 1 by omega, boxF_succ hlt, ← i4, ← h1, ← h2, ← h3, ← h4, ← h5, ← h6]; rfl
 ·have hge : k = (vtxR l (⟨⟨g0, g1, g2⟩, g3, g4⟩ : Lat)).length := by have := of_decide_eq_false h; omega
  rw [← hge, ← i4]
  exact LeD.refl _
theorem zero_ref06_Box_0 (l : List FHit) (g0 g1 g2 g3 g4 : Int) (v0_0 : Int) (v0_1 : Int) (v0_2 : Int) (v0_3 : Int) (v0_4 : Int) (v0_5 : Int) (v0_6 : Int) (v0_7 : Int) (v0_8 : Int) (v0_9 : Int)  (hi : (hitsE l = 0 ∧ latE (⟨⟨g0, g1, g2⟩, g3, g4⟩ : Lat) = 0 ∧ 0 < (vtxR l (⟨⟨g0, g1, g2⟩, g3, g4⟩ : Lat)).length) ∧ 1 ≤ v0_9 ∧ v0_9 ≤ (vtxR l (⟨⟨g0, g1, g2⟩, g3, g4⟩ : Lat)).length ∧ (0 : Int) + v0_9 = (vtxR l (⟨⟨g0, g1, g2⟩, g3, g4⟩ : Lat)).length + 1 ∧ (⟨⟨v0_3, v0_4⟩, ⟨v0_5, v0_6⟩, ⟨v0_7, v0_8⟩⟩ : Bx6) = boxF (⟨⟨g0, g1, g2⟩, g3, g4⟩ : Lat) (vtxR l (⟨⟨g0, g1, g2⟩, g3, g4⟩ : Lat)) v0_9.toNat) : False := by
 omega
set_option maxHeartbeats 8000000 in
set_option maxRecDepth 100000 in
theorem spec_ref06_Box (l : List FHit) (g0 g1 g2 g3 g4 : Int) (hp : hitsE l = 0 ∧ latE (⟨⟨g0, g1, g2⟩, g3, g4⟩ : Lat) = 0 ∧ 0 < (vtxR l (⟨⟨g0, g1, g2⟩, g3, g4⟩ : Lat)).length) : vc_ref06_Box (J_ref06_Box l g0 g1 g2 g3 g4) l g0 g1 g2 g3 g4 (fun r => LeD r (.t (.a [.v (.int .i64 ((boxF (⟨⟨g0, g1, g2⟩, g3, g4⟩ : Lat) (vtxR l (⟨⟨g0, g1, g2⟩, g3, g4⟩ : Lat)) (vtxR l (⟨⟨g0, g1, g2⟩, g3, g4⟩ : Lat)).length).x.lo)), .v (.int .i64 ((boxF (⟨⟨g0, g1, g2⟩, g3, g4⟩ : Lat) (vtxR l (⟨⟨g0, g1, g2⟩, g3, g4⟩ : Lat)) (vtxR l (⟨⟨g0, g1, g2⟩, g3, g4⟩ : Lat)).length).x.hi)), .v (.int .i64 ((boxF (⟨⟨g0, g1, g2⟩, g3, g4⟩ : Lat) (vtxR l (⟨⟨g0, g1, g2⟩, g3, g4⟩ : Lat)) (vtxR l (⟨⟨g0, g1, g2⟩, g3, g4⟩ : Lat)).length).y.lo)), .v (.int .i64 ((boxF (⟨⟨g0, g1, g2⟩, g3, g4⟩ : Lat) (vtxR l (⟨⟨g0, g1, g2⟩, g3, g4⟩ : Lat)) (vtxR l (⟨⟨g0, g1, g2⟩, g3, g4⟩ : Lat)).length).y.hi)), .v (.int .i64 ((boxF (⟨⟨g0, g1, g2⟩, g3, g4⟩ : Lat) (vtxR l (⟨⟨g0, g1, g2⟩, g3, g4⟩ : Lat)) (vtxR l (⟨⟨g0, g1, g2⟩, g3, g4⟩ : Lat)).length).z.lo)), .v (.int .i64 ((boxF (⟨⟨g0, g1, g2⟩, g3, g4⟩ : Lat) (vtxR l (⟨⟨g0, g1, g2⟩, g3, g4⟩ : Lat)) (vtxR l (⟨⟨g0, g1, g2⟩, g3, g4⟩ : Lat)).length).z.hi))]))) := by
 obtain ⟨q1, q2, q3⟩ := hp
 have hz := sz_rg q2
 have r := vtxR_rg (getD_mem (l := vtxR l (⟨⟨g0, g1, g2⟩, g3, g4⟩ : Lat)) (k := 0) q3)
 unfold vc_ref06_Box
 simp only [hits_listC, allP_len]
 refine ⟨q2, ⟨numsP_hits l, q1, q2⟩, by omega, by omega, (vtxR l (⟨⟨g0, g1, g2⟩, g3, g4⟩ : Lat)).length, _, _, _, _, _, _, _, _, _, 1, rfl, ⟨q1, q2, q3⟩, by omega, by omega, by omega, ?_⟩
 rw [plAt_all (by omega), show (((vtxR l (⟨⟨g0, g1, g2⟩, g3, g4⟩ : Lat)).getD 0 0).toNat : Int) = (vtxR l (⟨⟨g0, g1, g2⟩, g3, g4⟩ : Lat)).getD 0 0 by omega]
 exact (boxF_1 q3).symm
theorem all_ref06_Box (l : List FHit) (g0 g1 g2 g3 g4 : Int) (hp : hitsE l = 0 ∧ latE (⟨⟨g0, g1, g2⟩, g3, g4⟩ : Lat) = 0 ∧ 0 < (vtxR l (⟨⟨g0, g1, g2⟩, g3, g4⟩ : Lat)).length) : AllG (J_ref06_Box l g0 g1 g2 g3 g4) (loopsFn Tryd.prog tab Sz136 ann_ref06_Box (J_ref06_Box l g0 g1 g2 g3 g4) Tryd.f75 (fun r => LeD r (.t (.a [.v (.int .i64 ((boxF (⟨⟨g0, g1, g2⟩, g3, g4⟩ : Lat) (vtxR l (⟨⟨g0, g1, g2⟩, g3, g4⟩ : Lat)) (vtxR l (⟨⟨g0, g1, g2⟩, g3, g4⟩ : Lat)).length).x.lo)), .v (.int .i64 ((boxF (⟨⟨g0, g1, g2⟩, g3, g4⟩ : Lat) (vtxR l (⟨⟨g0, g1, g2⟩, g3, g4⟩ : Lat)) (vtxR l (⟨⟨g0, g1, g2⟩, g3, g4⟩ : Lat)).length).x.hi)), .v (.int .i64 ((boxF (⟨⟨g0, g1, g2⟩, g3, g4⟩ : Lat) (vtxR l (⟨⟨g0, g1, g2⟩, g3, g4⟩ : Lat)) (vtxR l (⟨⟨g0, g1, g2⟩, g3, g4⟩ : Lat)).length).y.lo)), .v (.int .i64 ((boxF (⟨⟨g0, g1, g2⟩, g3, g4⟩ : Lat) (vtxR l (⟨⟨g0, g1, g2⟩, g3, g4⟩ : Lat)) (vtxR l (⟨⟨g0, g1, g2⟩, g3, g4⟩ : Lat)).length).y.hi)), .v (.int .i64 ((boxF (⟨⟨g0, g1, g2⟩, g3, g4⟩ : Lat) (vtxR l (⟨⟨g0, g1, g2⟩, g3, g4⟩ : Lat)) (vtxR l (⟨⟨g0, g1, g2⟩, g3, g4⟩ : Lat)).length).z.lo)), .v (.int .i64 ((boxF (⟨⟨g0, g1, g2⟩, g3, g4⟩ : Lat) (vtxR l (⟨⟨g0, g1, g2⟩, g3, g4⟩ : Lat)) (vtxR l (⟨⟨g0, g1, g2⟩, g3, g4⟩ : Lat)).length).z.hi))])))) := by
 rw [lp_ref06_Box]
 refine ⟨⟨?_, ?_⟩, trivial⟩
 ·intro F s h
  obtain _ | ⟨g, F⟩ := F
  case cons => exact h.elim
  obtain ⟨w0, w1, w2, w3, w4, w5, w6, w7, w8, w9, rfl, hi⟩ := h
  exact zero_ref06_Box_0 l g0 g1 g2 g3 g4 w0 w1 w2 w3 w4 w5 w6 w7 w8 w9 hi
 ·intro n F s h
  obtain _ | ⟨g, F⟩ := F
  case cons => exact h.elim
  obtain ⟨w0, w1, w2, w3, w4, w5, w6, w7, w8, w9, rfl, hi⟩ := h
  rw [er_ref06_Box_0]
  exact rnd_ref06_Box_0 l g0 g1 g2 g3 g4 _ _ _ _ _ _ _ _ _ _ _ hp hi
def con_ref06_Box : Con := fun args => match args with
 | [.t (.c (.sl 7 n_l c_l)), .t (.a [.v (.int .i64 g0), .v (.int .i64 g1), .v (.int .i64 g2), .v (.int .i64 g3), .v (.int .i64 g4)])] => some (.t (.a [.v (.int .i64 ((boxF (⟨⟨g0, g1, g2⟩, g3, g4⟩ : Lat) (vtxR (listC n_l mkHit c_l) (⟨⟨g0, g1, g2⟩, g3, g4⟩ : Lat)) (vtxR (listC n_l mkHit c_l) (⟨⟨g0, g1, g2⟩, g3, g4⟩ : Lat)).length).x.lo)), .v (.int .i64 ((boxF (⟨⟨g0, g1, g2⟩, g3, g4⟩ : Lat) (vtxR (listC n_l mkHit c_l) (⟨⟨g0, g1, g2⟩, g3, g4⟩ : Lat)) (vtxR (listC n_l mkHit c_l) (⟨⟨g0, g1, g2⟩, g3, g4⟩ : Lat)).length).x.hi)), .v (.int .i64 ((boxF (⟨⟨g0, g1, g2⟩, g3, g4⟩ : Lat) (vtxR (listC n_l mkHit c_l) (⟨⟨g0, g1, g2⟩, g3, g4⟩ : Lat)) (vtxR (listC n_l mkHit c_l) (⟨⟨g0, g1, g2⟩, g3, g4⟩ : Lat)).length).y.lo)), .v (.int .i64 ((boxF (⟨⟨g0, g1, g2⟩, g3, g4⟩ : Lat) (vtxR (listC n_l mkHit c_l) (⟨⟨g0, g1, g2⟩, g3, g4⟩ : Lat)) (vtxR (listC n_l mkHit c_l) (⟨⟨g0, g1, g2⟩, g3, g4⟩ : Lat)).length).y.hi)), .v (.int .i64 ((boxF (⟨⟨g0, g1, g2⟩, g3, g4⟩ : Lat) (vtxR (listC n_l mkHit c_l) (⟨⟨g0, g1, g2⟩, g3, g4⟩ : Lat)) (vtxR (listC n_l mkHit c_l) (⟨⟨g0, g1, g2⟩, g3, g4⟩ : Lat)).length).z.lo)), .v (.int .i64 ((boxF (⟨⟨g0, g1, g2⟩, g3, g4⟩ : Lat) (vtxR (listC n_l mkHit c_l) (⟨⟨g0, g1, g2⟩, g3, g4⟩ : Lat)) (vtxR (listC n_l mkHit c_l) (⟨⟨g0, g1, g2⟩, g3, g4⟩ : Lat)).length).z.hi))]), some (numsP 7 n_l c_l ∧ hitsE (listC n_l mkHit c_l) = 0 ∧ latE (⟨⟨g0, g1, g2⟩, g3, g4⟩ : Lat) = 0 ∧ 0 < (vtxR (listC n_l mkHit c_l) (⟨⟨g0, g1, g2⟩, g3, g4⟩ : Lat)).length), false)
 | _ => none
theorem ok_ref06_Box : Ok Tryd.prog 75 con_ref06_Box := by
 refine Ok.fn (ann := ann_ref06_Box) mixed tabOK VSz136 VI1 (fn := Tryd.f75) (by kernel_rfl) (by kernel_rfl) fit_ref06_Box fun args r pre fresh h hp => ?_
 unfold con_ref06_Box at h
 split at h
 ·rename_i n_l c_l g0 g1 g2 g3 g4
  cases h
  obtain ⟨hp0, hp⟩ := hp
  refine ⟨rfl, J_ref06_Box (listC n_l mkHit c_l) g0 g1 g2 g3 g4, [.t (.c (.sl 7 ((listC n_l mkHit c_l).length) (hitsC (listC n_l mkHit c_l)))), .t (.a [.v (.int .i64 g0), .v (.int .i64 g1), .v (.int .i64 g2), .v (.int .i64 g3), .v (.int .i64 g4)])], ?_, Nat.le_of_ble_eq_true (by kernel_rfl), ?_, ?_⟩
  ·exact (LeA_cons (leT_c ((leL_FHit hp0))) (LeA_cons (LeD.refl _) LeA_nil))
  ·rw [ev_ref06_Box]; exact spec_ref06_Box (listC n_l mkHit c_l) g0 g1 g2 g3 g4 hp
  ·exact all_ref06_Box (listC n_l mkHit c_l) g0 g1 g2 g3 g4 hp
 ·cases h
noncomputable def Sz137 : Sum := addS Sz136 75 con_ref06_Box
theorem VSz137 : Valid Tryd.prog Sz137 := Valid.add VSz136 ok_ref06_Box
def mk_ref06_Closest_0 (l : List FHit) (g0 g1 g2 g3 g4 : Int) (v0_0 : Int) (v0_1 : Int) : DS := ⟨[some (.t (.c (.sl 7 l.length (hitsC l)))), none, none, none, none, none, some (.t (.c (.sl 3 ((allP (⟨⟨g0, g1, g2⟩, g3, g4⟩ : Lat)).length) (plsC (allP (⟨⟨g0, g1, g2⟩, g3, g4⟩ : Lat)))))), some (.t (.c (.v (.int .i64 v0_0)))), some (.t (.c (.v (.int .i64 v0_1)))), none, none, none, none, none, none, none, none, none, none, none, none, none, none, none, none, none, none, none, none, none, none, none, none, none, none, none, none, none], [none, none, none, none, none, none, none, none, none, none, none, none, none, none, none, none, none, none, none, none, none, none, none, none, none, none, none, none, none, none, none, none, none, none, none, none, none, none]⟩
def vc_ref06_Closest (J : Inv) (l : List FHit) (g0 g1 g2 g3 g4 : Int) (post : DV → Prop) : Prop := (latE (⟨⟨g0, g1, g2⟩, g3, g4⟩ : Lat) = 0) ∧ (∃ n, J 0 (n :: []) (mk_ref06_Closest_0 l g0 g1 g2 g3 g4 0 1))
def ann_ref06_Closest : Ann := ⟨fun r => lookA r [(6, ([[], [], [], [1, 2], [1, 2, 3], [0, 1, 2, 3, 4], [], [], [], [7, 8], [7, 8, 9], [0, 1, 2, 3, 4, 5, 6, 7, 8, 9, 10], [0, 1, 2, 3, 4, 5, 6, 7, 8, 9, 10, 11]], [[22, 28], [22, 28], [22, 28], [22, 28], [22, 28], [28], [22, 28], [22, 28], [22, 28], [22, 28], [22, 28], [], []]))], fun b => lookA b [(0, (none, some ⟨[0, 6, 7, 8], [], []⟩))], fun _ => [], I1, false, fun _ => none, fun r => lookA r [(7, [7])]⟩
theorem ev_ref06_Closest (J : Inv) (l : List FHit) (g0 g1 g2 g3 g4 : Int) (post : DV → Prop) : evFn Tryd.prog tab Sz137 ann_ref06_Closest J Tryd.f73 [.t (.c (.sl 7 l.length (hitsC l))), .t (.a [.v (.int .i64 g0), .v (.int .i64 g1), .v (.int .i64 g2), .v (.int .i64 g3), .v (.int .i64 g4)])] post = vc_ref06_Closest J l g0 g1 g2 g3 g4 post := by kernel_rfl
theorem fit_ref06_Closest : okFn ann_ref06_Closest Tryd.f73 = true := by kernel_rfl
def rd_ref06_Closest_0 (J : Inv) (l : List FHit) (g0 g1 g2 g3 g4 : Int) (v0_0 : Int) (v0_1 : Int) (nn0 : Nat) (post : DV → Prop) : Prop := cond (decide (v0_1 < (((allP (⟨⟨g0, g1, g2⟩, g3, g4⟩ : Lat)).length : Nat) : Int))) ((0 ≤ v0_1 ∧ v0_1 < (((allP (⟨⟨g0, g1, g2⟩, g3, g4⟩ : Lat)).length : Nat) : Int)) ∧ ((numsP 7 l.length (hitsC l) ∧ hitsE (listC l.length mkHit (hitsC l)) = 0 ∧ ((plAt (allP (⟨⟨g0, g1, g2⟩, g3, g4⟩ : Lat)) v0_1.toNat)).bd 15000) ∧ ((0 ≤ v0_0 ∧ v0_0 < (((allP (⟨⟨g0, g1, g2⟩, g3, g4⟩ : Lat)).length : Nat) : Int)) ∧ ((numsP 7 l.length (hitsC l) ∧ hitsE (listC l.length mkHit (hitsC l)) = 0 ∧ ((plAt (allP (⟨⟨g0, g1, g2⟩, g3, g4⟩ : Lat)) v0_0.toNat)).bd 15000) ∧ ((cond (decide ((spd (listC l.length mkHit (hitsC l)) (plAt (allP (⟨⟨g0, g1, g2⟩, g3, g4⟩ : Lat)) v0_1.toNat)) < (spd (listC l.length mkHit (hitsC l)) (plAt (allP (⟨⟨g0, g1, g2⟩, g3, g4⟩ : Lat)) v0_0.toNat)))) (True) (True)) ∧ (lt ((bif decide ((spd (listC l.length mkHit (hitsC l)) (plAt (allP (⟨⟨g0, g1, g2⟩, g3, g4⟩ : Lat)) v0_1.toNat)) < (spd (listC l.length mkHit (hitsC l)) (plAt (allP (⟨⟨g0, g1, g2⟩, g3, g4⟩ : Lat)) v0_0.toNat))) then v0_1 else v0_0)) fun x1 => lt (IntKind.i64.wrap (v0_1 + (1 : Int))) fun x2 => J 0 (nn0 :: []) (mk_ref06_Closest_0 l g0 g1 g2 g3 g4 x1 x2))))))) ((0 ≤ v0_0 ∧ v0_0 < (((allP (⟨⟨g0, g1, g2⟩, g3, g4⟩ : Lat)).length : Nat) : Int)) ∧ ((numsP 7 l.length (hitsC l) ∧ hitsE (listC l.length mkHit (hitsC l)) = 0 ∧ ((plAt (allP (⟨⟨g0, g1, g2⟩, g3, g4⟩ : Lat)) v0_0.toNat)).bd 15000) ∧ (post (.tu [.c (.v (.int .i64 v0_0)), .c (.v (.int .i64 (spd (listC l.length mkHit (hitsC l)) (plAt (allP (⟨⟨g0, g1, g2⟩, g3, g4⟩ : Lat)) v0_0.toNat))))]))))
theorem er_ref06_Closest_0 (J : Inv) (l : List FHit) (g0 g1 g2 g3 g4 : Int) (v0_0 : Int) (v0_1 : Int) (nn0 : Nat) (post : DV → Prop) : round Tryd.prog tab Sz137 ann_ref06_Closest J Tryd.f73 post 0 (nn0 :: []) (mk_ref06_Closest_0 l g0 g1 g2 g3 g4 v0_0 v0_1) = rd_ref06_Closest_0 J l g0 g1 g2 g3 g4 v0_0 v0_1 nn0 post := by kernel_rfl
theorem lp_ref06_Closest (J : Inv) (post : DV → Prop) : AllG J (loopsFn Tryd.prog tab Sz137 ann_ref06_Closest J Tryd.f73 post) = (((∀ F s, ¬ J 0 (0 :: F) s) ∧ ∀ n F s, J 0 ((n + 1) :: F) s → round Tryd.prog tab Sz137 ann_ref06_Closest J Tryd.f73 post 0 (n :: F) s) ∧ True) := by kernel_rfl
def J_ref06_Closest (l : List FHit) (g0 g1 g2 g3 g4 : Int) : Inv := fun b F s => match b, F with
 | 0, [nn0] => ∃ (v0_0 : Int) (v0_1 : Int), s = mk_ref06_Closest_0 l g0 g1 g2 g3 g4 v0_0 v0_1 ∧ ((hitsE l = 0 ∧ latE (⟨⟨g0, g1, g2⟩, g3, g4⟩ : Lat) = 0) ∧ 1 ≤ v0_1 ∧ v0_1 ≤ (⟨⟨g0, g1, g2⟩, g3, g4⟩ : Lat).sz ∧ (nn0 : Int) + v0_1 = (⟨⟨g0, g1, g2⟩, g3, g4⟩ : Lat).sz + 1 ∧ v0_0 = (clsK (allS l (⟨⟨g0, g1, g2⟩, g3, g4⟩ : Lat)) v0_1.toNat).1)
 | _, _ => False
theorem rnd_ref06_Closest_0 (l : List FHit) (g0 g1 g2 g3 g4 : Int) (v0_0 : Int) (v0_1 : Int) (nn0 : Nat) (hp : hitsE l = 0 ∧ latE (⟨⟨g0, g1, g2⟩, g3, g4⟩ : Lat) = 0) (hi : (hitsE l = 0 ∧ latE (⟨⟨g0, g1, g2⟩, g3, g4⟩ : Lat) = 0) ∧ 1 ≤ v0_1 ∧ v0_1 ≤ (⟨⟨g0, g1, g2⟩, g3, g4⟩ : Lat).sz ∧ ((nn0 + 1) : Int) + v0_1 = (⟨⟨g0, g1, g2⟩, g3, g4⟩ : Lat).sz + 1 ∧ v0_0 = (clsK (allS l (⟨⟨g0, g1, g2⟩, g3, g4⟩ : Lat)) v0_1.toNat).1) : rd_ref06_Closest_0 (J_ref06_Closest l g0 g1 g2 g3 g4) l g0 g1 g2 g3 g4 v0_0 v0_1 nn0 (fun r => LeD r (.tu [.c (.v (.int .i64 ((clsK (allS l (⟨⟨g0, g1, g2⟩, g3, g4⟩ : Lat)) (allS l (⟨⟨g0, g1, g2⟩, g3, g4⟩ : Lat)).length).1))), .c (.v (.int .i64 ((clsK (allS l (⟨⟨g0, g1, g2⟩, g3, g4⟩ : Lat)) (allS l (⟨⟨g0, g1, g2⟩, g3, g4⟩ : Lat)).length).2)))])) := by
 obtain ⟨⟨q1, q2⟩, i1, i2, i3, i4⟩ := hi
 obtain ⟨k, rfl⟩ : ∃ k : Nat, v0_1 = k := ⟨v0_1.toNat, by omega⟩
 have hk : (k : Int).toNat = k := rfl
 rw [hk] at i4
 have hz := sz_rg q2
 obtain ⟨⟨c1, c2⟩, c3, c4⟩ := clsK_ok (sp := allS l (⟨⟨g0, g1, g2⟩, g3, g4⟩ : Lat)) k (by omega)
 rw [← i4] at c1 c2 c3
 rw [sprF_all (by omega), show ((v0_0.toNat : Nat) : Int) = v0_0 by omega] at c3
 have b0 := posAt_bd q2 (k := v0_0) (by omega) (by omega)
 unfold rd_ref06_Closest_0
 simp only [hits_listC, hk, allP_len]
 rw [plAt_all (k := v0_0.toNat) (by omega), show ((v0_0.toNat : Nat) : Int) = v0_0 by omega]
 refine cond_i (fun h => ?_) (fun h => ?_)
 ·have hlt : k < (⟨⟨g0, g1, g2⟩, g3, g4⟩ : Lat).sz.toNat := by have := of_decide_eq_true h; omega
  rw [plAt_all hlt]
  have eS := clsK_succ (allS l (⟨⟨g0, g1, g2⟩, g3, g4⟩ : Lat)) k
  unfold clsS at eS
  rw [← i4, sprF_all hlt, c3, decide_eq_false (show ¬ v0_0 < 0 by omega)] at eS
  refine ⟨by omega, ⟨numsP_hits l, q1, posAt_bd q2 (by omega) (by omega)⟩, by omega, ⟨numsP_hits l, q1, b0⟩, cond_i (fun _ => trivial) (fun _ => trivial), lt_i fun x1 h1 => lt_i fun x hx => ?_⟩
  rw [wi (by omega)] at hx
  subst hx
  refine ⟨_, _, rfl, ⟨q1, q2⟩, by omega, by omega, by omega, ?_⟩
  rw [show ((k : Int) + 1).toNat = k + 1 by omega, eS, ← h1]
  cases decide (spd l (posAt (⟨⟨g0, g1, g2⟩, g3, g4⟩ : Lat) (k : Int)) < spd l (posAt (⟨⟨g0, g1, g2⟩, g3, g4⟩ : Lat) v0_0)) <;> simp [i4]
 ·have hge : k = (allS l (⟨⟨g0, g1, g2⟩, g3, g4⟩ : Lat)).length := by have := of_decide_eq_false h; rw [allS_len]; omega
  rw [← hge, ← i4, c3]
  exact ⟨by omega, ⟨numsP_hits l, q1, b0⟩, LeD.refl _⟩
theorem zero_ref06_Closest_0 (l : List FHit) (g0 g1 g2 g3 g4 : Int) (v0_0 : Int) (v0_1 : Int)  (hi : (hitsE l = 0 ∧ latE (⟨⟨g0, g1, g2⟩, g3, g4⟩ : Lat) = 0) ∧ 1 ≤ v0_1 ∧ v0_1 ≤ (⟨⟨g0, g1, g2⟩, g3, g4⟩ : Lat).sz ∧ (0 : Int) + v0_1 = (⟨⟨g0, g1, g2⟩, g3, g4⟩ : Lat).sz + 1 ∧ v0_0 = (clsK (allS l (⟨⟨g0, g1, g2⟩, g3, g4⟩ : Lat)) v0_1.toNat).1) : False := by
 omega
theorem spec_ref06_Closest (l : List FHit) (g0 g1 g2 g3 g4 : Int) (hp : hitsE l = 0 ∧ latE (⟨⟨g0, g1, g2⟩, g3, g4⟩ : Lat) = 0) : vc_ref06_Closest (J_ref06_Closest l g0 g1 g2 g3 g4) l g0 g1 g2 g3 g4 (fun r => LeD r (.tu [.c (.v (.int .i64 ((clsK (allS l (⟨⟨g0, g1, g2⟩, g3, g4⟩ : Lat)) (allS l (⟨⟨g0, g1, g2⟩, g3, g4⟩ : Lat)).length).1))), .c (.v (.int .i64 ((clsK (allS l (⟨⟨g0, g1, g2⟩, g3, g4⟩ : Lat)) (allS l (⟨⟨g0, g1, g2⟩, g3, g4⟩ : Lat)).length).2)))])) := by
 have hz := sz_rg hp.2
 unfold vc_ref06_Closest
 exact ⟨hp.2, (⟨⟨g0, g1, g2⟩, g3, g4⟩ : Lat).sz.toNat, 0, 1, rfl, hp, by omega, by omega, by omega, (clsK_1 _).symm⟩
theorem all_ref06_Closest (l : List FHit) (g0 g1 g2 g3 g4 : Int) (hp : hitsE l = 0 ∧ latE (⟨⟨g0, g1, g2⟩, g3, g4⟩ : Lat) = 0) : AllG (J_ref06_Closest l g0 g1 g2 g3 g4) (loopsFn Tryd.prog tab Sz137 ann_ref06_Closest (J_ref06_Closest l g0 g1 g2 g3 g4) Tryd.f73 (fun r => LeD r (.tu [.c (.v (.int .i64 ((clsK (allS l (⟨⟨g0, g1, g2⟩, g3, g4⟩ : Lat)) (allS l (⟨⟨g0, g1, g2⟩, g3, g4⟩ : Lat)).length).1))), .c (.v (.int .i64 ((clsK (allS l (⟨⟨g0, g1, g2⟩, g3, g4⟩ : Lat)) (allS l (⟨⟨g0, g1, g2⟩, g3, g4⟩ : Lat)).length).2)))]))) := by
 rw [lp_ref06_Closest]
 refine ⟨⟨?_, ?_⟩, trivial⟩
 ·intro F s h
  obtain _ | ⟨g, F⟩ := F
  case cons => exact h.elim
  obtain ⟨w0, w1, rfl, hi⟩ := h
  exact zero_ref06_Closest_0 l g0 g1 g2 g3 g4 w0 w1 hi
 ·intro n F s h
  obtain _ | ⟨g, F⟩ := F
  case cons => exact h.elim
  obtain ⟨w0, w1, rfl, hi⟩ := h
  rw [er_ref06_Closest_0]
  exact rnd_ref06_Closest_0 l g0 g1 g2 g3 g4 _ _ _ hp hi
def con_ref06_Closest : Con := fun args => match args with
 | [.t (.c (.sl 7 n_l c_l)), .t (.a [.v (.int .i64 g0), .v (.int .i64 g1), .v (.int .i64 g2), .v (.int .i64 g3), .v (.int .i64 g4)])] => some (.tu [.c (.v (.int .i64 ((clsK (allS (listC n_l mkHit c_l) (⟨⟨g0, g1, g2⟩, g3, g4⟩ : Lat)) (allS (listC n_l mkHit c_l) (⟨⟨g0, g1, g2⟩, g3, g4⟩ : Lat)).length).1))), .c (.v (.int .i64 ((clsK (allS (listC n_l mkHit c_l) (⟨⟨g0, g1, g2⟩, g3, g4⟩ : Lat)) (allS (listC n_l mkHit c_l) (⟨⟨g0, g1, g2⟩, g3, g4⟩ : Lat)).length).2)))], some (numsP 7 n_l c_l ∧ hitsE (listC n_l mkHit c_l) = 0 ∧ latE (⟨⟨g0, g1, g2⟩, g3, g4⟩ : Lat) = 0), false)
 | _ => none
theorem ok_ref06_Closest : Ok Tryd.prog 73 con_ref06_Closest := by
 refine Ok.fn (ann := ann_ref06_Closest) mixed tabOK VSz137 VI1 (fn := Tryd.f73) (by kernel_rfl) (by kernel_rfl) fit_ref06_Closest fun args r pre fresh h hp => ?_
 unfold con_ref06_Closest at h
 split at h
 ·rename_i n_l c_l g0 g1 g2 g3 g4
  cases h
  obtain ⟨hp0, hp⟩ := hp
  refine ⟨rfl, J_ref06_Closest (listC n_l mkHit c_l) g0 g1 g2 g3 g4, [.t (.c (.sl 7 ((listC n_l mkHit c_l).length) (hitsC (listC n_l mkHit c_l)))), .t (.a [.v (.int .i64 g0), .v (.int .i64 g1), .v (.int .i64 g2), .v (.int .i64 g3), .v (.int .i64 g4)])], ?_, Nat.le_of_ble_eq_true (by kernel_rfl), ?_, ?_⟩
  ·exact (LeA_cons (leT_c ((leL_FHit hp0))) (LeA_cons (LeD.refl _) LeA_nil))
  ·rw [ev_ref06_Closest]; exact spec_ref06_Closest (listC n_l mkHit c_l) g0 g1 g2 g3 g4 hp
  ·exact all_ref06_Closest (listC n_l mkHit c_l) g0 g1 g2 g3 g4 hp
 ·cases h
noncomputable def Sz138 : Sum := addS Sz137 73 con_ref06_Closest
theorem VSz138 : Valid Tryd.prog Sz138 := Valid.add VSz137 ok_ref06_Closest
def mk_base_Before_0 (l : List Int) (l2 : List Int) (v0_0 : Int) : DS := ⟨[some (.t (.c (.sl 1 l.length (intsC l)))), some (.t (.c (.sl 1 l2.length (intsC l2)))), none, none, none, some (.t (.c (.v (.int .i64 v0_0)))), none, none, none, none, none, none, none, none, none, none, none, none, none, none, none, none, none, none, none, none, none, none, none, none, none, none, none, none, none, none, none, none, none, none, none], [none, none, none, none, none, none, none, none, none, none, none, none, none, none, none, none, none, none, none, none, none, none, none, none, none, none, none, none, none, none, none, none, none, none, none, none, none, none, none, none, none]⟩
def vc_base_Before (J : Inv) (l : List Int) (l2 : List Int) (post : DV → Prop) : Prop := ∃ n, J 0 (n :: []) (mk_base_Before_0 l l2 0)
def ann_base_Before : Ann := ⟨fun r => lookA r [(4, ([[], [], [0, 1], [0, 1, 2], [], [], [4, 5], [4, 5, 6], [0, 1, 2, 3, 4, 5, 6, 7]], [[], [], [], [], [], [], [], [], []])), (5, ([[], [], [0, 1], [0, 1, 2], [], [], [4, 5], [4, 5, 6], [0, 1, 2, 3, 4, 5, 6, 7], [0, 1, 2, 3, 4, 5, 6, 7, 8]], [[], [], [], [], [], [], [], [], [], []]))], fun b => lookA b [(0, (none, some ⟨[0, 1, 5], [], []⟩))], fun _ => [], I1, false, fun r => lookA r [(2, (5, [15]))], fun _ => none⟩
theorem ev_base_Before (J : Inv) (l : List Int) (l2 : List Int) (post : DV → Prop) : evFn Tryd.prog tab Sz138 ann_base_Before J Tryd.f81 [.t (.c (.sl 1 l.length (intsC l))), .t (.c (.sl 1 l2.length (intsC l2)))] post = vc_base_Before J l l2 post := by kernel_rfl
theorem fit_base_Before : okFn ann_base_Before Tryd.f81 = true := by kernel_rfl
def rd_base_Before_0 (J : Inv) (l : List Int) (l2 : List Int) (v0_0 : Int) (nn0 : Nat) (post : DV → Prop) : Prop := (cond (decide (v0_0 < ((l.length : Nat) : Int))) (True) ((false = false) ∧ (True))) ∧ (lt ((bif decide (v0_0 < ((l.length : Nat) : Int)) then decide (v0_0 < ((l2.length : Nat) : Int)) else false)) fun x1 => cond x1 ((0 ≤ v0_0 ∧ v0_0 < ((l.length : Nat) : Int)) ∧ ((0 ≤ v0_0 ∧ v0_0 < ((l2.length : Nat) : Int)) ∧ (cond ((l.getD v0_0.toNat 0) != (l2.getD v0_0.toNat 0)) ((0 ≤ v0_0 ∧ v0_0 < ((l.length : Nat) : Int)) ∧ ((0 ≤ v0_0 ∧ v0_0 < ((l2.length : Nat) : Int)) ∧ (post (.t (.c (.v (.bool (decide ((l.getD v0_0.toNat 0) < (l2.getD v0_0.toNat 0)))))))))) (lt (IntKind.i64.wrap (v0_0 + (1 : Int))) fun x2 => J 0 (nn0 :: []) (mk_base_Before_0 l l2 x2))))) (post (.t (.c (.v (.bool (decide (((l.length : Nat) : Int) < ((l2.length : Nat) : Int)))))))))
theorem er_base_Before_0 (J : Inv) (l : List Int) (l2 : List Int) (v0_0 : Int) (nn0 : Nat) (post : DV → Prop) : round Tryd.prog tab Sz138 ann_base_Before J Tryd.f81 post 0 (nn0 :: []) (mk_base_Before_0 l l2 v0_0) = rd_base_Before_0 J l l2 v0_0 nn0 post := by kernel_rfl
theorem lp_base_Before (J : Inv) (post : DV → Prop) : AllG J (loopsFn Tryd.prog tab Sz138 ann_base_Before J Tryd.f81 post) = (((∀ F s, ¬ J 0 (0 :: F) s) ∧ ∀ n F s, J 0 ((n + 1) :: F) s → round Tryd.prog tab Sz138 ann_base_Before J Tryd.f81 post 0 (n :: F) s) ∧ True) := by kernel_rfl
def J_base_Before (l : List Int) (l2 : List Int) : Inv := fun b F s => match b, F with
 | 0, [nn0] => ∃ (v0_0 : Int), s = mk_base_Before_0 l l2 v0_0 ∧ (l.length ≤ 1000000 ∧ 0 ≤ v0_0 ∧ v0_0 ≤ l.length ∧ v0_0 ≤ l2.length ∧ (nn0 : Int) + v0_0 = l.length + 1 ∧ befL (l.drop v0_0.toNat) (l2.drop v0_0.toNat) = befL l l2)
 | _, _ => False
theorem rnd_base_Before_0 (l : List Int) (l2 : List Int) (v0_0 : Int) (nn0 : Nat) (hp : (l).length ≤ 1000000) (hi : l.length ≤ 1000000 ∧ 0 ≤ v0_0 ∧ v0_0 ≤ l.length ∧ v0_0 ≤ l2.length ∧ ((nn0 + 1) : Int) + v0_0 = l.length + 1 ∧ befL (l.drop v0_0.toNat) (l2.drop v0_0.toNat) = befL l l2) : rd_base_Before_0 (J_base_Before l l2) l l2 v0_0 nn0 (fun r => LeD r (.t (.c (.v (.bool (befL l l2)))))) := by
 obtain ⟨i0, i1, i2, i3, i4, i5⟩ := hi
 obtain ⟨k, rfl⟩ : ∃ k : Nat, v0_0 = k := ⟨v0_0.toNat, by omega⟩
 have hk : (k : Int).toNat = k := rfl
 rw [hk] at i5
 unfold rd_base_Before_0
 rw [hk]
 refine ⟨cond_i (fun _ => trivial) (fun _ => ⟨rfl, trivial⟩), lt_i fun x1 h1 => cond_i (fun c => ?_) (fun c => leB ?_)⟩
 ·have hl : k < l.length ∧ k < l2.length := by
   rw [← h1] at c
   by_cases a : (k : Int) < l.length
   ·rw [decide_eq_true a] at c
    have := of_decide_eq_true c
    omega
   ·rw [decide_eq_false a] at c; cases c
  have el : l.drop k = l.getD k 0 :: l.drop (k + 1) := by rw [List.drop_eq_getElem_cons hl.1]; simp [List.getD, hl.1]
  have er : l2.drop k = l2.getD k 0 :: l2.drop (k + 1) := by rw [List.drop_eq_getElem_cons hl.2]; simp [List.getD, hl.2]
  rw [el, er] at i5
  refine ⟨by omega, by omega, cond_i (fun q => ⟨by omega, by omega, leB ?_⟩) (fun q => lt_i fun x hx => ?_)⟩
  ·have q : l.getD k 0 ≠ l2.getD k 0 := by simpa using q
   rw [← i5, befL, decide_eq_false q, Bool.false_and, Bool.or_false]
  ·have q : l.getD k 0 = l2.getD k 0 := by simpa using q
   rw [wi (by omega)] at hx
   subst hx
   refine ⟨_, rfl, i0, by omega, by omega, by omega, by omega, ?_⟩
   rw [show ((k : Int) + 1).toNat = k + 1 by omega, ← i5, befL, q, decide_eq_true rfl, decide_eq_false (Int.lt_irrefl _)]; rfl
 ·rw [← i5]
  by_cases a : k < l.length
  ·have b : ¬ k < l2.length := fun b => by
    rw [← h1, decide_eq_true (show (k : Int) < l.length by omega)] at c
    have := of_decide_eq_false c
    omega
   have el : l.drop k = l.getD k 0 :: l.drop (k + 1) := by rw [List.drop_eq_getElem_cons a]; simp [List.getD, a]
   rw [el, List.drop_eq_nil_of_le (show l2.length ≤ k by omega), decide_eq_false (by omega)]; rfl
  ·rw [List.drop_eq_nil_of_le (show l.length ≤ k by omega)]
   by_cases b : k < l2.length
   ·have er : l2.drop k = l2.getD k 0 :: l2.drop (k + 1) := by rw [List.drop_eq_getElem_cons b]; simp [List.getD, b]
    rw [er, decide_eq_true (by omega)]; rfl
   ·rw [List.drop_eq_nil_of_le (show l2.length ≤ k by omega), decide_eq_false (by omega)]; rfl
theorem zero_base_Before_0 (l : List Int) (l2 : List Int) (v0_0 : Int)  (hi : l.length ≤ 1000000 ∧ 0 ≤ v0_0 ∧ v0_0 ≤ l.length ∧ v0_0 ≤ l2.length ∧ (0 : Int) + v0_0 = l.length + 1 ∧ befL (l.drop v0_0.toNat) (l2.drop v0_0.toNat) = befL l l2) : False := by
 omega
theorem spec_base_Before (l : List Int) (l2 : List Int) (hp : (l).length ≤ 1000000) : vc_base_Before (J_base_Before l l2) l l2 (fun r => LeD r (.t (.c (.v (.bool (befL l l2)))))) := by
 unfold vc_base_Before
 exact ⟨l.length + 1, 0, rfl, hp, by omega, by omega, by omega, by omega, rfl⟩
theorem all_base_Before (l : List Int) (l2 : List Int) (hp : (l).length ≤ 1000000) : AllG (J_base_Before l l2) (loopsFn Tryd.prog tab Sz138 ann_base_Before (J_base_Before l l2) Tryd.f81 (fun r => LeD r (.t (.c (.v (.bool (befL l l2))))))) := by
 rw [lp_base_Before]
 refine ⟨⟨?_, ?_⟩, trivial⟩
 ·intro F s h
  obtain _ | ⟨g, F⟩ := F
  case cons => exact h.elim
  obtain ⟨w0, rfl, hi⟩ := h
  exact zero_base_Before_0 l l2 w0 hi
 ·intro n F s h
  obtain _ | ⟨g, F⟩ := F
  case cons => exact h.elim
  obtain ⟨w0, rfl, hi⟩ := h
  rw [er_base_Before_0]
  exact rnd_base_Before_0 l l2 _ _ hp hi
def con_base_Before : Con := fun args => match args with
 | [.t (.c (.sl 1 n_l c_l)), .t (.c (.sl 1 n_l2 c_l2))] => some (.t (.c (.v (.bool (befL (listC n_l mkInt c_l) (listC n_l2 mkInt c_l2))))), some (numsP 1 n_l c_l ∧ numsP 1 n_l2 c_l2 ∧ ((listC n_l mkInt c_l)).length ≤ 1000000), false)
 | _ => none
theorem ok_base_Before : Ok Tryd.prog 81 con_base_Before := by
 refine Ok.fn (ann := ann_base_Before) mixed tabOK VSz138 VI1 (fn := Tryd.f81) (by kernel_rfl) (by kernel_rfl) fit_base_Before fun args r pre fresh h hp => ?_
 unfold con_base_Before at h
 split at h
 ·rename_i n_l c_l n_l2 c_l2
  cases h
  obtain ⟨hp0, hp1, hp⟩ := hp
  refine ⟨rfl, J_base_Before (listC n_l mkInt c_l) (listC n_l2 mkInt c_l2), [.t (.c (.sl 1 ((listC n_l mkInt c_l).length) (intsC (listC n_l mkInt c_l)))), .t (.c (.sl 1 ((listC n_l2 mkInt c_l2).length) (intsC (listC n_l2 mkInt c_l2))))], ?_, Nat.le_of_ble_eq_true (by kernel_rfl), ?_, ?_⟩
  ·exact (LeA_cons (leT_c ((leL_int hp0))) (LeA_cons (leT_c ((leL_int hp1))) LeA_nil))
  ·rw [ev_base_Before]; exact spec_base_Before (listC n_l mkInt c_l) (listC n_l2 mkInt c_l2) hp
  ·exact all_base_Before (listC n_l mkInt c_l) (listC n_l2 mkInt c_l2) hp
 ·cases h
noncomputable def Sz139 : Sum := addS Sz138 81 con_base_Before
theorem VSz139 : Valid Tryd.prog Sz139 := Valid.add VSz138 ok_base_Before
def mk_ref06_Contradicting_0 (l : List FHit) (g0 g1 g2 g3 g4 : Int) (v0_0 : List Int) (v0_1 : Bool) (v0_2 : Int) : DS := ⟨[some (.t (.c (.sl 7 l.length (hitsC l)))), none, none, some (.t (.c (.p 3 0))), none, none, some (.t (.c (.os 6))), some (.t (.c (.v (.bool v0_1)))), some (.t (.c (.v (.int .i64 v0_2)))), none, none, none, none, none, none, none, none, none, none, none, none, none, none, none, none, none, none, none, none, none, none, none, none, none, none, none, none, none, none, none, none, none, none, none, none, none, none, none, none, none, none, none, none, none, none, none, none, none, none, none, none, none, none, none, none, none, none, none, none, none, none, none, none, none, none], [none, none, none, some (.box 26 [.v (.int .i64 g0), .v (.int .i64 g1), .v (.int .i64 g2), .v (.int .i64 g3), .v (.int .i64 g4)]), none, none, some (.num 3 .i64 v0_0), none, none, none, none, none, none, none, none, none, none, none, none, none, none, none, none, none, none, none, none, none, none, none, none, none, none, none, none, none, none, none, none, none, none, none, none, none, none, none, none, none, none, none, none, none, none, none, none, none, none, none, none, none, none, none, none, none, none, none, none, none, none, none, none, none, none, none, none]⟩
def mk_ref06_Contradicting_2 (l : List FHit) (g0 g1 g2 g3 g4 : Int) (v2_0 : List (List CV)) (v2_1 : List Int) (v2_2 : List Int) (v2_3 : Int) (v2_4 : Bool) (v2_5 : Int) : DS := ⟨[some (.t (.c (.sl 7 l.length (hitsC l)))), none, none, some (.t (.c (.p 3 0))), none, none, some (.t (.c (.os 6))), some (.t (.c (.v (.bool v2_4)))), some (.t (.c (.v (.int .i64 v2_5)))), some (.t (.c (.os 9))), some (.t (.c (.os 10))), some (.t (.c (.v (.int .i64 v2_3)))), none, none, none, none, none, none, none, none, none, none, none, none, none, none, none, none, none, none, none, none, none, none, none, none, none, none, none, none, none, none, none, none, none, none, none, none, none, none, none, none, none, none, none, none, none, none, none, none, none, none, none, none, none, none, none, none, none, none, none, none, none, none, none], [none, none, none, some (.box 26 [.v (.int .i64 g0), .v (.int .i64 g1), .v (.int .i64 g2), .v (.int .i64 g3), .v (.int .i64 g4)]), none, none, some (.num 3 .i64 v2_1), none, none, some (.num 3 .i64 v2_2), some (.gen 107 7 v2_0), none, none, none, none, none, none, none, none, none, none, none, none, none, none, none, none, none, none, none, none, none, none, none, none, none, none, none, none, none, none, none, none, none, none, none, none, none, none, none, none, none, none, none, none, none, none, none, none, none, none, none, none, none, none, none, none, none, none, none, none, none, none, none, none]⟩
def vc_ref06_Contradicting (J : Inv) (l : List FHit) (g0 g1 g2 g3 g4 : Int) (post : DV → Prop) : Prop := (numsP 7 l.length (hitsC l) ∧ hitsE (listC l.length mkHit (hitsC l)) = 0 ∧ latE (⟨⟨g0, g1, g2⟩, g3, g4⟩ : Lat) = 0) ∧ (cond (decide ((((vtxR (listC l.length mkHit (hitsC l)) (⟨⟨g0, g1, g2⟩, g3, g4⟩ : Lat)).length : Nat) : Int) > (0 : Int))) (post (.tu [.c (.v (.slice none 0 0)), .c (.v (.bool false))])) (∃ n, J 0 (n :: []) (mk_ref06_Contradicting_0 l g0 g1 g2 g3 g4 ([]) false 1)))
def ann_ref06_Contradicting : Ann := ⟨fun r => lookA r [(14, ([[], [], [1], [0, 1, 2], [], [], [], [5, 6], [5, 6, 7], [5, 6, 7, 8], [0, 1, 2, 3, 4, 5, 6, 7, 8, 9], [0, 1, 2, 3, 4, 5, 6, 7, 8, 9, 10], [0, 1, 2, 3, 4, 5, 6, 7, 8, 9, 10, 11]], [[37, 44], [37, 44], [44], [9999, 9, 37, 38], [37, 44], [37, 44], [37, 44], [9, 37, 38, 44], [9, 37, 38, 44], [9, 37, 38], [], [], []]))], fun b => lookA b [(0, (none, some ⟨[0, 3, 7, 8], [3], [(6, .num 3 .i64 ([]))]⟩)), (2, (none, some ⟨[0, 3, 7, 8, 11], [3], [(6, .num 3 .i64 ([])), (9, .num 3 .i64 ([])), (10, .gen 107 7 [])]⟩))], fun _ => [], I1, true, fun r => lookA r [(15, (2, [66]))], fun _ => none⟩
theorem ev_ref06_Contradicting (J : Inv) (l : List FHit) (g0 g1 g2 g3 g4 : Int) (post : DV → Prop) : evFn Tryd.prog tab Sz139 ann_ref06_Contradicting J Tryd.f74 [.t (.c (.sl 7 l.length (hitsC l))), .t (.a [.v (.int .i64 g0), .v (.int .i64 g1), .v (.int .i64 g2), .v (.int .i64 g3), .v (.int .i64 g4)])] post = vc_ref06_Contradicting J l g0 g1 g2 g3 g4 post := by kernel_rfl
theorem fit_ref06_Contradicting : okFn ann_ref06_Contradicting Tryd.f74 = true := by kernel_rfl
def rd_ref06_Contradicting_0 (J : Inv) (l : List FHit) (g0 g1 g2 g3 g4 : Int) (v0_0 : List Int) (v0_1 : Bool) (v0_2 : Int) (nn0 : Nat) (post : DV → Prop) : Prop := lt (IntKind.i64.wrap ((1 : Int) * 2 ^ (min (((l.length : Nat) : Int)).toNat 64))) fun x1 => (0 ≤ ((l.length : Nat) : Int)) ∧ (cond (decide (v0_2 < x1)) (∃ n, J 2 (n :: nn0 :: []) (mk_ref06_Contradicting_2 l g0 g1 g2 g3 g4 ([]) v0_0 ([]) 0 v0_1 v0_2)) (post (.tu [.c (.sl 1 v0_0.length (numsC .i64 v0_0)), .c (.v (.bool v0_1))])))
theorem er_ref06_Contradicting_0 (J : Inv) (l : List FHit) (g0 g1 g2 g3 g4 : Int) (v0_0 : List Int) (v0_1 : Bool) (v0_2 : Int) (nn0 : Nat) (post : DV → Prop) : round Tryd.prog tab Sz139 ann_ref06_Contradicting J Tryd.f74 post 0 (nn0 :: []) (mk_ref06_Contradicting_0 l g0 g1 g2 g3 g4 v0_0 v0_1 v0_2) = rd_ref06_Contradicting_0 J l g0 g1 g2 g3 g4 v0_0 v0_1 v0_2 nn0 post := by kernel_rfl
def rd_ref06_Contradicting_2 (J : Inv) (l : List FHit) (g0 g1 g2 g3 g4 : Int) (v2_0 : List (List CV)) (v2_1 : List Int) (v2_2 : List Int) (v2_3 : Int) (v2_4 : Bool) (v2_5 : Int) (nn2 nn0 : Nat) (post : DV → Prop) : Prop := cond (decide (v2_3 < ((l.length : Nat) : Int))) (lt (Int.fdiv v2_5 (2 ^ (min (v2_3).toNat 64))) fun x1 => (0 ≤ v2_3) ∧ (lt (IntKind.i64.wrap ((BitVec.ofInt 64 x1 &&& BitVec.ofInt 64 (1 : Int)).toNat : Int)) fun x2 => cond (x2 == (1 : Int)) (((IntKind.i64 = IntKind.i64 ∧ True) ∧ roomP 8 (v2_2.length + ([v2_3] : List Int).length)) ∧ ((0 ≤ v2_3 ∧ v2_3 < ((l.length : Nat) : Int)) ∧ ((roomP 56 (v2_0.length + ([[.v (.int .i64 ((hitAt l v2_3.toNat).p.x)), .v (.int .i64 ((hitAt l v2_3.toNat).p.y)), .v (.int .i64 ((hitAt l v2_3.toNat).p.z)), .v (.int .i64 ((hitAt l v2_3.toNat).t.lo)), .v (.int .i64 ((hitAt l v2_3.toNat).t.hi)), .v (.int .i64 ((hitAt l v2_3.toNat).c.lo)), .v (.int .i64 ((hitAt l v2_3.toNat).c.hi))]] : List (List CV)).length)) ∧ (lt (IntKind.i64.wrap (v2_3 + (1 : Int))) fun x3 => J 2 (nn2 :: nn0 :: []) (mk_ref06_Contradicting_2 l g0 g1 g2 g3 g4 (v2_0 ++ ([[.v (.int .i64 ((hitAt l v2_3.toNat).p.x)), .v (.int .i64 ((hitAt l v2_3.toNat).p.y)), .v (.int .i64 ((hitAt l v2_3.toNat).p.z)), .v (.int .i64 ((hitAt l v2_3.toNat).t.lo)), .v (.int .i64 ((hitAt l v2_3.toNat).t.hi)), .v (.int .i64 ((hitAt l v2_3.toNat).c.lo)), .v (.int .i64 ((hitAt l v2_3.toNat).c.hi))]] : List (List CV))) v2_1 (v2_2 ++ ([v2_3])) x3 v2_4 v2_5))))) (lt (IntKind.i64.wrap (v2_3 + (1 : Int))) fun x4 => J 2 (nn2 :: nn0 :: []) (mk_ref06_Contradicting_2 l g0 g1 g2 g3 g4 v2_0 v2_1 v2_2 x4 v2_4 v2_5)))) ((cond v2_4 (cond (decide (((v2_2.length : Nat) : Int) > ((v2_1.length : Nat) : Int))) ((true = true) ∧ (True)) (cond (((v2_2.length : Nat) : Int) == ((v2_1.length : Nat) : Int)) ((numsP 1 v2_2.length (numsC .i64 v2_2) ∧ numsP 1 v2_1.length (numsC .i64 v2_1) ∧ ((listC v2_2.length mkInt (numsC .i64 v2_2))).length ≤ 1000000) ∧ (True)) ((false = false) ∧ (True)))) ((false = false) ∧ (True))) ∧ (lt ((bif v2_4 then (bif decide (((v2_2.length : Nat) : Int) > ((v2_1.length : Nat) : Int)) then true else (bif (((v2_2.length : Nat) : Int) == ((v2_1.length : Nat) : Int)) then (!(befL (listC v2_2.length mkInt (numsC .i64 v2_2)) (listC v2_1.length mkInt (numsC .i64 v2_1)))) else false)) else false)) fun x5 => cond x5 (lt (IntKind.i64.wrap (v2_5 + (1 : Int))) fun x6 => J 0 (nn0 :: []) (mk_ref06_Contradicting_0 l g0 g1 g2 g3 g4 v2_1 v2_4 x6)) ((numsP 7 v2_0.length (genC v2_0) ∧ hitsE (listC v2_0.length mkHit (genC v2_0)) = 0 ∧ latE (⟨⟨g0, g1, g2⟩, g3, g4⟩ : Lat) = 0) ∧ (cond ((((vtxR (listC v2_0.length mkHit (genC v2_0)) (⟨⟨g0, g1, g2⟩, g3, g4⟩ : Lat)).length : Nat) : Int) == (0 : Int)) (lt (IntKind.i64.wrap (v2_5 + (1 : Int))) fun x7 => J 0 (nn0 :: []) (mk_ref06_Contradicting_0 l g0 g1 g2 g3 g4 v2_2 true x7)) (lt (IntKind.i64.wrap (v2_5 + (1 : Int))) fun x8 => J 0 (nn0 :: []) (mk_ref06_Contradicting_0 l g0 g1 g2 g3 g4 v2_1 v2_4 x8))))))
theorem er_ref06_Contradicting_2 (J : Inv) (l : List FHit) (g0 g1 g2 g3 g4 : Int) (v2_0 : List (List CV)) (v2_1 : List Int) (v2_2 : List Int) (v2_3 : Int) (v2_4 : Bool) (v2_5 : Int) (nn2 nn0 : Nat) (post : DV → Prop) : round Tryd.prog tab Sz139 ann_ref06_Contradicting J Tryd.f74 post 1 (nn2 :: nn0 :: []) (mk_ref06_Contradicting_2 l g0 g1 g2 g3 g4 v2_0 v2_1 v2_2 v2_3 v2_4 v2_5) = rd_ref06_Contradicting_2 J l g0 g1 g2 g3 g4 v2_0 v2_1 v2_2 v2_3 v2_4 v2_5 nn2 nn0 post := by kernel_rfl
theorem lp_ref06_Contradicting (J : Inv) (post : DV → Prop) : AllG J (loopsFn Tryd.prog tab Sz139 ann_ref06_Contradicting J Tryd.f74 post) = (((∀ F s, ¬ J 0 (0 :: F) s) ∧ ∀ n F s, J 0 ((n + 1) :: F) s → round Tryd.prog tab Sz139 ann_ref06_Contradicting J Tryd.f74 post 0 (n :: F) s) ∧ ((∀ F s, ¬ J 2 (0 :: F) s) ∧ ∀ n F s, J 2 ((n + 1) :: F) s → round Tryd.prog tab Sz139 ann_ref06_Contradicting J Tryd.f74 post 1 (n :: F) s) ∧ True) := by kernel_rfl
def J_ref06_Contradicting (l : List FHit) (g0 g1 g2 g3 g4 : Int) : Inv := fun b F s => match b, F with
 | 0, [nn0] => ∃ (v0_0 : List Int) (v0_1 : Bool) (v0_2 : Int), s = mk_ref06_Contradicting_0 l g0 g1 g2 g3 g4 v0_0 v0_1 v0_2 ∧ ((hitsE l = 0 ∧ latE (⟨⟨g0, g1, g2⟩, g3, g4⟩ : Lat) = 0) ∧ vtxR l (⟨⟨g0, g1, g2⟩, g3, g4⟩ : Lat) = [] ∧ 1 ≤ v0_2 ∧ v0_2 ≤ ((2 ^ l.length : Nat) : Int) ∧ (nn0 : Int) + v0_2 = ((2 ^ l.length : Nat) : Int) + 1 ∧ v0_1 = (foldS (contB (allS l (⟨⟨g0, g1, g2⟩, g3, g4⟩ : Lat))) v0_2.toNat).isSome ∧ v0_0 = (foldS (contB (allS l (⟨⟨g0, g1, g2⟩, g3, g4⟩ : Lat))) v0_2.toNat).getD [])
 | 2, [nn2, nn0] => ∃ (v2_0 : List (List CV)) (v2_1 : List Int) (v2_2 : List Int) (v2_3 : Int) (v2_4 : Bool) (v2_5 : Int), s = mk_ref06_Contradicting_2 l g0 g1 g2 g3 g4 v2_0 v2_1 v2_2 v2_3 v2_4 v2_5 ∧ ((hitsE l = 0 ∧ latE (⟨⟨g0, g1, g2⟩, g3, g4⟩ : Lat) = 0) ∧ vtxR l (⟨⟨g0, g1, g2⟩, g3, g4⟩ : Lat) = [] ∧ (1 ≤ v2_5 ∧ v2_5 < ((2 ^ l.length : Nat) : Int) ∧ (nn0 : Int) + v2_5 = ((2 ^ l.length : Nat) : Int)) ∧ (0 ≤ v2_3 ∧ v2_3 ≤ l.length ∧ (nn2 : Int) + v2_3 = l.length + 1) ∧ v2_4 = (foldS (contB (allS l (⟨⟨g0, g1, g2⟩, g3, g4⟩ : Lat))) v2_5.toNat).isSome ∧ v2_1 = (foldS (contB (allS l (⟨⟨g0, g1, g2⟩, g3, g4⟩ : Lat))) v2_5.toNat).getD [] ∧ v2_2 = membs v2_3.toNat v2_5.toNat ∧ v2_0 = (subH l v2_2).map hitCv)
 | _, _ => False
set_option maxHeartbeats 8000000 in
set_option maxRecDepth 100000 in
theorem rnd_ref06_Contradicting_0 (l : List FHit) (g0 g1 g2 g3 g4 : Int) (v0_0 : List Int) (v0_1 : Bool) (v0_2 : Int) (nn0 : Nat) (hp : hitsE l = 0 ∧ latE (⟨⟨g0, g1, g2⟩, g3, g4⟩ : Lat) = 0) (hi : (hitsE l = 0 ∧ latE (⟨⟨g0, g1, g2⟩, g3, g4⟩ : Lat) = 0) ∧ vtxR l (⟨⟨g0, g1, g2⟩, g3, g4⟩ : Lat) = [] ∧ 1 ≤ v0_2 ∧ v0_2 ≤ ((2 ^ l.length : Nat) : Int) ∧ ((nn0 + 1) : Int) + v0_2 = ((2 ^ l.length : Nat) : Int) + 1 ∧ v0_1 = (foldS (contB (allS l (⟨⟨g0, g1, g2⟩, g3, g4⟩ : Lat))) v0_2.toNat).isSome ∧ v0_0 = (foldS (contB (allS l (⟨⟨g0, g1, g2⟩, g3, g4⟩ : Lat))) v0_2.toNat).getD []) : rd_ref06_Contradicting_0 (J_ref06_Contradicting l g0 g1 g2 g3 g4) l g0 g1 g2 g3 g4 v0_0 v0_1 v0_2 nn0 (fun r => LeD r (.tu [.c (.sl 1 (((cnF l (⟨⟨g0, g1, g2⟩, g3, g4⟩ : Lat)).getD []).length) (intsC ((cnF l (⟨⟨g0, g1, g2⟩, g3, g4⟩ : Lat)).getD []))), .c (.v (.bool ((cnF l (⟨⟨g0, g1, g2⟩, g3, g4⟩ : Lat)).isSome)))])) := by
 obtain ⟨i0, iv, i1, i2, i3, i4, i5⟩ := hi
 obtain ⟨k, rfl⟩ : ∃ k : Nat, v0_2 = k := ⟨v0_2.toNat, by omega⟩
 have hk : (k : Int).toNat = k := rfl
 rw [hk] at i4 i5
 have z := (hitsE_ok i0.1).1
 unfold rd_ref06_Contradicting_0
 refine lt_i fun x1 h1 => ⟨by omega, ?_⟩
 rw [shl_8 (by omega)] at h1
 subst h1
 refine cond_i (fun h => ?_) (fun h => ?_)
 ·have h := of_decide_eq_true h
  exact ⟨l.length + 1, _, _, _, _, _, _, rfl, i0, iv, by omega, by omega, i4, i5, rfl, rfl⟩
 ·have h := of_decide_eq_false h
  have e : k = 2 ^ l.length := by omega
  rw [show cnF l (⟨⟨g0, g1, g2⟩, g3, g4⟩ : Lat) = foldS (contB (allS l (⟨⟨g0, g1, g2⟩, g3, g4⟩ : Lat))) k by rw [e]; rfl, ← i4, ← i5]
  exact LeD.refl _
theorem zero_ref06_Contradicting_0 (l : List FHit) (g0 g1 g2 g3 g4 : Int) (v0_0 : List Int) (v0_1 : Bool) (v0_2 : Int)  (hi : (hitsE l = 0 ∧ latE (⟨⟨g0, g1, g2⟩, g3, g4⟩ : Lat) = 0) ∧ vtxR l (⟨⟨g0, g1, g2⟩, g3, g4⟩ : Lat) = [] ∧ 1 ≤ v0_2 ∧ v0_2 ≤ ((2 ^ l.length : Nat) : Int) ∧ (0 : Int) + v0_2 = ((2 ^ l.length : Nat) : Int) + 1 ∧ v0_1 = (foldS (contB (allS l (⟨⟨g0, g1, g2⟩, g3, g4⟩ : Lat))) v0_2.toNat).isSome ∧ v0_0 = (foldS (contB (allS l (⟨⟨g0, g1, g2⟩, g3, g4⟩ : Lat))) v0_2.toNat).getD []) : False := by
 omega
set_option maxHeartbeats 8000000 in
set_option maxRecDepth 100000 in
theorem rnd_ref06_Contradicting_2 (l : List FHit) (g0 g1 g2 g3 g4 : Int) (v2_0 : List (List CV)) (v2_1 : List Int) (v2_2 : List Int) (v2_3 : Int) (v2_4 : Bool) (v2_5 : Int) (nn2 nn0 : Nat) (hp : hitsE l = 0 ∧ latE (⟨⟨g0, g1, g2⟩, g3, g4⟩ : Lat) = 0) (hi : (hitsE l = 0 ∧ latE (⟨⟨g0, g1, g2⟩, g3, g4⟩ : Lat) = 0) ∧ vtxR l (⟨⟨g0, g1, g2⟩, g3, g4⟩ : Lat) = [] ∧ (1 ≤ v2_5 ∧ v2_5 < ((2 ^ l.length : Nat) : Int) ∧ (nn0 : Int) + v2_5 = ((2 ^ l.length : Nat) : Int)) ∧ (0 ≤ v2_3 ∧ v2_3 ≤ l.length ∧ ((nn2 + 1) : Int) + v2_3 = l.length + 1) ∧ v2_4 = (foldS (contB (allS l (⟨⟨g0, g1, g2⟩, g3, g4⟩ : Lat))) v2_5.toNat).isSome ∧ v2_1 = (foldS (contB (allS l (⟨⟨g0, g1, g2⟩, g3, g4⟩ : Lat))) v2_5.toNat).getD [] ∧ v2_2 = membs v2_3.toNat v2_5.toNat ∧ v2_0 = (subH l v2_2).map hitCv) : rd_ref06_Contradicting_2 (J_ref06_Contradicting l g0 g1 g2 g3 g4) l g0 g1 g2 g3 g4 v2_0 v2_1 v2_2 v2_3 v2_4 v2_5 nn2 nn0 (fun r => LeD r (.tu [.c (.sl 1 (((cnF l (⟨⟨g0, g1, g2⟩, g3, g4⟩ : Lat)).getD []).length) (intsC ((cnF l (⟨⟨g0, g1, g2⟩, g3, g4⟩ : Lat)).getD []))), .c (.v (.bool ((cnF l (⟨⟨g0, g1, g2⟩, g3, g4⟩ : Lat)).isSome)))])) := by
 obtain ⟨i0, iv, i1, i2, i3, i4, i5, i6⟩ := hi
 obtain ⟨k, rfl⟩ : ∃ k : Nat, v2_5 = k := ⟨v2_5.toNat, by omega⟩
 have hk : (k : Int).toNat = k := rfl
 obtain ⟨j, rfl⟩ : ∃ j : Nat, v2_3 = j := ⟨v2_3.toNat, by omega⟩
 have hj : (j : Int).toNat = j := rfl
 rw [hk] at i3 i4 i5
 rw [hj] at i5
 have hl := okH_iff.1 i0.1
 have l8 := hl.2.1
 have h256 := pow_8 hl.2.1
 have ml := membs_lt j k
 have n2 : v2_2.length = (membs j k).length := by rw [i5]
 have n0 : v2_0.length = v2_2.length := by rw [i6, List.length_map]; unfold subH; rw [List.length_map]
 unfold rd_ref06_Contradicting_2
 simp only [nums_listC, hj]
 refine cond_i (fun h => ?_) (fun h => ?_)
 ·have h := of_decide_eq_true h
  have hb := bit_ok (k := k) (i := j) (by omega) (by omega)
  refine lt_i fun x1 h1 => ⟨by omega, lt_i fun x2 h2 => ?_⟩
  rw [h1, h2] at hb
  rw [hb]
  refine cond_i (fun e => ⟨⟨by trivial, ?_⟩, by omega, ?_, lt_i fun x hx => ?_⟩) (fun e => lt_i fun x hx => ?_)
  ·unfold roomP maxLen; simp; omega
  ·unfold roomP maxLen; simp; omega
  all_goals
   rw [wi (by omega)] at hx
   subst hx
   refine ⟨_, _, _, _, _, _, rfl, i0, iv, by omega, by omega, i3, i4, ?_, ?_⟩
  ·rw [show ((j : Int) + 1).toNat = j + 1 by omega, hk, membs_succ, if_pos e, i5]
  ·rw [i6]
   unfold subH
   rw [List.map_append, List.map_append]; rfl
  ·rw [show ((j : Int) + 1).toNat = j + 1 by omega, hk, membs_succ, if_neg (by rw [e]; simp), List.append_nil, i5]
  ·exact i6
 ·have h := of_decide_eq_false h
  have e : j = l.length := by omega
  subst e
  have hkM : k < 2 ^ l.length := by omega
  rw [membs_n hl.2.1 hkM] at i5
  have hr := cn_rg hl hkM
  have hne := membs_0 hl.2.1 hkM (by omega)
  have m8 := membs_lt 8 k
  have hs := cont_iff (x := (⟨⟨g0, g1, g2⟩, g3, g4⟩ : Lat)) hr hne
  have ho := okH_sub hl hr hne m8
  rw [← i5] at hs ho
  have fs := foldS_succ (contB (allS l (⟨⟨g0, g1, g2⟩, g3, g4⟩ : Lat))) k
  rw [← i5, rfB_and, ← Bool.not_not (rfB true _ _), ← skip_if i3 i4] at fs
  subst i6
  simp only [hitg_listC]
  refine ⟨cond_i (fun _ => cond_i (fun _ => ⟨by trivial, trivial⟩) (fun _ => cond_i (fun _ => ⟨⟨numsP_ints _, numsP_ints _, by omega⟩, trivial⟩) (fun _ => ⟨by trivial, trivial⟩))) (fun _ => ⟨by trivial, trivial⟩), lt_i fun x5 h5 => ?_⟩
  rw [h5] at fs
  refine cond_i (fun c => lt_i fun x hx => ?_) (fun c => ⟨⟨numsP_hitg _, okH_iff.2 ho, i0.2⟩, cond_i (fun c2 => lt_i fun x hx => ?_) (fun c2 => lt_i fun x hx => ?_)⟩)
  all_goals
   rw [wi (by omega)] at hx
   subst hx
   rw [c] at fs
  ·rw [show (contB (allS l (⟨⟨g0, g1, g2⟩, g3, g4⟩ : Lat)) v2_2 && !true) = false by simp, if_neg (by simp)] at fs
   exact ⟨_, _, _, rfl, i0, iv, by omega, by omega, by omega, by rw [show ((k : Int) + 1).toNat = k + 1 by omega, fs]; exact i3, by rw [show ((k : Int) + 1).toNat = k + 1 by omega, fs]; exact i4⟩
  ·have c2 : vtxR (subH l v2_2) (⟨⟨g0, g1, g2⟩, g3, g4⟩ : Lat) = [] := by simpa using c2
   rw [hs.2 c2, show (true && !false) = true from rfl, if_pos rfl] at fs
   exact ⟨_, _, _, rfl, i0, iv, by omega, by omega, by omega, by rw [show ((k : Int) + 1).toNat = k + 1 by omega, fs]; rfl, by rw [show ((k : Int) + 1).toNat = k + 1 by omega, fs]; rfl⟩
  ·have c2 : vtxR (subH l v2_2) (⟨⟨g0, g1, g2⟩, g3, g4⟩ : Lat) ≠ [] := by simpa using c2
   rw [show contB (allS l (⟨⟨g0, g1, g2⟩, g3, g4⟩ : Lat)) v2_2 = false by cases hc : contB (allS l (⟨⟨g0, g1, g2⟩, g3, g4⟩ : Lat)) v2_2 with
    | false => rfl
    | true => exact (c2 (hs.1 hc)).elim, show (false && !false) = false from rfl, if_neg (by simp)] at fs
   exact ⟨_, _, _, rfl, i0, iv, by omega, by omega, by omega, by rw [show ((k : Int) + 1).toNat = k + 1 by omega, fs]; exact i3, by rw [show ((k : Int) + 1).toNat = k + 1 by omega, fs]; exact i4⟩
theorem zero_ref06_Contradicting_2 (l : List FHit) (g0 g1 g2 g3 g4 : Int) (v2_0 : List (List CV)) (v2_1 : List Int) (v2_2 : List Int) (v2_3 : Int) (v2_4 : Bool) (v2_5 : Int) (nn0 : Nat) (hi : (hitsE l = 0 ∧ latE (⟨⟨g0, g1, g2⟩, g3, g4⟩ : Lat) = 0) ∧ vtxR l (⟨⟨g0, g1, g2⟩, g3, g4⟩ : Lat) = [] ∧ (1 ≤ v2_5 ∧ v2_5 < ((2 ^ l.length : Nat) : Int) ∧ (nn0 : Int) + v2_5 = ((2 ^ l.length : Nat) : Int)) ∧ (0 ≤ v2_3 ∧ v2_3 ≤ l.length ∧ (0 : Int) + v2_3 = l.length + 1) ∧ v2_4 = (foldS (contB (allS l (⟨⟨g0, g1, g2⟩, g3, g4⟩ : Lat))) v2_5.toNat).isSome ∧ v2_1 = (foldS (contB (allS l (⟨⟨g0, g1, g2⟩, g3, g4⟩ : Lat))) v2_5.toNat).getD [] ∧ v2_2 = membs v2_3.toNat v2_5.toNat ∧ v2_0 = (subH l v2_2).map hitCv) : False := by
 omega
set_option maxHeartbeats 8000000 in
set_option maxRecDepth 100000 in
theorem spec_ref06_Contradicting (l : List FHit) (g0 g1 g2 g3 g4 : Int) (hp : hitsE l = 0 ∧ latE (⟨⟨g0, g1, g2⟩, g3, g4⟩ : Lat) = 0) : vc_ref06_Contradicting (J_ref06_Contradicting l g0 g1 g2 g3 g4) l g0 g1 g2 g3 g4 (fun r => LeD r (.tu [.c (.sl 1 (((cnF l (⟨⟨g0, g1, g2⟩, g3, g4⟩ : Lat)).getD []).length) (intsC ((cnF l (⟨⟨g0, g1, g2⟩, g3, g4⟩ : Lat)).getD []))), .c (.v (.bool ((cnF l (⟨⟨g0, g1, g2⟩, g3, g4⟩ : Lat)).isSome)))])) := by
 have z := (hitsE_ok hp.1).1
 have pm := Nat.two_pow_pos l.length
 unfold vc_ref06_Contradicting
 simp only [hits_listC]
 refine ⟨⟨numsP_hits l, hp⟩, cond_i (fun h => ?_) (fun h => ⟨2 ^ l.length, [], false, 1, rfl, hp, ?_, by omega, by omega, by omega, ?_, ?_⟩)⟩
 ·have h : vtxR l (⟨⟨g0, g1, g2⟩, g3, g4⟩ : Lat) ≠ [] := by have := of_decide_eq_true h; exact List.length_pos_iff.1 (by omega)
  rcases cn_ok (x := (⟨⟨g0, g1, g2⟩, g3, g4⟩ : Lat)) (okH_iff.1 hp.1) with ⟨_, e⟩ | ⟨e, _⟩
  ·rw [e]; exact le_tu le_nil (LeD.refl _)
  ·exact (h e).elim
 ·have := of_decide_eq_false h; exact List.length_eq_zero_iff.1 (by omega)
 ·rw [show ((1 : Int)).toNat = 1 from rfl, foldS_1]; rfl
 ·rw [show ((1 : Int)).toNat = 1 from rfl, foldS_1]; rfl
theorem all_ref06_Contradicting (l : List FHit) (g0 g1 g2 g3 g4 : Int) (hp : hitsE l = 0 ∧ latE (⟨⟨g0, g1, g2⟩, g3, g4⟩ : Lat) = 0) : AllG (J_ref06_Contradicting l g0 g1 g2 g3 g4) (loopsFn Tryd.prog tab Sz139 ann_ref06_Contradicting (J_ref06_Contradicting l g0 g1 g2 g3 g4) Tryd.f74 (fun r => LeD r (.tu [.c (.sl 1 (((cnF l (⟨⟨g0, g1, g2⟩, g3, g4⟩ : Lat)).getD []).length) (intsC ((cnF l (⟨⟨g0, g1, g2⟩, g3, g4⟩ : Lat)).getD []))), .c (.v (.bool ((cnF l (⟨⟨g0, g1, g2⟩, g3, g4⟩ : Lat)).isSome)))]))) := by
 rw [lp_ref06_Contradicting]
 refine ⟨⟨?_, ?_⟩, ⟨?_, ?_⟩, trivial⟩
 ·intro F s h
  obtain _ | ⟨g, F⟩ := F
  case cons => exact h.elim
  obtain ⟨w0, w1, w2, rfl, hi⟩ := h
  exact zero_ref06_Contradicting_0 l g0 g1 g2 g3 g4 w0 w1 w2 hi
 ·intro n F s h
  obtain _ | ⟨g, F⟩ := F
  case cons => exact h.elim
  obtain ⟨w0, w1, w2, rfl, hi⟩ := h
  rw [er_ref06_Contradicting_0]
  exact rnd_ref06_Contradicting_0 l g0 g1 g2 g3 g4 _ _ _ _ hp hi
 ·intro F s h
  obtain _ | ⟨f0, F⟩ := F
  ·exact h.elim
  obtain _ | ⟨g, F⟩ := F
  case cons => exact h.elim
  obtain ⟨w0, w1, w2, w3, w4, w5, rfl, hi⟩ := h
  exact zero_ref06_Contradicting_2 l g0 g1 g2 g3 g4 w0 w1 w2 w3 w4 w5 _ hi
 ·intro n F s h
  obtain _ | ⟨f0, F⟩ := F
  ·exact h.elim
  obtain _ | ⟨g, F⟩ := F
  case cons => exact h.elim
  obtain ⟨w0, w1, w2, w3, w4, w5, rfl, hi⟩ := h
  rw [er_ref06_Contradicting_2]
  exact rnd_ref06_Contradicting_2 l g0 g1 g2 g3 g4 _ _ _ _ _ _ _ _ hp hi
def con_ref06_Contradicting : Con := fun args => match args with
 | [.t (.c (.sl 7 n_l c_l)), .t (.a [.v (.int .i64 g0), .v (.int .i64 g1), .v (.int .i64 g2), .v (.int .i64 g3), .v (.int .i64 g4)])] => some (.tu [.c (.sl 1 (((cnF (listC n_l mkHit c_l) (⟨⟨g0, g1, g2⟩, g3, g4⟩ : Lat)).getD []).length) (intsC ((cnF (listC n_l mkHit c_l) (⟨⟨g0, g1, g2⟩, g3, g4⟩ : Lat)).getD []))), .c (.v (.bool ((cnF (listC n_l mkHit c_l) (⟨⟨g0, g1, g2⟩, g3, g4⟩ : Lat)).isSome)))], some (numsP 7 n_l c_l ∧ hitsE (listC n_l mkHit c_l) = 0 ∧ latE (⟨⟨g0, g1, g2⟩, g3, g4⟩ : Lat) = 0), true)
 | _ => none
theorem ok_ref06_Contradicting : Ok Tryd.prog 74 con_ref06_Contradicting := by
 refine Ok.fnFr (ann := ann_ref06_Contradicting) mixed tabOK VSz139 VI1 rfl (fn := Tryd.f74) (by kernel_rfl) (by kernel_rfl) fit_ref06_Contradicting fun args r pre fresh h hp => ?_
 unfold con_ref06_Contradicting at h
 split at h
 ·rename_i n_l c_l g0 g1 g2 g3 g4
  cases h
  obtain ⟨hp0, hp⟩ := hp
  refine ⟨rfl, (by intro x hx; simp only [List.mem_cons, List.not_mem_nil, or_false] at hx; rcases hx with rfl | rfl; exact (fun i j _ hj => plain_int _ i j); exact trivial), J_ref06_Contradicting (listC n_l mkHit c_l) g0 g1 g2 g3 g4, [.t (.c (.sl 7 ((listC n_l mkHit c_l).length) (hitsC (listC n_l mkHit c_l)))), .t (.a [.v (.int .i64 g0), .v (.int .i64 g1), .v (.int .i64 g2), .v (.int .i64 g3), .v (.int .i64 g4)])], ?_, Nat.le_of_ble_eq_true (by kernel_rfl), ?_, ?_⟩
  ·exact (LeA_cons (leT_c ((leL_FHit hp0))) (LeA_cons (LeD.refl _) LeA_nil))
  ·rw [ev_ref06_Contradicting]; exact spec_ref06_Contradicting (listC n_l mkHit c_l) g0 g1 g2 g3 g4 hp
  ·exact all_ref06_Contradicting (listC n_l mkHit c_l) g0 g1 g2 g3 g4 hp
 ·cases h
noncomputable def Sz140 : Sum := addS Sz139 74 con_ref06_Contradicting
theorem VSz140 : Valid Tryd.prog Sz140 := Valid.add VSz139 ok_ref06_Contradicting
end Go.Proofs.YtmhgjlapkhdlmaaDoor