/- Texts of this claim, together. -/
import Derived.Test.YtkifmfmenobhnaaCC11
import Derived.Test.YtkifmfmenobhnaaCC8
import Derived.ArgAppend
import Derived.Lib.SliceRun

set_option linter.unusedVariables false
set_option linter.unusedSimpArgs false
namespace Go.Proofs.Ytkifmfmenobhnaa
open Go.RowKit Ev
def alI (l : List Lnk) : List Int := (List.range l.length).map fun i : Nat => (i : Int)
def woK (l : List Lnk) (q : Int) (k : Nat) : List Int := ((List.range k).filter fun i => (lnkAt l i).frm != q && (lnkAt l i).to != q).map fun i : Nat => (i : Int)
def woI (l : List Lnk) (q : Int) : List Int := woK l q l.length
theorem woK_succ (l : List Lnk) (q : Int) (k : Nat) : woK l q (k + 1) = woK l q k ++ (if ((lnkAt l k).frm != q && (lnkAt l k).to != q) = true then [(k : Int)] else []) := by
 unfold woK
 rw [List.range_succ, List.filter_append, List.map_append]
 congr 1
 rw [List.filter_cons]
 cases ((lnkAt l k).frm != q && (lnkAt l k).to != q) <;> rfl
theorem woK_len (l : List Lnk) (q : Int) (k : Nat) : (woK l q k).length ≤ k := by
 unfold woK
 rw [List.length_map]
 have := List.length_filter_le (fun i => (lnkAt l i).frm != q && (lnkAt l i).to != q) (List.range k)
 rwa [List.length_range] at this
def coF (ls : List Lnk) (o : List Int) (i : Nat) : Int := unl (inB (o.getD (lnkAt ls i).to.toNat 0 - o.getD (lnkAt ls i).frm.toNat 0) (lnkAt ls i).lo (lnkAt ls i).hi) 19
def Scc102 : Sum := addS Sy101 75 con_Closed
theorem VScc102 : Valid Try.prog Scc102 := Valid.add VSy101 ok_Closed
def mk_ref01_All_0 (cs : List ByteArray) (ls : List Lnk) (v0_0 : List Int) (v0_1 : Int) : DS := ⟨[none, some (.t (.c (.p 1 0))), none, some (.t (.c (.os 3))), some (.t (.c (.v (.int .i64 v0_1)))), none, none, none, none, none, none, none, none, none, none, none, none], [none, some (.box 55 [.sl 1 cs.length (txsC cs), .sl 4 ls.length (lnksC ls)]), none, some (.num 3 .i64 v0_0), none, none, none, none, none, none, none, none, none, none, none, none, none]⟩
def vc_ref01_All (J : Inv) (cs : List ByteArray) (ls : List Lnk) (post : DV → Prop) : Prop := ∃ n, J 0 (n :: []) (mk_ref01_All_0 cs ls ([]) 0)
def ann_ref01_All : Ann := ⟨fun _ => none, fun b => lookA b [(0, (none, some ⟨[1, 4], [1], [(3, .num 3 .i64 ([]))]⟩))], fun _ => [], I1, true, fun _ => none, fun _ => none⟩
theorem ev_ref01_All (J : Inv) (cs : List ByteArray) (ls : List Lnk) (post : DV → Prop) : evFn Try.prog tab Scc102 ann_ref01_All J Try.f98 [.t (.a [.sl 1 cs.length (txsC cs), .sl 4 ls.length (lnksC ls)])] post = vc_ref01_All J cs ls post := by kernel_rfl
theorem fit_ref01_All : okFn ann_ref01_All Try.f98 = true := by kernel_rfl
def rd_ref01_All_0 (J : Inv) (cs : List ByteArray) (ls : List Lnk) (v0_0 : List Int) (v0_1 : Int) (nn0 : Nat) (post : DV → Prop) : Prop := cond (decide (v0_1 < ((ls.length : Nat) : Int))) (((IntKind.i64 = IntKind.i64 ∧ True) ∧ roomP 8 (v0_0.length + ([v0_1] : List Int).length)) ∧ (lt (IntKind.i64.wrap (v0_1 + (1 : Int))) fun x1 => J 0 (nn0 :: []) (mk_ref01_All_0 cs ls (v0_0 ++ ([v0_1])) x1))) (post (.t (.c (.sl 1 v0_0.length (numsC .i64 v0_0)))))
theorem er_ref01_All_0 (J : Inv) (cs : List ByteArray) (ls : List Lnk) (v0_0 : List Int) (v0_1 : Int) (nn0 : Nat) (post : DV → Prop) : round Try.prog tab Scc102 ann_ref01_All J Try.f98 post 0 (nn0 :: []) (mk_ref01_All_0 cs ls v0_0 v0_1) = rd_ref01_All_0 J cs ls v0_0 v0_1 nn0 post := by kernel_rfl
theorem lp_ref01_All (J : Inv) (post : DV → Prop) : AllG J (loopsFn Try.prog tab Scc102 ann_ref01_All J Try.f98 post) = (((∀ F s, ¬ J 0 (0 :: F) s) ∧ ∀ n F s, J 0 ((n + 1) :: F) s → round Try.prog tab Scc102 ann_ref01_All J Try.f98 post 0 (n :: F) s) ∧ True) := by kernel_rfl
def J_ref01_All (cs : List ByteArray) (ls : List Lnk) : Inv := fun b F s => match b, F with
 | 0, [nn0] => ∃ (v0_0 : List Int) (v0_1 : Int), s = mk_ref01_All_0 cs ls v0_0 v0_1 ∧ (ls.length ≤ 1000000 ∧ 0 ≤ v0_1 ∧ v0_1 ≤ ls.length ∧ (nn0 : Int) + v0_1 = ls.length + 1 ∧ v0_0 = (List.range v0_1.toNat).map fun i : Nat => (i : Int))
 | _, _ => False
theorem rnd_ref01_All_0 (cs : List ByteArray) (ls : List Lnk) (v0_0 : List Int) (v0_1 : Int) (nn0 : Nat) (hp : (ls).length ≤ 1000000) (hi : ls.length ≤ 1000000 ∧ 0 ≤ v0_1 ∧ v0_1 ≤ ls.length ∧ ((nn0 + 1) : Int) + v0_1 = ls.length + 1 ∧ v0_0 = (List.range v0_1.toNat).map fun i : Nat => (i : Int)) : rd_ref01_All_0 (J_ref01_All cs ls) cs ls v0_0 v0_1 nn0 (fun r => LeD r (.t (.c (.sl 1 ((alI ls).length) (intsC (alI ls)))))) := by
 obtain ⟨q, i1, i2, i3, i4⟩ := hi
 obtain ⟨k, rfl⟩ : ∃ k : Nat, v0_1 = k := ⟨v0_1.toNat, by omega⟩
 have hk : (k : Int).toNat = k := rfl
 rw [hk] at i4
 unfold rd_ref01_All_0
 refine cond_i (fun h => ?_) (fun h => ?_)
 ·have hlt : k < ls.length := by have := of_decide_eq_true h; omega
  refine ⟨⟨by trivial, ?_⟩, lt_i fun x hx => ?_⟩
  ·unfold roomP maxLen; rw [i4]; simp; omega
  ·rw [wi (by omega)] at hx
   subst hx
   refine ⟨_, _, rfl, q, by omega, by omega, by omega, ?_⟩
   rw [show ((k : Int) + 1).toNat = k + 1 by omega, List.range_succ, List.map_append, i4]; rfl
 ·have h := of_decide_eq_false h
  rw [i4, show k = ls.length by omega]
  exact LeD.refl _
theorem zero_ref01_All_0 (cs : List ByteArray) (ls : List Lnk) (v0_0 : List Int) (v0_1 : Int)  (hi : ls.length ≤ 1000000 ∧ 0 ≤ v0_1 ∧ v0_1 ≤ ls.length ∧ (0 : Int) + v0_1 = ls.length + 1 ∧ v0_0 = (List.range v0_1.toNat).map fun i : Nat => (i : Int)) : False := by
 omega
theorem spec_ref01_All (cs : List ByteArray) (ls : List Lnk) (hp : (ls).length ≤ 1000000) : vc_ref01_All (J_ref01_All cs ls) cs ls (fun r => LeD r (.t (.c (.sl 1 ((alI ls).length) (intsC (alI ls)))))) := by
 unfold vc_ref01_All
 exact ⟨ls.length + 1, [], 0, rfl, hp, by omega, by omega, by omega, rfl⟩
theorem all_ref01_All (cs : List ByteArray) (ls : List Lnk) (hp : (ls).length ≤ 1000000) : AllG (J_ref01_All cs ls) (loopsFn Try.prog tab Scc102 ann_ref01_All (J_ref01_All cs ls) Try.f98 (fun r => LeD r (.t (.c (.sl 1 ((alI ls).length) (intsC (alI ls))))))) := by
 rw [lp_ref01_All]
 refine ⟨⟨?_, ?_⟩, trivial⟩
 ·intro F s h
  obtain _ | ⟨g, F⟩ := F
  case cons => exact h.elim
  obtain ⟨w0, w1, rfl, hi⟩ := h
  exact zero_ref01_All_0 cs ls w0 w1 hi
 ·intro n F s h
  obtain _ | ⟨g, F⟩ := F
  case cons => exact h.elim
  obtain ⟨w0, w1, rfl, hi⟩ := h
  rw [er_ref01_All_0]
  exact rnd_ref01_All_0 cs ls _ _ _ hp hi
def con_ref01_All : Con := fun args => match args with
 | [.t (.a [.sl 1 n_cs c_cs, .sl 4 n_ls c_ls])] => some (.t (.c (.sl 1 ((alI (listC n_ls mkLnk c_ls)).length) (intsC (alI (listC n_ls mkLnk c_ls))))), some (txP n_cs c_cs ∧ numsP 4 n_ls c_ls ∧ ((listC n_ls mkLnk c_ls)).length ≤ 1000000), true)
 | _ => none
theorem ok_ref01_All : Ok Try.prog 98 con_ref01_All := by
 refine Ok.fnFr (ann := ann_ref01_All) mixed tabOK VScc102 VI1 rfl (fn := Try.f98) (by kernel_rfl) (by kernel_rfl) fit_ref01_All fun args r pre fresh h hp => ?_
 unfold con_ref01_All at h
 split at h
 ·rename_i n_cs c_cs n_ls c_ls
  cases h
  obtain ⟨hp0, hp1, hp⟩ := hp
  refine ⟨rfl, (fun i j _ hj => plain_int _ i j), J_ref01_All (txOf n_cs c_cs) (listC n_ls mkLnk c_ls), [.t (.a [.sl 1 ((txOf n_cs c_cs).length) (txsC (txOf n_cs c_cs)), .sl 4 ((listC n_ls mkLnk c_ls).length) (lnksC (listC n_ls mkLnk c_ls))])], ?_, Nat.le_of_ble_eq_true (by kernel_rfl), ?_, ?_⟩
  ·exact (LeA_cons (leT_a (LeCs.cons ((leL_str hp0)) (LeCs.cons ((leL_Lnk hp1)) LeCs.nil))) LeA_nil)
  ·rw [ev_ref01_All]; exact spec_ref01_All (txOf n_cs c_cs) (listC n_ls mkLnk c_ls) hp
  ·exact all_ref01_All (txOf n_cs c_cs) (listC n_ls mkLnk c_ls) hp
 ·cases h
def Scc103 : Sum := addS Scc102 98 con_ref01_All
theorem VScc103 : Valid Try.prog Scc103 := Valid.add VScc102 ok_ref01_All
def mk_ref01_Without_0 (cs : List ByteArray) (ls : List Lnk) (kk : Int) (v0_0 : List Int) (v0_1 : Int) : DS := ⟨[none, some (.t (.c (.v (.int .i64 kk)))), some (.t (.c (.p 2 0))), none, none, some (.t (.c (.os 5))), some (.t (.c (.v (.int .i64 v0_1)))), none, none, none, none, none, none, none, none, none, none, none, none, none, none, none, none, none, none, none, none, none, none, none, none, none, none, none, none, none, none], [none, none, some (.box 55 [.sl 1 cs.length (txsC cs), .sl 4 ls.length (lnksC ls)]), none, none, some (.num 3 .i64 v0_0), none, none, none, none, none, none, none, none, none, none, none, none, none, none, none, none, none, none, none, none, none, none, none, none, none, none, none, none, none, none, none]⟩
def vc_ref01_Without (J : Inv) (cs : List ByteArray) (ls : List Lnk) (kk : Int) (post : DV → Prop) : Prop := ∃ n, J 0 (n :: []) (mk_ref01_Without_0 cs ls kk ([]) 0)
def ann_ref01_Without : Ann := ⟨fun _ => none, fun b => lookA b [(0, (none, some ⟨[1, 2, 6], [2], [(5, .num 3 .i64 ([]))]⟩))], fun _ => [], I1, true, fun r => lookA r [(5, (9, [31]))], fun _ => none⟩
theorem ev_ref01_Without (J : Inv) (cs : List ByteArray) (ls : List Lnk) (kk : Int) (post : DV → Prop) : evFn Try.prog tab Scc103 ann_ref01_Without J Try.f121 [.t (.a [.sl 1 cs.length (txsC cs), .sl 4 ls.length (lnksC ls)]), .t (.c (.v (.int .i64 kk)))] post = vc_ref01_Without J cs ls kk post := by kernel_rfl
theorem fit_ref01_Without : okFn ann_ref01_Without Try.f121 = true := by kernel_rfl
def rd_ref01_Without_0 (J : Inv) (cs : List ByteArray) (ls : List Lnk) (kk : Int) (v0_0 : List Int) (v0_1 : Int) (nn0 : Nat) (post : DV → Prop) : Prop := cond (decide (v0_1 < ((ls.length : Nat) : Int))) ((0 ≤ v0_1 ∧ v0_1 < ((ls.length : Nat) : Int)) ∧ ((cond (((lnkAt ls v0_1.toNat).frm) != kk) ((0 ≤ v0_1 ∧ v0_1 < ((ls.length : Nat) : Int)) ∧ (True)) ((false = false) ∧ (True))) ∧ (lt ((bif (((lnkAt ls v0_1.toNat).frm) != kk) then (((lnkAt ls v0_1.toNat).to) != kk) else false)) fun x1 => cond x1 (((IntKind.i64 = IntKind.i64 ∧ True) ∧ roomP 8 (v0_0.length + ([v0_1] : List Int).length)) ∧ (lt (IntKind.i64.wrap (v0_1 + (1 : Int))) fun x2 => J 0 (nn0 :: []) (mk_ref01_Without_0 cs ls kk (v0_0 ++ ([v0_1])) x2))) (lt (IntKind.i64.wrap (v0_1 + (1 : Int))) fun x3 => J 0 (nn0 :: []) (mk_ref01_Without_0 cs ls kk v0_0 x3))))) (post (.t (.c (.sl 1 v0_0.length (numsC .i64 v0_0)))))
theorem er_ref01_Without_0 (J : Inv) (cs : List ByteArray) (ls : List Lnk) (kk : Int) (v0_0 : List Int) (v0_1 : Int) (nn0 : Nat) (post : DV → Prop) : round Try.prog tab Scc103 ann_ref01_Without J Try.f121 post 0 (nn0 :: []) (mk_ref01_Without_0 cs ls kk v0_0 v0_1) = rd_ref01_Without_0 J cs ls kk v0_0 v0_1 nn0 post := by kernel_rfl
theorem lp_ref01_Without (J : Inv) (post : DV → Prop) : AllG J (loopsFn Try.prog tab Scc103 ann_ref01_Without J Try.f121 post) = (((∀ F s, ¬ J 0 (0 :: F) s) ∧ ∀ n F s, J 0 ((n + 1) :: F) s → round Try.prog tab Scc103 ann_ref01_Without J Try.f121 post 0 (n :: F) s) ∧ True) := by kernel_rfl
def J_ref01_Without (cs : List ByteArray) (ls : List Lnk) (kk : Int) : Inv := fun b F s => match b, F with
 | 0, [nn0] => ∃ (v0_0 : List Int) (v0_1 : Int), s = mk_ref01_Without_0 cs ls kk v0_0 v0_1 ∧ (ls.length ≤ 1000000 ∧ 0 ≤ v0_1 ∧ v0_1 ≤ ls.length ∧ (nn0 : Int) + v0_1 = ls.length + 1 ∧ v0_0 = woK ls kk v0_1.toNat)
 | _, _ => False
theorem rnd_ref01_Without_0 (cs : List ByteArray) (ls : List Lnk) (kk : Int) (v0_0 : List Int) (v0_1 : Int) (nn0 : Nat) (hp : (ls).length ≤ 1000000) (hi : ls.length ≤ 1000000 ∧ 0 ≤ v0_1 ∧ v0_1 ≤ ls.length ∧ ((nn0 + 1) : Int) + v0_1 = ls.length + 1 ∧ v0_0 = woK ls kk v0_1.toNat) : rd_ref01_Without_0 (J_ref01_Without cs ls kk) cs ls kk v0_0 v0_1 nn0 (fun r => LeD r (.t (.c (.sl 1 ((woI ls kk).length) (intsC (woI ls kk)))))) := by
 obtain ⟨q, i1, i2, i3, i4⟩ := hi
 obtain ⟨k, rfl⟩ : ∃ k : Nat, v0_1 = k := ⟨v0_1.toNat, by omega⟩
 have hk : (k : Int).toNat = k := rfl
 rw [hk] at i4
 have hl := woK_len ls kk k
 unfold rd_ref01_Without_0
 rw [hk]
 refine cond_i (fun h => ?_) (fun h => ?_)
 ·have hlt : k < ls.length := by have := of_decide_eq_true h; omega
  refine ⟨by omega, cond_i (fun _ => ⟨by omega, trivial⟩) (fun _ => ⟨rfl, trivial⟩), lt_i fun x1 h1 => ?_⟩
  have e1 : x1 = ((lnkAt ls k).frm != kk && (lnkAt ls k).to != kk) := by rw [← h1]; cases ((lnkAt ls k).frm != kk) <;> rfl
  subst e1
  refine cond_i (fun g => ⟨⟨by trivial, ?_⟩, lt_i fun x hx => ?_⟩) (fun g => lt_i fun x hx => ?_)
  ·unfold roomP maxLen; rw [i4]; simp; omega
  ·rw [wi (by omega)] at hx
   subst hx
   refine ⟨_, _, rfl, q, by omega, by omega, by omega, ?_⟩
   rw [show ((k : Int) + 1).toNat = k + 1 by omega, woK_succ, if_pos g, i4]
  ·rw [wi (by omega)] at hx
   subst hx
   refine ⟨_, _, rfl, q, by omega, by omega, by omega, ?_⟩
   rw [show ((k : Int) + 1).toNat = k + 1 by omega, woK_succ, if_neg (by rw [g]; simp), i4, List.append_nil]
 ·have h := of_decide_eq_false h
  rw [i4, show k = ls.length by omega]
  exact LeD.refl _
theorem zero_ref01_Without_0 (cs : List ByteArray) (ls : List Lnk) (kk : Int) (v0_0 : List Int) (v0_1 : Int)  (hi : ls.length ≤ 1000000 ∧ 0 ≤ v0_1 ∧ v0_1 ≤ ls.length ∧ (0 : Int) + v0_1 = ls.length + 1 ∧ v0_0 = woK ls kk v0_1.toNat) : False := by
 omega
theorem spec_ref01_Without (cs : List ByteArray) (ls : List Lnk) (kk : Int) (hp : (ls).length ≤ 1000000) : vc_ref01_Without (J_ref01_Without cs ls kk) cs ls kk (fun r => LeD r (.t (.c (.sl 1 ((woI ls kk).length) (intsC (woI ls kk)))))) := by
 unfold vc_ref01_Without
 exact ⟨ls.length + 1, [], 0, rfl, hp, by omega, by omega, by omega, rfl⟩
theorem all_ref01_Without (cs : List ByteArray) (ls : List Lnk) (kk : Int) (hp : (ls).length ≤ 1000000) : AllG (J_ref01_Without cs ls kk) (loopsFn Try.prog tab Scc103 ann_ref01_Without (J_ref01_Without cs ls kk) Try.f121 (fun r => LeD r (.t (.c (.sl 1 ((woI ls kk).length) (intsC (woI ls kk))))))) := by
 rw [lp_ref01_Without]
 refine ⟨⟨?_, ?_⟩, trivial⟩
 ·intro F s h
  obtain _ | ⟨g, F⟩ := F
  case cons => exact h.elim
  obtain ⟨w0, w1, rfl, hi⟩ := h
  exact zero_ref01_Without_0 cs ls kk w0 w1 hi
 ·intro n F s h
  obtain _ | ⟨g, F⟩ := F
  case cons => exact h.elim
  obtain ⟨w0, w1, rfl, hi⟩ := h
  rw [er_ref01_Without_0]
  exact rnd_ref01_Without_0 cs ls kk _ _ _ hp hi
def con_ref01_Without : Con := fun args => match args with
 | [.t (.a [.sl 1 n_cs c_cs, .sl 4 n_ls c_ls]), .t (.c (.v (.int .i64 kk)))] => some (.t (.c (.sl 1 ((woI (listC n_ls mkLnk c_ls) kk).length) (intsC (woI (listC n_ls mkLnk c_ls) kk)))), some (txP n_cs c_cs ∧ numsP 4 n_ls c_ls ∧ ((listC n_ls mkLnk c_ls)).length ≤ 1000000), true)
 | _ => none
theorem ok_ref01_Without : Ok Try.prog 121 con_ref01_Without := by
 refine Ok.fnFr (ann := ann_ref01_Without) mixed tabOK VScc103 VI1 rfl (fn := Try.f121) (by kernel_rfl) (by kernel_rfl) fit_ref01_Without fun args r pre fresh h hp => ?_
 unfold con_ref01_Without at h
 split at h
 ·rename_i n_cs c_cs n_ls c_ls kk
  cases h
  obtain ⟨hp0, hp1, hp⟩ := hp
  refine ⟨rfl, (fun i j _ hj => plain_int _ i j), J_ref01_Without (txOf n_cs c_cs) (listC n_ls mkLnk c_ls) kk, [.t (.a [.sl 1 ((txOf n_cs c_cs).length) (txsC (txOf n_cs c_cs)), .sl 4 ((listC n_ls mkLnk c_ls).length) (lnksC (listC n_ls mkLnk c_ls))]), .t (.c (.v (.int .i64 kk)))], ?_, Nat.le_of_ble_eq_true (by kernel_rfl), ?_, ?_⟩
  ·exact (LeA_cons (leT_a (LeCs.cons ((leL_str hp0)) (LeCs.cons ((leL_Lnk hp1)) LeCs.nil))) (LeA_cons (LeD.refl _) LeA_nil))
  ·rw [ev_ref01_Without]; exact spec_ref01_Without (txOf n_cs c_cs) (listC n_ls mkLnk c_ls) kk hp
  ·exact all_ref01_Without (txOf n_cs c_cs) (listC n_ls mkLnk c_ls) kk hp
 ·cases h
def Scc104 : Sum := addS Scc103 121 con_ref01_Without
theorem VScc104 : Valid Try.prog Scc104 := Valid.add VScc103 ok_ref01_Without
def vc_clock_CheckOffsets_1 (m : Int) (post : DV → Prop) : Prop := post (.t (.c (.v (.bool (!(inB m (-8000000000 : Int) (8000000000 : Int)))))))
def ann_clock_CheckOffsets_1 : Ann := ⟨fun _ => none, fun _ => none, fun _ => [], I1, false, fun _ => none, fun _ => none⟩
theorem ev_clock_CheckOffsets_1 (J : Inv) (m : Int) (post : DV → Prop) : evFn Try.prog tab Scc104 ann_clock_CheckOffsets_1 J Try.f94 [.t (.c (.v (.int .i64 m)))] post = vc_clock_CheckOffsets_1 m post := by kernel_rfl
theorem fit_clock_CheckOffsets_1 : okFn ann_clock_CheckOffsets_1 Try.f94 = true := by kernel_rfl
theorem lp_clock_CheckOffsets_1 (J : Inv) (post : DV → Prop) : AllG J (loopsFn Try.prog tab Scc104 ann_clock_CheckOffsets_1 J Try.f94 post) = (True) := by kernel_rfl
theorem spec_clock_CheckOffsets_1 (m : Int) : vc_clock_CheckOffsets_1 m (fun r => LeD r (.t (.c (.v (.bool (!inB m (-8000000000) 8000000000)))))) := by
 exact LeD.refl _
def con_clock_CheckOffsets_1 : Con := fun args => match args with
 | [.t (.c (.v (.int .i64 m)))] => some (.t (.c (.v (.bool (!inB m (-8000000000) 8000000000)))), none, false)
 | _ => none
theorem ok_clock_CheckOffsets_1 : Ok Try.prog 94 con_clock_CheckOffsets_1 := by
 refine Ok.fn (ann := ann_clock_CheckOffsets_1) mixed tabOK VScc104 VI1 (fn := Try.f94) (by kernel_rfl) (by kernel_rfl) fit_clock_CheckOffsets_1 fun args r pre fresh h hp => ?_
 unfold con_clock_CheckOffsets_1 at h
 split at h
 ·rename_i m
  cases h
  refine ⟨rfl, fun _ _ _ => False, _, LeA.refl _, Nat.le_of_ble_eq_true (by kernel_rfl), ?_, ?_⟩
  ·rw [ev_clock_CheckOffsets_1]; exact spec_clock_CheckOffsets_1 m
  ·rw [lp_clock_CheckOffsets_1]; trivial
 ·cases h
def Scc105 : Sum := addS Scc104 94 con_clock_CheckOffsets_1
theorem VScc105 : Valid Try.prog Scc105 := Valid.add VScc104 ok_clock_CheckOffsets_1
def mk_slices_IndexFunc_int_int_c_0 (l : List Int) (v0_0 : Int) : DS := ⟨[some (.t (.c (.sl 1 l.length (intsC l)))), some (.t (.fn 94 [])), none, none, none, none, none, some (.t (.c (.v (.int .i64 ((l.length : Nat) : Int))))), some (.t (.c (.v (.int .i64 v0_0)))), none, none, none, none, none, none, none, none, none, none], [none, none, none, none, none, none, none, none, none, none, none, none, none, none, none, none, none, none, none]⟩
def vc_slices_IndexFunc_int_int_c (J : Inv) (l : List Int) (post : DV → Prop) : Prop := ∃ n, J 0 (n :: []) (mk_slices_IndexFunc_int_int_c_0 l 0)
def ann_slices_IndexFunc_int_int_c : Ann := ⟨fun _ => none, fun b => lookA b [(0, (none, some ⟨[0, 1, 7, 8], [], []⟩))], fun _ => [], I1, false, fun _ => none, fun _ => none⟩
theorem ev_slices_IndexFunc_int_int_c (J : Inv) (l : List Int) (post : DV → Prop) : evFn Try.prog tab Scc105 ann_slices_IndexFunc_int_int_c J Try.f124 [.t (.c (.sl 1 l.length (intsC l))), .t (.fn 94 [])] post = vc_slices_IndexFunc_int_int_c J l post := by kernel_rfl
theorem fit_slices_IndexFunc_int_int_c : okFn ann_slices_IndexFunc_int_int_c Try.f124 = true := by kernel_rfl
def rd_slices_IndexFunc_int_int_c_0 (J : Inv) (l : List Int) (v0_0 : Int) (nn0 : Nat) (post : DV → Prop) : Prop := cond (decide (v0_0 < ((l.length : Nat) : Int))) ((0 ≤ v0_0 ∧ v0_0 < ((l.length : Nat) : Int)) ∧ (cond (!inB (l.getD v0_0.toNat 0) (-8000000000) 8000000000) (post (.t (.c (.v (.int .i64 v0_0))))) (lt (IntKind.i64.wrap (v0_0 + (1 : Int))) fun x1 => J 0 (nn0 :: []) (mk_slices_IndexFunc_int_int_c_0 l x1)))) (post (.t (.c (.v (.int .i64 (-1))))))
theorem er_slices_IndexFunc_int_int_c_0 (J : Inv) (l : List Int) (v0_0 : Int) (nn0 : Nat) (post : DV → Prop) : round Try.prog tab Scc105 ann_slices_IndexFunc_int_int_c J Try.f124 post 0 (nn0 :: []) (mk_slices_IndexFunc_int_int_c_0 l v0_0) = rd_slices_IndexFunc_int_int_c_0 J l v0_0 nn0 post := by kernel_rfl
theorem lp_slices_IndexFunc_int_int_c (J : Inv) (post : DV → Prop) : AllG J (loopsFn Try.prog tab Scc105 ann_slices_IndexFunc_int_int_c J Try.f124 post) = (((∀ F s, ¬ J 0 (0 :: F) s) ∧ ∀ n F s, J 0 ((n + 1) :: F) s → round Try.prog tab Scc105 ann_slices_IndexFunc_int_int_c J Try.f124 post 0 (n :: F) s) ∧ True) := by kernel_rfl
def J_slices_IndexFunc_int_int_c (l : List Int) : Inv := fun b F s => match b, F with
 | 0, [nn0] => ∃ (v0_0 : Int), s = mk_slices_IndexFunc_int_int_c_0 l v0_0 ∧ ((l.length ≤ 1000000) ∧ 0 ≤ v0_0 ∧ v0_0 ≤ l.length ∧ (nn0 : Int) + v0_0 = l.length + 1 ∧ ∀ k : Nat, (k : Int) < v0_0 → (!inB (l.getD k 0) (-8000000000) 8000000000) = false)
 | _, _ => False
theorem rnd_slices_IndexFunc_int_int_c_0 (l : List Int) (v0_0 : Int) (nn0 : Nat) (hp : (l).length ≤ 1000000) (hi : (l.length ≤ 1000000) ∧ 0 ≤ v0_0 ∧ v0_0 ≤ l.length ∧ ((nn0 + 1) : Int) + v0_0 = l.length + 1 ∧ ∀ k : Nat, (k : Int) < v0_0 → (!inB (l.getD k 0) (-8000000000) 8000000000) = false) : rd_slices_IndexFunc_int_int_c_0 (J_slices_IndexFunc_int_int_c l) l v0_0 nn0 (fun r => LeD r (.t (.c (.v (.int .i64 (idxP (fun n => !inB n (-8000000000) 8000000000) l)))))) := by
 obtain ⟨i0, i1, i2, i3, i4⟩ := hi
 obtain ⟨k, rfl⟩ : ∃ k : Nat, v0_0 = k := ⟨v0_0.toNat, by omega⟩
 have hk : (k : Int).toNat = k := rfl
 unfold rd_slices_IndexFunc_int_int_c_0
 rw [hk]
 refine cond_i (fun h => ?_) (fun h => leI ?_)
 ·have hlt : k < l.length := by have := of_decide_eq_true h; omega
  refine ⟨by omega, cond_i (fun e => leI ?_) (fun e => lt_i fun x hx => ?_)⟩
  ·exact (idxP_at (d := (0 : Int)) hlt (fun j hj => i4 j (by omega)) (by simpa using e)).symm
  ·rw [wi (by omega)] at hx
   subst hx
   exact ⟨_, rfl, i0, by omega, by omega, by omega, fun j hj => by
    by_cases q : j = k
    ·rw [q]; simpa using e
    ·exact i4 j (by omega)⟩
 ·have hge : k = l.length := by have := of_decide_eq_false h; omega
  subst hge
  exact (idxP_none (d := (0 : Int)) fun j hj => i4 j (by omega)).symm
theorem zero_slices_IndexFunc_int_int_c_0 (l : List Int) (v0_0 : Int)  (hi : (l.length ≤ 1000000) ∧ 0 ≤ v0_0 ∧ v0_0 ≤ l.length ∧ (0 : Int) + v0_0 = l.length + 1 ∧ ∀ k : Nat, (k : Int) < v0_0 → (!inB (l.getD k 0) (-8000000000) 8000000000) = false) : False := by
 omega
theorem spec_slices_IndexFunc_int_int_c (l : List Int) (hp : (l).length ≤ 1000000) : vc_slices_IndexFunc_int_int_c (J_slices_IndexFunc_int_int_c l) l (fun r => LeD r (.t (.c (.v (.int .i64 (idxP (fun n => !inB n (-8000000000) 8000000000) l)))))) := by
 unfold vc_slices_IndexFunc_int_int_c
 exact ⟨l.length + 1, 0, rfl, hp, by omega, by omega, by omega, fun j hj => by omega⟩
theorem all_slices_IndexFunc_int_int_c (l : List Int) (hp : (l).length ≤ 1000000) : AllG (J_slices_IndexFunc_int_int_c l) (loopsFn Try.prog tab Scc105 ann_slices_IndexFunc_int_int_c (J_slices_IndexFunc_int_int_c l) Try.f124 (fun r => LeD r (.t (.c (.v (.int .i64 (idxP (fun n => !inB n (-8000000000) 8000000000) l))))))) := by
 rw [lp_slices_IndexFunc_int_int_c]
 refine ⟨⟨?_, ?_⟩, trivial⟩
 ·intro F s h
  obtain _ | ⟨g, F⟩ := F
  case cons => exact h.elim
  obtain ⟨w0, rfl, hi⟩ := h
  exact zero_slices_IndexFunc_int_int_c_0 l w0 hi
 ·intro n F s h
  obtain _ | ⟨g, F⟩ := F
  case cons => exact h.elim
  obtain ⟨w0, rfl, hi⟩ := h
  rw [er_slices_IndexFunc_int_int_c_0]
  exact rnd_slices_IndexFunc_int_int_c_0 l _ _ hp hi
def con_slices_IndexFunc_int_int_c : Con := fun args => match args with
 | [.t (.c (.sl 1 n_l c_l)), .t (.fn 94 [])] => some (.t (.c (.v (.int .i64 (idxP (fun n => !inB n (-8000000000) 8000000000) (listC n_l mkInt c_l))))), some (numsP 1 n_l c_l ∧ ((listC n_l mkInt c_l)).length ≤ 1000000), false)
 | _ => none
theorem ok_slices_IndexFunc_int_int_c : Ok Try.prog 124 con_slices_IndexFunc_int_int_c := by
 refine Ok.fn (ann := ann_slices_IndexFunc_int_int_c) mixed tabOK VScc105 VI1 (fn := Try.f124) (by kernel_rfl) (by kernel_rfl) fit_slices_IndexFunc_int_int_c fun args r pre fresh h hp => ?_
 unfold con_slices_IndexFunc_int_int_c at h
 split at h
 ·rename_i n_l c_l
  cases h
  obtain ⟨hp0, hp⟩ := hp
  refine ⟨rfl, J_slices_IndexFunc_int_int_c (listC n_l mkInt c_l), [.t (.c (.sl 1 ((listC n_l mkInt c_l).length) (intsC (listC n_l mkInt c_l)))), .t (.fn 94 [])], ?_, Nat.le_of_ble_eq_true (by kernel_rfl), ?_, ?_⟩
  ·exact (LeA_cons (leT_c ((leL_int hp0))) (LeA_cons (leT_f LeCs.nil) LeA_nil))
  ·rw [ev_slices_IndexFunc_int_int_c]; exact spec_slices_IndexFunc_int_int_c (listC n_l mkInt c_l) hp
  ·exact all_slices_IndexFunc_int_int_c (listC n_l mkInt c_l) hp
 ·cases h
def Scc106 : Sum := addF Scc105 124 con_slices_IndexFunc_int_int_c
theorem VScc106 : Valid Try.prog Scc106 := Valid.addF VScc105 ok_slices_IndexFunc_int_int_c
def vc_slices_ContainsFunc_int_int_c (l : List Int) (post : DV → Prop) : Prop := (numsP 1 l.length (intsC l) ∧ ((listC l.length mkInt (intsC l))).length ≤ 1000000) ∧ (post (.t (.c (.v (.bool (decide ((idxP (fun n => !inB n (-8000000000) 8000000000) (listC l.length mkInt (intsC l))) ≥ (0 : Int))))))))
def ann_slices_ContainsFunc_int_int_c : Ann := ⟨fun _ => none, fun _ => none, fun _ => [], I1, false, fun _ => none, fun _ => none⟩
theorem ev_slices_ContainsFunc_int_int_c (J : Inv) (l : List Int) (post : DV → Prop) : evFn Try.prog tab Scc106 ann_slices_ContainsFunc_int_int_c J Try.f80 [.t (.c (.sl 1 l.length (intsC l))), .t (.fn 94 [])] post = vc_slices_ContainsFunc_int_int_c l post := by kernel_rfl
theorem fit_slices_ContainsFunc_int_int_c : okFn ann_slices_ContainsFunc_int_int_c Try.f80 = true := by kernel_rfl
theorem lp_slices_ContainsFunc_int_int_c (J : Inv) (post : DV → Prop) : AllG J (loopsFn Try.prog tab Scc106 ann_slices_ContainsFunc_int_int_c J Try.f80 post) = (True) := by kernel_rfl
theorem spec_slices_ContainsFunc_int_int_c (l : List Int) (hp : (l).length ≤ 1000000) : vc_slices_ContainsFunc_int_int_c l (fun r => LeD r (.t (.c (.v (.bool ((l).any fun n => !inB n (-8000000000) 8000000000)))))) := by
 unfold vc_slices_ContainsFunc_int_int_c
 rw [ints_listC]
 refine ⟨⟨numsP_ints l, hp⟩, leB ?_⟩
 rw [idxP_any]
def con_slices_ContainsFunc_int_int_c : Con := fun args => match args with
 | [.t (.c (.sl 1 n_l c_l)), .t (.fn 94 [])] => some (.t (.c (.v (.bool (((listC n_l mkInt c_l)).any fun n => !inB n (-8000000000) 8000000000)))), some (numsP 1 n_l c_l ∧ ((listC n_l mkInt c_l)).length ≤ 1000000), false)
 | _ => none
theorem ok_slices_ContainsFunc_int_int_c : Ok Try.prog 80 con_slices_ContainsFunc_int_int_c := by
 refine Ok.fn (ann := ann_slices_ContainsFunc_int_int_c) mixed tabOK VScc106 VI1 (fn := Try.f80) (by kernel_rfl) (by kernel_rfl) fit_slices_ContainsFunc_int_int_c fun args r pre fresh h hp => ?_
 unfold con_slices_ContainsFunc_int_int_c at h
 split at h
 ·rename_i n_l c_l
  cases h
  obtain ⟨hp0, hp⟩ := hp
  refine ⟨rfl, fun _ _ _ => False, [.t (.c (.sl 1 ((listC n_l mkInt c_l).length) (intsC (listC n_l mkInt c_l)))), .t (.fn 94 [])], ?_, Nat.le_of_ble_eq_true (by kernel_rfl), ?_, ?_⟩
  ·exact (LeA_cons (leT_c ((leL_int hp0))) (LeA_cons (leT_f LeCs.nil) LeA_nil))
  ·rw [ev_slices_ContainsFunc_int_int_c]; exact spec_slices_ContainsFunc_int_int_c (listC n_l mkInt c_l) hp
  ·rw [lp_slices_ContainsFunc_int_int_c]; trivial
 ·cases h
def Scc107 : Sum := addF Scc106 80 con_slices_ContainsFunc_int_int_c
theorem VScc107 : Valid Try.prog Scc107 := Valid.addF VScc106 ok_slices_ContainsFunc_int_int_c
def Scc108 : Sum := Scc107
theorem VScc108 : Valid Try.prog Scc108 := VScc107
def Scc109 : Sum := Scc108
theorem VScc109 : Valid Try.prog Scc109 := VScc108
end Go.Proofs.Ytkifmfmenobhnaa
set_option linter.unusedVariables false
set_option linter.unusedSimpArgs false
namespace Go.Proofs.Ytkifmfmenobhnaa
open Go.RowKit Ev
def rel2 (n : Nat) (U : Int) (f g : Nat → Nat → Int) : Prop := ∀ x y, x < n → y < n → (f x y = far ∧ g x y = free6) ∨ (f x y = g x y ∧ f x y ≤ U)
def relK (n : Nat) (U : Int) (k : Nat) (f g : Nat → Nat → Int) : Prop := ∀ x y, x < n → y < n → (f x y = far ∧ g x y = free6) ∨ (f x y = g x y ∧ f x y ≤ 2 * U ∧ (x = k ∨ y = k → f x y ≤ U))
theorem rel2.start {n : Nat} {U : Int} (hU : 0 ≤ U) {f g : Nat → Nat → Int} (h : rel2 n U f g) (k : Nat) : relK n U k f g := fun x y hx hy => by
 rcases h x y hx hy with h | ⟨h1, h2⟩
 ·exact Or.inl h
 ·exact Or.inr ⟨h1, by omega, fun _ => h2⟩
theorem relK.done {n : Nat} {U : Int} {k : Nat} {f g : Nat → Nat → Int} (h : relK n U k f g) : rel2 n (2 * U) f g := fun x y hx hy => by
 rcases h x y hx hy with h | ⟨h1, h2, _⟩
 ·exact Or.inl h
 ·exact Or.inr ⟨h1, h2⟩
theorem relK.step {n : Nat} {U : Int} (hU : 0 ≤ U ∧ 2 * U < 1125899906842624) {k : Nat} {f g : Nat → Nat → Int} (h : relK n U k f g) {i j : Nat} (hk : k < n) (hi : i < n) (hj : j < n) : relK n U k (stepK f k i j) (stepZ free6 g k i j) := by
 have ef : far = 1152921504606846976 := rfl
 have eg : free6 = 1125899906842624 := rfl
 have h1 := h i k hi hk
 have h2 := h k j hk hj
 have h3 := h i j hi hj
 unfold stepK stepZ
 by_cases c1 : f i k = far
 ·have d1 : g i k = free6 := by rcases h1 with h1 | ⟨h1, h4, h5⟩ <;> omega
  rw [if_neg (by omega), if_neg (by omega)]
  exact h
 ·by_cases c2 : f k j = far
  ·have d2 : g k j = free6 := by rcases h2 with h2 | ⟨h2, h4, h5⟩ <;> omega
   rw [if_neg (by omega), if_neg (by omega)]
   exact h
  ·have a1 : f i k = g i k ∧ f i k ≤ U := by
    rcases h1 with h1 | ⟨h1, h4, h5⟩
    ·exact absurd h1.1 c1
    ·exact ⟨h1, h5 (Or.inr rfl)⟩
   have a2 : f k j = g k j ∧ f k j ≤ U := by
    rcases h2 with h2 | ⟨h2, h4, h5⟩
    ·exact absurd h2.1 c2
    ·exact ⟨h2, h5 (Or.inl rfl)⟩
   rw [if_pos (by omega), if_pos (by omega)]
   intro x y hx hy
   unfold updI
   by_cases e : x = i ∧ y = j
   ·rw [if_pos e, if_pos e]
    obtain ⟨rfl, rfl⟩ := e
    refine Or.inr ?_
    rcases h3 with ⟨b1, b2⟩ | ⟨b1, b2, b3⟩
    ·refine ⟨by omega, by omega, fun hxy => ?_⟩
     exfalso
     rcases hxy with q | q
     ·rw [q] at b1; exact c2 b1
     ·rw [q] at b1; exact c1 b1
    ·refine ⟨by omega, by omega, fun hxy => ?_⟩
     have := b3 hxy
     omega
   ·rw [if_neg e, if_neg e]
    exact h x y hx hy
theorem relK.j {n : Nat} {U : Int} (hU : 0 ≤ U ∧ 2 * U < 1125899906842624) {k : Nat} {f g : Nat → Nat → Int} (h : relK n U k f g) {i : Nat} (hk : k < n) (hi : i < n) : ∀ j, j ≤ n → relK n U k (jK f k i j) (jZ free6 g k i j)
 | 0, _ => h
 | j + 1, hj => (relK.j hU h hk hi j (by omega)).step hU hk hi (by omega)
theorem relK.i {n : Nat} {U : Int} (hU : 0 ≤ U ∧ 2 * U < 1125899906842624) {k : Nat} {f g : Nat → Nat → Int} (h : relK n U k f g) (hk : k < n) : ∀ i, i ≤ n → relK n U k (iK f n k i) (iZ free6 g n k i)
 | 0, _ => h
 | i + 1, hi => (relK.i hU h hk i (by omega)).j hU hk (by omega) n (Nat.le_refl _)
theorem rel2.k {n : Nat} {f g : Nat → Nat → Int} (hn : n ≤ 6) (h : rel2 n 1000000000 f g) : ∀ k, k ≤ n → rel2 n (2 ^ k * 1000000000) (kK f n k) (kZ free6 g n k)
 | 0, _ => by simpa [kK, kZ] using h
 | k + 1, hk => by
  have ih := rel2.k hn h k (by omega)
  have hp : (0 : Int) ≤ 2 ^ k * 1000000000 ∧ 2 * (2 ^ k * 1000000000) < (1125899906842624 : Int) := by
   rcases (by omega : k = 0 ∨ k = 1 ∨ k = 2 ∨ k = 3 ∨ k = 4 ∨ k = 5) with rfl | rfl | rfl | rfl | rfl | rfl <;> decide
  have := ((ih.start hp.1 k).i hp (by omega) n (Nat.le_refl _)).done
  rw [Int.pow_succ, Int.mul_comm ((2 : Int) ^ k) 2, Int.mul_assoc]
  exact this
theorem rel2.lnk {n : Nat} {f g : Nat → Nat → Int} (h : rel2 n 1000000000 f g) {x : Lnk} (hx : x.ok n) : rel2 n 1000000000 (lnkG f x) (lnkG g x) := by
 have ef : far = 1152921504606846976 := rfl
 have eg : free6 = 1125899906842624 := rfl
 obtain ⟨o1, o2, o3, o4, o5, o6⟩ := hx
 have F : rel2 n 1000000000 (lnkF f x) (lnkF g x) := fun p q hp hq => by
  have h1 := h x.frm.toNat x.to.toNat (by omega) (by omega)
  unfold lnkF updI
  by_cases e : p = x.frm.toNat ∧ q = x.to.toNat
  ·rw [if_pos e, if_pos e]
   refine Or.inr ?_
   rcases h1 with h1 | ⟨h1, h2⟩ <;> omega
  ·rw [if_neg e, if_neg e]; exact h p q hp hq
 intro p q hp hq
 have h1 := F x.to.toNat x.frm.toNat (by omega) (by omega)
 unfold lnkG
 unfold updI
 by_cases e : p = x.to.toNat ∧ q = x.frm.toNat
 ·rw [if_pos e, if_pos e]
  refine Or.inr ?_
  rcases h1 with h1 | ⟨h1, h2⟩ <;> omega
 ·rw [if_neg e, if_neg e]; exact F p q hp hq
def selL (l : List Lnk) (s : List Int) : List Lnk := s.map fun q => lnkAt l q.toNat
theorem sel_len (l : List Lnk) (s : List Int) : (selL l s).length = s.length := by simp [selL]
theorem sel_at {l : List Lnk} {s : List Int} {k : Nat} (h : k < s.length) : lnkAt (selL l s) k = lnkAt l (s.getD k 0).toNat := by simp [lnkAt, selL, List.getD, h]
theorem sel_ok {n : Nat} {l : List Lnk} {s : List Int} (hok : ∀ k, k < l.length → (lnkAt l k).ok n) (hs : ∀ k, k < s.length → 0 ≤ s.getD k 0 ∧ s.getD k 0 < l.length) : ∀ k, k < (selL l s).length → (lnkAt (selL l s) k).ok n := fun k hk => by
 rw [sel_len] at hk
 rw [sel_at hk]
 have := hs k hk
 exact hok _ (by omega)
theorem rel2.init (n : Nat) : rel2 n 1000000000 initM (iniC n n 0) := fun x y hx hy => by
 unfold initM iniC
 rw [if_pos (show x < n ∧ y < n from ⟨hx, hy⟩)]
 by_cases e : x = y
 ·rw [if_pos e, if_pos e]; exact Or.inr ⟨rfl, by decide⟩
 ·rw [if_neg e, if_neg e]; exact Or.inl ⟨rfl, rfl⟩
theorem rel2.links {n : Nat} {l : List Lnk} {s : List Int} (hok : ∀ k, k < l.length → (lnkAt l k).ok n) (hs : ∀ k, k < s.length → 0 ≤ s.getD k 0 ∧ s.getD k 0 < l.length) : ∀ k, k ≤ s.length → rel2 n 1000000000 (lnkM (selL l s) k) (lnkS n l s k) := by
 intro k
 induction k with
 | zero => intro _; exact rel2.init n
 | succ k ih =>
  intro hk
  rw [lnkM_succ (by rw [sel_len]; exact hk), lnkS_succ hk, sel_at hk]
  have := hs k hk
  exact (ih (by omega)).lnk (hok _ (by omega))
theorem bd_cl {n : Nat} (hn : n ≤ 6) {l : List Lnk} {s : List Int} (hok : ∀ k, k < l.length → (lnkAt l k).ok n) (hs : ∀ k, k < s.length → 0 ≤ s.getD k 0 ∧ s.getD k 0 < l.length) : rel2 n 64000000000 (bdF (selL l s) n) (clF l s n) := by
 have h := (rel2.links hok hs s.length (Nat.le_refl _)).k hn n (Nat.le_refl _)
 unfold bdF clF
 rw [sel_len]
 intro x y hx hy
 rcases h x y hx hy with h | ⟨h1, h2⟩
 ·exact Or.inl h
 ·refine Or.inr ⟨h1, ?_⟩
  rcases (by omega : n = 1 ∨ n = 2 ∨ n = 3 ∨ n = 4 ∨ n = 5 ∨ n = 6) with rfl | rfl | rfl | rfl | rfl | rfl <;> simp at h2 <;> omega
theorem agree_cl {n : Nat} (hn : n ≤ 6) {l : List Lnk} {s : List Int} (hok : ∀ k, k < l.length → (lnkAt l k).ok n) (hs : ∀ k, k < s.length → 0 ≤ s.getD k 0 ∧ s.getD k 0 < l.length) : clO l s n = bdB (selL l s) n := by
 have h := bd_cl hn hok hs
 have ef : far = 1152921504606846976 := rfl
 have eg : free6 = 1125899906842624 := rfl
 rw [Bool.eq_iff_iff, clO_true, bdB_true]
 constructor
 ·intro g i hi
  have := g i hi
  rcases h i i hi hi with h | ⟨h1, h2⟩ <;> omega
 ·intro g i hi
  have := g i hi
  rcases h i i hi hi with h | ⟨h1, h2⟩ <;> omega
theorem al_len (l : List Lnk) : (alI l).length = l.length := by simp [alI]
theorem al_at {l : List Lnk} {k : Nat} (h : k < l.length) : (alI l).getD k 0 = k := by simp [alI, List.getD, h]
theorem al_ok (l : List Lnk) : ∀ k, k < (alI l).length → 0 ≤ (alI l).getD k 0 ∧ (alI l).getD k 0 < l.length := fun k hk => by
 rw [al_len] at hk
 rw [al_at hk]; omega
theorem sel_all (l : List Lnk) : selL l (alI l) = l := by
 apply List.ext_getElem?
 intro i
 by_cases hi : i < l.length
 ·simp [selL, alI, hi, lnkAt, List.getD]
 ·simp [selL, alI, hi]
end Go.Proofs.Ytkifmfmenobhnaa
set_option linter.unusedVariables false
set_option linter.unusedSimpArgs false
namespace Go.Proofs.Ytkifmfmenobhnaa
open Go.RowKit Ev
def Scd110 : Sum := Scc109
theorem VScd110 : Valid Try.prog Scd110 := VScc109
end Go.Proofs.Ytkifmfmenobhnaa
set_option linter.unusedVariables false
set_option linter.unusedSimpArgs false
namespace Go.Proofs.Ytkifmfmenobhnaa
open Go.RowKit Ev
def clP (cs : List ByteArray) (ls : List Lnk) (sel : List Int) : Prop := ntE cs ls = 0 ∧ sel.length ≤ 12 ∧ ∀ k, k < sel.length → 0 ≤ sel.getD k 0 ∧ sel.getD k 0 < ls.length
def mk_clock_clash_0 (cs : List ByteArray) (ls : List Lnk) (sel : List Int) (i0 : Int) (m0 : Int) (v0_0 : List (List CV)) (v0_1 : Int) : DS := ⟨[none, some (.t (.c (.sl 1 sel.length (intsC sel)))), none, none, some (.t (.c (.p 4 0))), none, none, none, none, none, some (.t (.c (.os 10))), none, none, none, none, none, none, none, some (.t (.c (.sl 1 sel.length (intsC sel)))), some (.t (.c (.v (.int .i64 ((sel.length : Nat) : Int))))), some (.t (.c (.v (.int .i64 v0_1)))), none, none, none, none, none, none, none, none, none, none, none, none, none, none, none, none, none, none, none, none, none, none, none, none, none, none, none, none, none, none, none, none, none, none, none, none, none, none, none, none, none, none, none], [none, none, none, none, some (.box 55 [.sl 1 cs.length (txsC cs), .sl 4 ls.length (lnksC ls)]), none, none, none, none, none, some (.gen 125 4 v0_0), none, none, none, none, none, none, none, none, none, none, none, none, none, none, none, none, none, none, none, none, none, none, none, none, none, none, none, none, none, none, none, none, none, none, none, none, none, none, none, none, none, none, none, none, none, none, none, none, none, none, none, none, none]⟩
def vc_clock_clash (J : Inv) (cs : List ByteArray) (ls : List Lnk) (sel : List Int) (i0 : Int) (m0 : Int) (post : DV → Prop) : Prop := cond (m0 == (0 : Int)) (∃ n, J 0 (n :: []) (mk_clock_clash_0 cs ls sel i0 m0 ([]) 0)) (False)
def ann_clock_clash : Ann := ⟨fun r => lookA r [(12, ([[], [], [1], [], [3], [1, 2, 3, 4], [], [6], [], [8], [0, 1, 2, 3, 4, 5, 6, 7, 8, 9], [0, 1, 2, 3, 4, 5, 6, 7, 8, 9, 10], [0, 1, 2, 3, 4, 5, 6, 7, 8, 9, 10, 11], [0, 1, 2, 3, 4, 5, 6, 7, 8, 9, 10, 11], [0, 1, 2, 3, 4, 5, 6, 7, 8, 9, 10, 11, 12], [0, 1, 2, 3, 4, 5, 6, 7, 8, 9, 10, 11, 12, 13, 14]], [[51, 53, 54, 59], [51, 53, 54, 59], [53, 54, 59], [51, 53, 54, 59], [51, 54, 59], [9999, 54], [51, 53, 54, 59], [51, 53, 54, 59], [51, 53, 54, 59], [51, 53, 54, 59], [], [], [], [], [], []]))], fun b => lookA b [(0, (none, some ⟨[1, 4, 18, 19, 20], [4], [(10, .gen 125 4 [])]⟩)), (2, (some 0, none))], fun _ => [], I1, false, fun _ => none, fun _ => none⟩
theorem ev_clock_clash (J : Inv) (cs : List ByteArray) (ls : List Lnk) (sel : List Int) (i0 : Int) (m0 : Int) (post : DV → Prop) : evFn Try.prog tab Scd110 ann_clock_clash J Try.f115 [.t (.a [.sl 1 cs.length (txsC cs), .sl 4 ls.length (lnksC ls)]), .t (.c (.sl 1 sel.length (intsC sel))), .t (.c (.v (.int .i64 i0))), .t (.c (.v (.int .i64 m0)))] post = vc_clock_clash J cs ls sel i0 m0 post := by kernel_rfl
theorem fit_clock_clash : okFn ann_clock_clash Try.f115 = true := by kernel_rfl
def rd_clock_clash_0 (J : Inv) (cs : List ByteArray) (ls : List Lnk) (sel : List Int) (i0 : Int) (m0 : Int) (v0_0 : List (List CV)) (v0_1 : Int) (nn0 : Nat) (post : DV → Prop) : Prop := cond (decide (v0_1 < ((sel.length : Nat) : Int))) ((0 ≤ v0_1 ∧ v0_1 < ((sel.length : Nat) : Int)) ∧ ((0 ≤ (sel.getD v0_1.toNat 0) ∧ (sel.getD v0_1.toNat 0) < ((ls.length : Nat) : Int)) ∧ ((roomP 32 (v0_0.length + ([[.v (.int .i64 ((lnkAt ls ((sel.getD v0_1.toNat 0).toNat)).frm)), .v (.int .i64 ((lnkAt ls ((sel.getD v0_1.toNat 0).toNat)).to)), .v (.int .i64 ((lnkAt ls ((sel.getD v0_1.toNat 0).toNat)).lo)), .v (.int .i64 ((lnkAt ls ((sel.getD v0_1.toNat 0).toNat)).hi))]] : List (List CV)).length)) ∧ (lt (IntKind.i64.wrap (v0_1 + (1 : Int))) fun x1 => J 0 (nn0 :: []) (mk_clock_clash_0 cs ls sel i0 m0 (v0_0 ++ ([[.v (.int .i64 ((lnkAt ls ((sel.getD v0_1.toNat 0).toNat)).frm)), .v (.int .i64 ((lnkAt ls ((sel.getD v0_1.toNat 0).toNat)).to)), .v (.int .i64 ((lnkAt ls ((sel.getD v0_1.toNat 0).toNat)).lo)), .v (.int .i64 ((lnkAt ls ((sel.getD v0_1.toNat 0).toNat)).hi))]] : List (List CV))) x1))))) ((numsP 4 v0_0.length (genC v0_0) ∧ bdOk ((cs.length : Nat) : Int) (listC v0_0.length mkLnk (genC v0_0))) ∧ (post (.tu [.c (.sl 1 sel.length (intsC sel)), .c (.v (.bool (!(bdB (listC v0_0.length mkLnk (genC v0_0)) (((cs.length : Nat) : Int)).toNat))))])))
theorem er_clock_clash_0 (J : Inv) (cs : List ByteArray) (ls : List Lnk) (sel : List Int) (i0 : Int) (m0 : Int) (v0_0 : List (List CV)) (v0_1 : Int) (nn0 : Nat) (post : DV → Prop) : round Try.prog tab Scd110 ann_clock_clash J Try.f115 post 0 (nn0 :: []) (mk_clock_clash_0 cs ls sel i0 m0 v0_0 v0_1) = rd_clock_clash_0 J cs ls sel i0 m0 v0_0 v0_1 nn0 post := by kernel_rfl
theorem lp_clock_clash (J : Inv) (post : DV → Prop) : AllG J (loopsFn Try.prog tab Scd110 ann_clock_clash J Try.f115 post) = (((∀ F s, ¬ J 0 (0 :: F) s) ∧ ∀ n F s, J 0 ((n + 1) :: F) s → round Try.prog tab Scd110 ann_clock_clash J Try.f115 post 0 (n :: F) s) ∧ True) := by kernel_rfl
def J_clock_clash (cs : List ByteArray) (ls : List Lnk) (sel : List Int) (i0 : Int) (m0 : Int) : Inv := fun b F s => match b, F with
 | 0, [nn0] => ∃ (v0_0 : List (List CV)) (v0_1 : Int), s = mk_clock_clash_0 cs ls sel i0 m0 v0_0 v0_1 ∧ (clP cs ls sel ∧ 0 ≤ v0_1 ∧ v0_1 ≤ sel.length ∧ (nn0 : Int) + v0_1 = sel.length + 1 ∧ v0_0 = (selL ls (sel.take v0_1.toNat)).map lnkCv)
 | _, _ => False
theorem rnd_clock_clash_0 (cs : List ByteArray) (ls : List Lnk) (sel : List Int) (i0 : Int) (m0 : Int) (v0_0 : List (List CV)) (v0_1 : Int) (nn0 : Nat) (hp : m0 = 0 ∧ clP cs ls sel) (hi : clP cs ls sel ∧ 0 ≤ v0_1 ∧ v0_1 ≤ sel.length ∧ ((nn0 + 1) : Int) + v0_1 = sel.length + 1 ∧ v0_0 = (selL ls (sel.take v0_1.toNat)).map lnkCv) : rd_clock_clash_0 (J_clock_clash cs ls sel i0 m0) cs ls sel i0 m0 v0_0 v0_1 nn0 (fun r => LeD r (.tu [.c (.sl 1 sel.length (intsC sel)), .c (.v (.bool (!bdB (selL ls sel) (cs).length)))])) := by
 obtain ⟨q, i1, i2, i3, i4⟩ := hi
 obtain ⟨k, rfl⟩ : ∃ k : Nat, v0_1 = k := ⟨v0_1.toNat, by omega⟩
 have hk : (k : Int).toNat = k := rfl
 rw [hk] at i4
 unfold rd_clock_clash_0
 rw [hk]
 refine cond_i (fun h => ?_) (fun h => ?_)
 ·have hlt : k < sel.length := by have := of_decide_eq_true h; omega
  have b := q.2.2 k hlt
  refine ⟨by omega, b, ?_, lt_i fun x hx => ?_⟩
  ·unfold roomP maxLen; rw [i4]; have := q.2.1; simp [selL]; omega
  ·rw [wi (by have := q.2.1; omega)] at hx
   subst hx
   refine ⟨_, _, rfl, q, by omega, by omega, by omega, ?_⟩
   rw [show ((k : Int) + 1).toNat = k + 1 by omega, List.take_add_one, i4, List.getElem?_eq_getElem hlt, selL, selL, List.map_append, List.map_append]
   simp [List.getD, hlt, lnkCv]
 ·have h := of_decide_eq_false h
  obtain rfl : k = sel.length := by omega
  rw [List.take_length] at i4
  subst i4
  have z := ntE_bd q.1
  refine ⟨⟨numsP_lnkg _, ?_⟩, ?_⟩
  ·rw [lnkg_listC]
   exact ⟨z.1, by rw [sel_len]; exact q.2.1, sel_ok z.2.2 q.2.2⟩
  ·rw [lnkg_listC]
   exact LeD.refl _
theorem zero_clock_clash_0 (cs : List ByteArray) (ls : List Lnk) (sel : List Int) (i0 : Int) (m0 : Int) (v0_0 : List (List CV)) (v0_1 : Int)  (hi : clP cs ls sel ∧ 0 ≤ v0_1 ∧ v0_1 ≤ sel.length ∧ (0 : Int) + v0_1 = sel.length + 1 ∧ v0_0 = (selL ls (sel.take v0_1.toNat)).map lnkCv) : False := by
 omega
theorem spec_clock_clash (cs : List ByteArray) (ls : List Lnk) (sel : List Int) (i0 : Int) (m0 : Int) (hp : m0 = 0 ∧ clP cs ls sel) : vc_clock_clash (J_clock_clash cs ls sel i0 m0) cs ls sel i0 m0 (fun r => LeD r (.tu [.c (.sl 1 sel.length (intsC sel)), .c (.v (.bool (!bdB (selL ls sel) (cs).length)))])) := by
 unfold vc_clock_clash
 refine cond_i (fun h => ?_) (fun h => ?_)
 ·exact ⟨sel.length + 1, [], 0, rfl, hp.2, by omega, by omega, by omega, rfl⟩
 ·exact absurd hp.1 (by simpa using h)
theorem all_clock_clash (cs : List ByteArray) (ls : List Lnk) (sel : List Int) (i0 : Int) (m0 : Int) (hp : m0 = 0 ∧ clP cs ls sel) : AllG (J_clock_clash cs ls sel i0 m0) (loopsFn Try.prog tab Scd110 ann_clock_clash (J_clock_clash cs ls sel i0 m0) Try.f115 (fun r => LeD r (.tu [.c (.sl 1 sel.length (intsC sel)), .c (.v (.bool (!bdB (selL ls sel) (cs).length)))]))) := by
 rw [lp_clock_clash]
 refine ⟨⟨?_, ?_⟩, trivial⟩
 ·intro F s h
  obtain _ | ⟨g, F⟩ := F
  case cons => exact h.elim
  obtain ⟨w0, w1, rfl, hi⟩ := h
  exact zero_clock_clash_0 cs ls sel i0 m0 w0 w1 hi
 ·intro n F s h
  obtain _ | ⟨g, F⟩ := F
  case cons => exact h.elim
  obtain ⟨w0, w1, rfl, hi⟩ := h
  rw [er_clock_clash_0]
  exact rnd_clock_clash_0 cs ls sel i0 m0 _ _ _ hp hi
def con_clock_clash : Con := fun args => match args with
 | [.t (.a [.sl 1 n_cs c_cs, .sl 4 n_ls c_ls]), .t (.c (.sl 1 n_sel c_sel)), .t (.c (.v (.int .i64 i0))), .t (.c (.v (.int .i64 m0)))] => some (.tu [.c (.sl 1 ((listC n_sel mkInt c_sel).length) (intsC (listC n_sel mkInt c_sel))), .c (.v (.bool (!bdB (selL (listC n_ls mkLnk c_ls) (listC n_sel mkInt c_sel)) ((txOf n_cs c_cs)).length)))], some (txP n_cs c_cs ∧ numsP 4 n_ls c_ls ∧ numsP 1 n_sel c_sel ∧ m0 = 0 ∧ clP (txOf n_cs c_cs) (listC n_ls mkLnk c_ls) (listC n_sel mkInt c_sel)), false)
 | _ => none
theorem ok_clock_clash : Ok Try.prog 115 con_clock_clash := by
 refine Ok.fn (ann := ann_clock_clash) mixed tabOK VScd110 VI1 (fn := Try.f115) (by kernel_rfl) (by kernel_rfl) fit_clock_clash fun args r pre fresh h hp => ?_
 unfold con_clock_clash at h
 split at h
 ·rename_i n_cs c_cs n_ls c_ls n_sel c_sel i0 m0
  cases h
  obtain ⟨hp0, hp1, hp2, hp⟩ := hp
  refine ⟨rfl, J_clock_clash (txOf n_cs c_cs) (listC n_ls mkLnk c_ls) (listC n_sel mkInt c_sel) i0 m0, [.t (.a [.sl 1 ((txOf n_cs c_cs).length) (txsC (txOf n_cs c_cs)), .sl 4 ((listC n_ls mkLnk c_ls).length) (lnksC (listC n_ls mkLnk c_ls))]), .t (.c (.sl 1 ((listC n_sel mkInt c_sel).length) (intsC (listC n_sel mkInt c_sel)))), .t (.c (.v (.int .i64 i0))), .t (.c (.v (.int .i64 m0)))], ?_, Nat.le_of_ble_eq_true (by kernel_rfl), ?_, ?_⟩
  ·exact (LeA_cons (leT_a (LeCs.cons ((leL_str hp0)) (LeCs.cons ((leL_Lnk hp1)) LeCs.nil))) (LeA_cons (leT_c ((leL_int hp2))) (LeA_cons (LeD.refl _) (LeA_cons (LeD.refl _) LeA_nil))))
  ·rw [ev_clock_clash]; exact spec_clock_clash (txOf n_cs c_cs) (listC n_ls mkLnk c_ls) (listC n_sel mkInt c_sel) i0 m0 hp
  ·exact all_clock_clash (txOf n_cs c_cs) (listC n_ls mkLnk c_ls) (listC n_sel mkInt c_sel) i0 m0 hp
 ·cases h
def Sf0111 : Sum := addS Scd110 115 con_clock_clash
theorem VSf0111 : Valid Try.prog Sf0111 := Valid.add VScd110 ok_clock_clash
end Go.Proofs.Ytkifmfmenobhnaa
set_option linter.unusedVariables false
set_option linter.unusedSimpArgs false
namespace Go.Proofs.Ytkifmfmenobhnaa
open Go.RowKit Ev
def grI (f : Nat → List Int × Bool) : Nat → Nat → List Int × Bool
 | 0, _ => ([], false)
 | k + 1, i => if (f i).2 = true then ((f i).1, true) else grI f k (i + 1)
def grow (ls : List Lnk) (n : Nat) : Nat → List Int → Nat → List Int × Bool
 | 0, s, _ => (s, !bdB (selL ls s) n)
 | m + 1, s, i0 => grI (fun i => grow ls n m (s ++ [(i : Int)]) (i + 1)) (ls.length - i0) i0
theorem grI_skip {f : Nat → List Int × Bool} : ∀ (k n i : Nat), k ≤ n → (∀ j, i ≤ j → j < i + k → (f j).2 = false) → grI f n i = grI f (n - k) (i + k)
 | 0, n, i, _, _ => rfl
 | k + 1, n + 1, i, hk, h => by
  rw [grI, if_neg (by rw [h i (by omega) (by omega)]; simp), grI_skip k n (i + 1) (by omega) fun j h1 h2 => h j (by omega) (by omega)]
  rw [show n + 1 - (k + 1) = n - k by omega, show i + 1 + k = i + (k + 1) by omega]
 | k + 1, 0, i, hk, _ => by omega
theorem grow_hit {ls : List Lnk} {n m : Nat} {s : List Int} {i0 k : Nat} (h0 : i0 ≤ k) (hk : k < ls.length) (h : ∀ j, i0 ≤ j → j < k → (grow ls n m (s ++ [(j : Int)]) (j + 1)).2 = false) (hh : (grow ls n m (s ++ [(k : Int)]) (k + 1)).2 = true) : grow ls n (m + 1) s i0 = ((grow ls n m (s ++ [(k : Int)]) (k + 1)).1, true) := by
 rw [grow, grI_skip (k - i0) _ _ (by omega) fun j h1 h2 => h j h1 (by omega)]
 rw [show ls.length - i0 - (k - i0) = (ls.length - k - 1) + 1 by omega, show i0 + (k - i0) = k by omega, grI, if_pos hh]
theorem grow_none {ls : List Lnk} {n m : Nat} {s : List Int} {i0 : Nat} (h0 : i0 ≤ ls.length) (h : ∀ j, i0 ≤ j → j < ls.length → (grow ls n m (s ++ [(j : Int)]) (j + 1)).2 = false) : grow ls n (m + 1) s i0 = ([], false) := by
 rw [grow, grI_skip (ls.length - i0) _ _ (by omega) fun j h1 h2 => h j h1 (by omega)]
 rw [show ls.length - i0 - (ls.length - i0) = 0 by omega, grI]
theorem clP.more {cs : List ByteArray} {ls : List Lnk} {s : List Int} {k : Nat} (h : clP cs ls s) (hs : s.length + 1 ≤ 12) (hk : k < ls.length) : clP cs ls (s ++ [(k : Int)]) := by
 refine ⟨h.1, by simpa using hs, fun j hj => ?_⟩
 rcases Nat.lt_or_ge j s.length with c | c
 ·have := h.2.2 j c
  simpa [List.getD, List.getElem?_append_left c] using this
 ·have e : j = s.length := by simp at hj; omega
  subst e
  simp [List.getD]
  omega
def GrC (cs : List ByteArray) (ls : List Lnk) (m : Nat) : Prop := ∀ (W : World) (N : Nat → Prop) (sel : List Int) (i0 : Nat) (v x0 x1 : Value), Gd W → clP cs ls sel → sel.length + m ≤ 12 → i0 ≤ ls.length → RelF W N (.sl 1 cs.length (txsC cs)) x0 → RelF W N (.sl 4 ls.length (lnksC ls)) x1 → RelF W N (.sl 1 sel.length (intsC sel)) v → Calls Try.prog 115 #[.agg #[x0, x1], v, .int .i64 i0, .int .i64 m] W fun e W' => ∃ u, e = .returned (.tuple #[u, .bool (grow ls cs.length m sel i0).2]) ∧ RelF W' (resN W N .no) (.sl 1 (grow ls cs.length m sel i0).1.length (intsC (grow ls cs.length m sel i0).1)) u ∧ Below W.heap.size W W'
theorem clash_zero (cs : List ByteArray) (ls : List Lnk) : GrC cs ls 0 := by
 intro W N sel i0 v x0 x1 hG hp hm hi h0 h1 hv
 have h := (ok_clock_clash [.t (.a [.sl 1 cs.length (txsC cs), .sl 4 ls.length (lnksC ls)]), .t (.c (.sl 1 sel.length (intsC sel))), .t (.c (.v (.int .i64 i0))), .t (.c (.v (.int .i64 ((0 : Nat) : Int))))] _ _ _ rfl ?_).2 W N [.agg #[x0, x1], v, .int .i64 i0, .int .i64 ((0 : Nat) : Int)] hG ?_
 ·refine h.mono ?_
  rintro e w' ⟨u, rfl, hr, hb⟩
  obtain ⟨vs, rfl, g⟩ := hr
  obtain ⟨u0, us, rfl, g0, g⟩ := g.cons_inv
  obtain ⟨u1, us, rfl, g1, g⟩ := g.cons_inv
  obtain rfl := g.nil_inv
  obtain ⟨rfl, _⟩ := g1
  simp only [lnks_listC, txs_of, ints_listC] at *
  exact ⟨u0, rfl, g0, hb⟩
 ·simp only [lnks_listC, txs_of, ints_listC]
  exact ⟨txP_txs cs, numsP_lnks ls, numsP_ints sel, rfl, hp⟩
 ·exact ⟨⟨[x0, x1], rfl, h0, h1, trivial⟩, hv, ⟨rfl, rfl⟩, ⟨rfl, rfl⟩, trivial⟩
end Go.Proofs.Ytkifmfmenobhnaa
set_option linter.unusedVariables false
set_option linter.unusedSimpArgs false
namespace Go.Proofs.Ytkifmfmenobhnaa
open Go.RowKit Ev
theorem wpList_append_clip {P : Program} {ops : Array Oper} {rest : List Oper} {o : Oper} {a : Act} {Q : Exit → Act → World → Prop} {w wb : World} (hB : Below wb.heap.size wb w) (hgd : o.guard = none) (s x : Operand) (t : TypeId)
  (ho : o.op = .call { callee := .builtin .append, args := #[s, x], argTypes := #[t, t] }) {e : TypeId} {sz bytes : Nat} (E : Elem P t e sz bytes)
  (ao : Option Addr) (n : Nat) (olds : List Value) (hs : a.eval s = .slice ao n n) (hnone : ao = none → n = 0) (hlo : olds.length = n * sz) (holds : ∀ b, ao = some b → ∀ j u, olds[j]? = some u → w.cell? (b.add j) = some u)
  (us : List Value) (hul : us.length = sz) (h1 : ∀ u ∈ us, u.oneCell' = true) (ad : Addr) (hx : a.eval x = .slice (some ad) 1 1) (hc : ∀ j u, us[j]? = some u → w.cell? (ad.add j) = some u)
  (hb : (n + 1) * bytes ≤ 140737488355328) (hn : n + 1 ≤ maxLen)
  (h : ∀ v' w', w'.ownsRow wb.heap.size e sz v' (n + 1) (olds ++ us) → Below wb.heap.size wb w' → wpList P ops Q rest (a.put o.dst v') w') : wpList P ops Q (o :: rest) a w := by
 obtain ⟨i, z, ht, hi, hz, hsize, hby, hzs, hsz⟩ := E
 refine wpList_append_grows w hgd s x t ho e i z sz bytes ht hi hz hsize hby hzs hsz ao n n olds hs (fun h => ⟨hnone h, hnone h⟩) hlo holds ad 1 1 us hx (by omega) hc h1 (by omega) hn hb ?_
 intro v' w' g1 g2
 refine h v' w' (ownsRow_base g1 hB.size) (hB.trans ?_)
 exact ⟨g2.os, g2.tape, g2.output, g2.size, fun j hj => g2.block j (by have := hB.size; omega) (by simp)⟩
theorem walk_Clip (W : World) (ao : Option Addr) (n cap : Nat) (hn : ao = none → n = 0) (hc : n ≤ cap) (hm : cap ≤ maxLen) :
  Calls Try.prog 132 #[.slice ao n cap] W fun e W' => e = .returned (.slice ao n n) ∧ Below W.heap.size W W' := by
 go_enter Try.func132, Try.ntmps132
 go_wp2_with fail
 ((try simp only [Exit.inBlock, Exit.then]); refine bodyPost_ret (v := .slice ao n n) ?_ rfl ?_; (next => simp [results, Try.results132, go_sem]); refine ⟨?_, ?_⟩; (next => rfl); (next => exact BelowA))
theorem cur_cellC {w : World} {g i m : Nat} {cur : Array Value} {e : TypeId} {xs : List Int} (hg : w.heap[g]? = some (.cells cur e (0, 0))) (htk : cur.toList.take (m * 1) = xs.map (Value.int .i64)) (hx : xs.length = m) (hi : i < m) : w.cell? ⟨g, i, none⟩ = some (.int .i64 (xs.getD i 0)) := by
 rw [cell_of_row w g i cur e (0, 0) hg]
 have e1 : (cur.toList.take (m * 1))[i]? = some (.int .i64 (xs.getD i 0)) := by rw [htk]; simp [List.getD, show i < xs.length by omega]
 rw [List.getElem?_take] at e1
 split at e1
 ·simpa using e1
 ·cases e1
theorem own_relF {w w' : World} {N : Nat → Prop} {base : Nat} {e : TypeId} {v : Value} {L : List Int} (h : w'.ownsRow base e 1 v L.length (L.map (Value.int .i64))) (hb : w.heap.size ≤ base) : RelF w' (resN w N .no) (.sl 1 L.length (intsC L)) v := by
 rcases h.2 with ⟨rfl, h0⟩ | ⟨g, oc, cur, rfl, hbg, hgc, hmc, hcm, hcs, htk⟩
 ·exact ⟨none, 0, by rw [h0], by omega, by unfold maxLen; omega, fun _ => rfl, fun q => by omega⟩
 ·refine ⟨some ⟨g, 0, none⟩, oc, rfl, hmc, hcm, (fun q => by cases q), fun _ => ⟨g, 0, rfl, (Array.getElem?_eq_some_iff.1 hgc).1, Or.inr (by omega), fun i j hi hj => ?_⟩⟩
  have c := cur_cellC hgc htk rfl hi
  refine ⟨_, by rw [show 0 + i * 1 + j = i by omega]; exact c, rfl, rfl⟩
theorem relF_below {W w : World} {N : Nat → Prop} {x : CV} {v : Value} (h : RelF W N x v) (hb : Below W.heap.size W w) : RelF w (resN W N .no) x v :=
 RelF.mono hb.size (fun b _ h2 off => hb.cell (p := ⟨b, off, none⟩) h2) (fun b hN _ => Or.inl ⟨rfl, hN⟩) x h
theorem relF_res {W w w' : World} {N : Nat → Prop} {x : CV} {v : Value} (hs : W.heap.size ≤ w.heap.size) (h : RelF w' (resN w (resN W N .no) .no) x v) : RelF w' (resN W N .no) x v :=
 RelF.all h fun b hb => by
  rcases hb with ⟨_, h⟩ | h
  ·exact h
  ·exact Or.inr (by omega)
set_option maxRecDepth 100000 in
set_option maxHeartbeats 2000000 in
theorem clash_succ (cs : List ByteArray) (ls : List Lnk) (m : Nat) (IH : Hid (GrC cs ls m)) : GrC cs ls (m + 1) := by
 intro W N sel i0 v x0 x1 hG hp hm hi h0 h1 hv
 have HG := hid hG
 have HP := hid hp
 have hl12 : ls.length ≤ 12 := (ntE_bd hp.1).2.1
 have H0 := hid h0
 have H1 := hid h1
 obtain ⟨aoC, capC, hx0, hc1, hc2, _⟩ := h0
 subst hx0
 obtain ⟨aoL, capL, hx1, hl1, hl2, _⟩ := h1
 subst hx1
 obtain ⟨ao, cap, hv1, hcap, hmx, hnil, hcells⟩ := hv
 subst hv1
 have hn0 : ao = none → sel.length = 0 := fun e => by have := hnil e; omega
 have HO : Hid (∀ w', Below W.heap.size W w' → ∀ b, ao = some b → ∀ j u, (sel.map (Value.int .i64))[j]? = some u → w'.cell? (b.add j) = some u) := hid fun w' hw b hb j u hu => by
  have hj : j < sel.length := by have := (List.getElem?_eq_some_iff.1 hu).1; simpa using this
  obtain ⟨b', off, e1, e2, e3, e4⟩ := hcells (by omega)
  rw [hb] at e1
  cases e1
  obtain ⟨x, y1, y2⟩ := e4 j 0 hj (by omega)
  obtain ⟨rfl, _⟩ := y2
  rw [Addr.add_lit, hw.cell (p := ⟨b', off + j, none⟩) e2]
  rw [show off + j * 1 + 0 = off + j by omega] at y1
  rw [y1, ← hu]
  simp [List.getD, hj]
 clear hcells hnil hG hp
 have HCAP := hid hcap
 obtain ⟨q, hq⟩ : ∃ q : Int, q = ((m + 1 : Nat) : Int) := ⟨_, rfl⟩
 rw [← hq]
 have hq0 : (q == 0) = false := by simp; omega
 have hq1 : 1 ≤ q := by omega
 have hq2 : q ≤ 12 := by omega
 have HQ := hid hq
 clear hq
 go_enter Try.func115, Try.ntmps115
 go_wp2_with fail
 (try simp only [hq0])
 obtain ⟨W0, hW0⟩ : ∃ W0, W0 = W.alloc (.cells #[.slice aoC cs.length capC, .slice aoL ls.length capL] 55) := ⟨_, rfl⟩
 have r0 : W0.cell? ⟨W.heap.size, 0, none⟩ = some (.slice aoC cs.length capC) := by rw [hW0]; simp
 have r1 : W0.cell? ⟨W.heap.size, 1, none⟩ = some (.slice aoL ls.length capL) := by rw [hW0]; simp
 have hk0 : W.heap.size < W0.heap.size := by rw [hW0]; simp
 have hBW : Below W.heap.size W W0 := by rw [hW0]; exact BelowA
 rw [← hW0]
 clear hW0
 have HK0 := hid hk0
 have HBW := hid hBW
 have HR0 := hid r0
 have HR1 := hid r1
 clear r0 r1 hBW
 go_loopw [13] (fun i wr => ∃ k : Nat, i0 ≤ k ∧ k ≤ ls.length ∧ i = .int .i64 k ∧ Below W0.heap.size W0 wr ∧ Hid (∀ j, i0 ≤ j → j < k → (grow ls cs.length m (sel ++ [(j : Int)]) (j + 1)).2 = false)) (fun i _ => ls.length - (intOf i).toNat)
 case atStart => exact ⟨i0, Nat.le_refl _, hi, rfl, Below.refl _ _, hid fun j h1 h2 => by omega⟩
 case round =>
  obtain ⟨k, hk1, hk2, rfl, hB, HF⟩ := hrel
  have HB := hid hB
  obtain ⟨hcb, hfb⟩ := bcell hB
  have c0 := (hcb _ 0 hk0).trans HR0.out
  have c1 := (hcb _ 1 hk0).trans HR1.out
  have hkw : W.heap.size < wr.heap.size := Nat.lt_of_lt_of_le hk0 hB.size
  have hBr : Below W.heap.size W wr := HBW.out.trans (hB.mono HBW.out.size)
  have HBR := hid hBr
  clear hcb hfb hB hBr
  by_cases hlt : k < ls.length
  ·obtain ⟨G, hG⟩ : ∃ G, G = grow ls cs.length m (sel ++ [(k : Int)]) (k + 1) := ⟨_, rfl⟩
   have HGR := hid hG
   have HIH : Hid (∀ (w4 : World) (v4 : Value) (base : Nat), Below W.heap.size W w4 → W.heap.size ≤ base → w4.ownsRow base 3 1 v4 (sel.length + 1) (sel.map (Value.int .i64) ++ [.int .i64 k]) → Calls Try.prog 115 #[.agg #[.slice aoC cs.length capC, .slice aoL ls.length capL], v4, .int .i64 (k + 1), .int .i64 (q - 1)] w4 fun e W' => ∃ u, e = .returned (.tuple #[u, .bool G.2]) ∧ RelF W' (resN W N .no) (.sl 1 G.1.length (intsC G.1)) u ∧ Below w4.heap.size w4 W') := by
    refine hid fun w4 v4 base hw hb ho => ?_
    rw [show q - 1 = (m : Int) by have := HQ.out; omega]
    have ho' : w4.ownsRow base 3 1 v4 (sel ++ [(k : Int)]).length ((sel ++ [(k : Int)]).map (Value.int .i64)) := by simpa using ho
    refine (IH.out w4 (resN W N .no) (sel ++ [(k : Int)]) (k + 1) v4 _ _ (HG.out.below hw) (HP.out.more (by omega) hlt) (by simp; omega) (by omega) (relF_below H0.out hw) (relF_below H1.out hw) (own_relF ho' hb)).mono ?_
    rintro e w' ⟨u, rfl, hr, hb'⟩
    rw [← HGR.out] at hr
    exact ⟨u, by rw [← HGR.out], relF_res hw.size hr, hb'⟩
   obtain ⟨g1, g2⟩ := G
   simp only at HIH
   have HCK := hid hkw
   have hmr : m ≤ 12 := by omega
   have hk12 : k < 12 := by omega
   have hs12 : sel.length ≤ 12 := by omega
   clear hG
   go_wp2_with fail
   refine wp_mixC (fun wc => Below (wr.heap.size) wr wc) 15 [.q [0, 1, 3, 6, 7, 8, 9], .p 2 4, .f [5, 10], .q [11, 12, 13, 14]] [.q [15]] (by kernel_rfl) (by kernel_rfl) ((Below.refl _ _).drew) ?_
   intro Q' hQ'
   (rw [wpMixC]; simp only [pick, List.drop_succ_cons, List.drop_zero, List.head?_cons, Option.toList_some, List.cons_append, List.nil_append])
   (repeat (first | go_big_quiet_skip | (go_big_quiet_want; refine quiet_simple rfl ?_; go_big_quiet_op; go_big_quiet_on) | (go_big_quiet_want; refine quiet_agg2B (ty := 55) rfl rfl (by kernel_rfl) (by assumption) (by assumption) (by first | omega | (simp; omega)) ?_; simp only [Act.put, List.setIfInBounds_toArray, List.set_cons_succ, List.set_cons_zero]; go_big_quiet_on)))
   (try refine wpQuiet_nil ?_)
   (rw [wpMixC]; simp only [pick, List.drop_succ_cons, List.drop_zero, List.head?_cons, Option.toList_some, List.cons_append, List.nil_append])
   (refine ⟨?_, ?_⟩)
   all_goals (rw [wpSteps]; go_wp2_with (first | (go_at_call 132; refine (walk_Clip _ ao sel.length cap hn0 HCAP.out hmx).mono ?_; rintro _ w3 ⟨rfl, hb3⟩) | (at_builtin; refine wpList_append_clip (wb := wr) (by exact BelowA) rfl (.tmp 51) (.tmp 53) _ rfl elemInt ao sel.length (sel.map (Value.int .i64)) rfl hn0 (by simp) (HO.out _ (HBR.out.trans (Below.mono (show Below wr.heap.size wr _ by exact BelowA) (Nat.le_of_lt HCK.out)))) [.int .i64 k] rfl (by simp [Value.oneCell']) _ rfl (by first | exact World.news_of_block (cs := #[.int .i64 k]) (heap_alloc_new _ _) | exact World.news_of_block (cs := #[.int .i64 k]) ((hb3.block _ (by simp)).trans (heap_alloc_new _ _))) (by omega) (by unfold maxLen; omega) ?_; intro v4 w4 hown4 hq4) | (go_at_call 115; refine (HIH.out _ v4 _ (HBR.out.trans (hq4.mono (Nat.le_of_lt HCK.out))) (Nat.le_of_lt HCK.out) hown4).mono ?_; rintro _ w5 ⟨u5, rfl, hr5, hb5⟩)); rw [contF]; refine ⟨?_, ?_⟩; (next => exact BelowA))
   all_goals (rw [wpSteps]; go_wp2_with (first | (go_at_call 132; refine (walk_Clip _ ao sel.length cap hn0 HCAP.out hmx).mono ?_; rintro _ w3 ⟨rfl, hb3⟩) | (at_builtin; refine wpList_append_clip (wb := wr) (by exact BelowA) rfl (.tmp 51) (.tmp 53) _ rfl elemInt ao sel.length (sel.map (Value.int .i64)) rfl hn0 (by simp) (HO.out _ (HBR.out.trans (Below.mono (show Below wr.heap.size wr _ by exact BelowA) (Nat.le_of_lt HCK.out)))) [.int .i64 k] rfl (by simp [Value.oneCell']) _ rfl (by first | exact World.news_of_block (cs := #[.int .i64 k]) (heap_alloc_new _ _) | exact World.news_of_block (cs := #[.int .i64 k]) ((hb3.block _ (by simp)).trans (heap_alloc_new _ _))) (by omega) (by unfold maxLen; omega) ?_; intro v4 w4 hown4 hq4) | (go_at_call 115; refine (HIH.out _ v4 _ (HBR.out.trans (hq4.mono (Nat.le_of_lt HCK.out))) (Nat.le_of_lt HCK.out) hown4).mono ?_; rintro _ w5 ⟨u5, rfl, hr5, hb5⟩)); rw [contF]; refine ⟨?_, ?_⟩; (next => exact BelowA))
   all_goals (rw [wpSteps])
   all_goals (rw [wpMixC]; simp only [pick, List.drop_succ_cons, List.drop_zero, List.head?_cons, Option.toList_some, List.cons_append, List.nil_append])
   all_goals (rw [wpSteps]; go_wp2_with (first | (go_at_call 132; refine (walk_Clip _ ao sel.length cap hn0 HCAP.out hmx).mono ?_; rintro _ w3 ⟨rfl, hb3⟩) | (at_builtin; refine wpList_append_clip (wb := wr) (by exact BelowA) rfl (.tmp 51) (.tmp 53) _ rfl elemInt ao sel.length (sel.map (Value.int .i64)) rfl hn0 (by simp) (HO.out _ (HBR.out.trans (Below.mono (show Below wr.heap.size wr _ by exact BelowA) (Nat.le_of_lt HCK.out)))) [.int .i64 k] rfl (by simp [Value.oneCell']) _ rfl (by first | exact World.news_of_block (cs := #[.int .i64 k]) (heap_alloc_new _ _) | exact World.news_of_block (cs := #[.int .i64 k]) ((hb3.block _ (by simp)).trans (heap_alloc_new _ _))) (by omega) (by unfold maxLen; omega) ?_; intro v4 w4 hown4 hq4) | (go_at_call 115; refine (HIH.out _ v4 _ (HBR.out.trans (hq4.mono (Nat.le_of_lt HCK.out))) (Nat.le_of_lt HCK.out) hown4).mono ?_; rintro _ w5 ⟨u5, rfl, hr5, hb5⟩)); rw [contF]; refine ⟨?_, ?_⟩; (next => exact BelowA))
   all_goals (rw [wpSteps]; go_wp2_with (first | (go_at_call 132; refine (walk_Clip _ ao sel.length cap hn0 HCAP.out hmx).mono ?_; rintro _ w3 ⟨rfl, hb3⟩) | (at_builtin; refine wpList_append_clip (wb := wr) (by exact BelowA) rfl (.tmp 51) (.tmp 53) _ rfl elemInt ao sel.length (sel.map (Value.int .i64)) rfl hn0 (by simp) (HO.out _ (HBR.out.trans (Below.mono (show Below wr.heap.size wr _ by exact BelowA) (Nat.le_of_lt HCK.out)))) [.int .i64 k] rfl (by simp [Value.oneCell']) _ rfl (by first | exact World.news_of_block (cs := #[.int .i64 k]) (heap_alloc_new _ _) | exact World.news_of_block (cs := #[.int .i64 k]) ((hb3.block _ (by simp)).trans (heap_alloc_new _ _))) (by omega) (by unfold maxLen; omega) ?_; intro v4 w4 hown4 hq4) | (go_at_call 115; refine (HIH.out _ v4 _ (HBR.out.trans (hq4.mono (Nat.le_of_lt HCK.out))) (Nat.le_of_lt HCK.out) hown4).mono ?_; rintro _ w5 ⟨u5, rfl, hr5, hb5⟩)); rw [contF]; refine ⟨?_, ?_⟩; (next => exact BelowA))
   all_goals (rw [wpSteps])
   all_goals (rw [wpMixC]; simp only [pick, List.drop_succ_cons, List.drop_zero, List.head?_cons, Option.toList_some, List.cons_append, List.nil_append])
   all_goals (repeat (first | go_big_quiet_skip | (go_big_quiet_want; refine quiet_simple rfl ?_; go_big_quiet_op; go_big_quiet_on) | (go_big_quiet_want; refine quiet_agg2B (ty := 55) rfl rfl (by kernel_rfl) (by assumption) (by assumption) (by first | omega | (simp; omega)) ?_; simp only [Act.put, List.setIfInBounds_toArray, List.set_cons_succ, List.set_cons_zero]; go_big_quiet_on)))
   all_goals (try refine wpQuiet_nil ?_)
   all_goals (rw [wpMixC])
   all_goals (rw [wpMix]; simp only [pick, List.drop_succ_cons, List.drop_zero, List.head?_cons, Option.toList_some, List.cons_append, List.nil_append])
   all_goals (repeat (first | (go_big_quiet_step (fail)) | (quiet_step (fail))))
   all_goals (try refine wpQuiet_nil ?_)
   all_goals (rw [wpMix])
   all_goals (refine hQ' _ _ ?_)
   all_goals
    have hB5 : Below wr.heap.size wr w5 := hq4.trans (hb5.mono hq4.size)
    have HR5 := hid hr5
    have HB5 := hid hB5
    clear hr5 hB5 hq4 hb5 hown4 hb3 c0 c1
    cases g2 with
    | true =>
     go_wp2_with fail
     ((try simp only [Exit.inBlock, Exit.then]); refine bodyPost_ret (v := .tuple #[u5, .bool true]) ?_ rfl ?_; (next => simp [results, Try.results115, go_sem]))
     have e := grow_hit (n := cs.length) (m := m) (s := sel) hk1 hlt HF.out (by rw [← HGR.out])
     rw [← HGR.out] at e
     rw [e]
     exact ⟨_, rfl, HR5.out, HBR.out.trans (HB5.out.mono (Nat.le_of_lt HCK.out))⟩
    | false =>
     go_wp2_with fail
     go_roundw
     case rel =>
      refine ⟨k + 1, by omega, by omega, by go_num, HB.out.trans (HB5.out.mono HB.out.size), hid fun j h1 h2 => ?_⟩
      rcases Nat.lt_or_ge j k with c | c
      ·exact HF.out j h1 c
      ·obtain rfl : j = k := by omega
       rw [← HGR.out]
     case measure => simp [intOf]; omega
  ·have e : k = ls.length := by omega
   subst e
   go_wp2_with fail
   ((try simp only [Exit.inBlock, Exit.then]); refine bodyPost_ret (v := .tuple #[.slice none 0 0, .bool false]) ?_ rfl ?_; (next => simp [results, Try.results115, go_sem]))
   have e := grow_none (n := cs.length) (m := m) (s := sel) hk1 HF.out
   rw [e]
   exact ⟨_, rfl, ⟨none, 0, rfl, Nat.le_refl _, by unfold maxLen; omega, fun _ => rfl, fun q => absurd q (by simp)⟩, HBR.out⟩
end Go.Proofs.Ytkifmfmenobhnaa
set_option linter.unusedVariables false
set_option linter.unusedSimpArgs false
namespace Go.Proofs.Ytkifmfmenobhnaa
open Go.RowKit Ev
theorem elemLnk : Elem Try.prog 53 125 4 32 := Elem.mk (z := .agg #[.int .i64 0, .int .i64 0, .int .i64 0, .int .i64 0]) Try.underlying53 (by kernel_rfl) rfl (by decide)
def hasK (q : Int) (x : Lnk) : Bool := x.frm == q || x.to == q
def lnkV (x : Lnk) : Value := .agg #[.int .i64 x.frm, .int .i64 x.to, .int .i64 x.lo, .int .i64 x.hi]
set_option maxRecDepth 100000 in
theorem walk_Named1 (W : World) (B : Nat) (q : Int) (x : Lnk) (hB : B < W.heap.size) (hq : W.cell? ⟨B, 0, none⟩ = some (.int .i64 q)) :
  Calls Try.prog 119 #[lnkV x, .pointer (some ⟨B, 0, none⟩)] W fun e W' => e = .returned (.bool (hasK q x)) ∧ Below W.heap.size W W' := by
 obtain ⟨a, b, c, d⟩ := x
 unfold lnkV
 simp only
 have hne : ¬ (B = W.heap.size) := by omega
 by_cases h1 : a = q
 ·subst h1
  go_enter Try.func119, Try.ntmps119
  go_wp2_with fail
  ((try simp only [Exit.inBlock, Exit.then]); refine bodyPost_ret (v := .bool true) ?_ rfl ?_; (next => simp [results, Try.results119, go_sem]))
  exact ⟨by simp [hasK], by exact BelowA⟩
 ·have h1' : (a == q) = false := by simpa using h1
  go_enter Try.func119, Try.ntmps119
  go_wp2_with fail
  ((try simp only [Exit.inBlock, Exit.then]); refine bodyPost_ret (v := .bool (b == q)) ?_ rfl ?_; (next => simp [results, Try.results119, go_sem]))
  exact ⟨by simp [hasK, h1'], by exact BelowA⟩
def LnkAt (W : World) (ao : Option Addr) (l : List Lnk) : Prop := ∀ k, k < l.length → ∃ b off, ao = some ⟨b, off, none⟩ ∧ b < W.heap.size ∧ W.cell? ⟨b, off + k * 4, none⟩ = some (.int .i64 (lnkAt l k).frm) ∧ W.cell? ⟨b, off + k * 4 + 1, none⟩ = some (.int .i64 (lnkAt l k).to) ∧ W.cell? ⟨b, off + k * 4 + 2, none⟩ = some (.int .i64 (lnkAt l k).lo) ∧ W.cell? ⟨b, off + k * 4 + 3, none⟩ = some (.int .i64 (lnkAt l k).hi)
def FirstK (q : Int) (l : List Lnk) (r : Int) : Prop := (r = -1 ∧ ∀ j, j < l.length → hasK q (lnkAt l j) = false) ∨ ∃ k : Nat, r = k ∧ k < l.length ∧ hasK q (lnkAt l k) = true ∧ ∀ j, j < k → hasK q (lnkAt l j) = false
set_option maxRecDepth 100000 in
set_option maxHeartbeats 2000000 in
theorem walk_IndexFuncL (W : World) (B : Nat) (q : Int) (hB : B < W.heap.size) (hq : W.cell? ⟨B, 0, none⟩ = some (.int .i64 q)) (l : List Lnk) (ao : Option Addr) (cap : Nat) (hl : l.length ≤ 100) (hc : LnkAt W ao l) :
  Calls Try.prog 133 #[.slice ao l.length cap, .func (.func 119) #[] #[.pointer (some ⟨B, 0, none⟩)]] W fun e W' => ∃ r, e = .returned (.int .i64 r) ∧ FirstK q l r ∧ Below W.heap.size W W' := by
 have HC := hid hc
 have HQ := hid hq
 have HB := hid hB
 clear hc hq
 go_enter Try.func133, Try.ntmps133
 go_wp2_with fail
 go_loopw [8] (fun i wr => ∃ k : Nat, k ≤ l.length ∧ i = .int .i64 k ∧ Below W.heap.size W wr ∧ Hid (∀ j, j < k → hasK q (lnkAt l j) = false)) (fun i _ => l.length - (intOf i).toNat)
 case atStart => exact ⟨0, Nat.zero_le _, rfl, Below.refl _ _, hid fun j h => by omega⟩
 case round =>
  obtain ⟨k, hk, rfl, hb, HF⟩ := hrel
  have HBL := hid hb
  by_cases hlt : k < l.length
  ·obtain ⟨b, off, rfl, hbl, c0, c1, c2, c3⟩ := HC.out k hlt
   obtain ⟨hcb, hfb⟩ := bcell hb
   rw [← hcb b _ hbl] at c0 c1 c2 c3
   have hq2 := (hcb B 0 HB.out).trans HQ.out
   have HQ2 := hid hq2
   have hBw : B < wr.heap.size := Nat.lt_of_lt_of_le HB.out hb.size
   have HBW := hid hBw
   obtain ⟨x, hx⟩ : ∃ x, x = lnkAt l k := ⟨_, rfl⟩
   have HX := hid hx
   rw [← hx] at c0 c1 c2 c3
   clear hcb hfb hb hq2 hx
   have HW1 : Hid (∀ w2, w2 = wr → Calls Try.prog 119 #[lnkV x, .pointer (some ⟨B, 0, none⟩)] w2 fun e W' => e = .returned (.bool (hasK q x)) ∧ Below w2.heap.size w2 W') := hid fun w2 e => by subst e; exact walk_Named1 w2 B q x HBW.out HQ2.out
   obtain ⟨bb, hbb⟩ : ∃ bb, bb = hasK q x := ⟨_, rfl⟩
   rw [← hbb] at HW1
   rw [HX.out] at hbb
   have HBB := hid hbb
   clear hbb
   cases bb with
   | true =>
    go_wp2_with (go_at_call 119; refine (HW1.out _ rfl).mono ?_; rintro _ w3 ⟨rfl, hb3⟩)
    ((try simp only [Exit.inBlock, Exit.then]); refine bodyPost_ret (v := .int .i64 k) ?_ rfl ?_; (next => simp [results, Try.results133, go_sem]))
    exact ⟨_, rfl, Or.inr ⟨k, rfl, hlt, HBB.out.symm, HF.out⟩, HBL.out.trans (hb3.mono HBL.out.size)⟩
   | false =>
    go_wp2_with (go_at_call 119; refine (HW1.out _ rfl).mono ?_; rintro _ w3 ⟨rfl, hb3⟩)
    go_roundw
    case rel =>
     refine ⟨k + 1, by omega, by go_num, HBL.out.trans (hb3.mono HBL.out.size), hid fun j h => ?_⟩
     rcases Nat.lt_or_ge j k with c | c
     ·exact HF.out j c
     ·obtain rfl : j = k := by omega
      exact HBB.out.symm
    case measure => simp [intOf]; omega
  ·have e : k = l.length := by omega
   subst e
   go_wp2_with fail
   ((try simp only [Exit.inBlock, Exit.then]); refine bodyPost_ret (v := .int .i64 (-1)) ?_ rfl ?_; (next => simp [results, Try.results133, go_sem]))
   exact ⟨_, rfl, Or.inl ⟨rfl, HF.out⟩, HBL.out⟩
def lkC (x : Lnk) (j : Nat) : Value := if j = 0 then .int .i64 x.frm else if j = 1 then .int .i64 x.to else if j = 2 then .int .i64 x.lo else .int .i64 x.hi
theorem lk_one (x : Lnk) (j : Nat) : (lkC x j).oneCell' = true := by
 unfold lkC
 by_cases h0 : j = 0
 ·rw [if_pos h0]; rfl
 ·rw [if_neg h0]
  by_cases h1 : j = 1
  ·rw [if_pos h1]; rfl
  ·rw [if_neg h1]
   by_cases h2 : j = 2
   ·rw [if_pos h2]; rfl
   ·rw [if_neg h2]; rfl
def lkFl (l : List Lnk) : List Value := flat l.length 4 fun i j => lkC (lnkAt l i) j
set_option maxRecDepth 100000 in
theorem walk_CloneL (w : World) (l : List Lnk) (v : Value) (h : SlAt w v l.length 4 fun i j => lkC (lnkAt l i) j) (hl : l.length ≤ 100) :
  Calls Try.prog 118 #[v] w fun e w' => ∃ u, e = .returned u ∧ w'.ownsRow w.heap.size 125 4 u l.length (lkFl l) ∧ Below w.heap.size w w' := by
 have HSL := hid h
 obtain ⟨ao, cap, rfl, h1, h2, h3⟩ := SlAt.src h
 have h0 : ao = none → l.length = 0 ∧ cap = 0 := fun e => by
  obtain ⟨ao', cap', q1, q2, q3, q4, q5⟩ := HSL.out
  cases q1
  have := q5 e
  omega
 cases ao with
 | none =>
  obtain ⟨e1, rfl⟩ := h0 rfl
  have hEq : ∀ w, Sem.run Try.prog (binOp BinOp.eql 53 (.slice none 0 0) (.slice none 0 0)) w = .ok (.bool true) w := fun _ => by kernel_rfl
  rw [e1]
  have HN : Hid (l = []) := hid (List.eq_nil_of_length_eq_zero e1)
  clear h3 h0 h1 h2 h e1
  go_enter Try.func118, Try.ntmps118
  go_wp2_with fail
  ((try simp only [Exit.inBlock, Exit.then]); refine bodyPost_ret (v := .slice none 0 0) ?_ rfl ?_; (next => simp [results, Try.results118, go_sem]))
  rw [HN.out]
  exact ⟨_, rfl, World.ownsRow_nil _ _ _ _, Below.refl _ _⟩
 | some a =>
  have hEq : ∀ n c w, Sem.run Try.prog (binOp BinOp.eql 53 (.slice (some a) n c) (.slice none 0 0)) w = .ok (.bool false) w := fun _ _ _ => by kernel_rfl
  have HE : (w.alloc (.cells #[] 125)).ownsRow w.heap.size 125 4 (.slice (some ⟨w.heap.size, 0, none⟩) 0 0) 0 [] := ownsRow_empty w elemLnk
  have HS := h3 (w.alloc (.cells #[] 125)) ((Below.refl _ _).alloc (Nat.le_refl _) _)
  clear h3 h0 h
  go_enter Try.func118, Try.ntmps118
  go_wp2_with (at_builtin; go_must (refine wpList_append_list rfl (.tmp 5) (.tmp 6) _ rfl elemLnk w.heap.size (.slice (some ⟨w.heap.size, 0, none⟩) 0 0) 0 [] rfl HE (some a) l.length cap _ rfl (flat_len _ _ _) (flat_one fun i j _ _ => lk_one _ j) HS (by omega) (by unfold maxLen; omega) (by simp) ?_); intro v3 w3 hown4 hp4 _)
  ((try simp only [Exit.inBlock, Exit.then]); refine bodyPost_ret (v := v3) ?_ rfl ?_; (next => simp [results, Try.results118, go_sem]))
  rw [Nat.zero_add, List.nil_append] at hown4
  exact ⟨_, rfl, hown4, ((Below.refl _ _).alloc (Nat.le_refl _) _).trans hp4.below⟩
end Go.Proofs.Ytkifmfmenobhnaa
set_option linter.unusedVariables false
set_option linter.unusedSimpArgs false
namespace Go.Proofs.Ytkifmfmenobhnaa
open Go.RowKit Ev
def LkIn (w : World) (g : Nat) (l : List Lnk) (a b : Nat) : Prop := ∀ p, a ≤ p → p < b → ∀ c, c < 4 → w.cell? ⟨g, p * 4 + c, none⟩ = some (lkC (lnkAt l p) c)
structure ButB (W : World) (g : Nat) (w : World) : Prop where
 os : w.os = W.os
 tape : w.tape = W.tape
 output : w.output = W.output
 size : W.heap.size ≤ w.heap.size
 block : ∀ b, b < W.heap.size → b ≠ g → w.heap[b]? = W.heap[b]?
theorem ButB.below {W w w' : World} {g : Nat} (h : ButB W g w) (hb : Below w.heap.size w w') : ButB W g w' := ⟨hb.os.trans h.os, hb.tape.trans h.tape, hb.output.trans h.output, Nat.le_trans h.size hb.size, fun b h1 h2 => (hb.block b (Nat.lt_of_lt_of_le h1 h.size)).trans (h.block b h1 h2)⟩
theorem mem_lnkJ {l : List Lnk} {z : Lnk} (h : z ∈ l) : ∃ k, k < l.length ∧ lnkAt l k = z := by
 obtain ⟨i, hi, e⟩ := List.getElem_of_mem h
 exact ⟨i, hi, by simp [lnkAt, List.getD, hi, e]⟩
def z4 : Array Value := #[.int .i64 0, .int .i64 0, .int .i64 0, .int .i64 0]
theorem z4_one (n : Nat) : ∀ u ∈ (Builtin.zeroCells z4 n).toList, u.oneCell' = true := by
 intro u hu
 simp only [Builtin.zeroCells, Array.toList_map, List.mem_map] at hu
 obtain ⟨i, _, rfl⟩ := hu
 have h : i % z4.size < 4 := Nat.mod_lt _ (by decide)
 generalize i % z4.size = r at h
 rcases (by omega : r = 0 ∨ r = 1 ∨ r = 2 ∨ r = 3) with rfl | rfl | rfl | rfl <;> rfl
theorem z4_len (n : Nat) : (Builtin.zeroCells z4 n).toList.length = n * 4 := by simp [Builtin.zeroCells, z4]
theorem run_clear4 (w : World) (g o n c : Nat) (hn : 0 < n) (hc : ∀ j, j < n * 4 → (w.cell? ⟨g, o + j, none⟩).isSome = true) (hf : ∀ j, w.frozen? ⟨g, j, none⟩ = false) (ty : TypeId) :
  (Builtin.clear_ #[53] ty #[.slice (some ⟨g, o, none⟩) n c]).run Try.prog w = .ok (.tuple #[]) (w.setCells g o (Builtin.zeroCells z4 n).toList) := by
 have hv : ∀ w, (zeroValue 125).run Try.prog w = .ok (.agg z4) w := fun _ => by kernel_rfl
 have hst := run_storeCells_cells (P := Try.prog) g o (Builtin.zeroCells z4 n).toList 0 w (by rw [z4_len]; simpa using hc) (by simpa using fun j _ => hf _) (z4_one n)
 simp only [Nat.add_zero] at hst
 obtain ⟨m, rfl⟩ : ∃ m, n = m + 1 := ⟨n - 1, by omega⟩
 have hz : (Value.agg z4).cells = z4 := by simp [Value.cells]
 simp [Builtin.clear_, run_underlying Try.underlying53, hv, hz, hst]
theorem setCells_but (g : Nat) : ∀ (vs : List Value) (o : Nat) (w : World), (∀ b, b ≠ g → (w.setCells g o vs).heap[b]? = w.heap[b]?) ∧ (w.setCells g o vs).heap.size = w.heap.size ∧ (w.setCells g o vs).os = w.os ∧ (w.setCells g o vs).tape = w.tape ∧ (w.setCells g o vs).output = w.output
 | [], o, w => ⟨fun _ _ => rfl, rfl, rfl, rfl, rfl⟩
 | v :: vs, o, w => by
  obtain ⟨h1, h2, h3, h4, h5⟩ := setCells_but g vs (o + 1) (w.setCell ⟨g, o, none⟩ v)
  refine ⟨fun b hb => (h1 b hb).trans (heap_setCell_other _ _ _ _ hb), h2.trans (by simp), h3.trans (by first | rfl | simp), h4.trans (by first | rfl | simp), h5.trans (by first | rfl | simp)⟩
def keptK (q : Int) (l : List Lnk) (j : Nat) : List Lnk := (l.take j).filter fun x => !hasK q x
theorem keptK_succ {q : Int} {l : List Lnk} {j : Nat} (hj : j < l.length) : keptK q l (j + 1) = keptK q l j ++ (if hasK q (lnkAt l j) = true then [] else [lnkAt l j]) := by
 unfold keptK
 rw [List.take_succ_eq_append_getElem hj, List.filter_append]
 have e : l[j] = lnkAt l j := by simp [lnkAt, List.getD, hj]
 rw [e]
 cases h : hasK q (lnkAt l j) <;> simp [h]
theorem keptK_len (q : Int) (l : List Lnk) (j : Nat) : (keptK q l j).length ≤ j := by
 unfold keptK
 have := List.length_filter_le (fun x => !hasK q x) (l.take j)
 rw [List.length_take] at this
 omega
set_option maxRecDepth 100000 in
set_option maxHeartbeats 2000000 in
theorem walk_DeleteL (W : World) (B : Nat) (q : Int) (hB : B < W.heap.size) (hq : W.cell? ⟨B, 0, none⟩ = some (.int .i64 q)) (l : List Lnk) (g cap : Nat) (hg : g < W.heap.size) (hne : B ≠ g) (hl : l.length ≤ 100) (hc : LkIn W g l 0 l.length) (hf : ∀ o, W.frozen? ⟨g, o, none⟩ = false) (hcap : l.length ≤ cap) :
  Calls Try.prog 117 #[.slice (some ⟨g, 0, none⟩) l.length cap, .func (.func 119) #[] #[.pointer (some ⟨B, 0, none⟩)]] W fun e W' => e = .returned (.slice (some ⟨g, 0, none⟩) (keptK q l l.length).length cap) ∧ LkIn W' g (keptK q l l.length) 0 (keptK q l l.length).length ∧ ButB W g W' := by
 have HB := hid hB
 have HQ := hid hq
 have HC := hid hc
 have HF := hid hf
 have HG := hid hg
 have hat : LnkAt W (some ⟨g, 0, none⟩) l := fun k hk => ⟨g, 0, rfl, hg, by rw [Nat.zero_add]; exact hc k (Nat.zero_le _) hk 0 (by omega), by rw [Nat.zero_add]; exact hc k (Nat.zero_le _) hk 1 (by omega), by rw [Nat.zero_add]; exact hc k (Nat.zero_le _) hk 2 (by omega), by rw [Nat.zero_add]; exact hc k (Nat.zero_le _) hk 3 (by omega)⟩
 have HI := hid (walk_IndexFuncL W B q hB hq l (some ⟨g, 0, none⟩) cap hl hat)
 clear hat hc hf hq
 go_enter Try.func117, Try.ntmps117
 go_wp2_with (go_at_call 133; refine HI.out.mono ?_; rintro _ w1 ⟨r, rfl, hr, hb1⟩; rcases hr with ⟨rfl, hno⟩ | ⟨k0, rfl, hk0, hyes, hbef⟩)
 ·((try simp only [Exit.inBlock, Exit.then]); refine bodyPost_ret (v := .slice (some ⟨g, 0, none⟩) l.length cap) ?_ rfl ?_; (next => simp [results, Try.results117, go_sem]))
  have e : keptK q l l.length = l := by
   unfold keptK
   rw [List.take_length, List.filter_eq_self]
   intro x hx
   obtain ⟨j, hj, rfl⟩ := mem_lnkJ hx
   rw [hno j hj]; rfl
  rw [e]
  refine ⟨rfl, fun p h1 h2 c h3 => ?_, ⟨hb1.os, hb1.tape, hb1.output, hb1.size, fun b h1 _ => hb1.block b h1⟩⟩
  rw [hb1.cell (p := ⟨g, p * 4 + c, none⟩) HG.out]
  exact HC.out p h1 h2 c h3
 ·have hk1 : (((k0 : Nat) : Int) == -1) = false := by simp
  have HH1 := hid hb1
  have HBF := hid hbef
  have HYE := hid hyes
  have e0 : keptK q l (k0 + 1) = l.take k0 := by
   rw [keptK_succ hk0, hyes, if_pos rfl, List.append_nil]
   unfold keptK
   rw [List.filter_eq_self]
   intro x hx
   obtain ⟨j, hj, e⟩ := mem_lnkJ hx
   have hj' : j < k0 := by rw [List.length_take] at hj; omega
   have e2 : lnkAt (l.take k0) j = lnkAt l j := by simp [lnkAt, List.getD, List.getElem?_take, hj']
   rw [← e, e2, hbef j hj']; rfl
  have E0 := hid e0
  clear hb1 hbef hyes e0
  (try simp only [hk1])
  go_loopw [5, 6] (fun ti tj wr => ∃ j : Nat, k0 < j ∧ j ≤ l.length ∧ ti = .int .i64 (keptK q l j).length ∧ tj = .int .i64 j ∧ (keptK q l j).length < j ∧ Hid (LkIn wr g (keptK q l j) 0 (keptK q l j).length) ∧ Hid (LkIn wr g l j l.length) ∧ Hid (ButB W g wr) ∧ Hid (∀ o, wr.frozen? ⟨g, o, none⟩ = false) ∧ Hid (∀ p, p < l.length → ∀ c, c < 4 → (wr.cell? ⟨g, p * 4 + c, none⟩).isSome = true)) (fun _ j _ => l.length - (intOf j).toNat)
  case atStart =>
   have hl0 : (keptK q l (k0 + 1)).length = k0 := by rw [E0.out, List.length_take]; omega
   refine ⟨k0 + 1, by omega, by omega, by rw [hl0], rfl, by omega, hid fun p h1 h2 c h3 => ?_, hid fun p h1 h2 c h3 => ?_, hid ⟨HH1.out.os, HH1.out.tape, HH1.out.output, HH1.out.size, fun b h1 _ => HH1.out.block b h1⟩, hid fun o => ?_, hid fun p h1 c h3 => ?_⟩
   ·rw [hl0] at h2
    rw [HH1.out.cell (p := ⟨g, p * 4 + c, none⟩) HG.out, E0.out]
    have e2 : lnkAt (l.take k0) p = lnkAt l p := by simp [lnkAt, List.getD, List.getElem?_take, h2]
    rw [e2]
    exact HC.out p (Nat.zero_le _) (by omega) c h3
   ·rw [HH1.out.cell (p := ⟨g, p * 4 + c, none⟩) HG.out]
    exact HC.out p (Nat.zero_le _) h2 c h3
   ·rw [← HF.out o]; exact World.frozen?_of_block (HH1.out.block g HG.out)
   ·rw [HH1.out.cell (p := ⟨g, p * 4 + c, none⟩) HG.out, HC.out p (Nat.zero_le _) h1 c h3]; rfl
  case round =>
   obtain ⟨j, hj1, hj2, rfl, rfl, hm, HL, HR, HBU, HFZ, HS⟩ := hrel
   by_cases hlt : j < l.length
   ·have hgw : g < wr.heap.size := Nat.lt_of_lt_of_le HG.out HBU.out.size
    have hBw : B < wr.heap.size := Nat.lt_of_lt_of_le HB.out HBU.out.size
    have hqw : wr.cell? ⟨B, 0, none⟩ = some (.int .i64 q) := (World.cell?_of_block (w := W) (HBU.out.block B HB.out hne)).trans HQ.out
    have c0 : wr.cell? ⟨g, j * 4, none⟩ = some (.int .i64 (lnkAt l j).frm) := HR.out j (Nat.le_refl _) hlt 0 (by omega)
    have c1 : wr.cell? ⟨g, j * 4 + 1, none⟩ = some (.int .i64 (lnkAt l j).to) := HR.out j (Nat.le_refl _) hlt 1 (by omega)
    have c2 : wr.cell? ⟨g, j * 4 + 2, none⟩ = some (.int .i64 (lnkAt l j).lo) := HR.out j (Nat.le_refl _) hlt 2 (by omega)
    have c3 : wr.cell? ⟨g, j * 4 + 3, none⟩ = some (.int .i64 (lnkAt l j).hi) := HR.out j (Nat.le_refl _) hlt 3 (by omega)
    obtain ⟨x, hx⟩ : ∃ x, x = lnkAt l j := ⟨_, rfl⟩
    obtain ⟨m, hmm⟩ : ∃ m, m = (keptK q l j).length := ⟨_, rfl⟩
    rw [← hx] at c0 c1 c2 c3
    rw [← hmm] at hm ⊢
    have HX := hid hx
    have HM := hid hmm
    have hz : wr.heap.size ≠ g := by omega
    have hz2 : g ≠ wr.heap.size := by omega
    have HW1 : Hid (∀ w2, Below wr.heap.size wr w2 → Calls Try.prog 119 #[.agg #[.int .i64 x.frm, .int .i64 x.to, .int .i64 x.lo, .int .i64 x.hi], .pointer (some ⟨B, 0, none⟩)] w2 fun e W' => e = .returned (.bool (hasK q x)) ∧ Below w2.heap.size w2 W') := hid fun w2 hb => walk_Named1 w2 B q x (Nat.lt_of_lt_of_le hBw hb.size) ((hb.cell (p := ⟨B, 0, none⟩) hBw).trans hqw)
    obtain ⟨bb, hbb⟩ : ∃ bb, bb = hasK q x := ⟨_, rfl⟩
    rw [← hbb] at HW1
    have HBB := hid hbb
    clear hx hmm hbb hBw hqw
    cases bb with
    | true =>
     go_wp2_with (go_at_call 119; refine (HW1.out _ (by exact BelowA)).mono ?_; rintro _ w3 ⟨rfl, hb3⟩)
     have q3 : Below wr.heap.size wr w3 := by exact BelowA
     have eK : keptK q l (j + 1) = keptK q l j := by
      have hy : hasK q (lnkAt l j) = true := by rw [← HX.out]; exact HBB.out.symm
      rw [keptK_succ hlt, hy, if_pos rfl, List.append_nil]
     go_roundw
     case rel =>
      refine ⟨j + 1, by omega, by omega, by rw [eK, ← HM.out], by go_num, by rw [eK, ← HM.out]; omega, hid fun p h1 h2 c h3 => ?_, hid fun p h1 h2 c h3 => ?_, hid (HBU.out.below q3), hid fun o => ?_, hid fun p h1 c h3 => by rw [q3.cell (p := ⟨g, p * 4 + c, none⟩) hgw]; exact HS.out p h1 c h3⟩
      ·rw [eK] at h2 ⊢
       exact (q3.cell (p := ⟨g, p * 4 + c, none⟩) hgw).trans (HL.out p h1 h2 c h3)
      ·exact (q3.cell (p := ⟨g, p * 4 + c, none⟩) hgw).trans (HR.out p (by omega) h2 c h3)
      ·rw [← HFZ.out o]; exact World.frozen?_of_block (q3.block g hgw)
     case measure => simp [intOf]; omega
    | false =>
     have s0 := HS.out m (by omega) 0 (by omega)
     have s1 := HS.out m (by omega) 1 (by omega)
     have s2 := HS.out m (by omega) 2 (by omega)
     have s3 := HS.out m (by omega) 3 (by omega)
     have HS0 := hid s0
     have HS1 := hid s1
     have HS2 := hid s2
     have HS3 := hid s3
     have HGW := hid hgw
     clear s0 s1 s2 s3
     go_wp2_with fail
     refine (HW1.out _ (by exact BelowA)).mono ?_
     rintro _ w3 ⟨rfl, hb3⟩
     have q3 : Below wr.heap.size wr w3 := by exact BelowA
     have hlk : ∀ c, c < 4 → w3.cell? ⟨wr.heap.size, c, none⟩ = (wr.alloc (.cells #[.int .i64 x.frm, .int .i64 x.to, .int .i64 x.lo, .int .i64 x.hi] 125)).cell? ⟨wr.heap.size, c, none⟩ := fun c _ => hb3.cell (p := ⟨wr.heap.size, c, none⟩) (by simp)
     have d0 := hlk 0 (by omega)
     have d1 := hlk 1 (by omega)
     have d2 := hlk 2 (by omega)
     have d3 := hlk 3 (by omega)
     simp at d0 d1 d2 d3
     have ex : ∀ c, c < 4 → ∃ u, w3.cell? ⟨g, m * 4 + c, none⟩ = some u := fun c hc => by
      rw [q3.cell (p := ⟨g, m * 4 + c, none⟩) HGW.out]
      exact Option.isSome_iff_exists.1 (HS.out m (by omega) c hc)
     obtain ⟨u0, t0⟩ := ex 0 (by omega)
     obtain ⟨u1, t1⟩ := ex 1 (by omega)
     obtain ⟨u2, t2⟩ := ex 2 (by omega)
     obtain ⟨u3, t3⟩ := ex 3 (by omega)
     have fz : ∀ o, w3.frozen? ⟨g, o, none⟩ = false := fun o => by rw [← HFZ.out o]; exact World.frozen?_of_block (q3.block g HGW.out)
     have z0 := fz (m * 4)
     have z1 := fz (m * 4 + 1)
     have z2 := fz (m * 4 + 2)
     have z3 := fz (m * 4 + 3)
     have Q3 := hid q3
     have FZ := hid fz
     rw [Nat.add_zero] at t0
     clear hlk ex fz hb3 q3
     have hml : m < l.length := by omega
     have eK : keptK q l (j + 1) = keptK q l j ++ [x] := by
      have hy : hasK q (lnkAt l j) = false := by rw [← HX.out]; exact HBB.out.symm
      rw [keptK_succ hlt, hy, if_neg (by simp), HX.out]
     have EK := hid eK
     have T : Hid (∀ c, c < 4 → (w3.cell? ⟨g, m * 4 + c, none⟩).isSome = true) := hid fun c hc => by
      rcases (by omega : c = 0 ∨ c = 1 ∨ c = 2 ∨ c = 3) with rfl | rfl | rfl | rfl
      ·rw [Nat.add_zero, t0]; rfl
      ·rw [t1]; rfl
      ·rw [t2]; rfl
      ·rw [t3]; rfl
     clear eK
     go_wp2_with fail
     go_roundw
     case rel =>
      have hlen : (keptK q l (j + 1)).length = m + 1 := by rw [EK.out, List.length_append, ← HM.out]; rfl
      have OUT := fun p c (h : p ≠ m) (hc : c < 4) => World.cell?_setCells_out g [Value.int .i64 x.frm, .int .i64 x.to, .int .i64 x.lo, .int .i64 x.hi] (m * 4) w3 ⟨g, p * 4 + c, none⟩ (fun _ _ => by
       show p * 4 + c < m * 4 ∨ m * 4 + 4 ≤ p * 4 + c
       omega)
      have IN := fun c (hc : c < 4) => World.cell?_setCells_in g [Value.int .i64 x.frm, .int .i64 x.to, .int .i64 x.lo, .int .i64 x.hi] (m * 4) w3 (fun j hj => T.out j hj) c hc
      have cellw := fun p c => Q3.out.cell (p := ⟨g, p * 4 + c, none⟩) HGW.out
      refine ⟨j + 1, by omega, by omega, by rw [hlen]; go_num, by go_num, by omega, hid fun p h1 h2 c h3 => ?_, hid fun p h1 h2 c h3 => ?_, hid ⟨?_, ?_, ?_, ?_, fun b h1 h2 => ?_⟩, hid fun o => ?_, hid fun p h1 c h3 => ?_⟩
      ·rw [hlen] at h2
       rw [EK.out]
       by_cases e : p = m
       ·subst e
        have e2 : lnkAt (keptK q l j ++ [x]) p = x := by simp [lnkAt, List.getD, HM.out]
        rw [e2]
        refine (IN c h3).trans ?_
        rcases (by omega : c = 0 ∨ c = 1 ∨ c = 2 ∨ c = 3) with rfl | rfl | rfl | rfl <;> rfl
       ·have hp : p < (keptK q l j).length := by rw [← HM.out]; omega
        have e2 : lnkAt (keptK q l j ++ [x]) p = lnkAt (keptK q l j) p := by simp [lnkAt, List.getD, List.getElem?_append_left hp]
        rw [e2]
        exact (OUT p c e h3).trans ((cellw p c).trans (HL.out p h1 hp c h3))
      ·exact (OUT p c (by omega) h3).trans ((cellw p c).trans (HR.out p (by omega) h2 c h3))
      ·exact (by first | rfl | simp : _ = w3.os).trans ((HBU.out.below Q3.out).os)
      ·exact (by first | rfl | simp : _ = w3.tape).trans ((HBU.out.below Q3.out).tape)
      ·exact (by first | rfl | simp : _ = w3.output).trans ((HBU.out.below Q3.out).output)
      ·have := (HBU.out.below Q3.out).size; simpa using this
      ·rw [heap_setCell_other _ _ _ _ h2, heap_setCell_other _ _ _ _ h2, heap_setCell_other _ _ _ _ h2, heap_setCell_other _ _ _ _ h2]
       exact (HBU.out.below Q3.out).block b h1 h2
      ·exact (World.frozen?_setCells g [Value.int .i64 x.frm, .int .i64 x.to, .int .i64 x.lo, .int .i64 x.hi] (m * 4) w3 _).trans (FZ.out o)
      ·by_cases e : p = m
       ·subst e
        exact (congrArg Option.isSome (IN c h3)).trans rfl
       ·exact (congrArg Option.isSome ((OUT p c e h3).trans (cellw p c))).trans (HS.out p h1 c h3)
     case measure => simp [intOf]; omega
   ·obtain rfl : j = l.length := by omega
    obtain ⟨m, hmm⟩ : ∃ m, m = (keptK q l l.length).length := ⟨_, rfl⟩
    rw [← hmm] at hm ⊢
    have HM := hid hmm
    clear hmm
    have hcl : ∀ ty, (Builtin.clear_ #[53] ty #[.slice (some ⟨g, m * 4, none⟩) (l.length - m) (cap - m)]).run Try.prog wr = .ok (.tuple #[]) (wr.setCells g (m * 4) (Builtin.zeroCells z4 (l.length - m)).toList) := fun ty => run_clear4 wr g (m * 4) (l.length - m) (cap - m) (by omega) (fun i hi => by
     have h4 : (l.length - m) * 4 + m * 4 = l.length * 4 := by rw [← Nat.add_mul]; congr 1; omega
     have := HS.out ((m * 4 + i) / 4) (by omega) ((m * 4 + i) % 4) (by omega)
     rwa [show (m * 4 + i) / 4 * 4 + (m * 4 + i) % 4 = m * 4 + i by omega] at this) HFZ.out ty
    go_wp2_with fail
    ((try simp only [Exit.inBlock, Exit.then]); refine bodyPost_ret (v := .slice (some ⟨g, 0, none⟩) m cap) ?_ rfl ?_; (next => simp [results, Try.results117, go_sem]))
    rw [← HM.out]
    obtain ⟨b1, b2, b3, b4, b5⟩ := setCells_but g (Builtin.zeroCells z4 (l.length - m)).toList (m * 4) wr
    refine ⟨rfl, fun p h1 h2 c h3 => ?_, ⟨b3.trans HBU.out.os, b4.trans HBU.out.tape, b5.trans HBU.out.output, by rw [b2]; exact HBU.out.size, fun b h1 h2 => (b1 b h2).trans (HBU.out.block b h1 h2)⟩⟩
    exact (World.cell?_setCells_out g _ (m * 4) wr ⟨g, p * 4 + c, none⟩ (fun _ _ => Or.inl (show p * 4 + c < m * 4 by omega))).trans (HL.out p h1 (by rw [← HM.out]; exact h2) c h3)
end Go.Proofs.Ytkifmfmenobhnaa
set_option linter.unusedVariables false
set_option linter.unusedSimpArgs false
namespace Go.Proofs.Ytkifmfmenobhnaa
open Go.RowKit Ev
theorem clash_all (cs : List ByteArray) (ls : List Lnk) : ∀ m, GrC cs ls m
 | 0 => clash_zero cs ls
 | m + 1 => clash_succ cs ls m (hid (clash_all cs ls m))
def con_clash : Con := fun args => match args with
 | [.t (.a [.sl 1 n_cs c_cs, .sl 4 n_ls c_ls]), .t (.c (.v (.slice none 0 0))), .t (.c (.v (.int .i64 0))), .t (.c (.v (.int .i64 m0)))] => some (.tu [.c (.sl 1 (grow (listC n_ls mkLnk c_ls) (txOf n_cs c_cs).length m0.toNat [] 0).1.length (intsC (grow (listC n_ls mkLnk c_ls) (txOf n_cs c_cs).length m0.toNat [] 0).1)), .c (.v (.bool (grow (listC n_ls mkLnk c_ls) (txOf n_cs c_cs).length m0.toNat [] 0).2))], some (txP n_cs c_cs ∧ numsP 4 n_ls c_ls ∧ (0 ≤ m0 ∧ m0 ≤ 12) ∧ ntE (txOf n_cs c_cs) (listC n_ls mkLnk c_ls) = 0), Fre.no)
 | _ => none
theorem ok_clash : Ok Try.prog 115 con_clash := by
 intro args r pre fresh h hp
 unfold con_clash at h
 split at h
 ·rename_i n_cs c_cs n_ls c_ls m0
  cases h
  obtain ⟨hp0, hp1, hp2, hp⟩ := hp
  refine ⟨Enters.of (fn := Try.f115) (by kernel_rfl) (by kernel_rfl) (by kernel_rfl), fun W N vs hG hv => ?_⟩
  have hv : All2 (RelD (RelF W N)) [.t (.a [.sl 1 n_cs c_cs, .sl 4 n_ls c_ls]), .t (.c (.v (.slice none 0 0))), .t (.c (.v (.int .i64 0))), .t (.c (.v (.int .i64 m0)))] vs := hv
  obtain ⟨v0, us0, rfl, r0, hv0⟩ := hv.cons_inv
  obtain ⟨v1, us1, rfl, r1, hv1⟩ := hv0.cons_inv
  obtain ⟨v2, us2, rfl, r2, hv2⟩ := hv1.cons_inv
  obtain ⟨v3, us3, rfl, r3, hv3⟩ := hv2.cons_inv
  obtain rfl := hv3.nil_inv
  obtain ⟨rfl, _⟩ : v1 = .slice none 0 0 ∧ _ := r1
  obtain ⟨rfl, _⟩ : v2 = .int .i64 0 ∧ _ := r2
  obtain ⟨rfl, _⟩ : v3 = .int .i64 m0 ∧ _ := r3
  obtain ⟨ws, rfl, r0⟩ := r0
  obtain ⟨x0, ws0, rfl, y0, r0⟩ := r0.cons_inv
  obtain ⟨x1, ws1, rfl, y1, r0⟩ := r0.cons_inv
  obtain rfl := r0.nil_inv
  have h0 : RelF W N (.sl 1 (txOf n_cs c_cs).length (txsC (txOf n_cs c_cs))) x0 := leL_str hp0 W N x0 y0
  have h1 : RelF W N (.sl 4 (listC n_ls mkLnk c_ls).length (lnksC (listC n_ls mkLnk c_ls))) x1 := leL_Lnk hp1 W N x1 y1
  generalize listC n_ls mkLnk c_ls = L at *
  generalize txOf n_cs c_cs = C at *
  obtain ⟨m, rfl⟩ : ∃ m : Nat, m0 = m := ⟨m0.toNat, by omega⟩
  rw [Int.toNat_natCast]
  refine (clash_all C L m W N [] 0 (.slice none 0 0) x0 x1 hG ⟨hp, by simp, fun k hk => absurd hk (by simp)⟩ (by simp; omega) (Nat.zero_le _) h0 h1 ⟨none, 0, rfl, Nat.le_refl _, by unfold maxLen; omega, fun _ => rfl, fun h => absurd h (by simp)⟩).mono ?_
  rintro e w' ⟨u, rfl, hr, hb⟩
  exact ⟨_, rfl, ⟨[u, _], rfl, hr, ⟨rfl, rfl⟩, trivial⟩, hb⟩
 ·cases h
end Go.Proofs.Ytkifmfmenobhnaa
set_option linter.unusedVariables false
set_option linter.unusedSimpArgs false
namespace Go.Proofs.Ytkifmfmenobhnaa
open Go.RowKit Ev
def cnG (ls : List Lnk) (n : Nat) : List Int × Bool := grI (fun k => grow ls n k [] 0) (ls.length + 1) 0
def cnV (cs : List ByteArray) (ls : List Lnk) : List Int := if ntE cs ls ≠ 0 then [] else (cnG ls cs.length).1
def cnE (cs : List ByteArray) (ls : List Lnk) : Int := if ntE cs ls ≠ 0 then ntE cs ls else if (cnG ls cs.length).2 = true then 0 else 12
def Sf4112 : Sum := addS Sf0111 115 con_clash
theorem VSf4112 : Valid Try.prog Sf4112 := Valid.add VSf0111 ok_clash
def mk_clock_ContradictingIn_0 (cs : List ByteArray) (ls : List Lnk) (v0_0 : Int) (v0_1 : Int) : DS := ⟨[none, some (.t (.c (.p 1 0))), none, none, none, none, none, none, none, none, none, none, none, none, none, none, some (.t (.c (.v (.int .i64 v0_0)))), some (.t (.c (.v (.int .i64 v0_1)))), none, none, none, none, none, none, none, none, none, none, none], [none, some (.box 55 [.sl 1 cs.length (txsC cs), .sl 4 ls.length (lnksC ls)]), none, none, none, none, none, none, none, none, none, none, none, none, none, none, none, none, none, none, none, none, none, none, none, none, none, none, none]⟩
def vc_clock_ContradictingIn (J : Inv) (cs : List ByteArray) (ls : List Lnk) (post : DV → Prop) : Prop := (txP cs.length (txsC cs) ∧ numsP 4 ls.length (lnksC ls) ∧ (∀ k, k < ((txOf cs.length (txsC cs))).length → (txAt (txOf cs.length (txsC cs)) k).size ≤ 1000000)) ∧ (cond ((ntE (txOf cs.length (txsC cs)) (listC ls.length mkLnk (lnksC ls))) != (0 : Int)) (post (.tu [.c (.v (.slice none 0 0)), .c (.v (.int .i64 (ntE (txOf cs.length (txsC cs)) (listC ls.length mkLnk (lnksC ls)))))])) (lt (IntKind.i64.wrap (((ls.length : Nat) : Int) + (1 : Int))) fun x1 => ∃ n, J 0 (n :: []) (mk_clock_ContradictingIn_0 cs ls x1 0)))
def ann_clock_ContradictingIn : Ann := ⟨fun _ => none, fun b => lookA b [(0, (none, some ⟨[1, 16, 17], [1], []⟩))], fun _ => [], I1, false, fun _ => none, fun _ => none⟩
theorem ev_clock_ContradictingIn (J : Inv) (cs : List ByteArray) (ls : List Lnk) (post : DV → Prop) : evFn Try.prog tab Sf4112 ann_clock_ContradictingIn J Try.f70 [.t (.a [.sl 1 cs.length (txsC cs), .sl 4 ls.length (lnksC ls)])] post = vc_clock_ContradictingIn J cs ls post := by kernel_rfl
theorem fit_clock_ContradictingIn : okFn ann_clock_ContradictingIn Try.f70 = true := by kernel_rfl
def rd_clock_ContradictingIn_0 (J : Inv) (cs : List ByteArray) (ls : List Lnk) (v0_0 : Int) (v0_1 : Int) (nn0 : Nat) (post : DV → Prop) : Prop := cond (decide (v0_1 < v0_0)) ((txP cs.length (txsC cs) ∧ numsP 4 ls.length (lnksC ls) ∧ (0 ≤ v0_1 ∧ v0_1 ≤ 12) ∧ ntE (txOf cs.length (txsC cs)) (listC ls.length mkLnk (lnksC ls)) = 0) ∧ (cond ((grow (listC ls.length mkLnk (lnksC ls)) (txOf cs.length (txsC cs)).length (v0_1).toNat [] 0).2) (post (.tu [.c (.sl 1 ((grow (listC ls.length mkLnk (lnksC ls)) (txOf cs.length (txsC cs)).length (v0_1).toNat [] 0).1.length) (intsC (grow (listC ls.length mkLnk (lnksC ls)) (txOf cs.length (txsC cs)).length (v0_1).toNat [] 0).1)), .c (.v (.int .i64 0))])) (lt (IntKind.i64.wrap (v0_1 + (1 : Int))) fun x1 => J 0 (nn0 :: []) (mk_clock_ContradictingIn_0 cs ls v0_0 x1)))) (post (.tu [.c (.v (.slice none 0 0)), .c (.v (.int .i64 12))]))
theorem er_clock_ContradictingIn_0 (J : Inv) (cs : List ByteArray) (ls : List Lnk) (v0_0 : Int) (v0_1 : Int) (nn0 : Nat) (post : DV → Prop) : round Try.prog tab Sf4112 ann_clock_ContradictingIn J Try.f70 post 0 (nn0 :: []) (mk_clock_ContradictingIn_0 cs ls v0_0 v0_1) = rd_clock_ContradictingIn_0 J cs ls v0_0 v0_1 nn0 post := by kernel_rfl
theorem lp_clock_ContradictingIn (J : Inv) (post : DV → Prop) : AllG J (loopsFn Try.prog tab Sf4112 ann_clock_ContradictingIn J Try.f70 post) = (((∀ F s, ¬ J 0 (0 :: F) s) ∧ ∀ n F s, J 0 ((n + 1) :: F) s → round Try.prog tab Sf4112 ann_clock_ContradictingIn J Try.f70 post 0 (n :: F) s) ∧ True) := by kernel_rfl
def J_clock_ContradictingIn (cs : List ByteArray) (ls : List Lnk) : Inv := fun b F s => match b, F with
 | 0, [nn0] => ∃ (v0_0 : Int) (v0_1 : Int), s = mk_clock_ContradictingIn_0 cs ls v0_0 v0_1 ∧ (ntE cs ls = 0 ∧ v0_0 = ((ls.length : Nat) : Int) + 1 ∧ 0 ≤ v0_1 ∧ v0_1 ≤ ls.length + 1 ∧ (nn0 : Int) + v0_1 = ls.length + 2 ∧ ∀ j : Nat, (j : Int) < v0_1 → (grow ls cs.length j [] 0).2 = false)
 | _, _ => False
theorem rnd_clock_ContradictingIn_0 (cs : List ByteArray) (ls : List Lnk) (v0_0 : Int) (v0_1 : Int) (nn0 : Nat) (hp : (∀ k, k < (cs).length → (txAt cs k).size ≤ 1000000)) (hi : ntE cs ls = 0 ∧ v0_0 = ((ls.length : Nat) : Int) + 1 ∧ 0 ≤ v0_1 ∧ v0_1 ≤ ls.length + 1 ∧ ((nn0 + 1) : Int) + v0_1 = ls.length + 2 ∧ ∀ j : Nat, (j : Int) < v0_1 → (grow ls cs.length j [] 0).2 = false) : rd_clock_ContradictingIn_0 (J_clock_ContradictingIn cs ls) cs ls v0_0 v0_1 nn0 (fun r => LeD r (.tu [.c (.sl 1 ((cnV cs ls).length) (intsC (cnV cs ls))), .c (.v (.int .i64 (cnE cs ls)))])) := by
 obtain ⟨q, i0, i1, i2, i3, i4⟩ := hi
 obtain ⟨k, rfl⟩ : ∃ k : Nat, v0_1 = k := ⟨v0_1.toNat, by omega⟩
 have hk : (k : Int).toNat = k := rfl
 subst i0
 have z := (ntE_bd q).2.1
 unfold rd_clock_ContradictingIn_0
 simp only [lnks_listC, txs_of]
 rw [hk]
 have ne : ¬ (ntE cs ls ≠ 0) := fun c => c q
 refine cond_i (fun h => ?_) (fun h => ?_)
 ·have hlt : k < ls.length + 1 := by have := of_decide_eq_true h; omega
  refine ⟨⟨txP_txs cs, numsP_lnks ls, ⟨by omega, by omega⟩, q⟩, cond_i (fun g => ?_) (fun g => lt_i fun x hx => ?_)⟩
  ·have e : cnG ls cs.length = ((grow ls cs.length k [] 0).1, true) := by
    unfold cnG
    rw [grI_skip k _ _ (by omega) fun j _ h2 => i4 j (by omega), show ls.length + 1 - k = (ls.length - k) + 1 by omega, Nat.zero_add, grI, if_pos g]
   rw [show cnV cs ls = (cnG ls cs.length).1 from if_neg ne, show cnE cs ls = if (cnG ls cs.length).2 = true then 0 else 12 from if_neg ne, e]
   exact LeD.refl _
  ·rw [wi (by omega)] at hx
   subst hx
   refine ⟨_, _, rfl, q, rfl, by omega, by omega, by omega, fun j hj => ?_⟩
   rcases (by omega : (j : Int) < k ∨ j = k) with c | rfl
   ·exact i4 j c
   ·exact g
 ·have h := of_decide_eq_false h
  have e : cnG ls cs.length = ([], false) := by
   unfold cnG
   rw [grI_skip (ls.length + 1) _ _ (Nat.le_refl _) fun j _ h2 => i4 j (by omega), Nat.sub_self, grI]
  rw [show cnV cs ls = (cnG ls cs.length).1 from if_neg ne, show cnE cs ls = if (cnG ls cs.length).2 = true then 0 else 12 from if_neg ne, e]
  exact le_tu le_nil (LeD.refl _)
theorem zero_clock_ContradictingIn_0 (cs : List ByteArray) (ls : List Lnk) (v0_0 : Int) (v0_1 : Int)  (hi : ntE cs ls = 0 ∧ v0_0 = ((ls.length : Nat) : Int) + 1 ∧ 0 ≤ v0_1 ∧ v0_1 ≤ ls.length + 1 ∧ (0 : Int) + v0_1 = ls.length + 2 ∧ ∀ j : Nat, (j : Int) < v0_1 → (grow ls cs.length j [] 0).2 = false) : False := by
 omega
theorem spec_clock_ContradictingIn (cs : List ByteArray) (ls : List Lnk) (hp : (∀ k, k < (cs).length → (txAt cs k).size ≤ 1000000)) : vc_clock_ContradictingIn (J_clock_ContradictingIn cs ls) cs ls (fun r => LeD r (.tu [.c (.sl 1 ((cnV cs ls).length) (intsC (cnV cs ls))), .c (.v (.int .i64 (cnE cs ls)))])) := by
 unfold vc_clock_ContradictingIn
 simp only [lnks_listC, txs_of]
 refine ⟨⟨txP_txs cs, numsP_lnks ls, hp⟩, cond_i (fun h => ?_) (fun h => ?_)⟩
 ·have h : ntE cs ls ≠ 0 := by simpa using h
  rw [show cnV cs ls = [] from if_pos h, show cnE cs ls = ntE cs ls from if_pos h]
  exact le_tu le_nil (LeD.refl _)
 ·have h : ntE cs ls = 0 := by simpa using h
  have z := (ntE_bd h).2.1
  refine lt_i fun x hx => ?_
  rw [wi (by omega)] at hx
  subst hx
  exact ⟨ls.length + 2, _, _, rfl, h, rfl, by omega, by omega, by omega, fun j hj => by omega⟩
theorem all_clock_ContradictingIn (cs : List ByteArray) (ls : List Lnk) (hp : (∀ k, k < (cs).length → (txAt cs k).size ≤ 1000000)) : AllG (J_clock_ContradictingIn cs ls) (loopsFn Try.prog tab Sf4112 ann_clock_ContradictingIn (J_clock_ContradictingIn cs ls) Try.f70 (fun r => LeD r (.tu [.c (.sl 1 ((cnV cs ls).length) (intsC (cnV cs ls))), .c (.v (.int .i64 (cnE cs ls)))]))) := by
 rw [lp_clock_ContradictingIn]
 refine ⟨⟨?_, ?_⟩, trivial⟩
 ·intro F s h
  obtain _ | ⟨g, F⟩ := F
  case cons => exact h.elim
  obtain ⟨w0, w1, rfl, hi⟩ := h
  exact zero_clock_ContradictingIn_0 cs ls w0 w1 hi
 ·intro n F s h
  obtain _ | ⟨g, F⟩ := F
  case cons => exact h.elim
  obtain ⟨w0, w1, rfl, hi⟩ := h
  rw [er_clock_ContradictingIn_0]
  exact rnd_clock_ContradictingIn_0 cs ls _ _ _ hp hi
def con_clock_ContradictingIn : Con := fun args => match args with
 | [.t (.a [.sl 1 n_cs c_cs, .sl 4 n_ls c_ls])] => some (.tu [.c (.sl 1 ((cnV (txOf n_cs c_cs) (listC n_ls mkLnk c_ls)).length) (intsC (cnV (txOf n_cs c_cs) (listC n_ls mkLnk c_ls)))), .c (.v (.int .i64 (cnE (txOf n_cs c_cs) (listC n_ls mkLnk c_ls))))], some (txP n_cs c_cs ∧ numsP 4 n_ls c_ls ∧ (∀ k, k < ((txOf n_cs c_cs)).length → (txAt (txOf n_cs c_cs) k).size ≤ 1000000)), false)
 | _ => none
theorem ok_clock_ContradictingIn : Ok Try.prog 70 con_clock_ContradictingIn := by
 refine Ok.fn (ann := ann_clock_ContradictingIn) mixed tabOK VSf4112 VI1 (fn := Try.f70) (by kernel_rfl) (by kernel_rfl) fit_clock_ContradictingIn fun args r pre fresh h hp => ?_
 unfold con_clock_ContradictingIn at h
 split at h
 ·rename_i n_cs c_cs n_ls c_ls
  cases h
  obtain ⟨hp0, hp1, hp⟩ := hp
  refine ⟨rfl, J_clock_ContradictingIn (txOf n_cs c_cs) (listC n_ls mkLnk c_ls), [.t (.a [.sl 1 ((txOf n_cs c_cs).length) (txsC (txOf n_cs c_cs)), .sl 4 ((listC n_ls mkLnk c_ls).length) (lnksC (listC n_ls mkLnk c_ls))])], ?_, Nat.le_of_ble_eq_true (by kernel_rfl), ?_, ?_⟩
  ·exact (LeA_cons (leT_a (LeCs.cons ((leL_str hp0)) (LeCs.cons ((leL_Lnk hp1)) LeCs.nil))) LeA_nil)
  ·rw [ev_clock_ContradictingIn]; exact spec_clock_ContradictingIn (txOf n_cs c_cs) (listC n_ls mkLnk c_ls) hp
  ·exact all_clock_ContradictingIn (txOf n_cs c_cs) (listC n_ls mkLnk c_ls) hp
 ·cases h
def Sf4113 : Sum := addS Sf4112 70 con_clock_ContradictingIn
theorem VSf4113 : Valid Try.prog Sf4113 := Valid.add VSf4112 ok_clock_ContradictingIn
end Go.Proofs.Ytkifmfmenobhnaa
set_option linter.unusedVariables false
set_option linter.unusedSimpArgs false
namespace Go.Proofs.Ytkifmfmenobhnaa
open Go.RowKit Ev
def vc_ref01_grown (cs : List ByteArray) (ls : List Lnk) (sel : List Int) (i0 : Int) (m0 : Int) (post : DV → Prop) : Prop := cond (m0 == (0 : Int)) ((numsP 4 ls.length (lnksC ls) ∧ numsP 1 sel.length (intsC sel) ∧ clOk cs.length (listC ls.length mkLnk (lnksC ls)) (listC sel.length mkInt (intsC sel))) ∧ (post (.tu [.c (.sl 1 sel.length (intsC sel)), .c (.v (.bool (!(clO (listC ls.length mkLnk (lnksC ls)) (listC sel.length mkInt (intsC sel)) cs.length))))]))) (False)
def ann_ref01_grown : Ann := ⟨fun r => lookA r [(7, ([[], [], [1], [], [3], [1, 2, 3, 4], [], [6], [], [8], [0, 1, 2, 3, 4, 5, 6, 7, 8, 9], [0, 1, 2, 3, 4, 5, 6, 7, 8, 9, 10], [0, 1, 2, 3, 4, 5, 6, 7, 8, 9, 10, 11], [0, 1, 2, 3, 4, 5, 6, 7, 8, 9, 10, 11], [0, 1, 2, 3, 4, 5, 6, 7, 8, 9, 10, 11, 12], [0, 1, 2, 3, 4, 5, 6, 7, 8, 9, 10, 11, 12, 13, 14]], [[37, 39, 40, 45], [37, 39, 40, 45], [39, 40, 45], [37, 39, 40, 45], [37, 40, 45], [9999, 40], [37, 39, 40, 45], [37, 39, 40, 45], [37, 39, 40, 45], [37, 39, 40, 45], [], [], [], [], [], []]))], fun b => lookA b [(0, (some 0, none))], fun _ => [], I1, false, fun _ => none, fun _ => none⟩
theorem ev_ref01_grown (J : Inv) (cs : List ByteArray) (ls : List Lnk) (sel : List Int) (i0 : Int) (m0 : Int) (post : DV → Prop) : evFn Try.prog tab Sf4113 ann_ref01_grown J Try.f120 [.t (.a [.sl 1 cs.length (txsC cs), .sl 4 ls.length (lnksC ls)]), .t (.c (.sl 1 sel.length (intsC sel))), .t (.c (.v (.int .i64 i0))), .t (.c (.v (.int .i64 m0)))] post = vc_ref01_grown cs ls sel i0 m0 post := by kernel_rfl
theorem fit_ref01_grown : okFn ann_ref01_grown Try.f120 = true := by kernel_rfl
theorem lp_ref01_grown (J : Inv) (post : DV → Prop) : AllG J (loopsFn Try.prog tab Sf4113 ann_ref01_grown J Try.f120 post) = (True) := by kernel_rfl
theorem spec_ref01_grown (cs : List ByteArray) (ls : List Lnk) (sel : List Int) (i0 : Int) (m0 : Int) (hp : m0 = 0 ∧ clP cs ls sel) : vc_ref01_grown cs ls sel i0 m0 (fun r => LeD r (.tu [.c (.sl 1 sel.length (intsC sel)), .c (.v (.bool (!bdB (selL ls sel) (cs).length)))])) := by
 unfold vc_ref01_grown
 refine cond_i (fun h => ?_) (fun h => ?_)
 ·simp only [lnks_listC, ints_listC]
  obtain ⟨_, q, q1, q2⟩ := hp
  have z := ntE_bd q
  obtain ⟨⟨z1, z2⟩, z3, z4⟩ := z
  rw [Int.toNat_natCast] at z4
  refine ⟨⟨numsP_lnks ls, numsP_ints sel, ⟨by omega, by omega⟩, ⟨by omega, by omega⟩, z4, q2⟩, ?_⟩
  rw [agree_cl (by omega) z4 q2]
  exact LeD.refl _
 ·exact absurd hp.1 (by simpa using h)
def con_ref01_grown : Con := fun args => match args with
 | [.t (.a [.sl 1 n_cs c_cs, .sl 4 n_ls c_ls]), .t (.c (.sl 1 n_sel c_sel)), .t (.c (.v (.int .i64 i0))), .t (.c (.v (.int .i64 m0)))] => some (.tu [.c (.sl 1 ((listC n_sel mkInt c_sel).length) (intsC (listC n_sel mkInt c_sel))), .c (.v (.bool (!bdB (selL (listC n_ls mkLnk c_ls) (listC n_sel mkInt c_sel)) ((txOf n_cs c_cs)).length)))], some (txP n_cs c_cs ∧ numsP 4 n_ls c_ls ∧ numsP 1 n_sel c_sel ∧ m0 = 0 ∧ clP (txOf n_cs c_cs) (listC n_ls mkLnk c_ls) (listC n_sel mkInt c_sel)), false)
 | _ => none
theorem ok_ref01_grown : Ok Try.prog 120 con_ref01_grown := by
 refine Ok.fn (ann := ann_ref01_grown) mixed tabOK VSf4113 VI1 (fn := Try.f120) (by kernel_rfl) (by kernel_rfl) fit_ref01_grown fun args r pre fresh h hp => ?_
 unfold con_ref01_grown at h
 split at h
 ·rename_i n_cs c_cs n_ls c_ls n_sel c_sel i0 m0
  cases h
  obtain ⟨hp0, hp1, hp2, hp⟩ := hp
  refine ⟨rfl, fun _ _ _ => False, [.t (.a [.sl 1 ((txOf n_cs c_cs).length) (txsC (txOf n_cs c_cs)), .sl 4 ((listC n_ls mkLnk c_ls).length) (lnksC (listC n_ls mkLnk c_ls))]), .t (.c (.sl 1 ((listC n_sel mkInt c_sel).length) (intsC (listC n_sel mkInt c_sel)))), .t (.c (.v (.int .i64 i0))), .t (.c (.v (.int .i64 m0)))], ?_, Nat.le_of_ble_eq_true (by kernel_rfl), ?_, ?_⟩
  ·exact (LeA_cons (leT_a (LeCs.cons ((leL_str hp0)) (LeCs.cons ((leL_Lnk hp1)) LeCs.nil))) (LeA_cons (leT_c ((leL_int hp2))) (LeA_cons (LeD.refl _) (LeA_cons (LeD.refl _) LeA_nil))))
  ·rw [ev_ref01_grown]; exact spec_ref01_grown (txOf n_cs c_cs) (listC n_ls mkLnk c_ls) (listC n_sel mkInt c_sel) i0 m0 hp
  ·rw [lp_ref01_grown]; trivial
 ·cases h
def Si0114 : Sum := addS Sf4113 120 con_ref01_grown
theorem VSi0114 : Valid Try.prog Si0114 := Valid.add VSf4113 ok_ref01_grown
end Go.Proofs.Ytkifmfmenobhnaa
set_option linter.unusedVariables false
set_option linter.unusedSimpArgs false
namespace Go.Proofs.Ytkifmfmenobhnaa
open Go.RowKit Ev
def vc_base_CopyInts_b (l : List Int) (post : DV → Row → Prop) : Prop := (roomP 8 (([] : List (List CV)).length + ((List.range l.length).map fun i => fwd ((intsC l) i) 0 1).length)) ∧ (post (.t (.c (.os 0))) (.gen 3 1 (([] : List (List CV)) ++ ((List.range l.length).map fun i => fwd ((intsC l) i) 0 1))))
def ann_base_CopyInts_b : Ann := ⟨fun _ => none, fun _ => none, fun _ => [], I1, false, fun _ => none, fun _ => none⟩
theorem ev_base_CopyInts_b (J : Inv) (l : List Int) (post : DV → Row → Prop) : evFnO Try.prog tab Si0114 ann_base_CopyInts_b J Try.f17 [.t (.c (.sl 1 l.length (intsC l)))] post = vc_base_CopyInts_b l post := by kernel_rfl
theorem fit_base_CopyInts_b : okFn ann_base_CopyInts_b Try.f17 = true := by kernel_rfl
theorem lp_base_CopyInts_b (J : Inv) (post : DV → Row → Prop) : AllG J (loopsFnO Try.prog tab Si0114 ann_base_CopyInts_b J Try.f17 post) = (True) := by kernel_rfl
theorem spec_base_CopyInts_b (l : List Int) (hp : (l).length ≤ 1000) : vc_base_CopyInts_b l (fun r' R' => r' = (.t (.c (.os 0))) ∧ R' = (.gen 3 1 (l.map fun n => [CV.v (.int .i64 n)]))) := by
 unfold vc_base_CopyInts_b
 rw [ints_fwd, List.nil_append]
 refine ⟨?_, rfl, rfl⟩
 unfold roomP maxLen
 simp
 omega
def con_base_CopyInts_b : Con := fun args => match args with
 | [.t (.c (.sl 1 n_l c_l))] => some (.t (.c (.os 0)), some (numsP 1 n_l c_l ∧ ((listC n_l mkInt c_l)).length ≤ 1000), .own (.gen 3 1 ((listC n_l mkInt c_l).map fun n => [CV.v (.int .i64 n)])))
 | _ => none
theorem ok_base_CopyInts_b : Ok Try.prog 17 con_base_CopyInts_b := by
 refine Ok.fnO (ann := ann_base_CopyInts_b) mixed tabOK VSi0114 VI1 (fn := Try.f17) (by kernel_rfl) (by kernel_rfl) fit_base_CopyInts_b fun args r pre fresh h hp => ?_
 unfold con_base_CopyInts_b at h
 split at h
 ·rename_i n_l c_l
  cases h
  obtain ⟨hp0, hp⟩ := hp
  refine ⟨_, rfl, plainR_ints _ _, fun _ _ _ => False, [.t (.c (.sl 1 ((listC n_l mkInt c_l).length) (intsC (listC n_l mkInt c_l))))], ?_, Nat.le_of_ble_eq_true (by kernel_rfl), ?_, ?_⟩
  ·exact (LeA_cons (leT_c ((leL_int hp0))) LeA_nil)
  ·rw [ev_base_CopyInts_b]; exact spec_base_CopyInts_b (listC n_l mkInt c_l) hp
  ·rw [lp_base_CopyInts_b]; trivial
 ·cases h
def Si1115 : Sum := addF Si0114 17 con_base_CopyInts_b
theorem VSi1115 : Valid Try.prog Si1115 := Valid.addF VSi0114 ok_base_CopyInts_b
end Go.Proofs.Ytkifmfmenobhnaa