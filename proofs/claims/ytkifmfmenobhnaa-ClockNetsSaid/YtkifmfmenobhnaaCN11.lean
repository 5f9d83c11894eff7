/- Texts of this claim, together. -/
import Derived.Test.YtkifmfmenobhnaaCN10

set_option linter.unusedVariables false
set_option linter.unusedSimpArgs false
namespace Go.Proofs.Ytkifmfmenobhnaa
open Go.RowKit Ev
def alI (l : List Lnk) : List Int := (List.range l.length).map fun i : Nat => (i : Int)
def coH (cs : List ByteArray) (o : List Int) : Int := firstNZ [unl (((o.length : Nat) : Int) == ((cs.length : Nat) : Int)) 10, unl (o.all fun n => inB n (-8000000000) 8000000000) 2]
def coF (ls : List Lnk) (o : List Int) (i : Nat) : Int := unl (inB (o.getD (lnkAt ls i).to.toNat 0 - o.getD (lnkAt ls i).frm.toNat 0) (lnkAt ls i).lo (lnkAt ls i).hi) 19
def coE (cs : List ByteArray) (ls : List Lnk) (o : List Int) : Int := if coH cs o ≠ 0 then coH cs o else if o.getD 0 0 ≠ 0 then 3 else scan (coF ls o) ls.length
def coI (cs : List ByteArray) (ls : List Lnk) (o : List Int) : Int := if coH cs o ≠ 0 then 0 else if o.getD 0 0 ≠ 0 then 0 else scanI (coF ls o) ls.length
def ckE (cs : List ByteArray) (ls : List Lnk) (o : List Int) : Int := if ntE cs ls ≠ 0 then ntE cs ls else coE cs ls o
def ckI (cs : List ByteArray) (ls : List Lnk) (o : List Int) : Int := if ntE cs ls ≠ 0 then 0 else coI cs ls o
theorem ck_hd (cs : List ByteArray) (ls : List Lnk) (o : List Int) : firstNZ [ntE cs ls, unl (((o.length : Nat) : Int) == ((cs.length : Nat) : Int)) 10, unl (o.all fun n => inB n (-8000000000) 8000000000) 2] = if ntE cs ls ≠ 0 then ntE cs ls else coH cs o := by
 unfold coH
 by_cases q : ntE cs ls = 0
 ·rw [if_neg (by rw [q]; simp), q]; simp [firstNZ]
 ·rw [if_pos q]; simp [firstNZ, q]
theorem coH_ok {cs : List ByteArray} {o : List Int} (h : coH cs o = 0) : o.length = cs.length ∧ (∀ i, i < o.length → -8000000000 ≤ o.getD i 0 ∧ o.getD i 0 ≤ 8000000000) ∧ True := by
 obtain ⟨h1, h2⟩ := fn2 (show firstNZ [_, _] = 0 from h)
 rw [unl_0 (by decide)] at h1 h2
 have h1 : ((o.length : Nat) : Int) = ((cs.length : Nat) : Int) := by simpa using h1
 exact ⟨by omega, fun i hi => inB_true.1 (all_at h2 hi), trivial⟩
def Scc102 : Sum := addS Sy101 75 con_Closed
theorem VScc102 : Valid Try.prog Scc102 := Valid.add VSy101 ok_Closed
def mk_ref01_All_0 (cs : List ByteArray) (ls : List Lnk) (v0_0 : List Int) (v0_1 : Int) : DS := ⟨[none, some (.t (.c (.p 1 0))), none, some (.t (.c (.os 3))), some (.t (.c (.v (.int .i64 v0_1)))), none, none, none, none, none, none, none, none, none, none, none, none], [none, some (.box 55 [.sl 1 cs.length (txsC cs), .sl 4 ls.length (lnksC ls)]), none, some (.num 3 .i64 v0_0), none, none, none, none, none, none, none, none, none, none, none, none, none]⟩
def vc_ref01_All (J : Inv) (cs : List ByteArray) (ls : List Lnk) (post : DV → Prop) : Prop := ∃ n, J 0 (n :: []) (mk_ref01_All_0 cs ls ([]) 0)
def ann_ref01_All : Ann := ⟨fun _ => none, fun b => lookA b [(0, (none, some ⟨[1, 4], [1], [(3, .num 3 .i64 ([]))]⟩))], fun _ => [], I1, true, fun _ => none, fun _ => none⟩
theorem ev_ref01_All (J : Inv) (cs : List ByteArray) (ls : List Lnk) (post : DV → Prop) : evFn Try.prog tab Scc102 ann_ref01_All J Try.f98 [.t (.a [.sl 1 cs.length (txsC cs), .sl 4 ls.length (lnksC ls)])] post = vc_ref01_All J cs ls post := by kernel_rfl
theorem fit_ref01_All : okFn ann_ref01_All Try.f98 = true := by kernel_rfl
def rd_ref01_All_0 (J : Inv) (cs : List ByteArray) (ls : List Lnk) (v0_0 : List Int) (v0_1 : Int) (nn0 : Nat) (post : DV → Prop) : Prop := cond (decide (v0_1 < ((ls.length : Nat) : Int))) (((IntKind.i64 = IntKind.i64 ∧ True) ∧ roomP 8 (v0_0.length + ([v0_1] : List Int).length)) ∧ (lt (IntKind.i64.wrap (v0_1 + (1 : Int))) fun x1 => J 0 (nn0 :: []) (mk_ref01_All_0 cs ls (v0_0 ++ ([v0_1])) x1))) (post (.t (.c (.sl 1 v0_0.length (numsC .i64 v0_0)))))
theorem er_ref01_All_0 (J : Inv) (cs : List ByteArray) (ls : List Lnk) (v0_0 : List Int) (v0_1 : Int) (nn0 : Nat) (post : DV → Prop) : round Try.prog tab Scc102 ann_ref01_All J Try.f98 post 0 (nn0 :: []) (mk_ref01_All_0 cs ls v0_0 v0_1) = rd_ref01_All_0 J cs ls v0_0 v0_1 nn0 post := by kernel_rfl
theorem lp_ref01_All (J : Inv) (post : DV → Prop) : AllG J (loopsFn Try.prog tab Scc102 ann_ref01_All J Try.f98 post) = (((∀ F s, ¬ J 0 (0 :: F) s) ∧ ∀ n F s, J 0 ((n + 1) :: F) s → round Try.prog tab Scc102 ann_ref01_All J Try.f98 post 0 (n :: F) s) ∧ True) := by kernel_rfl
def J_ref01_All (cs : List ByteArray) (ls : List Lnk) : Inv := fun b F s => match b, F with
 | 0, [nn0] => ∃ (v0_0 : List Int) (v0_1 : Int), s = mk_ref01_All_0 cs ls v0_0 v0_1 ∧ (ls.length ≤ 1000000 ∧ 0 ≤ v0_1 ∧ v0_1 ≤ ls.length ∧ (nn0 : Int) + v0_1 = ls.length + 1 ∧ v0_0 = (List.range v0_1.toNat).map fun i : Nat => (i : Int))
 | _, _ => False
theorem rnd_ref01_All_0 (cs : List ByteArray) (ls : List Lnk) (v0_0 : List Int) (v0_1 : Int) (nn0 : Nat) (hp : (ls).length ≤ 1000000) (hi : ls.length ≤ 1000000 ∧ 0 ≤ v0_1 ∧ v0_1 ≤ ls.length ∧ ((nn0 + 1) : Int) + v0_1 = ls.length + 1 ∧ v0_0 = (List.range v0_1.toNat).map fun i : Nat => (i : Int)) : rd_ref01_All_0 (J_ref01_All cs ls) cs ls v0_0 v0_1 nn0 (fun r => LeD r (.t (.c (.sl 1 ((alI ls).length) (intsC (alI ls)))))) := by
 obtain ⟨q, i1, i2, i3, i4⟩ := hi
 obtain ⟨k, rfl⟩ : ∃ k : Nat, v0_1 = k := ⟨v0_1.toNat, by omega⟩
 have hk : (k : Int).toNat = k := rfl
 rw [hk] at i4
 unfold rd_ref01_All_0
 refine cond_i (fun h => ?_) (fun h => ?_)
 ·have hlt : k < ls.length := by have := of_decide_eq_true h; omega
  refine ⟨⟨by trivial, ?_⟩, lt_i fun x hx => ?_⟩
  ·unfold roomP maxLen; rw [i4]; simp; omega
  ·rw [wi (by omega)] at hx
   subst hx
   refine ⟨_, _, rfl, q, by omega, by omega, by omega, ?_⟩
   rw [show ((k : Int) + 1).toNat = k + 1 by omega, List.range_succ, List.map_append, i4]; rfl
 ·have h := of_decide_eq_false h
  rw [i4, show k = ls.length by omega]
  exact LeD.refl _
theorem zero_ref01_All_0 (cs : List ByteArray) (ls : List Lnk) (v0_0 : List Int) (v0_1 : Int)  (hi : ls.length ≤ 1000000 ∧ 0 ≤ v0_1 ∧ v0_1 ≤ ls.length ∧ (0 : Int) + v0_1 = ls.length + 1 ∧ v0_0 = (List.range v0_1.toNat).map fun i : Nat => (i : Int)) : False := by
 omega
theorem spec_ref01_All (cs : List ByteArray) (ls : List Lnk) (hp : (ls).length ≤ 1000000) : vc_ref01_All (J_ref01_All cs ls) cs ls (fun r => LeD r (.t (.c (.sl 1 ((alI ls).length) (intsC (alI ls)))))) := by
 unfold vc_ref01_All
 exact ⟨ls.length + 1, [], 0, rfl, hp, by omega, by omega, by omega, rfl⟩
theorem all_ref01_All (cs : List ByteArray) (ls : List Lnk) (hp : (ls).length ≤ 1000000) : AllG (J_ref01_All cs ls) (loopsFn Try.prog tab Scc102 ann_ref01_All (J_ref01_All cs ls) Try.f98 (fun r => LeD r (.t (.c (.sl 1 ((alI ls).length) (intsC (alI ls))))))) := by
 rw [lp_ref01_All]
 refine ⟨⟨?_, ?_⟩, trivial⟩
 ·intro F s h
  obtain _ | ⟨g, F⟩ := F
  case cons => exact h.elim
  obtain ⟨w0, w1, rfl, hi⟩ := h
  exact zero_ref01_All_0 cs ls w0 w1 hi
 ·intro n F s h
  obtain _ | ⟨g, F⟩ := F
  case cons => exact h.elim
  obtain ⟨w0, w1, rfl, hi⟩ := h
  rw [er_ref01_All_0]
  exact rnd_ref01_All_0 cs ls _ _ _ hp hi
def con_ref01_All : Con := fun args => match args with
 | [.t (.a [.sl 1 n_cs c_cs, .sl 4 n_ls c_ls])] => some (.t (.c (.sl 1 ((alI (listC n_ls mkLnk c_ls)).length) (intsC (alI (listC n_ls mkLnk c_ls))))), some (txP n_cs c_cs ∧ numsP 4 n_ls c_ls ∧ ((listC n_ls mkLnk c_ls)).length ≤ 1000000), true)
 | _ => none
theorem ok_ref01_All : Ok Try.prog 98 con_ref01_All := by
 refine Ok.fnFr (ann := ann_ref01_All) mixed tabOK VScc102 VI1 rfl (fn := Try.f98) (by kernel_rfl) (by kernel_rfl) fit_ref01_All fun args r pre fresh h hp => ?_
 unfold con_ref01_All at h
 split at h
 ·rename_i n_cs c_cs n_ls c_ls
  cases h
  obtain ⟨hp0, hp1, hp⟩ := hp
  refine ⟨rfl, (fun i j _ hj => plain_int _ i j), J_ref01_All (txOf n_cs c_cs) (listC n_ls mkLnk c_ls), [.t (.a [.sl 1 ((txOf n_cs c_cs).length) (txsC (txOf n_cs c_cs)), .sl 4 ((listC n_ls mkLnk c_ls).length) (lnksC (listC n_ls mkLnk c_ls))])], ?_, Nat.le_of_ble_eq_true (by kernel_rfl), ?_, ?_⟩
  ·exact (LeA_cons (leT_a (LeCs.cons ((leL_str hp0)) (LeCs.cons ((leL_Lnk hp1)) LeCs.nil))) LeA_nil)
  ·rw [ev_ref01_All]; exact spec_ref01_All (txOf n_cs c_cs) (listC n_ls mkLnk c_ls) hp
  ·exact all_ref01_All (txOf n_cs c_cs) (listC n_ls mkLnk c_ls) hp
 ·cases h
def Scc103 : Sum := addS Scc102 98 con_ref01_All
theorem VScc103 : Valid Try.prog Scc103 := Valid.add VScc102 ok_ref01_All
def Scc104 : Sum := Scc103
theorem VScc104 : Valid Try.prog Scc104 := VScc103
def vc_clock_CheckOffsets_1 (m : Int) (post : DV → Prop) : Prop := post (.t (.c (.v (.bool (!(inB m (-8000000000 : Int) (8000000000 : Int)))))))
def ann_clock_CheckOffsets_1 : Ann := ⟨fun _ => none, fun _ => none, fun _ => [], I1, false, fun _ => none, fun _ => none⟩
theorem ev_clock_CheckOffsets_1 (J : Inv) (m : Int) (post : DV → Prop) : evFn Try.prog tab Scc104 ann_clock_CheckOffsets_1 J Try.f94 [.t (.c (.v (.int .i64 m)))] post = vc_clock_CheckOffsets_1 m post := by kernel_rfl
theorem fit_clock_CheckOffsets_1 : okFn ann_clock_CheckOffsets_1 Try.f94 = true := by kernel_rfl
theorem lp_clock_CheckOffsets_1 (J : Inv) (post : DV → Prop) : AllG J (loopsFn Try.prog tab Scc104 ann_clock_CheckOffsets_1 J Try.f94 post) = (True) := by kernel_rfl
theorem spec_clock_CheckOffsets_1 (m : Int) : vc_clock_CheckOffsets_1 m (fun r => LeD r (.t (.c (.v (.bool (!inB m (-8000000000) 8000000000)))))) := by
 exact LeD.refl _
def con_clock_CheckOffsets_1 : Con := fun args => match args with
 | [.t (.c (.v (.int .i64 m)))] => some (.t (.c (.v (.bool (!inB m (-8000000000) 8000000000)))), none, false)
 | _ => none
theorem ok_clock_CheckOffsets_1 : Ok Try.prog 94 con_clock_CheckOffsets_1 := by
 refine Ok.fn (ann := ann_clock_CheckOffsets_1) mixed tabOK VScc104 VI1 (fn := Try.f94) (by kernel_rfl) (by kernel_rfl) fit_clock_CheckOffsets_1 fun args r pre fresh h hp => ?_
 unfold con_clock_CheckOffsets_1 at h
 split at h
 ·rename_i m
  cases h
  refine ⟨rfl, fun _ _ _ => False, _, LeA.refl _, Nat.le_of_ble_eq_true (by kernel_rfl), ?_, ?_⟩
  ·rw [ev_clock_CheckOffsets_1]; exact spec_clock_CheckOffsets_1 m
  ·rw [lp_clock_CheckOffsets_1]; trivial
 ·cases h
def Scc105 : Sum := addS Scc104 94 con_clock_CheckOffsets_1
theorem VScc105 : Valid Try.prog Scc105 := Valid.add VScc104 ok_clock_CheckOffsets_1
def mk_slices_IndexFunc_int_int_c_0 (l : List Int) (v0_0 : Int) : DS := ⟨[some (.t (.c (.sl 1 l.length (intsC l)))), some (.t (.fn 94 [])), none, none, none, none, none, some (.t (.c (.v (.int .i64 ((l.length : Nat) : Int))))), some (.t (.c (.v (.int .i64 v0_0)))), none, none, none, none, none, none, none, none, none, none], [none, none, none, none, none, none, none, none, none, none, none, none, none, none, none, none, none, none, none]⟩
def vc_slices_IndexFunc_int_int_c (J : Inv) (l : List Int) (post : DV → Prop) : Prop := ∃ n, J 0 (n :: []) (mk_slices_IndexFunc_int_int_c_0 l 0)
def ann_slices_IndexFunc_int_int_c : Ann := ⟨fun _ => none, fun b => lookA b [(0, (none, some ⟨[0, 1, 7, 8], [], []⟩))], fun _ => [], I1, false, fun _ => none, fun _ => none⟩
theorem ev_slices_IndexFunc_int_int_c (J : Inv) (l : List Int) (post : DV → Prop) : evFn Try.prog tab Scc105 ann_slices_IndexFunc_int_int_c J Try.f124 [.t (.c (.sl 1 l.length (intsC l))), .t (.fn 94 [])] post = vc_slices_IndexFunc_int_int_c J l post := by kernel_rfl
theorem fit_slices_IndexFunc_int_int_c : okFn ann_slices_IndexFunc_int_int_c Try.f124 = true := by kernel_rfl
def rd_slices_IndexFunc_int_int_c_0 (J : Inv) (l : List Int) (v0_0 : Int) (nn0 : Nat) (post : DV → Prop) : Prop := cond (decide (v0_0 < ((l.length : Nat) : Int))) ((0 ≤ v0_0 ∧ v0_0 < ((l.length : Nat) : Int)) ∧ (cond (!inB (l.getD v0_0.toNat 0) (-8000000000) 8000000000) (post (.t (.c (.v (.int .i64 v0_0))))) (lt (IntKind.i64.wrap (v0_0 + (1 : Int))) fun x1 => J 0 (nn0 :: []) (mk_slices_IndexFunc_int_int_c_0 l x1)))) (post (.t (.c (.v (.int .i64 (-1))))))
theorem er_slices_IndexFunc_int_int_c_0 (J : Inv) (l : List Int) (v0_0 : Int) (nn0 : Nat) (post : DV → Prop) : round Try.prog tab Scc105 ann_slices_IndexFunc_int_int_c J Try.f124 post 0 (nn0 :: []) (mk_slices_IndexFunc_int_int_c_0 l v0_0) = rd_slices_IndexFunc_int_int_c_0 J l v0_0 nn0 post := by kernel_rfl
theorem lp_slices_IndexFunc_int_int_c (J : Inv) (post : DV → Prop) : AllG J (loopsFn Try.prog tab Scc105 ann_slices_IndexFunc_int_int_c J Try.f124 post) = (((∀ F s, ¬ J 0 (0 :: F) s) ∧ ∀ n F s, J 0 ((n + 1) :: F) s → round Try.prog tab Scc105 ann_slices_IndexFunc_int_int_c J Try.f124 post 0 (n :: F) s) ∧ True) := by kernel_rfl
def J_slices_IndexFunc_int_int_c (l : List Int) : Inv := fun b F s => match b, F with
 | 0, [nn0] => ∃ (v0_0 : Int), s = mk_slices_IndexFunc_int_int_c_0 l v0_0 ∧ ((l.length ≤ 1000000) ∧ 0 ≤ v0_0 ∧ v0_0 ≤ l.length ∧ (nn0 : Int) + v0_0 = l.length + 1 ∧ ∀ k : Nat, (k : Int) < v0_0 → (!inB (l.getD k 0) (-8000000000) 8000000000) = false)
 | _, _ => False
theorem rnd_slices_IndexFunc_int_int_c_0 (l : List Int) (v0_0 : Int) (nn0 : Nat) (hp : (l).length ≤ 1000000) (hi : (l.length ≤ 1000000) ∧ 0 ≤ v0_0 ∧ v0_0 ≤ l.length ∧ ((nn0 + 1) : Int) + v0_0 = l.length + 1 ∧ ∀ k : Nat, (k : Int) < v0_0 → (!inB (l.getD k 0) (-8000000000) 8000000000) = false) : rd_slices_IndexFunc_int_int_c_0 (J_slices_IndexFunc_int_int_c l) l v0_0 nn0 (fun r => LeD r (.t (.c (.v (.int .i64 (idxP (fun n => !inB n (-8000000000) 8000000000) l)))))) := by
 obtain ⟨i0, i1, i2, i3, i4⟩ := hi
 obtain ⟨k, rfl⟩ : ∃ k : Nat, v0_0 = k := ⟨v0_0.toNat, by omega⟩
 have hk : (k : Int).toNat = k := rfl
 unfold rd_slices_IndexFunc_int_int_c_0
 rw [hk]
 refine cond_i (fun h => ?_) (fun h => leI ?_)
 ·have hlt : k < l.length := by have := of_decide_eq_true h; omega
  refine ⟨by omega, cond_i (fun e => leI ?_) (fun e => lt_i fun x hx => ?_)⟩
  ·exact (idxP_at (d := (0 : Int)) hlt (fun j hj => i4 j (by omega)) (by simpa using e)).symm
  ·rw [wi (by omega)] at hx
   subst hx
   exact ⟨_, rfl, i0, by omega, by omega, by omega, fun j hj => by
    by_cases q : j = k
    ·rw [q]; simpa using e
    ·exact i4 j (by omega)⟩
 ·have hge : k = l.length := by have := of_decide_eq_false h; omega
  subst hge
  exact (idxP_none (d := (0 : Int)) fun j hj => i4 j (by omega)).symm
theorem zero_slices_IndexFunc_int_int_c_0 (l : List Int) (v0_0 : Int)  (hi : (l.length ≤ 1000000) ∧ 0 ≤ v0_0 ∧ v0_0 ≤ l.length ∧ (0 : Int) + v0_0 = l.length + 1 ∧ ∀ k : Nat, (k : Int) < v0_0 → (!inB (l.getD k 0) (-8000000000) 8000000000) = false) : False := by
 omega
theorem spec_slices_IndexFunc_int_int_c (l : List Int) (hp : (l).length ≤ 1000000) : vc_slices_IndexFunc_int_int_c (J_slices_IndexFunc_int_int_c l) l (fun r => LeD r (.t (.c (.v (.int .i64 (idxP (fun n => !inB n (-8000000000) 8000000000) l)))))) := by
 unfold vc_slices_IndexFunc_int_int_c
 exact ⟨l.length + 1, 0, rfl, hp, by omega, by omega, by omega, fun j hj => by omega⟩
theorem all_slices_IndexFunc_int_int_c (l : List Int) (hp : (l).length ≤ 1000000) : AllG (J_slices_IndexFunc_int_int_c l) (loopsFn Try.prog tab Scc105 ann_slices_IndexFunc_int_int_c (J_slices_IndexFunc_int_int_c l) Try.f124 (fun r => LeD r (.t (.c (.v (.int .i64 (idxP (fun n => !inB n (-8000000000) 8000000000) l))))))) := by
 rw [lp_slices_IndexFunc_int_int_c]
 refine ⟨⟨?_, ?_⟩, trivial⟩
 ·intro F s h
  obtain _ | ⟨g, F⟩ := F
  case cons => exact h.elim
  obtain ⟨w0, rfl, hi⟩ := h
  exact zero_slices_IndexFunc_int_int_c_0 l w0 hi
 ·intro n F s h
  obtain _ | ⟨g, F⟩ := F
  case cons => exact h.elim
  obtain ⟨w0, rfl, hi⟩ := h
  rw [er_slices_IndexFunc_int_int_c_0]
  exact rnd_slices_IndexFunc_int_int_c_0 l _ _ hp hi
def con_slices_IndexFunc_int_int_c : Con := fun args => match args with
 | [.t (.c (.sl 1 n_l c_l)), .t (.fn 94 [])] => some (.t (.c (.v (.int .i64 (idxP (fun n => !inB n (-8000000000) 8000000000) (listC n_l mkInt c_l))))), some (numsP 1 n_l c_l ∧ ((listC n_l mkInt c_l)).length ≤ 1000000), false)
 | _ => none
theorem ok_slices_IndexFunc_int_int_c : Ok Try.prog 124 con_slices_IndexFunc_int_int_c := by
 refine Ok.fn (ann := ann_slices_IndexFunc_int_int_c) mixed tabOK VScc105 VI1 (fn := Try.f124) (by kernel_rfl) (by kernel_rfl) fit_slices_IndexFunc_int_int_c fun args r pre fresh h hp => ?_
 unfold con_slices_IndexFunc_int_int_c at h
 split at h
 ·rename_i n_l c_l
  cases h
  obtain ⟨hp0, hp⟩ := hp
  refine ⟨rfl, J_slices_IndexFunc_int_int_c (listC n_l mkInt c_l), [.t (.c (.sl 1 ((listC n_l mkInt c_l).length) (intsC (listC n_l mkInt c_l)))), .t (.fn 94 [])], ?_, Nat.le_of_ble_eq_true (by kernel_rfl), ?_, ?_⟩
  ·exact (LeA_cons (leT_c ((leL_int hp0))) (LeA_cons (leT_f LeCs.nil) LeA_nil))
  ·rw [ev_slices_IndexFunc_int_int_c]; exact spec_slices_IndexFunc_int_int_c (listC n_l mkInt c_l) hp
  ·exact all_slices_IndexFunc_int_int_c (listC n_l mkInt c_l) hp
 ·cases h
def Scc106 : Sum := addF Scc105 124 con_slices_IndexFunc_int_int_c
theorem VScc106 : Valid Try.prog Scc106 := Valid.addF VScc105 ok_slices_IndexFunc_int_int_c
def vc_slices_ContainsFunc_int_int_c (l : List Int) (post : DV → Prop) : Prop := (numsP 1 l.length (intsC l) ∧ ((listC l.length mkInt (intsC l))).length ≤ 1000000) ∧ (post (.t (.c (.v (.bool (decide ((idxP (fun n => !inB n (-8000000000) 8000000000) (listC l.length mkInt (intsC l))) ≥ (0 : Int))))))))
def ann_slices_ContainsFunc_int_int_c : Ann := ⟨fun _ => none, fun _ => none, fun _ => [], I1, false, fun _ => none, fun _ => none⟩
theorem ev_slices_ContainsFunc_int_int_c (J : Inv) (l : List Int) (post : DV → Prop) : evFn Try.prog tab Scc106 ann_slices_ContainsFunc_int_int_c J Try.f80 [.t (.c (.sl 1 l.length (intsC l))), .t (.fn 94 [])] post = vc_slices_ContainsFunc_int_int_c l post := by kernel_rfl
theorem fit_slices_ContainsFunc_int_int_c : okFn ann_slices_ContainsFunc_int_int_c Try.f80 = true := by kernel_rfl
theorem lp_slices_ContainsFunc_int_int_c (J : Inv) (post : DV → Prop) : AllG J (loopsFn Try.prog tab Scc106 ann_slices_ContainsFunc_int_int_c J Try.f80 post) = (True) := by kernel_rfl
theorem spec_slices_ContainsFunc_int_int_c (l : List Int) (hp : (l).length ≤ 1000000) : vc_slices_ContainsFunc_int_int_c l (fun r => LeD r (.t (.c (.v (.bool ((l).any fun n => !inB n (-8000000000) 8000000000)))))) := by
 unfold vc_slices_ContainsFunc_int_int_c
 rw [ints_listC]
 refine ⟨⟨numsP_ints l, hp⟩, leB ?_⟩
 rw [idxP_any]
def con_slices_ContainsFunc_int_int_c : Con := fun args => match args with
 | [.t (.c (.sl 1 n_l c_l)), .t (.fn 94 [])] => some (.t (.c (.v (.bool (((listC n_l mkInt c_l)).any fun n => !inB n (-8000000000) 8000000000)))), some (numsP 1 n_l c_l ∧ ((listC n_l mkInt c_l)).length ≤ 1000000), false)
 | _ => none
theorem ok_slices_ContainsFunc_int_int_c : Ok Try.prog 80 con_slices_ContainsFunc_int_int_c := by
 refine Ok.fn (ann := ann_slices_ContainsFunc_int_int_c) mixed tabOK VScc106 VI1 (fn := Try.f80) (by kernel_rfl) (by kernel_rfl) fit_slices_ContainsFunc_int_int_c fun args r pre fresh h hp => ?_
 unfold con_slices_ContainsFunc_int_int_c at h
 split at h
 ·rename_i n_l c_l
  cases h
  obtain ⟨hp0, hp⟩ := hp
  refine ⟨rfl, fun _ _ _ => False, [.t (.c (.sl 1 ((listC n_l mkInt c_l).length) (intsC (listC n_l mkInt c_l)))), .t (.fn 94 [])], ?_, Nat.le_of_ble_eq_true (by kernel_rfl), ?_, ?_⟩
  ·exact (LeA_cons (leT_c ((leL_int hp0))) (LeA_cons (leT_f LeCs.nil) LeA_nil))
  ·rw [ev_slices_ContainsFunc_int_int_c]; exact spec_slices_ContainsFunc_int_int_c (listC n_l mkInt c_l) hp
  ·rw [lp_slices_ContainsFunc_int_int_c]; trivial
 ·cases h
def Scc107 : Sum := addF Scc106 80 con_slices_ContainsFunc_int_int_c
theorem VScc107 : Valid Try.prog Scc107 := Valid.addF VScc106 ok_slices_ContainsFunc_int_int_c
def mk_clock_CheckOffsets_0 (cs : List ByteArray) (ls : List Lnk) (o : List Int) (v0_0 : Int) : DS := ⟨[none, some (.t (.c (.sl 1 o.length (intsC o)))), none, none, none, none, none, none, none, none, none, none, none, none, none, none, none, none, none, none, none, none, none, none, none, none, none, none, none, none, none, none, none, none, some (.t (.c (.sl 4 ls.length (lnksC ls)))), some (.t (.c (.v (.int .i64 ((ls.length : Nat) : Int))))), some (.t (.c (.v (.int .i64 v0_0)))), none, none, none, none, none, none, none, none, none, none, none, none, none, none, none, none, none, none, none, none, none, none, none, none, none], [none, none, none, none, none, none, none, none, none, none, none, none, none, none, none, none, none, none, none, none, none, none, none, none, none, none, none, none, none, none, none, none, none, none, none, none, none, none, none, none, none, none, none, none, none, none, none, none, none, none, none, none, none, none, none, none, none, none, none, none, none, none]⟩
def vc_clock_CheckOffsets (J : Inv) (cs : List ByteArray) (ls : List Lnk) (o : List Int) (post : DV → Prop) : Prop := (numsP 1 o.length (intsC o) ∧ ((listC o.length mkInt (intsC o))).length ≤ 1000000) ∧ ((txP cs.length (txsC cs) ∧ numsP 4 ls.length (lnksC ls) ∧ (∀ k, k < ((txOf cs.length (txsC cs))).length → (txAt (txOf cs.length (txsC cs)) k).size ≤ 1000000)) ∧ ((numsP 1 3 (genC [[.v (.int .i64 (ntE (txOf cs.length (txsC cs)) (listC ls.length mkLnk (lnksC ls))))], [.v (.int .i64 (unl (((o.length : Nat) : Int) == ((cs.length : Nat) : Int)) (10 : Int)))], [.v (.int .i64 (unl (!(((listC o.length mkInt (intsC o))).any fun n => !inB n (-8000000000) 8000000000)) (2 : Int)))]]) ∧ (([(ntE (txOf cs.length (txsC cs)) (listC ls.length mkLnk (lnksC ls))), (unl (((o.length : Nat) : Int) == ((cs.length : Nat) : Int)) (10 : Int)), (unl (!(((listC o.length mkInt (intsC o))).any fun n => !inB n (-8000000000) 8000000000)) (2 : Int))] : List Int)).length ≤ 100) ∧ (cond ((firstNZ ([(ntE (txOf cs.length (txsC cs)) (listC ls.length mkLnk (lnksC ls))), (unl (((o.length : Nat) : Int) == ((cs.length : Nat) : Int)) (10 : Int)), (unl (!(((listC o.length mkInt (intsC o))).any fun n => !inB n (-8000000000) 8000000000)) (2 : Int))] : List Int)) != (0 : Int)) (post (.tu [.c (.v (.int .i64 0)), .c (.v (.int .i64 (firstNZ ([(ntE (txOf cs.length (txsC cs)) (listC ls.length mkLnk (lnksC ls))), (unl (((o.length : Nat) : Int) == ((cs.length : Nat) : Int)) (10 : Int)), (unl (!(((listC o.length mkInt (intsC o))).any fun n => !inB n (-8000000000) 8000000000)) (2 : Int))] : List Int))))])) ((0 ≤ (0 : Int) ∧ (0 : Int) < ((o.length : Nat) : Int)) ∧ (cond ((o.getD 0 0) != (0 : Int)) (post (.tu [.c (.v (.int .i64 0)), .c (.v (.int .i64 3))])) (∃ n, J 0 (n :: []) (mk_clock_CheckOffsets_0 cs ls o 0)))))))
def ann_clock_CheckOffsets : Ann := ⟨fun r => lookA r [(2, ([[], [0], [], [2], [], [4], [4, 5], [2, 3, 4, 5, 6], [0, 1, 2, 3, 4, 5, 6, 7], [], [9], [0, 1, 2, 3, 4, 5, 6, 7, 8, 9, 10], [0, 1, 2, 3, 4, 5, 6, 7, 8, 9, 10, 11], [0, 1, 2, 3, 4, 5, 6, 7, 8, 9, 10, 11, 12], [0, 1, 2, 3, 4, 5, 6, 7, 8, 9, 10, 11, 12, 13]], [[13, 20, 23, 24, 25], [20, 23, 24, 25], [13, 20, 23, 24, 25], [13, 20, 23, 24, 25], [13, 20, 23, 24, 25], [13, 20, 23, 24, 25], [13, 20, 23, 24, 25], [13, 20, 23, 24, 25], [23, 24, 25], [13, 20, 23, 24, 25], [13, 20, 23, 24, 25], [24, 25], [25], [], []])), (10, ([[], [], [1], [0, 1, 2], [0, 1, 2, 3], [], [], [6], [5, 6, 7], [5, 6, 7, 8], [0, 1, 2, 3, 4, 5, 6, 7, 8, 9], [], [11], [11, 12], [], [14], [14, 15], [0, 1, 2, 3, 4, 5, 6, 7, 8, 9, 10, 11, 12, 13, 14, 15, 16], [0, 1, 2, 3, 4, 5, 6, 7, 8, 9, 10, 11, 12, 13, 14, 15, 16, 17]], [[58], [58], [58], [58], [58], [58], [58], [58], [58], [58], [58], [58], [58], [58], [58], [58], [58], [], []]))], fun b => lookA b [(0, (none, some ⟨[1, 34, 35, 36], [], []⟩))], fun _ => [], I1, false, fun _ => none, fun _ => none⟩
theorem ev_clock_CheckOffsets (J : Inv) (cs : List ByteArray) (ls : List Lnk) (o : List Int) (post : DV → Prop) : evFn Try.prog tab Scc107 ann_clock_CheckOffsets J Try.f40 [.t (.a [.sl 1 cs.length (txsC cs), .sl 4 ls.length (lnksC ls)]), .t (.c (.sl 1 o.length (intsC o)))] post = vc_clock_CheckOffsets J cs ls o post := by kernel_rfl
theorem fit_clock_CheckOffsets : okFn ann_clock_CheckOffsets Try.f40 = true := by kernel_rfl
def rd_clock_CheckOffsets_0 (J : Inv) (cs : List ByteArray) (ls : List Lnk) (o : List Int) (v0_0 : Int) (nn0 : Nat) (post : DV → Prop) : Prop := cond (decide (v0_0 < ((ls.length : Nat) : Int))) ((0 ≤ v0_0 ∧ v0_0 < ((ls.length : Nat) : Int)) ∧ ((0 ≤ ((lnkAt ls v0_0.toNat).to) ∧ ((lnkAt ls v0_0.toNat).to) < ((o.length : Nat) : Int)) ∧ ((0 ≤ ((lnkAt ls v0_0.toNat).frm) ∧ ((lnkAt ls v0_0.toNat).frm) < ((o.length : Nat) : Int)) ∧ (lt (IntKind.i64.wrap ((o.getD (((lnkAt ls v0_0.toNat).to).toNat) 0) - (o.getD (((lnkAt ls v0_0.toNat).frm).toNat) 0))) fun x1 => cond (!(inB x1 ((lnkAt ls v0_0.toNat).lo) ((lnkAt ls v0_0.toNat).hi))) (post (.tu [.c (.v (.int .i64 v0_0)), .c (.v (.int .i64 19))])) (lt (IntKind.i64.wrap (v0_0 + (1 : Int))) fun x2 => J 0 (nn0 :: []) (mk_clock_CheckOffsets_0 cs ls o x2)))))) (post (.tu [.c (.v (.int .i64 0)), .c (.v (.int .i64 0))]))
theorem er_clock_CheckOffsets_0 (J : Inv) (cs : List ByteArray) (ls : List Lnk) (o : List Int) (v0_0 : Int) (nn0 : Nat) (post : DV → Prop) : round Try.prog tab Scc107 ann_clock_CheckOffsets J Try.f40 post 0 (nn0 :: []) (mk_clock_CheckOffsets_0 cs ls o v0_0) = rd_clock_CheckOffsets_0 J cs ls o v0_0 nn0 post := by kernel_rfl
theorem lp_clock_CheckOffsets (J : Inv) (post : DV → Prop) : AllG J (loopsFn Try.prog tab Scc107 ann_clock_CheckOffsets J Try.f40 post) = (((∀ F s, ¬ J 0 (0 :: F) s) ∧ ∀ n F s, J 0 ((n + 1) :: F) s → round Try.prog tab Scc107 ann_clock_CheckOffsets J Try.f40 post 0 (n :: F) s) ∧ True) := by kernel_rfl
def J_clock_CheckOffsets (cs : List ByteArray) (ls : List Lnk) (o : List Int) : Inv := fun b F s => match b, F with
 | 0, [nn0] => ∃ (v0_0 : Int), s = mk_clock_CheckOffsets_0 cs ls o v0_0 ∧ ((ntE cs ls = 0 ∧ coH cs o = 0 ∧ o.getD 0 0 = 0) ∧ 0 ≤ v0_0 ∧ v0_0 ≤ ls.length ∧ (nn0 : Int) + v0_0 = ls.length + 1 ∧ ∀ j : Nat, (j : Int) < v0_0 → coF ls o j = 0)
 | _, _ => False
theorem rnd_clock_CheckOffsets_0 (cs : List ByteArray) (ls : List Lnk) (o : List Int) (v0_0 : Int) (nn0 : Nat) (hp : (∀ k, k < (cs).length → (txAt cs k).size ≤ 1000000) ∧ (o).length ≤ 1000000) (hi : (ntE cs ls = 0 ∧ coH cs o = 0 ∧ o.getD 0 0 = 0) ∧ 0 ≤ v0_0 ∧ v0_0 ≤ ls.length ∧ ((nn0 + 1) : Int) + v0_0 = ls.length + 1 ∧ ∀ j : Nat, (j : Int) < v0_0 → coF ls o j = 0) : rd_clock_CheckOffsets_0 (J_clock_CheckOffsets cs ls o) cs ls o v0_0 nn0 (fun r => LeD r (.tu [.c (.v (.int .i64 (ckI cs ls o))), .c (.v (.int .i64 (ckE cs ls o)))])) := by
 obtain ⟨⟨q1, q2, q3⟩, i1, i2, i3, i4⟩ := hi
 obtain ⟨k, rfl⟩ : ∃ k : Nat, v0_0 = k := ⟨v0_0.toNat, by omega⟩
 have hk : (k : Int).toNat = k := rfl
 obtain ⟨c1, c2, c3⟩ := coH_ok q2
 have z := ntE_bd q1
 have zl := z.2.1
 unfold rd_clock_CheckOffsets_0
 simp only [lnks_listC]
 rw [hk]
 refine cond_i (fun h => ?_) (fun h => ?_)
 ·have hlt : k < ls.length := by have := of_decide_eq_true h; omega
  have zk := z.2.2 k hlt
  rw [Int.toNat_natCast] at zk
  obtain ⟨⟨a1, a2⟩, ⟨a3, a4⟩, a5, a6, a7, a8⟩ := zk
  have b1 := c2 (lnkAt ls k).to.toNat (by omega)
  have b2 := c2 (lnkAt ls k).frm.toNat (by omega)
  refine ⟨by omega, by omega, by omega, lt_i fun x1 h1 => cond_i (fun e => ?_) (fun e => lt_i fun x hx => ?_)⟩
  ·rw [wi (by omega)] at h1
   have e : inB x1 (lnkAt ls k).lo (lnkAt ls k).hi = false := by simpa using e
   have e0 : coF ls o k = 19 := by unfold coF; rw [h1, e]; rfl
   have s1 := scan_at (f := coF ls o) (n := ls.length) (k := k) (fun j hj => i4 j (by omega)) hlt (by rw [e0]; decide)
   have s2 := scanI_at (f := coF ls o) (n := ls.length) (k := k) (fun j hj => i4 j (by omega)) hlt (by rw [e0]; decide)
   rw [e0] at s1
   refine le2 ?_ ?_
   ·unfold ckI coI; rw [if_neg (by rw [q1]; simp), if_neg (by rw [q2]; simp), if_neg (by rw [q3]; simp)]; rw [s2]
   ·unfold ckE coE; rw [if_neg (by rw [q1]; simp), if_neg (by rw [q2]; simp), if_neg (by rw [q3]; simp)]; rw [s1]
  ·rw [wi (by omega)] at h1
   rw [wi (by omega)] at hx
   subst hx
   have e : inB x1 (lnkAt ls k).lo (lnkAt ls k).hi = true := by simpa using e
   refine ⟨_, rfl, ⟨q1, q2, q3⟩, by omega, by omega, by omega, fun j hj => ?_⟩
   rcases (by omega : (j : Int) < k ∨ j = k) with c | rfl
   ·exact i4 j c
   ·unfold coF; rw [h1, e]; rfl
 ·have h := of_decide_eq_false h
  have s1 := scan_end (f := coF ls o) (n := ls.length) fun j hj => i4 j (by omega)
  have s2 := scanI_end (f := coF ls o) (n := ls.length) fun j hj => i4 j (by omega)
  refine le2 ?_ ?_
  ·unfold ckI coI; rw [if_neg (by rw [q1]; simp), if_neg (by rw [q2]; simp), if_neg (by rw [q3]; simp)]; rw [s2]
  ·unfold ckE coE; rw [if_neg (by rw [q1]; simp), if_neg (by rw [q2]; simp), if_neg (by rw [q3]; simp)]; rw [s1]
theorem zero_clock_CheckOffsets_0 (cs : List ByteArray) (ls : List Lnk) (o : List Int) (v0_0 : Int)  (hi : (ntE cs ls = 0 ∧ coH cs o = 0 ∧ o.getD 0 0 = 0) ∧ 0 ≤ v0_0 ∧ v0_0 ≤ ls.length ∧ (0 : Int) + v0_0 = ls.length + 1 ∧ ∀ j : Nat, (j : Int) < v0_0 → coF ls o j = 0) : False := by
 omega
theorem spec_clock_CheckOffsets (cs : List ByteArray) (ls : List Lnk) (o : List Int) (hp : (∀ k, k < (cs).length → (txAt cs k).size ≤ 1000000) ∧ (o).length ≤ 1000000) : vc_clock_CheckOffsets (J_clock_CheckOffsets cs ls o) cs ls o (fun r => LeD r (.tu [.c (.v (.int .i64 (ckI cs ls o))), .c (.v (.int .i64 (ckE cs ls o)))])) := by
 unfold vc_clock_CheckOffsets
 simp only [txs_of, lnks_listC, ints_listC, List.not_any_eq_all_not, Bool.not_not]
 refine ⟨⟨numsP_ints o, hp.2⟩, ⟨txP_txs cs, numsP_lnks ls, hp.1⟩, ⟨numsP_gen [_, _, _], Nat.le_of_ble_eq_true rfl⟩, cond_i (fun h => ?_) (fun h => ?_)⟩
 ·have h : firstNZ [ntE cs ls, unl (((o.length : Nat) : Int) == ((cs.length : Nat) : Int)) 10, unl (o.all fun n => inB n (-8000000000) 8000000000) 2] ≠ 0 := by simpa using h
  rw [ck_hd]
  by_cases q : ntE cs ls = 0
  ·have h2 : coH cs o ≠ 0 := by rw [ck_hd, q] at h; exact fun e => h (by rw [if_neg (by simp), e])
   refine le2 ?_ ?_
   ·unfold ckI coI; rw [if_neg (by rw [q]; simp), if_pos h2]
   ·unfold ckE coE; rw [if_neg (by rw [q]; simp), if_neg (by rw [q]; simp), if_pos h2]
  ·refine le2 ?_ ?_
   ·unfold ckI; rw [if_pos q]
   ·unfold ckE; rw [if_pos q, if_pos q]
 ·have h : firstNZ [ntE cs ls, unl (((o.length : Nat) : Int) == ((cs.length : Nat) : Int)) 10, unl (o.all fun n => inB n (-8000000000) 8000000000) 2] = 0 := by simpa using h
  rw [ck_hd] at h
  have q1 : ntE cs ls = 0 := by
   by_cases q : ntE cs ls = 0
   ·exact q
   ·rw [if_pos q] at h; exact absurd h q
  rw [if_neg (by rw [q1]; simp)] at h
  have z := (ntE_bd q1).1
  obtain ⟨c1, c2, c3⟩ := coH_ok h
  refine ⟨⟨by trivial, by omega⟩, cond_i (fun g => ?_) (fun g => ?_)⟩
  ·have g : o.getD 0 0 ≠ 0 := by simpa using g
   refine le2 ?_ ?_
   ·unfold ckI coI; rw [if_neg (by rw [q1]; simp), if_neg (by rw [h]; simp), if_pos g]
   ·unfold ckE coE; rw [if_neg (by rw [q1]; simp), if_neg (by rw [h]; simp), if_pos g]
  ·have g : o.getD 0 0 = 0 := by simpa using g
   exact ⟨ls.length + 1, 0, rfl, ⟨q1, h, g⟩, by omega, by omega, by omega, fun j hj => by omega⟩
theorem all_clock_CheckOffsets (cs : List ByteArray) (ls : List Lnk) (o : List Int) (hp : (∀ k, k < (cs).length → (txAt cs k).size ≤ 1000000) ∧ (o).length ≤ 1000000) : AllG (J_clock_CheckOffsets cs ls o) (loopsFn Try.prog tab Scc107 ann_clock_CheckOffsets (J_clock_CheckOffsets cs ls o) Try.f40 (fun r => LeD r (.tu [.c (.v (.int .i64 (ckI cs ls o))), .c (.v (.int .i64 (ckE cs ls o)))]))) := by
 rw [lp_clock_CheckOffsets]
 refine ⟨⟨?_, ?_⟩, trivial⟩
 ·intro F s h
  obtain _ | ⟨g, F⟩ := F
  case cons => exact h.elim
  obtain ⟨w0, rfl, hi⟩ := h
  exact zero_clock_CheckOffsets_0 cs ls o w0 hi
 ·intro n F s h
  obtain _ | ⟨g, F⟩ := F
  case cons => exact h.elim
  obtain ⟨w0, rfl, hi⟩ := h
  rw [er_clock_CheckOffsets_0]
  exact rnd_clock_CheckOffsets_0 cs ls o _ _ hp hi
def con_clock_CheckOffsets : Con := fun args => match args with
 | [.t (.a [.sl 1 n_cs c_cs, .sl 4 n_ls c_ls]), .t (.c (.sl 1 n_o c_o))] => some (.tu [.c (.v (.int .i64 (ckI (txOf n_cs c_cs) (listC n_ls mkLnk c_ls) (listC n_o mkInt c_o)))), .c (.v (.int .i64 (ckE (txOf n_cs c_cs) (listC n_ls mkLnk c_ls) (listC n_o mkInt c_o))))], some (txP n_cs c_cs ∧ numsP 4 n_ls c_ls ∧ numsP 1 n_o c_o ∧ (∀ k, k < ((txOf n_cs c_cs)).length → (txAt (txOf n_cs c_cs) k).size ≤ 1000000) ∧ ((listC n_o mkInt c_o)).length ≤ 1000000), false)
 | _ => none
theorem ok_clock_CheckOffsets : Ok Try.prog 40 con_clock_CheckOffsets := by
 refine Ok.fn (ann := ann_clock_CheckOffsets) mixed tabOK VScc107 VI1 (fn := Try.f40) (by kernel_rfl) (by kernel_rfl) fit_clock_CheckOffsets fun args r pre fresh h hp => ?_
 unfold con_clock_CheckOffsets at h
 split at h
 ·rename_i n_cs c_cs n_ls c_ls n_o c_o
  cases h
  obtain ⟨hp0, hp1, hp2, hp⟩ := hp
  refine ⟨rfl, J_clock_CheckOffsets (txOf n_cs c_cs) (listC n_ls mkLnk c_ls) (listC n_o mkInt c_o), [.t (.a [.sl 1 ((txOf n_cs c_cs).length) (txsC (txOf n_cs c_cs)), .sl 4 ((listC n_ls mkLnk c_ls).length) (lnksC (listC n_ls mkLnk c_ls))]), .t (.c (.sl 1 ((listC n_o mkInt c_o).length) (intsC (listC n_o mkInt c_o))))], ?_, Nat.le_of_ble_eq_true (by kernel_rfl), ?_, ?_⟩
  ·exact (LeA_cons (leT_a (LeCs.cons ((leL_str hp0)) (LeCs.cons ((leL_Lnk hp1)) LeCs.nil))) (LeA_cons (leT_c ((leL_int hp2))) LeA_nil))
  ·rw [ev_clock_CheckOffsets]; exact spec_clock_CheckOffsets (txOf n_cs c_cs) (listC n_ls mkLnk c_ls) (listC n_o mkInt c_o) hp
  ·exact all_clock_CheckOffsets (txOf n_cs c_cs) (listC n_ls mkLnk c_ls) (listC n_o mkInt c_o) hp
 ·cases h
def Scc108 : Sum := addS Scc107 40 con_clock_CheckOffsets
theorem VScc108 : Valid Try.prog Scc108 := Valid.add VScc107 ok_clock_CheckOffsets
def mk_ref01_CheckOffsets_0 (cs : List ByteArray) (ls : List Lnk) (o : List Int) (v0_0 : Int) : DS := ⟨[none, some (.t (.c (.sl 1 o.length (intsC o)))), some (.t (.c (.p 2 0))), none, none, none, some (.t (.c (.v (.int .i64 v0_0)))), none, none, none, none, none, none, none, none, none, none, none, none, none, none, none, none, none, none, none, none, none, none, none, none, none, none, none, none, none, none, none, none, none, none, none, none, none, none, none, none, none, none, none, none, none, none, none, none, none, none, none, none, none, none, none, none], [none, none, some (.box 55 [.sl 1 cs.length (txsC cs), .sl 4 ls.length (lnksC ls)]), none, none, none, none, none, none, none, none, none, none, none, none, none, none, none, none, none, none, none, none, none, none, none, none, none, none, none, none, none, none, none, none, none, none, none, none, none, none, none, none, none, none, none, none, none, none, none, none, none, none, none, none, none, none, none, none, none, none, none, none]⟩
def mk_ref01_CheckOffsets_2 (cs : List ByteArray) (ls : List Lnk) (o : List Int) (v2_0 : Int) : DS := ⟨[none, some (.t (.c (.sl 1 o.length (intsC o)))), some (.t (.c (.p 2 0))), none, none, none, none, some (.t (.c (.v (.int .i64 v2_0)))), none, none, none, none, none, none, none, none, none, none, none, none, none, none, none, none, none, none, none, none, none, none, none, none, none, none, none, none, none, none, none, none, none, none, none, none, none, none, none, none, none, none, none, none, none, none, none, none, none, none, none, none, none, none, none], [none, none, some (.box 55 [.sl 1 cs.length (txsC cs), .sl 4 ls.length (lnksC ls)]), none, none, none, none, none, none, none, none, none, none, none, none, none, none, none, none, none, none, none, none, none, none, none, none, none, none, none, none, none, none, none, none, none, none, none, none, none, none, none, none, none, none, none, none, none, none, none, none, none, none, none, none, none, none, none, none, none, none, none, none]⟩
def vc_ref01_CheckOffsets (J : Inv) (cs : List ByteArray) (ls : List Lnk) (o : List Int) (post : DV → Prop) : Prop := cond (((o.length : Nat) : Int) != ((cs.length : Nat) : Int)) (post (.tu [.c (.v (.int .i64 0)), .c (.v (.int .i64 10))])) (∃ n, J 0 (n :: []) (mk_ref01_CheckOffsets_0 cs ls o 0))
def ann_ref01_CheckOffsets : Ann := ⟨fun r => lookA r [(14, ([[], [], [1], [0, 1, 2], [0, 1, 2, 3], [], [], [6], [5, 6, 7], [5, 6, 7, 8], [0, 1, 2, 3, 4, 5, 6, 7, 8, 9], [], [11], [11, 12], [], [14], [14, 15], [0, 1, 2, 3, 4, 5, 6, 7, 8, 9, 10, 11, 12, 13, 14, 15, 16], [0, 1, 2, 3, 4, 5, 6, 7, 8, 9, 10, 11, 12, 13, 14, 15, 16, 17]], [[60], [60], [60], [60], [60], [60], [60], [60], [60], [60], [60], [60], [60], [60], [60], [60], [60], [], []]))], fun b => lookA b [(0, (none, some ⟨[1, 2, 6], [2], []⟩)), (2, (none, some ⟨[1, 2, 7], [2], []⟩))], fun _ => [], I1, false, fun _ => none, fun _ => none⟩
theorem ev_ref01_CheckOffsets (J : Inv) (cs : List ByteArray) (ls : List Lnk) (o : List Int) (post : DV → Prop) : evFn Try.prog tab Scc108 ann_ref01_CheckOffsets J Try.f44 [.t (.a [.sl 1 cs.length (txsC cs), .sl 4 ls.length (lnksC ls)]), .t (.c (.sl 1 o.length (intsC o)))] post = vc_ref01_CheckOffsets J cs ls o post := by kernel_rfl
theorem fit_ref01_CheckOffsets : okFn ann_ref01_CheckOffsets Try.f44 = true := by kernel_rfl
def rd_ref01_CheckOffsets_0 (J : Inv) (cs : List ByteArray) (ls : List Lnk) (o : List Int) (v0_0 : Int) (nn0 : Nat) (post : DV → Prop) : Prop := cond (decide (v0_0 < ((o.length : Nat) : Int))) ((0 ≤ v0_0 ∧ v0_0 < ((o.length : Nat) : Int)) ∧ (cond (!(inB (o.getD v0_0.toNat 0) (-8000000000 : Int) (8000000000 : Int))) (post (.tu [.c (.v (.int .i64 0)), .c (.v (.int .i64 2))])) (lt (IntKind.i64.wrap (v0_0 + (1 : Int))) fun x1 => J 0 (nn0 :: []) (mk_ref01_CheckOffsets_0 cs ls o x1)))) ((0 ≤ (0 : Int) ∧ (0 : Int) < ((o.length : Nat) : Int)) ∧ (cond ((o.getD 0 0) != (0 : Int)) (post (.tu [.c (.v (.int .i64 0)), .c (.v (.int .i64 3))])) (∃ n, J 2 (n :: []) (mk_ref01_CheckOffsets_2 cs ls o 0))))
theorem er_ref01_CheckOffsets_0 (J : Inv) (cs : List ByteArray) (ls : List Lnk) (o : List Int) (v0_0 : Int) (nn0 : Nat) (post : DV → Prop) : round Try.prog tab Scc108 ann_ref01_CheckOffsets J Try.f44 post 0 (nn0 :: []) (mk_ref01_CheckOffsets_0 cs ls o v0_0) = rd_ref01_CheckOffsets_0 J cs ls o v0_0 nn0 post := by kernel_rfl
def rd_ref01_CheckOffsets_2 (J : Inv) (cs : List ByteArray) (ls : List Lnk) (o : List Int) (v2_0 : Int) (nn2 : Nat) (post : DV → Prop) : Prop := cond (decide (v2_0 < ((ls.length : Nat) : Int))) ((0 ≤ v2_0 ∧ v2_0 < ((ls.length : Nat) : Int)) ∧ ((0 ≤ ((lnkAt ls v2_0.toNat).to) ∧ ((lnkAt ls v2_0.toNat).to) < ((o.length : Nat) : Int)) ∧ ((0 ≤ ((lnkAt ls v2_0.toNat).frm) ∧ ((lnkAt ls v2_0.toNat).frm) < ((o.length : Nat) : Int)) ∧ (lt (IntKind.i64.wrap ((o.getD (((lnkAt ls v2_0.toNat).to).toNat) 0) - (o.getD (((lnkAt ls v2_0.toNat).frm).toNat) 0))) fun x1 => cond (!(inB x1 ((lnkAt ls v2_0.toNat).lo) ((lnkAt ls v2_0.toNat).hi))) (post (.tu [.c (.v (.int .i64 v2_0)), .c (.v (.int .i64 19))])) (lt (IntKind.i64.wrap (v2_0 + (1 : Int))) fun x2 => J 2 (nn2 :: []) (mk_ref01_CheckOffsets_2 cs ls o x2)))))) (post (.tu [.c (.v (.int .i64 0)), .c (.v (.int .i64 0))]))
theorem er_ref01_CheckOffsets_2 (J : Inv) (cs : List ByteArray) (ls : List Lnk) (o : List Int) (v2_0 : Int) (nn2 : Nat) (post : DV → Prop) : round Try.prog tab Scc108 ann_ref01_CheckOffsets J Try.f44 post 1 (nn2 :: []) (mk_ref01_CheckOffsets_2 cs ls o v2_0) = rd_ref01_CheckOffsets_2 J cs ls o v2_0 nn2 post := by kernel_rfl
theorem lp_ref01_CheckOffsets (J : Inv) (post : DV → Prop) : AllG J (loopsFn Try.prog tab Scc108 ann_ref01_CheckOffsets J Try.f44 post) = (((∀ F s, ¬ J 0 (0 :: F) s) ∧ ∀ n F s, J 0 ((n + 1) :: F) s → round Try.prog tab Scc108 ann_ref01_CheckOffsets J Try.f44 post 0 (n :: F) s) ∧ ((∀ F s, ¬ J 2 (0 :: F) s) ∧ ∀ n F s, J 2 ((n + 1) :: F) s → round Try.prog tab Scc108 ann_ref01_CheckOffsets J Try.f44 post 1 (n :: F) s) ∧ True) := by kernel_rfl
def J_ref01_CheckOffsets (cs : List ByteArray) (ls : List Lnk) (o : List Int) : Inv := fun b F s => match b, F with
 | 0, [nn0] => ∃ (v0_0 : Int), s = mk_ref01_CheckOffsets_0 cs ls o v0_0 ∧ ((ntE cs ls = 0 ∧ o.length = cs.length) ∧ 0 ≤ v0_0 ∧ v0_0 ≤ o.length ∧ (nn0 : Int) + v0_0 = o.length + 1 ∧ ∀ j : Nat, (j : Int) < v0_0 → inB (o.getD j 0) (-8000000000) 8000000000 = true)
 | 2, [nn2] => ∃ (v2_0 : Int), s = mk_ref01_CheckOffsets_2 cs ls o v2_0 ∧ ((ntE cs ls = 0 ∧ coH cs o = 0 ∧ o.getD 0 0 = 0) ∧ 0 ≤ v2_0 ∧ v2_0 ≤ ls.length ∧ (nn2 : Int) + v2_0 = ls.length + 1 ∧ ∀ j : Nat, (j : Int) < v2_0 → coF ls o j = 0)
 | _, _ => False
theorem rnd_ref01_CheckOffsets_0 (cs : List ByteArray) (ls : List Lnk) (o : List Int) (v0_0 : Int) (nn0 : Nat) (hp : ntE cs ls = 0) (hi : (ntE cs ls = 0 ∧ o.length = cs.length) ∧ 0 ≤ v0_0 ∧ v0_0 ≤ o.length ∧ ((nn0 + 1) : Int) + v0_0 = o.length + 1 ∧ ∀ j : Nat, (j : Int) < v0_0 → inB (o.getD j 0) (-8000000000) 8000000000 = true) : rd_ref01_CheckOffsets_0 (J_ref01_CheckOffsets cs ls o) cs ls o v0_0 nn0 (fun r => LeD r (.tu [.c (.v (.int .i64 (coI cs ls o))), .c (.v (.int .i64 (coE cs ls o)))])) := by
 obtain ⟨⟨q1, q2⟩, i1, i2, i3, i4⟩ := hi
 obtain ⟨k, rfl⟩ : ∃ k : Nat, v0_0 = k := ⟨v0_0.toNat, by omega⟩
 have hk : (k : Int).toNat = k := rfl
 have z := (ntE_bd q1).1
 have h0 : (((o.length : Nat) : Int) == ((cs.length : Nat) : Int)) = true := by simp; omega
 unfold rd_ref01_CheckOffsets_0
 rw [hk]
 refine cond_i (fun h => ⟨by have := of_decide_eq_true h; omega, cond_i (fun e => ?_) (fun e => lt_i fun x hx => ?_)⟩) (fun h => ⟨⟨by trivial, by omega⟩, ?_⟩)
 ·have hlt : k < o.length := by have := of_decide_eq_true h; omega
  have e : inB (o.getD k 0) (-8000000000) 8000000000 = false := by simpa using e
  have e2 : (o.all fun n => inB n (-8000000000) 8000000000) = false := by
   rw [Bool.eq_false_iff]; intro c
   have := List.all_eq_true.1 c (o.getD k 0) (by rw [show o.getD k 0 = o[k] by simp [List.getD, hlt]]; exact List.getElem_mem hlt)
   rw [e] at this; cases this
  have e3 : coH cs o = 2 := by unfold coH; rw [h0, e2]; rfl
  refine le2 ?_ ?_
  ·unfold coI; rw [if_pos (by rw [e3]; decide)]
  ·unfold coE; rw [if_pos (by rw [e3]; decide), e3]
 ·have hlt : k < o.length := by have := of_decide_eq_true h; omega
  rw [wi (by omega)] at hx
  subst hx
  refine ⟨_, rfl, ⟨q1, q2⟩, by omega, by omega, by omega, fun j hj => ?_⟩
  rcases (by omega : (j : Int) < k ∨ j = k) with c | rfl
  ·exact i4 j c
  ·simpa using e
 ·have h := of_decide_eq_false h
  have e2 : (o.all fun n => inB n (-8000000000) 8000000000) = true := List.all_eq_true.2 fun x hx => by
   obtain ⟨i, hi, e⟩ := List.mem_iff_getElem.1 hx
   have := i4 i (by omega)
   rwa [show o.getD i 0 = x by simp [List.getD, hi, e]] at this
  have e3 : coH cs o = 0 := by unfold coH; rw [h0, e2]; rfl
  refine cond_i (fun g => ?_) (fun g => ?_)
  ·have g : o.getD 0 0 ≠ 0 := by simpa using g
   refine le2 ?_ ?_
   ·unfold coI; rw [if_neg (by rw [e3]; simp), if_pos g]
   ·unfold coE; rw [if_neg (by rw [e3]; simp), if_pos g]
  ·have g : o.getD 0 0 = 0 := by simpa using g
   exact ⟨ls.length + 1, 0, rfl, ⟨q1, e3, g⟩, by omega, by omega, by omega, fun j hj => by omega⟩
theorem zero_ref01_CheckOffsets_0 (cs : List ByteArray) (ls : List Lnk) (o : List Int) (v0_0 : Int)  (hi : (ntE cs ls = 0 ∧ o.length = cs.length) ∧ 0 ≤ v0_0 ∧ v0_0 ≤ o.length ∧ (0 : Int) + v0_0 = o.length + 1 ∧ ∀ j : Nat, (j : Int) < v0_0 → inB (o.getD j 0) (-8000000000) 8000000000 = true) : False := by
 omega
theorem rnd_ref01_CheckOffsets_2 (cs : List ByteArray) (ls : List Lnk) (o : List Int) (v2_0 : Int) (nn2 : Nat) (hp : ntE cs ls = 0) (hi : (ntE cs ls = 0 ∧ coH cs o = 0 ∧ o.getD 0 0 = 0) ∧ 0 ≤ v2_0 ∧ v2_0 ≤ ls.length ∧ ((nn2 + 1) : Int) + v2_0 = ls.length + 1 ∧ ∀ j : Nat, (j : Int) < v2_0 → coF ls o j = 0) : rd_ref01_CheckOffsets_2 (J_ref01_CheckOffsets cs ls o) cs ls o v2_0 nn2 (fun r => LeD r (.tu [.c (.v (.int .i64 (coI cs ls o))), .c (.v (.int .i64 (coE cs ls o)))])) := by
 obtain ⟨⟨q1, q2, q3⟩, i1, i2, i3, i4⟩ := hi
 obtain ⟨k, rfl⟩ : ∃ k : Nat, v2_0 = k := ⟨v2_0.toNat, by omega⟩
 have hk : (k : Int).toNat = k := rfl
 obtain ⟨c1, c2, c3⟩ := coH_ok q2
 have z := ntE_bd q1
 have zl := z.2.1
 unfold rd_ref01_CheckOffsets_2
 simp only [lnks_listC]
 rw [hk]
 refine cond_i (fun h => ?_) (fun h => ?_)
 ·have hlt : k < ls.length := by have := of_decide_eq_true h; omega
  have zk := z.2.2 k hlt
  rw [Int.toNat_natCast] at zk
  obtain ⟨⟨a1, a2⟩, ⟨a3, a4⟩, a5, a6, a7, a8⟩ := zk
  have b1 := c2 (lnkAt ls k).to.toNat (by omega)
  have b2 := c2 (lnkAt ls k).frm.toNat (by omega)
  refine ⟨by omega, by omega, by omega, lt_i fun x1 h1 => cond_i (fun e => ?_) (fun e => lt_i fun x hx => ?_)⟩
  ·rw [wi (by omega)] at h1
   have e : inB x1 (lnkAt ls k).lo (lnkAt ls k).hi = false := by simpa using e
   have e0 : coF ls o k = 19 := by unfold coF; rw [h1, e]; rfl
   have s1 := scan_at (f := coF ls o) (n := ls.length) (k := k) (fun j hj => i4 j (by omega)) hlt (by rw [e0]; decide)
   have s2 := scanI_at (f := coF ls o) (n := ls.length) (k := k) (fun j hj => i4 j (by omega)) hlt (by rw [e0]; decide)
   rw [e0] at s1
   refine le2 ?_ ?_
   ·unfold coI; rw [if_neg (by rw [q2]; simp), if_neg (by rw [q3]; simp)]; rw [s2]
   ·unfold coE; rw [if_neg (by rw [q2]; simp), if_neg (by rw [q3]; simp)]; rw [s1]
  ·rw [wi (by omega)] at h1
   rw [wi (by omega)] at hx
   subst hx
   have e : inB x1 (lnkAt ls k).lo (lnkAt ls k).hi = true := by simpa using e
   refine ⟨_, rfl, ⟨q1, q2, q3⟩, by omega, by omega, by omega, fun j hj => ?_⟩
   rcases (by omega : (j : Int) < k ∨ j = k) with c | rfl
   ·exact i4 j c
   ·unfold coF; rw [h1, e]; rfl
 ·have h := of_decide_eq_false h
  have s1 := scan_end (f := coF ls o) (n := ls.length) fun j hj => i4 j (by omega)
  have s2 := scanI_end (f := coF ls o) (n := ls.length) fun j hj => i4 j (by omega)
  refine le2 ?_ ?_
  ·unfold coI; rw [if_neg (by rw [q2]; simp), if_neg (by rw [q3]; simp)]; rw [s2]
  ·unfold coE; rw [if_neg (by rw [q2]; simp), if_neg (by rw [q3]; simp)]; rw [s1]
theorem zero_ref01_CheckOffsets_2 (cs : List ByteArray) (ls : List Lnk) (o : List Int) (v2_0 : Int)  (hi : (ntE cs ls = 0 ∧ coH cs o = 0 ∧ o.getD 0 0 = 0) ∧ 0 ≤ v2_0 ∧ v2_0 ≤ ls.length ∧ (0 : Int) + v2_0 = ls.length + 1 ∧ ∀ j : Nat, (j : Int) < v2_0 → coF ls o j = 0) : False := by
 omega
theorem spec_ref01_CheckOffsets (cs : List ByteArray) (ls : List Lnk) (o : List Int) (hp : ntE cs ls = 0) : vc_ref01_CheckOffsets (J_ref01_CheckOffsets cs ls o) cs ls o (fun r => LeD r (.tu [.c (.v (.int .i64 (coI cs ls o))), .c (.v (.int .i64 (coE cs ls o)))])) := by
  unfold vc_ref01_CheckOffsets
  refine cond_i (fun h => ?_) (fun h => ?_)
  · have h0 : (((o.length : Nat) : Int) == ((cs.length : Nat) : Int)) = false := by
      rw [Bool.eq_false_iff]; intro c; rw [bne, c] at h; cases h
    have e : coH cs o = 10 := by unfold coH; rw [h0]; rfl
    refine le2 ?_ ?_
    · unfold coI; rw [if_pos (by rw [e]; decide)]
    · unfold coE; rw [if_pos (by rw [e]; decide), e]
  · have h0 : o.length = cs.length := by have : ((o.length : Nat) : Int) = ((cs.length : Nat) : Int) := by simpa using h
                                         omega
    have z := (ntE_bd hp).1
    exact ⟨o.length + 1, 0, rfl, ⟨hp, h0⟩, by omega, by omega, by omega, fun j hj => by omega⟩
theorem all_ref01_CheckOffsets (cs : List ByteArray) (ls : List Lnk) (o : List Int) (hp : ntE cs ls = 0) : AllG (J_ref01_CheckOffsets cs ls o) (loopsFn Try.prog tab Scc108 ann_ref01_CheckOffsets (J_ref01_CheckOffsets cs ls o) Try.f44 (fun r => LeD r (.tu [.c (.v (.int .i64 (coI cs ls o))), .c (.v (.int .i64 (coE cs ls o)))]))) := by
 rw [lp_ref01_CheckOffsets]
 refine ⟨⟨?_, ?_⟩, ⟨?_, ?_⟩, trivial⟩
 ·intro F s h
  obtain _ | ⟨g, F⟩ := F
  case cons => exact h.elim
  obtain ⟨w0, rfl, hi⟩ := h
  exact zero_ref01_CheckOffsets_0 cs ls o w0 hi
 ·intro n F s h
  obtain _ | ⟨g, F⟩ := F
  case cons => exact h.elim
  obtain ⟨w0, rfl, hi⟩ := h
  rw [er_ref01_CheckOffsets_0]
  exact rnd_ref01_CheckOffsets_0 cs ls o _ _ hp hi
 ·intro F s h
  obtain _ | ⟨g, F⟩ := F
  case cons => exact h.elim
  obtain ⟨w0, rfl, hi⟩ := h
  exact zero_ref01_CheckOffsets_2 cs ls o w0 hi
 ·intro n F s h
  obtain _ | ⟨g, F⟩ := F
  case cons => exact h.elim
  obtain ⟨w0, rfl, hi⟩ := h
  rw [er_ref01_CheckOffsets_2]
  exact rnd_ref01_CheckOffsets_2 cs ls o _ _ hp hi
def con_ref01_CheckOffsets : Con := fun args => match args with
 | [.t (.a [.sl 1 n_cs c_cs, .sl 4 n_ls c_ls]), .t (.c (.sl 1 n_o c_o))] => some (.tu [.c (.v (.int .i64 (coI (txOf n_cs c_cs) (listC n_ls mkLnk c_ls) (listC n_o mkInt c_o)))), .c (.v (.int .i64 (coE (txOf n_cs c_cs) (listC n_ls mkLnk c_ls) (listC n_o mkInt c_o))))], some (txP n_cs c_cs ∧ numsP 4 n_ls c_ls ∧ numsP 1 n_o c_o ∧ ntE (txOf n_cs c_cs) (listC n_ls mkLnk c_ls) = 0), false)
 | _ => none
theorem ok_ref01_CheckOffsets : Ok Try.prog 44 con_ref01_CheckOffsets := by
 refine Ok.fn (ann := ann_ref01_CheckOffsets) mixed tabOK VScc108 VI1 (fn := Try.f44) (by kernel_rfl) (by kernel_rfl) fit_ref01_CheckOffsets fun args r pre fresh h hp => ?_
 unfold con_ref01_CheckOffsets at h
 split at h
 ·rename_i n_cs c_cs n_ls c_ls n_o c_o
  cases h
  obtain ⟨hp0, hp1, hp2, hp⟩ := hp
  refine ⟨rfl, J_ref01_CheckOffsets (txOf n_cs c_cs) (listC n_ls mkLnk c_ls) (listC n_o mkInt c_o), [.t (.a [.sl 1 ((txOf n_cs c_cs).length) (txsC (txOf n_cs c_cs)), .sl 4 ((listC n_ls mkLnk c_ls).length) (lnksC (listC n_ls mkLnk c_ls))]), .t (.c (.sl 1 ((listC n_o mkInt c_o).length) (intsC (listC n_o mkInt c_o))))], ?_, Nat.le_of_ble_eq_true (by kernel_rfl), ?_, ?_⟩
  ·exact (LeA_cons (leT_a (LeCs.cons ((leL_str hp0)) (LeCs.cons ((leL_Lnk hp1)) LeCs.nil))) (LeA_cons (leT_c ((leL_int hp2))) LeA_nil))
  ·rw [ev_ref01_CheckOffsets]; exact spec_ref01_CheckOffsets (txOf n_cs c_cs) (listC n_ls mkLnk c_ls) (listC n_o mkInt c_o) hp
  ·exact all_ref01_CheckOffsets (txOf n_cs c_cs) (listC n_ls mkLnk c_ls) (listC n_o mkInt c_o) hp
 ·cases h
def Scc109 : Sum := addS Scc108 44 con_ref01_CheckOffsets
theorem VScc109 : Valid Try.prog Scc109 := Valid.add VScc108 ok_ref01_CheckOffsets
end Go.Proofs.Ytkifmfmenobhnaa
set_option linter.unusedVariables false
set_option linter.unusedSimpArgs false
namespace Go.Proofs.Ytkifmfmenobhnaa
open Go.RowKit Ev
def rel2 (n : Nat) (U : Int) (f g : Nat → Nat → Int) : Prop := ∀ x y, x < n → y < n → (f x y = far ∧ g x y = free6) ∨ (f x y = g x y ∧ f x y ≤ U)
def relK (n : Nat) (U : Int) (k : Nat) (f g : Nat → Nat → Int) : Prop := ∀ x y, x < n → y < n → (f x y = far ∧ g x y = free6) ∨ (f x y = g x y ∧ f x y ≤ 2 * U ∧ (x = k ∨ y = k → f x y ≤ U))
theorem rel2.start {n : Nat} {U : Int} (hU : 0 ≤ U) {f g : Nat → Nat → Int} (h : rel2 n U f g) (k : Nat) : relK n U k f g := fun x y hx hy => by
 rcases h x y hx hy with h | ⟨h1, h2⟩
 ·exact Or.inl h
 ·exact Or.inr ⟨h1, by omega, fun _ => h2⟩
theorem relK.done {n : Nat} {U : Int} {k : Nat} {f g : Nat → Nat → Int} (h : relK n U k f g) : rel2 n (2 * U) f g := fun x y hx hy => by
 rcases h x y hx hy with h | ⟨h1, h2, _⟩
 ·exact Or.inl h
 ·exact Or.inr ⟨h1, h2⟩
theorem relK.step {n : Nat} {U : Int} (hU : 0 ≤ U ∧ 2 * U < 1125899906842624) {k : Nat} {f g : Nat → Nat → Int} (h : relK n U k f g) {i j : Nat} (hk : k < n) (hi : i < n) (hj : j < n) : relK n U k (stepK f k i j) (stepZ free6 g k i j) := by
 have ef : far = 1152921504606846976 := rfl
 have eg : free6 = 1125899906842624 := rfl
 have h1 := h i k hi hk
 have h2 := h k j hk hj
 have h3 := h i j hi hj
 unfold stepK stepZ
 by_cases c1 : f i k = far
 ·have d1 : g i k = free6 := by rcases h1 with h1 | ⟨h1, h4, h5⟩ <;> omega
  rw [if_neg (by omega), if_neg (by omega)]
  exact h
 ·by_cases c2 : f k j = far
  ·have d2 : g k j = free6 := by rcases h2 with h2 | ⟨h2, h4, h5⟩ <;> omega
   rw [if_neg (by omega), if_neg (by omega)]
   exact h
  ·have a1 : f i k = g i k ∧ f i k ≤ U := by
    rcases h1 with h1 | ⟨h1, h4, h5⟩
    ·exact absurd h1.1 c1
    ·exact ⟨h1, h5 (Or.inr rfl)⟩
   have a2 : f k j = g k j ∧ f k j ≤ U := by
    rcases h2 with h2 | ⟨h2, h4, h5⟩
    ·exact absurd h2.1 c2
    ·exact ⟨h2, h5 (Or.inl rfl)⟩
   rw [if_pos (by omega), if_pos (by omega)]
   intro x y hx hy
   unfold updI
   by_cases e : x = i ∧ y = j
   ·rw [if_pos e, if_pos e]
    obtain ⟨rfl, rfl⟩ := e
    refine Or.inr ?_
    rcases h3 with ⟨b1, b2⟩ | ⟨b1, b2, b3⟩
    ·refine ⟨by omega, by omega, fun hxy => ?_⟩
     exfalso
     rcases hxy with q | q
     ·rw [q] at b1; exact c2 b1
     ·rw [q] at b1; exact c1 b1
    ·refine ⟨by omega, by omega, fun hxy => ?_⟩
     have := b3 hxy
     omega
   ·rw [if_neg e, if_neg e]
    exact h x y hx hy
theorem relK.j {n : Nat} {U : Int} (hU : 0 ≤ U ∧ 2 * U < 1125899906842624) {k : Nat} {f g : Nat → Nat → Int} (h : relK n U k f g) {i : Nat} (hk : k < n) (hi : i < n) : ∀ j, j ≤ n → relK n U k (jK f k i j) (jZ free6 g k i j)
 | 0, _ => h
 | j + 1, hj => (relK.j hU h hk hi j (by omega)).step hU hk hi (by omega)
theorem relK.i {n : Nat} {U : Int} (hU : 0 ≤ U ∧ 2 * U < 1125899906842624) {k : Nat} {f g : Nat → Nat → Int} (h : relK n U k f g) (hk : k < n) : ∀ i, i ≤ n → relK n U k (iK f n k i) (iZ free6 g n k i)
 | 0, _ => h
 | i + 1, hi => (relK.i hU h hk i (by omega)).j hU hk (by omega) n (Nat.le_refl _)
theorem rel2.k {n : Nat} {f g : Nat → Nat → Int} (hn : n ≤ 6) (h : rel2 n 1000000000 f g) : ∀ k, k ≤ n → rel2 n (2 ^ k * 1000000000) (kK f n k) (kZ free6 g n k)
 | 0, _ => by simpa [kK, kZ] using h
 | k + 1, hk => by
  have ih := rel2.k hn h k (by omega)
  have hp : (0 : Int) ≤ 2 ^ k * 1000000000 ∧ 2 * (2 ^ k * 1000000000) < (1125899906842624 : Int) := by
   rcases (by omega : k = 0 ∨ k = 1 ∨ k = 2 ∨ k = 3 ∨ k = 4 ∨ k = 5) with rfl | rfl | rfl | rfl | rfl | rfl <;> decide
  have := ((ih.start hp.1 k).i hp (by omega) n (Nat.le_refl _)).done
  rw [Int.pow_succ, Int.mul_comm ((2 : Int) ^ k) 2, Int.mul_assoc]
  exact this
theorem rel2.lnk {n : Nat} {f g : Nat → Nat → Int} (h : rel2 n 1000000000 f g) {x : Lnk} (hx : x.ok n) : rel2 n 1000000000 (lnkG f x) (lnkG g x) := by
 have ef : far = 1152921504606846976 := rfl
 have eg : free6 = 1125899906842624 := rfl
 obtain ⟨o1, o2, o3, o4, o5, o6⟩ := hx
 have F : rel2 n 1000000000 (lnkF f x) (lnkF g x) := fun p q hp hq => by
  have h1 := h x.frm.toNat x.to.toNat (by omega) (by omega)
  unfold lnkF updI
  by_cases e : p = x.frm.toNat ∧ q = x.to.toNat
  ·rw [if_pos e, if_pos e]
   refine Or.inr ?_
   rcases h1 with h1 | ⟨h1, h2⟩ <;> omega
  ·rw [if_neg e, if_neg e]; exact h p q hp hq
 intro p q hp hq
 have h1 := F x.to.toNat x.frm.toNat (by omega) (by omega)
 unfold lnkG
 unfold updI
 by_cases e : p = x.to.toNat ∧ q = x.frm.toNat
 ·rw [if_pos e, if_pos e]
  refine Or.inr ?_
  rcases h1 with h1 | ⟨h1, h2⟩ <;> omega
 ·rw [if_neg e, if_neg e]; exact F p q hp hq
def selL (l : List Lnk) (s : List Int) : List Lnk := s.map fun q => lnkAt l q.toNat
theorem sel_len (l : List Lnk) (s : List Int) : (selL l s).length = s.length := by simp [selL]
theorem sel_at {l : List Lnk} {s : List Int} {k : Nat} (h : k < s.length) : lnkAt (selL l s) k = lnkAt l (s.getD k 0).toNat := by simp [lnkAt, selL, List.getD, h]
theorem rel2.init (n : Nat) : rel2 n 1000000000 initM (iniC n n 0) := fun x y hx hy => by
 unfold initM iniC
 rw [if_pos (show x < n ∧ y < n from ⟨hx, hy⟩)]
 by_cases e : x = y
 ·rw [if_pos e, if_pos e]; exact Or.inr ⟨rfl, by decide⟩
 ·rw [if_neg e, if_neg e]; exact Or.inl ⟨rfl, rfl⟩
theorem rel2.links {n : Nat} {l : List Lnk} {s : List Int} (hok : ∀ k, k < l.length → (lnkAt l k).ok n) (hs : ∀ k, k < s.length → 0 ≤ s.getD k 0 ∧ s.getD k 0 < l.length) : ∀ k, k ≤ s.length → rel2 n 1000000000 (lnkM (selL l s) k) (lnkS n l s k) := by
 intro k
 induction k with
 | zero => intro _; exact rel2.init n
 | succ k ih =>
  intro hk
  rw [lnkM_succ (by rw [sel_len]; exact hk), lnkS_succ hk, sel_at hk]
  have := hs k hk
  exact (ih (by omega)).lnk (hok _ (by omega))
theorem bd_cl {n : Nat} (hn : n ≤ 6) {l : List Lnk} {s : List Int} (hok : ∀ k, k < l.length → (lnkAt l k).ok n) (hs : ∀ k, k < s.length → 0 ≤ s.getD k 0 ∧ s.getD k 0 < l.length) : rel2 n 64000000000 (bdF (selL l s) n) (clF l s n) := by
 have h := (rel2.links hok hs s.length (Nat.le_refl _)).k hn n (Nat.le_refl _)
 unfold bdF clF
 rw [sel_len]
 intro x y hx hy
 rcases h x y hx hy with h | ⟨h1, h2⟩
 ·exact Or.inl h
 ·refine Or.inr ⟨h1, ?_⟩
  rcases (by omega : n = 1 ∨ n = 2 ∨ n = 3 ∨ n = 4 ∨ n = 5 ∨ n = 6) with rfl | rfl | rfl | rfl | rfl | rfl <;> simp at h2 <;> omega
theorem agree_cl {n : Nat} (hn : n ≤ 6) {l : List Lnk} {s : List Int} (hok : ∀ k, k < l.length → (lnkAt l k).ok n) (hs : ∀ k, k < s.length → 0 ≤ s.getD k 0 ∧ s.getD k 0 < l.length) : clO l s n = bdB (selL l s) n := by
 have h := bd_cl hn hok hs
 have ef : far = 1152921504606846976 := rfl
 have eg : free6 = 1125899906842624 := rfl
 rw [Bool.eq_iff_iff, clO_true, bdB_true]
 constructor
 ·intro g i hi
  have := g i hi
  rcases h i i hi hi with h | ⟨h1, h2⟩ <;> omega
 ·intro g i hi
  have := g i hi
  rcases h i i hi hi with h | ⟨h1, h2⟩ <;> omega
theorem al_len (l : List Lnk) : (alI l).length = l.length := by simp [alI]
theorem al_at {l : List Lnk} {k : Nat} (h : k < l.length) : (alI l).getD k 0 = k := by simp [alI, List.getD, h]
theorem al_ok (l : List Lnk) : ∀ k, k < (alI l).length → 0 ≤ (alI l).getD k 0 ∧ (alI l).getD k 0 < l.length := fun k hk => by
 rw [al_len] at hk
 rw [al_at hk]; omega
theorem sel_all (l : List Lnk) : selL l (alI l) = l := by
 apply List.ext_getElem?
 intro i
 by_cases hi : i < l.length
 ·simp [selL, alI, hi, lnkAt, List.getD]
 ·simp [selL, alI, hi]
end Go.Proofs.Ytkifmfmenobhnaa