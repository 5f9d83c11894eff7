/- Texts of this claim, together. -/
import Derived.Test.YtmhgjlapkhdlmaaDoorSM8
import Derived.Test.YtmhgjlapkhdlmaaDoorSM5

set_option linter.unusedVariables false
set_option linter.unusedSimpArgs false
namespace Go.Proofs.YtmhgjlapkhdlmaaDoor
open Go.RowKit Ev
theorem ints_fwd (l : List Int) : ((List.range l.length).map fun i => fwd ((intsC l) i) 0 1) = l.map fun n => [CV.v (.int .i64 n)] := by
 apply List.ext_getElem?
 intro i
 by_cases hi : i < l.length
 ·simp only [List.getElem?_map, List.getElem?_range hi, Option.map_some, List.getElem?_eq_getElem hi]
  simp [fwd, intsC, List.getD, hi]
 ·rw [List.getElem?_eq_none (by simpa using hi), List.getElem?_eq_none (by simpa using hi)]
theorem le_ints (l : List Int) : LeD (.t (.c (.sl 1 (l.map fun n => [CV.v (.int .i64 n)]).length (genC (l.map fun n => [CV.v (.int .i64 n)]))))) (.t (.c (.sl 1 l.length (intsC l)))) := by
 rw [List.length_map]
 refine leSl fun i j hi hj => ?_
 unfold genC intsC
 rw [show j = 0 by omega]
 simp [List.getD, hi]
theorem getD_mem {l : List Int} {k : Nat} (h : k < l.length) : l.getD k 0 ∈ l := by
 rw [show l.getD k 0 = l[k] by simp [List.getD, h]]; exact List.getElem_mem h
theorem mem_getD {l : List Int} {a : Int} (h : a ∈ l) : ∃ j, j < l.length ∧ l.getD j 0 = a := by
 obtain ⟨j, hj, e⟩ := List.getElem_of_mem h
 exact ⟨j, hj, by simp [List.getD, hj, e]⟩
theorem all_getD {l : List Int} {p : Int → Bool} (h : ∀ i, i < l.length → p (l.getD i 0) = true) : l.all p = true := by
 rw [List.all_eq_true]
 intro x hx
 obtain ⟨j, hj, e⟩ := mem_getD hx
 rw [← e]; exact h j hj
theorem bif_and {a b : Bool} (h : (bif a then b else false) = true) : a = true ∧ b = true := by cases a <;> cases b <;> simp_all
theorem bif_nand {a b : Bool} (h : (bif a then b else false) = false) : a = false ∨ b = false := by cases a <;> cases b <;> simp_all
theorem cnt_le {n : Nat} {K : Int} (h : cntE n K = 0) : (n : Int) ≤ K := by
 have h2 := (fn2 h).2
 rw [unl_0 (by decide)] at h2
 exact of_decide_eq_true h2
def fewB (m : List Muon) : Bool := decide (m.length ≤ 42) && (List.range m.length).all fun i => decide ((muAt m i).s.length ≤ 10)
theorem fewB_iff {m : List Muon} : fewB m = true ↔ m.length ≤ 42 ∧ ∀ k, k < m.length → (muAt m k).s.length ≤ 10 := by
 unfold fewB
 rw [Bool.and_eq_true, decide_eq_true_eq, List.all_eq_true]
 constructor
 ·rintro ⟨h1, h2⟩; exact ⟨h1, fun k hk => of_decide_eq_true (h2 k (List.mem_range.2 hk))⟩
 ·rintro ⟨h1, h2⟩; exact ⟨h1, fun k hk => decide_eq_true (h2 k (List.mem_range.1 hk))⟩
theorem fewB_ok {m : List Muon} (h : fewB m = true) : m.length ≤ 42 ∧ ∀ k, k < m.length → (muAt m k).s.length ≤ 10 := fewB_iff.1 h
def pasL (m : List Muon) (f : Int) (v : List Int) : List Int := ((List.range m.length).filter fun i => passB f v (muAt m i)).map fun i : Nat => (i : Int)
theorem pasL_mem {m : List Muon} {f : Int} {v : List Int} {i : Int} (h : i ∈ pasL m f v) : 0 ≤ i ∧ i < m.length := by
 obtain ⟨j, hj, e⟩ := List.mem_map.1 h
 have := List.mem_range.1 (List.mem_filter.1 hj).1
 omega
theorem pasL_len (m : List Muon) (f : Int) (v : List Int) : (pasL m f v).length ≤ m.length := by
 unfold pasL
 rw [List.length_map]
 have := List.length_filter_le (fun i => passB f v (muAt m i)) (List.range m.length)
 rwa [List.length_range] at this
theorem mus_range (m : List Muon) : (List.range m.length).map (muAt m) = m := by
 apply List.ext_getElem?
 intro i
 by_cases hi : i < m.length
 ·simp [muAt, List.getD, hi]
 ·rw [List.getElem?_eq_none (by simpa using hi), List.getElem?_eq_none (by omega)]
theorem pasL_at (m : List Muon) (f : Int) (v : List Int) : (pasL m f v).map (fun i => muAt m i.toNat) = passL f v m := by
 unfold pasL passL
 rw [List.map_map]
 have e : ((fun i : Int => muAt m i.toNat) ∘ fun i : Nat => (i : Int)) = muAt m := rfl
 rw [e]
 conv => rhs; rw [← mus_range m]
 rw [List.filter_map]; rfl
def vc_base_CopyInts (l : List Int) (post : DV → Prop) : Prop := (roomP 8 (([] : List (List CV)).length + ((List.range l.length).map fun i => fwd ((intsC l) i) 0 1).length)) ∧ (post (.t (.c (.sl 1 ((([] : List (List CV)) ++ ((List.range l.length).map fun i => fwd ((intsC l) i) 0 1)).length) (genC (([] : List (List CV)) ++ ((List.range l.length).map fun i => fwd ((intsC l) i) 0 1)))))))
def ann_base_CopyInts : Ann := ⟨fun _ => none, fun _ => none, fun _ => [], noIt, true, fun _ => none, fun _ => none⟩
theorem ev_base_CopyInts (J : Inv) (l : List Int) (post : DV → Prop) : evFn Tryd.prog tab S80 ann_base_CopyInts J Tryd.f29 [.t (.c (.sl 1 l.length (intsC l)))] post = vc_base_CopyInts l post := by kernel_rfl
theorem fit_base_CopyInts : okFn ann_base_CopyInts Tryd.f29 = true := by kernel_rfl
theorem lp_base_CopyInts (J : Inv) (post : DV → Prop) : AllG J (loopsFn Tryd.prog tab S80 ann_base_CopyInts J Tryd.f29 post) = (True) := by kernel_rfl
theorem spec_base_CopyInts (l : List Int) (hp : (l).length ≤ 1000000) : vc_base_CopyInts l (fun r => LeD r (.t (.c (.sl 1 l.length (intsC l))))) := by
 unfold vc_base_CopyInts
 rw [ints_fwd, List.nil_append]
 refine ⟨?_, le_ints l⟩
 unfold roomP maxLen
 simp
 omega
def con_base_CopyInts : Con := fun args => match args with
 | [.t (.c (.sl 1 n_l c_l))] => some (.t (.c (.sl 1 ((listC n_l mkInt c_l).length) (intsC (listC n_l mkInt c_l)))), some (numsP 1 n_l c_l ∧ ((listC n_l mkInt c_l)).length ≤ 1000000), true)
 | _ => none
theorem ok_base_CopyInts : Ok Tryd.prog 29 con_base_CopyInts := by
 refine Ok.fnFr (ann := ann_base_CopyInts) mixed tabOK VS80 ValidIt.no rfl (fn := Tryd.f29) (by kernel_rfl) (by kernel_rfl) fit_base_CopyInts fun args r pre fresh h hp => ?_
 unfold con_base_CopyInts at h
 split at h
 ·rename_i n_l c_l
  cases h
  obtain ⟨hp0, hp⟩ := hp
  refine ⟨rfl, (fun i j _ hj => plain_int _ i j), fun _ _ _ => False, [.t (.c (.sl 1 ((listC n_l mkInt c_l).length) (intsC (listC n_l mkInt c_l))))], ?_, Nat.le_of_ble_eq_true (by kernel_rfl), ?_, ?_⟩
  ·exact (LeA_cons (leT_c ((leL_int hp0))) LeA_nil)
  ·rw [ev_base_CopyInts]; exact spec_base_CopyInts (listC n_l mkInt c_l) hp
  ·rw [lp_base_CopyInts]; trivial
 ·cases h
def S81 : Sum := addS S80 29 con_base_CopyInts
theorem VS81 : Valid Tryd.prog S81 := Valid.add VS80 ok_base_CopyInts
def mk_ref06_CopyMuons_0 (m : List Muon) (v0_0 : List (List CV)) (v0_1 : Int) : DS := ⟨[some (.t (.c (.sl 2 m.length (musC m)))), none, none, some (.t (.c (.os 3))), some (.t (.c (.v (.int .i64 v0_1)))), none, none, none, none, none, none, none, none, none, none, none, none, none, none, none, none, none, none, none, none, none, none], [none, none, none, some (.gen 158 2 v0_0), none, none, none, none, none, none, none, none, none, none, none, none, none, none, none, none, none, none, none, none, none, none, none]⟩
def vc_ref06_CopyMuons (J : Inv) (m : List Muon) (post : DV → Prop) : Prop := ∃ n, J 0 (n :: []) (mk_ref06_CopyMuons_0 m ([]) 0)
def ann_ref06_CopyMuons : Ann := ⟨fun r => lookA r [(5, ([[], [], [], [1, 2], [1, 2, 3], [1, 2, 3, 4], [1, 2, 3, 4, 5], [], [], [7, 8], [7, 8, 9], [7, 8, 9, 10], [1, 2, 3, 4, 5, 6, 7, 8, 9, 10, 11], [1, 2, 3, 4, 5, 6, 7, 8, 9, 10, 11, 12], [0, 1, 2, 3, 4, 5, 6, 7, 8, 9, 10, 11, 12, 13], [0, 1, 2, 3, 4, 5, 6, 7, 8, 9, 10, 11, 12, 13, 14]], [[17, 24], [17, 24], [17, 24], [17, 24], [17, 24], [17, 24], [24], [17, 24], [17, 24], [17, 24], [17, 24], [17, 24], [24], [], [], []]))], fun b => lookA b [(0, (none, some ⟨[0, 4], [], [(3, .gen 158 2 [])]⟩))], fun _ => [], noIt, false, fun _ => none, fun _ => none⟩
theorem ev_ref06_CopyMuons (J : Inv) (m : List Muon) (post : DV → Prop) : evFn Tryd.prog tab S81 ann_ref06_CopyMuons J Tryd.f33 [.t (.c (.sl 2 m.length (musC m)))] post = vc_ref06_CopyMuons J m post := by kernel_rfl
theorem fit_ref06_CopyMuons : okFn ann_ref06_CopyMuons Tryd.f33 = true := by kernel_rfl
def rd_ref06_CopyMuons_0 (J : Inv) (m : List Muon) (v0_0 : List (List CV)) (v0_1 : Int) (nn0 : Nat) (post : DV → Prop) : Prop := cond (decide (v0_1 < ((m.length : Nat) : Int))) ((0 ≤ v0_1 ∧ v0_1 < ((m.length : Nat) : Int)) ∧ ((numsP 1 ((muAt m v0_1.toNat).s.length) (intsC (muAt m v0_1.toNat).s) ∧ ((listC ((muAt m v0_1.toNat).s.length) mkInt (intsC (muAt m v0_1.toNat).s))).length ≤ 1000000) ∧ ((0 ≤ v0_1 ∧ v0_1 < ((m.length : Nat) : Int)) ∧ ((roomP 32 (v0_0.length + ([[.sl 1 ((listC ((muAt m v0_1.toNat).s.length) mkInt (intsC (muAt m v0_1.toNat).s)).length) (intsC (listC ((muAt m v0_1.toNat).s.length) mkInt (intsC (muAt m v0_1.toNat).s))), .v (.int .i64 ((muAt m v0_1.toNat).w))]] : List (List CV)).length)) ∧ (lt (IntKind.i64.wrap (v0_1 + (1 : Int))) fun x1 => J 0 (nn0 :: []) (mk_ref06_CopyMuons_0 m (v0_0 ++ ([[.sl 1 ((listC ((muAt m v0_1.toNat).s.length) mkInt (intsC (muAt m v0_1.toNat).s)).length) (intsC (listC ((muAt m v0_1.toNat).s.length) mkInt (intsC (muAt m v0_1.toNat).s))), .v (.int .i64 ((muAt m v0_1.toNat).w))]] : List (List CV))) x1)))))) (post (.t (.c (.sl 2 v0_0.length (genC v0_0)))))
theorem er_ref06_CopyMuons_0 (J : Inv) (m : List Muon) (v0_0 : List (List CV)) (v0_1 : Int) (nn0 : Nat) (post : DV → Prop) : round Tryd.prog tab S81 ann_ref06_CopyMuons J Tryd.f33 post 0 (nn0 :: []) (mk_ref06_CopyMuons_0 m v0_0 v0_1) = rd_ref06_CopyMuons_0 J m v0_0 v0_1 nn0 post := by kernel_rfl
theorem lp_ref06_CopyMuons (J : Inv) (post : DV → Prop) : AllG J (loopsFn Tryd.prog tab S81 ann_ref06_CopyMuons J Tryd.f33 post) = (((∀ F s, ¬ J 0 (0 :: F) s) ∧ ∀ n F s, J 0 ((n + 1) :: F) s → round Tryd.prog tab S81 ann_ref06_CopyMuons J Tryd.f33 post 0 (n :: F) s) ∧ True) := by kernel_rfl
def J_ref06_CopyMuons (m : List Muon) : Inv := fun b F s => match b, F with
 | 0, [nn0] => ∃ (v0_0 : List (List CV)) (v0_1 : Int), s = mk_ref06_CopyMuons_0 m v0_0 v0_1 ∧ ((muSm m ∧ m.length ≤ 1000000) ∧ 0 ≤ v0_1 ∧ v0_1 ≤ m.length ∧ (nn0 : Int) + v0_1 = m.length + 1 ∧ v0_0 = (m.take v0_1.toNat).map muCv)
 | _, _ => False
theorem rnd_ref06_CopyMuons_0 (m : List Muon) (v0_0 : List (List CV)) (v0_1 : Int) (nn0 : Nat) (hp : muSm m ∧ (m).length ≤ 1000000) (hi : (muSm m ∧ m.length ≤ 1000000) ∧ 0 ≤ v0_1 ∧ v0_1 ≤ m.length ∧ ((nn0 + 1) : Int) + v0_1 = m.length + 1 ∧ v0_0 = (m.take v0_1.toNat).map muCv) : rd_ref06_CopyMuons_0 (J_ref06_CopyMuons m) m v0_0 v0_1 nn0 (fun r => LeD r (.t (.c (.sl 2 m.length (musC m))))) := by
 obtain ⟨i0, i1, i2, i3, i4⟩ := hi
 obtain ⟨k, rfl⟩ : ∃ k : Nat, v0_1 = k := ⟨v0_1.toNat, by omega⟩
 have hk : (k : Int).toNat = k := rfl
 rw [hk] at i4
 unfold rd_ref06_CopyMuons_0
 rw [hk, ints_listC]
 refine cond_i (fun h => ?_) (fun h => ?_)
 ·have hlt : k < m.length := by have := of_decide_eq_true h; omega
  refine ⟨by omega, ⟨numsP_ints _, i0.1 k hlt⟩, by omega, ?_, lt_i fun x hx => ?_⟩
  ·rw [i4]; unfold roomP maxLen; simp; omega
  ·rw [wi (by omega)] at hx
   subst hx
   refine ⟨_, _, rfl, i0, by omega, by omega, by omega, ?_⟩
   rw [show ((k : Int) + 1).toNat = k + 1 by omega, i4, muAt_take hlt, List.map_append]; rfl
 ·have hge : k = m.length := by have := of_decide_eq_false h; omega
  rw [i4, hge, List.take_length]
  exact leT_c (leC_mus m)
theorem zero_ref06_CopyMuons_0 (m : List Muon) (v0_0 : List (List CV)) (v0_1 : Int)  (hi : (muSm m ∧ m.length ≤ 1000000) ∧ 0 ≤ v0_1 ∧ v0_1 ≤ m.length ∧ (0 : Int) + v0_1 = m.length + 1 ∧ v0_0 = (m.take v0_1.toNat).map muCv) : False := by
 omega
theorem spec_ref06_CopyMuons (m : List Muon) (hp : muSm m ∧ (m).length ≤ 1000000) : vc_ref06_CopyMuons (J_ref06_CopyMuons m) m (fun r => LeD r (.t (.c (.sl 2 m.length (musC m))))) := by
 unfold vc_ref06_CopyMuons
 exact ⟨m.length + 1, [], 0, rfl, hp, by omega, by omega, by omega, rfl⟩
theorem all_ref06_CopyMuons (m : List Muon) (hp : muSm m ∧ (m).length ≤ 1000000) : AllG (J_ref06_CopyMuons m) (loopsFn Tryd.prog tab S81 ann_ref06_CopyMuons (J_ref06_CopyMuons m) Tryd.f33 (fun r => LeD r (.t (.c (.sl 2 m.length (musC m)))))) := by
 rw [lp_ref06_CopyMuons]
 refine ⟨⟨?_, ?_⟩, trivial⟩
 ·intro F s h
  obtain _ | ⟨g, F⟩ := F
  case cons => exact h.elim
  obtain ⟨w0, w1, rfl, hi⟩ := h
  exact zero_ref06_CopyMuons_0 m w0 w1 hi
 ·intro n F s h
  obtain _ | ⟨g, F⟩ := F
  case cons => exact h.elim
  obtain ⟨w0, w1, rfl, hi⟩ := h
  rw [er_ref06_CopyMuons_0]
  exact rnd_ref06_CopyMuons_0 m _ _ _ hp hi
def con_ref06_CopyMuons : Con := fun args => match args with
 | [.t (.c (.sl 2 n_m c_m))] => some (.t (.c (.sl 2 ((muOf n_m c_m).length) (musC (muOf n_m c_m)))), some (muP n_m c_m ∧ muSm (muOf n_m c_m) ∧ ((muOf n_m c_m)).length ≤ 1000000), false)
 | _ => none
theorem ok_ref06_CopyMuons : Ok Tryd.prog 33 con_ref06_CopyMuons := by
 refine Ok.fn (ann := ann_ref06_CopyMuons) mixed tabOK VS81 ValidIt.no (fn := Tryd.f33) (by kernel_rfl) (by kernel_rfl) fit_ref06_CopyMuons fun args r pre fresh h hp => ?_
 unfold con_ref06_CopyMuons at h
 split at h
 ·rename_i n_m c_m
  cases h
  obtain ⟨hp0, hp⟩ := hp
  refine ⟨rfl, J_ref06_CopyMuons (muOf n_m c_m), [.t (.c (.sl 2 ((muOf n_m c_m).length) (musC (muOf n_m c_m))))], ?_, Nat.le_of_ble_eq_true (by kernel_rfl), ?_, ?_⟩
  ·exact (LeA_cons (leT_c ((leL_Muon hp0))) LeA_nil)
  ·rw [ev_ref06_CopyMuons]; exact spec_ref06_CopyMuons (muOf n_m c_m) hp
  ·exact all_ref06_CopyMuons (muOf n_m c_m) hp
 ·cases h
def S82 : Sum := addS S81 33 con_ref06_CopyMuons
theorem VS82 : Valid Tryd.prog S82 := Valid.add VS81 ok_ref06_CopyMuons
def S83 : Sum := S82
theorem VS83 : Valid Tryd.prog S83 := VS82
def mk_law06_fewMuons_0 (m : List Muon) (v0_0 : Int) : DS := ⟨[some (.t (.c (.sl 2 m.length (musC m)))), none, none, some (.t (.c (.v (.int .i64 v0_0)))), none, none, none, none, none, none, none, none, none, none, none, none, none, none, none, none], [none, none, none, none, none, none, none, none, none, none, none, none, none, none, none, none, none, none, none, none]⟩
def vc_law06_fewMuons (J : Inv) (m : List Muon) (post : DV → Prop) : Prop := cond (decide (((m.length : Nat) : Int) > (42 : Int))) (post (.t (.c (.v (.bool false))))) (∃ n, J 0 (n :: []) (mk_law06_fewMuons_0 m 0))
def ann_law06_fewMuons : Ann := ⟨fun _ => none, fun b => lookA b [(0, (none, some ⟨[0, 3], [], []⟩))], fun _ => [], noIt, false, fun _ => none, fun _ => none⟩
theorem ev_law06_fewMuons (J : Inv) (m : List Muon) (post : DV → Prop) : evFn Tryd.prog tab S83 ann_law06_fewMuons J Tryd.f27 [.t (.c (.sl 2 m.length (musC m)))] post = vc_law06_fewMuons J m post := by kernel_rfl
theorem fit_law06_fewMuons : okFn ann_law06_fewMuons Tryd.f27 = true := by kernel_rfl
def rd_law06_fewMuons_0 (J : Inv) (m : List Muon) (v0_0 : Int) (nn0 : Nat) (post : DV → Prop) : Prop := cond (decide (v0_0 < ((m.length : Nat) : Int))) ((0 ≤ v0_0 ∧ v0_0 < ((m.length : Nat) : Int)) ∧ (cond (decide ((((muAt m v0_0.toNat).s.length : Nat) : Int) > (10 : Int))) (post (.t (.c (.v (.bool false))))) (lt (IntKind.i64.wrap (v0_0 + (1 : Int))) fun x1 => J 0 (nn0 :: []) (mk_law06_fewMuons_0 m x1)))) (post (.t (.c (.v (.bool true)))))
theorem er_law06_fewMuons_0 (J : Inv) (m : List Muon) (v0_0 : Int) (nn0 : Nat) (post : DV → Prop) : round Tryd.prog tab S83 ann_law06_fewMuons J Tryd.f27 post 0 (nn0 :: []) (mk_law06_fewMuons_0 m v0_0) = rd_law06_fewMuons_0 J m v0_0 nn0 post := by kernel_rfl
theorem lp_law06_fewMuons (J : Inv) (post : DV → Prop) : AllG J (loopsFn Tryd.prog tab S83 ann_law06_fewMuons J Tryd.f27 post) = (((∀ F s, ¬ J 0 (0 :: F) s) ∧ ∀ n F s, J 0 ((n + 1) :: F) s → round Tryd.prog tab S83 ann_law06_fewMuons J Tryd.f27 post 0 (n :: F) s) ∧ True) := by kernel_rfl
def J_law06_fewMuons (m : List Muon) : Inv := fun b F s => match b, F with
 | 0, [nn0] => ∃ (v0_0 : Int), s = mk_law06_fewMuons_0 m v0_0 ∧ (m.length ≤ 42 ∧ 0 ≤ v0_0 ∧ v0_0 ≤ m.length ∧ (nn0 : Int) + v0_0 = m.length + 1 ∧ ∀ k : Nat, (k : Int) < v0_0 → (muAt m k).s.length ≤ 10)
 | _, _ => False
theorem rnd_law06_fewMuons_0 (m : List Muon) (v0_0 : Int) (nn0 : Nat) (hi : m.length ≤ 42 ∧ 0 ≤ v0_0 ∧ v0_0 ≤ m.length ∧ ((nn0 + 1) : Int) + v0_0 = m.length + 1 ∧ ∀ k : Nat, (k : Int) < v0_0 → (muAt m k).s.length ≤ 10) : rd_law06_fewMuons_0 (J_law06_fewMuons m) m v0_0 nn0 (fun r => LeD r (.t (.c (.v (.bool (fewB m)))))) := by
 obtain ⟨i0, i1, i2, i3, i4⟩ := hi
 obtain ⟨k, rfl⟩ : ∃ k : Nat, v0_0 = k := ⟨v0_0.toNat, by omega⟩
 have hk : (k : Int).toNat = k := rfl
 unfold rd_law06_fewMuons_0
 rw [hk]
 refine cond_i (fun h => ?_) (fun h => leB ?_)
 ·have hlt : k < m.length := by have := of_decide_eq_true h; omega
  refine ⟨by omega, cond_i (fun e => leB ?_) (fun e => lt_i fun x hx => ?_)⟩
  ·have e := of_decide_eq_true e
   refine (Bool.eq_false_iff.2 fun q => ?_).symm
   have := (fewB_ok q).2 k hlt
   omega
  ·have e := of_decide_eq_false e
   rw [wi (by omega)] at hx
   subst hx
   refine ⟨_, rfl, i0, by omega, by omega, by omega, fun j hj => ?_⟩
   by_cases q : j = k
   ·rw [q]; omega
   ·exact i4 j (by omega)
 ·have hge : k = m.length := by have := of_decide_eq_false h; omega
  exact (fewB_iff.2 ⟨i0, fun j hj => i4 j (by omega)⟩).symm
theorem zero_law06_fewMuons_0 (m : List Muon) (v0_0 : Int)  (hi : m.length ≤ 42 ∧ 0 ≤ v0_0 ∧ v0_0 ≤ m.length ∧ (0 : Int) + v0_0 = m.length + 1 ∧ ∀ k : Nat, (k : Int) < v0_0 → (muAt m k).s.length ≤ 10) : False := by
 omega
theorem spec_law06_fewMuons (m : List Muon) : vc_law06_fewMuons (J_law06_fewMuons m) m (fun r => LeD r (.t (.c (.v (.bool (fewB m)))))) := by
 unfold vc_law06_fewMuons
 refine cond_i (fun h => leB ?_) (fun h => ?_)
 ·have h := of_decide_eq_true h
  unfold fewB; rw [decide_eq_false (by omega)]; rfl
 ·have h := of_decide_eq_false h
  exact ⟨m.length + 1, 0, rfl, by omega, by omega, by omega, by omega, fun j hj => by omega⟩
theorem all_law06_fewMuons (m : List Muon) : AllG (J_law06_fewMuons m) (loopsFn Tryd.prog tab S83 ann_law06_fewMuons (J_law06_fewMuons m) Tryd.f27 (fun r => LeD r (.t (.c (.v (.bool (fewB m))))))) := by
 rw [lp_law06_fewMuons]
 refine ⟨⟨?_, ?_⟩, trivial⟩
 ·intro F s h
  obtain _ | ⟨g, F⟩ := F
  case cons => exact h.elim
  obtain ⟨w0, rfl, hi⟩ := h
  exact zero_law06_fewMuons_0 m w0 hi
 ·intro n F s h
  obtain _ | ⟨g, F⟩ := F
  case cons => exact h.elim
  obtain ⟨w0, rfl, hi⟩ := h
  rw [er_law06_fewMuons_0]
  exact rnd_law06_fewMuons_0 m _ _ hi
def con_law06_fewMuons : Con := fun args => match args with
 | [.t (.c (.sl 2 n_m c_m))] => some (.t (.c (.v (.bool (fewB (muOf n_m c_m))))), some (muP n_m c_m), false)
 | _ => none
theorem ok_law06_fewMuons : Ok Tryd.prog 27 con_law06_fewMuons := by
 refine Ok.fn (ann := ann_law06_fewMuons) mixed tabOK VS83 ValidIt.no (fn := Tryd.f27) (by kernel_rfl) (by kernel_rfl) fit_law06_fewMuons fun args r pre fresh h hp => ?_
 unfold con_law06_fewMuons at h
 split at h
 ·rename_i n_m c_m
  cases h
  have hp0 := hp
  refine ⟨rfl, J_law06_fewMuons (muOf n_m c_m), [.t (.c (.sl 2 ((muOf n_m c_m).length) (musC (muOf n_m c_m))))], ?_, Nat.le_of_ble_eq_true (by kernel_rfl), ?_, ?_⟩
  ·exact (LeA_cons (leT_c ((leL_Muon hp0))) LeA_nil)
  ·rw [ev_law06_fewMuons]; exact spec_law06_fewMuons (muOf n_m c_m)
  ·exact all_law06_fewMuons (muOf n_m c_m)
 ·cases h
def S84 : Sum := addS S83 27 con_law06_fewMuons
theorem VS84 : Valid Tryd.prog S84 := Valid.add VS83 ok_law06_fewMuons
def mk_ref06_CheckMuons_0 (m : List Muon) (v0_0 : Int) : DS := ⟨[some (.t (.c (.sl 2 m.length (musC m)))), none, none, none, some (.t (.c (.v (.int .i64 v0_0)))), none, none, none, none, none, none, none, none, none, none, none, none, none, none, none, none, none, none, none, none, none, none, none, none, none, none, none, none, none, none, none, none, none, none, none, none, none, none, none, none, none, none, none, none, none, none, none, none, none, none], [none, none, none, none, none, none, none, none, none, none, none, none, none, none, none, none, none, none, none, none, none, none, none, none, none, none, none, none, none, none, none, none, none, none, none, none, none, none, none, none, none, none, none, none, none, none, none, none, none, none, none, none, none, none, none]⟩
def mk_ref06_CheckMuons_2 (m : List Muon) (v2_0 : Int) (v2_1 : Int) : DS := ⟨[some (.t (.c (.sl 2 m.length (musC m)))), none, none, none, some (.t (.c (.v (.int .i64 v2_0)))), some (.t (.c (.v (.int .i64 v2_1)))), none, none, none, none, none, none, none, none, none, none, none, none, none, none, none, none, none, none, none, none, none, none, none, none, none, none, none, none, none, none, none, none, none, none, none, none, none, none, none, none, none, none, none, none, none, none, none, none, none], [none, none, none, none, none, none, none, none, none, none, none, none, none, none, none, none, none, none, none, none, none, none, none, none, none, none, none, none, none, none, none, none, none, none, none, none, none, none, none, none, none, none, none, none, none, none, none, none, none, none, none, none, none, none, none]⟩
def vc_ref06_CheckMuons (J : Inv) (m : List Muon) (post : DV → Prop) : Prop := cond (((m.length : Nat) : Int) == (0 : Int)) (post (.tu [.c (.v (.int .i64 0)), .c (.v (.int .i64 10))])) (cond (decide (((m.length : Nat) : Int) > (40 : Int))) (post (.tu [.c (.v (.int .i64 0)), .c (.v (.int .i64 8))])) (∃ n, J 0 (n :: []) (mk_ref06_CheckMuons_0 m 0)))
def ann_ref06_CheckMuons : Ann := ⟨fun _ => none, fun b => lookA b [(0, (none, some ⟨[0, 4], [], []⟩)), (2, (none, some ⟨[0, 4, 5], [], []⟩))], fun _ => [], noIt, false, fun _ => none, fun _ => none⟩
theorem ev_ref06_CheckMuons (J : Inv) (m : List Muon) (post : DV → Prop) : evFn Tryd.prog tab S84 ann_ref06_CheckMuons J Tryd.f46 [.t (.c (.sl 2 m.length (musC m)))] post = vc_ref06_CheckMuons J m post := by kernel_rfl
theorem fit_ref06_CheckMuons : okFn ann_ref06_CheckMuons Tryd.f46 = true := by kernel_rfl
def rd_ref06_CheckMuons_0 (J : Inv) (m : List Muon) (v0_0 : Int) (nn0 : Nat) (post : DV → Prop) : Prop := cond (decide (v0_0 < ((m.length : Nat) : Int))) ((0 ≤ v0_0 ∧ v0_0 < ((m.length : Nat) : Int)) ∧ (cond (!(inB ((muAt m v0_0.toNat).w) (1 : Int) (100 : Int))) (post (.tu [.c (.v (.int .i64 v0_0)), .c (.v (.int .i64 2))])) ((0 ≤ v0_0 ∧ v0_0 < ((m.length : Nat) : Int)) ∧ (cond (decide ((((muAt m v0_0.toNat).s.length : Nat) : Int) > (8 : Int))) (post (.tu [.c (.v (.int .i64 v0_0)), .c (.v (.int .i64 8))])) (∃ n, J 2 (n :: nn0 :: []) (mk_ref06_CheckMuons_2 m v0_0 0)))))) (post (.tu [.c (.v (.int .i64 0)), .c (.v (.int .i64 0))]))
theorem er_ref06_CheckMuons_0 (J : Inv) (m : List Muon) (v0_0 : Int) (nn0 : Nat) (post : DV → Prop) : round Tryd.prog tab S84 ann_ref06_CheckMuons J Tryd.f46 post 0 (nn0 :: []) (mk_ref06_CheckMuons_0 m v0_0) = rd_ref06_CheckMuons_0 J m v0_0 nn0 post := by kernel_rfl
def rd_ref06_CheckMuons_2 (J : Inv) (m : List Muon) (v2_0 : Int) (v2_1 : Int) (nn2 nn0 : Nat) (post : DV → Prop) : Prop := (0 ≤ v2_0 ∧ v2_0 < ((m.length : Nat) : Int)) ∧ (cond (decide (v2_1 < (((muAt m v2_0.toNat).s.length : Nat) : Int))) ((0 ≤ v2_0 ∧ v2_0 < ((m.length : Nat) : Int)) ∧ ((0 ≤ v2_1 ∧ v2_1 < (((muAt m v2_0.toNat).s.length : Nat) : Int)) ∧ (cond (!(inB (((muAt m v2_0.toNat).s).getD v2_1.toNat 0) (0 : Int) (7 : Int))) (post (.tu [.c (.v (.int .i64 v2_0)), .c (.v (.int .i64 6))])) (lt (IntKind.i64.wrap (v2_1 + (1 : Int))) fun x1 => J 2 (nn2 :: nn0 :: []) (mk_ref06_CheckMuons_2 m v2_0 x1))))) (lt (IntKind.i64.wrap (v2_0 + (1 : Int))) fun x2 => J 0 (nn0 :: []) (mk_ref06_CheckMuons_0 m x2)))
theorem er_ref06_CheckMuons_2 (J : Inv) (m : List Muon) (v2_0 : Int) (v2_1 : Int) (nn2 nn0 : Nat) (post : DV → Prop) : round Tryd.prog tab S84 ann_ref06_CheckMuons J Tryd.f46 post 1 (nn2 :: nn0 :: []) (mk_ref06_CheckMuons_2 m v2_0 v2_1) = rd_ref06_CheckMuons_2 J m v2_0 v2_1 nn2 nn0 post := by kernel_rfl
theorem lp_ref06_CheckMuons (J : Inv) (post : DV → Prop) : AllG J (loopsFn Tryd.prog tab S84 ann_ref06_CheckMuons J Tryd.f46 post) = (((∀ F s, ¬ J 0 (0 :: F) s) ∧ ∀ n F s, J 0 ((n + 1) :: F) s → round Tryd.prog tab S84 ann_ref06_CheckMuons J Tryd.f46 post 0 (n :: F) s) ∧ ((∀ F s, ¬ J 2 (0 :: F) s) ∧ ∀ n F s, J 2 ((n + 1) :: F) s → round Tryd.prog tab S84 ann_ref06_CheckMuons J Tryd.f46 post 1 (n :: F) s) ∧ True) := by kernel_rfl
def J_ref06_CheckMuons (m : List Muon) : Inv := fun b F s => match b, F with
 | 0, [nn0] => ∃ (v0_0 : Int), s = mk_ref06_CheckMuons_0 m v0_0 ∧ (cntE m.length 40 = 0 ∧ 0 ≤ v0_0 ∧ v0_0 ≤ m.length ∧ (nn0 : Int) + v0_0 = m.length + 1 ∧ ∀ j : Nat, (j : Int) < v0_0 → (muAt m j).err = 0)
 | 2, [nn2, nn0] => ∃ (v2_0 : Int) (v2_1 : Int), s = mk_ref06_CheckMuons_2 m v2_0 v2_1 ∧ (cntE m.length 40 = 0 ∧ (0 ≤ v2_0 ∧ v2_0 < m.length ∧ (nn0 : Int) + v2_0 = m.length) ∧ (∀ j : Nat, (j : Int) < v2_0 → (muAt m j).err = 0) ∧ (inB (muAt m v2_0.toNat).w 1 100 = true ∧ (muAt m v2_0.toNat).s.length ≤ 8) ∧ 0 ≤ v2_1 ∧ v2_1 ≤ (muAt m v2_0.toNat).s.length ∧ (nn2 : Int) + v2_1 = (muAt m v2_0.toNat).s.length + 1 ∧ ∀ j : Nat, (j : Int) < v2_1 → senB ((muAt m v2_0.toNat).s.getD j 0) = true)
 | _, _ => False
set_option maxHeartbeats 8000000 in
set_option maxRecDepth 100000 in
theorem rnd_ref06_CheckMuons_0 (m : List Muon) (v0_0 : Int) (nn0 : Nat) (hi : cntE m.length 40 = 0 ∧ 0 ≤ v0_0 ∧ v0_0 ≤ m.length ∧ ((nn0 + 1) : Int) + v0_0 = m.length + 1 ∧ ∀ j : Nat, (j : Int) < v0_0 → (muAt m j).err = 0) : rd_ref06_CheckMuons_0 (J_ref06_CheckMuons m) m v0_0 nn0 (fun r => LeD r (.tu [.c (.v (.int .i64 (musI m))), .c (.v (.int .i64 (musE m)))])) := by
 obtain ⟨i0, i1, i2, i3, i4⟩ := hi
 obtain ⟨k, rfl⟩ : ∃ k : Nat, v0_0 = k := ⟨v0_0.toNat, by omega⟩
 have hk : (k : Int).toNat = k := rfl
 have hz : ∀ j, j < k → (muAt m j).err = 0 := fun j hj => i4 j (by omega)
 have hlen : m.length ≤ 40 := by have := cnt_le i0; omega
 unfold rd_ref06_CheckMuons_0
 rw [hk]
 refine cond_i (fun h => ?_) (fun h => ?_)
 ·have hlt : k < m.length := by have := of_decide_eq_true h; omega
  have bad : ∀ e, e ≠ 0 → (muAt m k).err = e → LeD (.tu [.c (.v (.int .i64 (k : Int))), .c (.v (.int .i64 e))]) (.tu [.c (.v (.int .i64 (musI m))), .c (.v (.int .i64 (musE m)))]) := fun e he q => by
   subst q
   rw [show musI m = _ from if_pos i0, show musE m = _ from if_pos i0]
   exact le2 (scanI_at (f := fun i => (muAt m i).err) hz hlt he).symm (scan_at (f := fun i => (muAt m i).err) hz hlt he).symm
  refine ⟨by omega, cond_i (fun a => bad 2 (by decide) ?_) (fun a => ⟨by omega, cond_i (fun c => bad 8 (by decide) ?_) (fun c => ?_)⟩)⟩
  ·have a : inB (muAt m k).w 1 100 = false := by simpa using a
   unfold Muon.err; rw [a]; rfl
  ·have a : inB (muAt m k).w 1 100 = true := by simpa using a
   have c := of_decide_eq_true c
   unfold Muon.err; rw [a, decide_eq_false (by omega)]; rfl
  ·have a : inB (muAt m k).w 1 100 = true := by simpa using a
   have c := of_decide_eq_false c
   exact ⟨(muAt m k).s.length + 1, _, 0, rfl, i0, by omega, i4, ⟨by rw [hk]; exact a, by rw [hk]; omega⟩, by omega, by omega, by rw [hk]; omega, fun j hj => by omega⟩
 ·have hge : k = m.length := by have := of_decide_eq_false h; omega
  subst hge
  rw [show musI m = _ from if_pos i0, show musE m = _ from if_pos i0]
  exact le2 (scanI_end (f := fun i => (muAt m i).err) hz).symm (scan_end (f := fun i => (muAt m i).err) hz).symm
theorem zero_ref06_CheckMuons_0 (m : List Muon) (v0_0 : Int)  (hi : cntE m.length 40 = 0 ∧ 0 ≤ v0_0 ∧ v0_0 ≤ m.length ∧ (0 : Int) + v0_0 = m.length + 1 ∧ ∀ j : Nat, (j : Int) < v0_0 → (muAt m j).err = 0) : False := by
 omega
set_option maxHeartbeats 8000000 in
set_option maxRecDepth 100000 in
theorem rnd_ref06_CheckMuons_2 (m : List Muon) (v2_0 : Int) (v2_1 : Int) (nn2 nn0 : Nat) (hi : cntE m.length 40 = 0 ∧ (0 ≤ v2_0 ∧ v2_0 < m.length ∧ (nn0 : Int) + v2_0 = m.length) ∧ (∀ j : Nat, (j : Int) < v2_0 → (muAt m j).err = 0) ∧ (inB (muAt m v2_0.toNat).w 1 100 = true ∧ (muAt m v2_0.toNat).s.length ≤ 8) ∧ 0 ≤ v2_1 ∧ v2_1 ≤ (muAt m v2_0.toNat).s.length ∧ ((nn2 + 1) : Int) + v2_1 = (muAt m v2_0.toNat).s.length + 1 ∧ ∀ j : Nat, (j : Int) < v2_1 → senB ((muAt m v2_0.toNat).s.getD j 0) = true) : rd_ref06_CheckMuons_2 (J_ref06_CheckMuons m) m v2_0 v2_1 nn2 nn0 (fun r => LeD r (.tu [.c (.v (.int .i64 (musI m))), .c (.v (.int .i64 (musE m)))])) := by
 obtain ⟨i0, i1, i4, ⟨i5, i6⟩, i7, i8, i9, i10⟩ := hi
 obtain ⟨k, rfl⟩ : ∃ k : Nat, v2_0 = k := ⟨v2_0.toNat, by omega⟩
 have hk : (k : Int).toNat = k := rfl
 rw [hk] at i5 i6 i8 i9 i10
 have hz : ∀ j, j < k → (muAt m j).err = 0 := fun j hj => i4 j (by omega)
 have hlen : m.length ≤ 40 := by have := cnt_le i0; omega
 have hlt : k < m.length := by omega
 have bad : ∀ e, e ≠ 0 → (muAt m k).err = e → LeD (.tu [.c (.v (.int .i64 (k : Int))), .c (.v (.int .i64 e))]) (.tu [.c (.v (.int .i64 (musI m))), .c (.v (.int .i64 (musE m)))]) := fun e he q => by
  subst q
  rw [show musI m = _ from if_pos i0, show musE m = _ from if_pos i0]
  exact le2 (scanI_at (f := fun i => (muAt m i).err) hz hlt he).symm (scan_at (f := fun i => (muAt m i).err) hz hlt he).symm
 obtain ⟨q, rfl⟩ : ∃ q : Nat, v2_1 = q := ⟨v2_1.toNat, by omega⟩
 have hq : (q : Int).toNat = q := rfl
 unfold rd_ref06_CheckMuons_2
 rw [hk, hq]
 have he : (muAt m k).err = unl ((muAt m k).s.all senB) 6 := by
  unfold Muon.err; rw [i5, decide_eq_true (by omega)]
  unfold unl firstNZ firstNZ firstNZ firstNZ
  simp
 refine ⟨by omega, cond_i (fun h => ⟨by omega, ?_⟩) (fun h => lt_i fun x hx => ?_)⟩
 ·have h := of_decide_eq_true h
  refine ⟨by omega, cond_i (fun e => bad 6 (by decide) ?_) (fun e => lt_i fun x hx => ?_)⟩
  ·have e : senB ((muAt m k).s.getD q 0) = false := by simpa [senB] using e
   rw [he, show (muAt m k).s.all senB = false from ?_]
   ·rfl
   ·rw [List.all_eq_false]
    exact ⟨_, getD_mem (k := q) (by omega), by rw [e]; simp⟩
  ·rw [wi (by omega)] at hx
   subst hx
   have e : senB ((muAt m k).s.getD q 0) = true := by simpa [senB] using e
   refine ⟨_, _, rfl, i0, by omega, i4, ⟨by rw [hk]; exact i5, by rw [hk]; exact i6⟩, by omega, by rw [hk]; omega, by rw [hk]; omega, fun j hj => ?_⟩
   rw [hk]
   by_cases c : j = q
   ·rw [c]; exact e
   ·exact i10 j (by omega)
 ·have h := of_decide_eq_false h
  rw [wi (by omega)] at hx
  subst hx
  refine ⟨_, rfl, i0, by omega, by omega, by omega, fun j hj => ?_⟩
  by_cases c : j = k
  ·rw [c, he, show (muAt m k).s.all senB = true from all_getD fun i hi => i10 i (by omega)]; rfl
  ·exact i4 j (by omega)
theorem zero_ref06_CheckMuons_2 (m : List Muon) (v2_0 : Int) (v2_1 : Int) (nn0 : Nat) (hi : cntE m.length 40 = 0 ∧ (0 ≤ v2_0 ∧ v2_0 < m.length ∧ (nn0 : Int) + v2_0 = m.length) ∧ (∀ j : Nat, (j : Int) < v2_0 → (muAt m j).err = 0) ∧ (inB (muAt m v2_0.toNat).w 1 100 = true ∧ (muAt m v2_0.toNat).s.length ≤ 8) ∧ 0 ≤ v2_1 ∧ v2_1 ≤ (muAt m v2_0.toNat).s.length ∧ (0 : Int) + v2_1 = (muAt m v2_0.toNat).s.length + 1 ∧ ∀ j : Nat, (j : Int) < v2_1 → senB ((muAt m v2_0.toNat).s.getD j 0) = true) : False := by
 omega
set_option maxHeartbeats 8000000 in
set_option maxRecDepth 100000 in
theorem spec_ref06_CheckMuons (m : List Muon) : vc_ref06_CheckMuons (J_ref06_CheckMuons m) m (fun r => LeD r (.tu [.c (.v (.int .i64 (musI m))), .c (.v (.int .i64 (musE m)))])) := by
 unfold vc_ref06_CheckMuons
 have bad : ∀ e, e ≠ 0 → cntE m.length 40 = e → LeD (.tu [.c (.v (.int .i64 0)), .c (.v (.int .i64 e))]) (.tu [.c (.v (.int .i64 (musI m))), .c (.v (.int .i64 (musE m)))]) := fun e he q => by
  subst q
  exact le2 (if_neg he).symm (if_neg he).symm
 refine cond_i (fun h => bad 10 (by decide) ?_) (fun h => cond_i (fun h2 => bad 8 (by decide) ?_) (fun h2 => ?_))
 ·have h : (m.length : Int) = 0 := by simpa using h
  unfold cntE; rw [h]; rfl
 ·have h : (m.length : Int) ≠ 0 := by simpa using h
  have h2 := of_decide_eq_true h2
  unfold cntE; rw [decide_eq_true (show (m.length : Int) > 0 by omega), decide_eq_false (show ¬ (m.length : Int) ≤ 40 by omega)]; rfl
 ·have h : (m.length : Int) ≠ 0 := by simpa using h
  have h2 := of_decide_eq_false h2
  refine ⟨m.length + 1, 0, rfl, ?_, by omega, by omega, by omega, fun j hj => by omega⟩
  unfold cntE; rw [decide_eq_true (show (m.length : Int) > 0 by omega), decide_eq_true (show (m.length : Int) ≤ 40 by omega)]; rfl
theorem all_ref06_CheckMuons (m : List Muon) : AllG (J_ref06_CheckMuons m) (loopsFn Tryd.prog tab S84 ann_ref06_CheckMuons (J_ref06_CheckMuons m) Tryd.f46 (fun r => LeD r (.tu [.c (.v (.int .i64 (musI m))), .c (.v (.int .i64 (musE m)))]))) := by
 rw [lp_ref06_CheckMuons]
 refine ⟨⟨?_, ?_⟩, ⟨?_, ?_⟩, trivial⟩
 ·intro F s h
  obtain _ | ⟨g, F⟩ := F
  case cons => exact h.elim
  obtain ⟨w0, rfl, hi⟩ := h
  exact zero_ref06_CheckMuons_0 m w0 hi
 ·intro n F s h
  obtain _ | ⟨g, F⟩ := F
  case cons => exact h.elim
  obtain ⟨w0, rfl, hi⟩ := h
  rw [er_ref06_CheckMuons_0]
  exact rnd_ref06_CheckMuons_0 m _ _ hi
 ·intro F s h
  obtain _ | ⟨f0, F⟩ := F
  ·exact h.elim
  obtain _ | ⟨g, F⟩ := F
  case cons => exact h.elim
  obtain ⟨w0, w1, rfl, hi⟩ := h
  exact zero_ref06_CheckMuons_2 m w0 w1 _ hi
 ·intro n F s h
  obtain _ | ⟨f0, F⟩ := F
  ·exact h.elim
  obtain _ | ⟨g, F⟩ := F
  case cons => exact h.elim
  obtain ⟨w0, w1, rfl, hi⟩ := h
  rw [er_ref06_CheckMuons_2]
  exact rnd_ref06_CheckMuons_2 m _ _ _ _ hi
def con_ref06_CheckMuons : Con := fun args => match args with
 | [.t (.c (.sl 2 n_m c_m))] => some (.tu [.c (.v (.int .i64 (musI (muOf n_m c_m)))), .c (.v (.int .i64 (musE (muOf n_m c_m))))], some (muP n_m c_m), false)
 | _ => none
theorem ok_ref06_CheckMuons : Ok Tryd.prog 46 con_ref06_CheckMuons := by
 refine Ok.fn (ann := ann_ref06_CheckMuons) mixed tabOK VS84 ValidIt.no (fn := Tryd.f46) (by kernel_rfl) (by kernel_rfl) fit_ref06_CheckMuons fun args r pre fresh h hp => ?_
 unfold con_ref06_CheckMuons at h
 split at h
 ·rename_i n_m c_m
  cases h
  have hp0 := hp
  refine ⟨rfl, J_ref06_CheckMuons (muOf n_m c_m), [.t (.c (.sl 2 ((muOf n_m c_m).length) (musC (muOf n_m c_m))))], ?_, Nat.le_of_ble_eq_true (by kernel_rfl), ?_, ?_⟩
  ·exact (LeA_cons (leT_c ((leL_Muon hp0))) LeA_nil)
  ·rw [ev_ref06_CheckMuons]; exact spec_ref06_CheckMuons (muOf n_m c_m)
  ·exact all_ref06_CheckMuons (muOf n_m c_m)
 ·cases h
def S85 : Sum := addS S84 46 con_ref06_CheckMuons
theorem VS85 : Valid Tryd.prog S85 := Valid.add VS84 ok_ref06_CheckMuons
def vc_ref06_MuonsErr (m : List Muon) (post : DV → Prop) : Prop := (muP m.length (musC m)) ∧ (post (.t (.c (.v (.int .i64 (musE (muOf m.length (musC m))))))))
def ann_ref06_MuonsErr : Ann := ⟨fun _ => none, fun _ => none, fun _ => [], noIt, false, fun _ => none, fun _ => none⟩
theorem ev_ref06_MuonsErr (J : Inv) (m : List Muon) (post : DV → Prop) : evFn Tryd.prog tab S85 ann_ref06_MuonsErr J Tryd.f34 [.t (.c (.sl 2 m.length (musC m)))] post = vc_ref06_MuonsErr m post := by kernel_rfl
theorem fit_ref06_MuonsErr : okFn ann_ref06_MuonsErr Tryd.f34 = true := by kernel_rfl
theorem lp_ref06_MuonsErr (J : Inv) (post : DV → Prop) : AllG J (loopsFn Tryd.prog tab S85 ann_ref06_MuonsErr J Tryd.f34 post) = (True) := by kernel_rfl
theorem spec_ref06_MuonsErr (m : List Muon) : vc_ref06_MuonsErr m (fun r => LeD r (.t (.c (.v (.int .i64 (musE m)))))) := by
 unfold vc_ref06_MuonsErr
 rw [mus_of]
 exact ⟨muP_mus m, LeD.refl _⟩
def con_ref06_MuonsErr : Con := fun args => match args with
 | [.t (.c (.sl 2 n_m c_m))] => some (.t (.c (.v (.int .i64 (musE (muOf n_m c_m))))), some (muP n_m c_m), false)
 | _ => none
theorem ok_ref06_MuonsErr : Ok Tryd.prog 34 con_ref06_MuonsErr := by
 refine Ok.fn (ann := ann_ref06_MuonsErr) mixed tabOK VS85 ValidIt.no (fn := Tryd.f34) (by kernel_rfl) (by kernel_rfl) fit_ref06_MuonsErr fun args r pre fresh h hp => ?_
 unfold con_ref06_MuonsErr at h
 split at h
 ·rename_i n_m c_m
  cases h
  have hp0 := hp
  refine ⟨rfl, fun _ _ _ => False, [.t (.c (.sl 2 ((muOf n_m c_m).length) (musC (muOf n_m c_m))))], ?_, Nat.le_of_ble_eq_true (by kernel_rfl), ?_, ?_⟩
  ·exact (LeA_cons (leT_c ((leL_Muon hp0))) LeA_nil)
  ·rw [ev_ref06_MuonsErr]; exact spec_ref06_MuonsErr (muOf n_m c_m)
  ·rw [lp_ref06_MuonsErr]; trivial
 ·cases h
def S86 : Sum := addS S85 34 con_ref06_MuonsErr
theorem VS86 : Valid Tryd.prog S86 := Valid.add VS85 ok_ref06_MuonsErr
def S87 : Sum := S86
theorem VS87 : Valid Tryd.prog S87 := VS86
def mk_base_Has_0 (l : List Int) (a : Int) (v0_0 : Int) : DS := ⟨[some (.t (.c (.sl 1 l.length (intsC l)))), some (.t (.c (.v (.int .i64 a)))), none, none, none, some (.t (.c (.v (.int .i64 v0_0)))), none, none, none, none, none, none, none, none, none, none, none, none], [none, none, none, none, none, none, none, none, none, none, none, none, none, none, none, none, none, none]⟩
def vc_base_Has (J : Inv) (l : List Int) (a : Int) (post : DV → Prop) : Prop := ∃ n, J 0 (n :: []) (mk_base_Has_0 l a 0)
def ann_base_Has : Ann := ⟨fun _ => none, fun b => lookA b [(0, (none, some ⟨[0, 1, 5], [], []⟩))], fun _ => [], noIt, false, fun _ => none, fun _ => none⟩
theorem ev_base_Has (J : Inv) (l : List Int) (a : Int) (post : DV → Prop) : evFn Tryd.prog tab S87 ann_base_Has J Tryd.f52 [.t (.c (.sl 1 l.length (intsC l))), .t (.c (.v (.int .i64 a)))] post = vc_base_Has J l a post := by kernel_rfl
theorem fit_base_Has : okFn ann_base_Has Tryd.f52 = true := by kernel_rfl
def rd_base_Has_0 (J : Inv) (l : List Int) (a : Int) (v0_0 : Int) (nn0 : Nat) (post : DV → Prop) : Prop := cond (decide (v0_0 < ((l.length : Nat) : Int))) ((0 ≤ v0_0 ∧ v0_0 < ((l.length : Nat) : Int)) ∧ (cond ((l.getD v0_0.toNat 0) == a) (post (.t (.c (.v (.bool true))))) (lt (IntKind.i64.wrap (v0_0 + (1 : Int))) fun x1 => J 0 (nn0 :: []) (mk_base_Has_0 l a x1)))) (post (.t (.c (.v (.bool false)))))
theorem er_base_Has_0 (J : Inv) (l : List Int) (a : Int) (v0_0 : Int) (nn0 : Nat) (post : DV → Prop) : round Tryd.prog tab S87 ann_base_Has J Tryd.f52 post 0 (nn0 :: []) (mk_base_Has_0 l a v0_0) = rd_base_Has_0 J l a v0_0 nn0 post := by kernel_rfl
theorem lp_base_Has (J : Inv) (post : DV → Prop) : AllG J (loopsFn Tryd.prog tab S87 ann_base_Has J Tryd.f52 post) = (((∀ F s, ¬ J 0 (0 :: F) s) ∧ ∀ n F s, J 0 ((n + 1) :: F) s → round Tryd.prog tab S87 ann_base_Has J Tryd.f52 post 0 (n :: F) s) ∧ True) := by kernel_rfl
def J_base_Has (l : List Int) (a : Int) : Inv := fun b F s => match b, F with
 | 0, [nn0] => ∃ (v0_0 : Int), s = mk_base_Has_0 l a v0_0 ∧ (l.length ≤ 1000000 ∧ 0 ≤ v0_0 ∧ v0_0 ≤ l.length ∧ (nn0 : Int) + v0_0 = l.length + 1 ∧ ∀ k : Nat, (k : Int) < v0_0 → l.getD k 0 ≠ a)
 | _, _ => False
theorem rnd_base_Has_0 (l : List Int) (a : Int) (v0_0 : Int) (nn0 : Nat) (hp : (l).length ≤ 1000000) (hi : l.length ≤ 1000000 ∧ 0 ≤ v0_0 ∧ v0_0 ≤ l.length ∧ ((nn0 + 1) : Int) + v0_0 = l.length + 1 ∧ ∀ k : Nat, (k : Int) < v0_0 → l.getD k 0 ≠ a) : rd_base_Has_0 (J_base_Has l a) l a v0_0 nn0 (fun r => LeD r (.t (.c (.v (.bool ((l).contains a)))))) := by
 obtain ⟨i0, i1, i2, i3, i4⟩ := hi
 obtain ⟨k, rfl⟩ : ∃ k : Nat, v0_0 = k := ⟨v0_0.toNat, by omega⟩
 have hk : (k : Int).toNat = k := rfl
 unfold rd_base_Has_0
 rw [hk]
 refine cond_i (fun h => ?_) (fun h => leB ?_)
 ·have hlt : k < l.length := by have := of_decide_eq_true h; omega
  refine ⟨by omega, cond_i (fun e => leB ?_) (fun e => lt_i fun x hx => ?_)⟩
  ·have e : l.getD k 0 = a := by simpa using e
   exact (List.contains_iff_mem.2 (e ▸ getD_mem hlt)).symm
  ·rw [wi (by omega)] at hx
   subst hx
   refine ⟨_, rfl, i0, by omega, by omega, by omega, fun j hj => ?_⟩
   by_cases q : j = k
   ·rw [q]; simpa using e
   ·exact i4 j (by omega)
 ·have hge : k = l.length := by have := of_decide_eq_false h; omega
  refine (Bool.eq_false_iff.2 fun q => ?_).symm
  obtain ⟨j, hj, e⟩ := mem_getD (List.contains_iff_mem.1 q)
  exact i4 j (by omega) e
theorem zero_base_Has_0 (l : List Int) (a : Int) (v0_0 : Int)  (hi : l.length ≤ 1000000 ∧ 0 ≤ v0_0 ∧ v0_0 ≤ l.length ∧ (0 : Int) + v0_0 = l.length + 1 ∧ ∀ k : Nat, (k : Int) < v0_0 → l.getD k 0 ≠ a) : False := by
 omega
theorem spec_base_Has (l : List Int) (a : Int) (hp : (l).length ≤ 1000000) : vc_base_Has (J_base_Has l a) l a (fun r => LeD r (.t (.c (.v (.bool ((l).contains a)))))) := by
 unfold vc_base_Has
 exact ⟨l.length + 1, 0, rfl, hp, by omega, by omega, by omega, fun j hj => by omega⟩
theorem all_base_Has (l : List Int) (a : Int) (hp : (l).length ≤ 1000000) : AllG (J_base_Has l a) (loopsFn Tryd.prog tab S87 ann_base_Has (J_base_Has l a) Tryd.f52 (fun r => LeD r (.t (.c (.v (.bool ((l).contains a))))))) := by
 rw [lp_base_Has]
 refine ⟨⟨?_, ?_⟩, trivial⟩
 ·intro F s h
  obtain _ | ⟨g, F⟩ := F
  case cons => exact h.elim
  obtain ⟨w0, rfl, hi⟩ := h
  exact zero_base_Has_0 l a w0 hi
 ·intro n F s h
  obtain _ | ⟨g, F⟩ := F
  case cons => exact h.elim
  obtain ⟨w0, rfl, hi⟩ := h
  rw [er_base_Has_0]
  exact rnd_base_Has_0 l a _ _ hp hi
def con_base_Has : Con := fun args => match args with
 | [.t (.c (.sl 1 n_l c_l)), .t (.c (.v (.int .i64 a)))] => some (.t (.c (.v (.bool (((listC n_l mkInt c_l)).contains a)))), some (numsP 1 n_l c_l ∧ ((listC n_l mkInt c_l)).length ≤ 1000000), false)
 | _ => none
theorem ok_base_Has : Ok Tryd.prog 52 con_base_Has := by
 refine Ok.fn (ann := ann_base_Has) mixed tabOK VS87 ValidIt.no (fn := Tryd.f52) (by kernel_rfl) (by kernel_rfl) fit_base_Has fun args r pre fresh h hp => ?_
 unfold con_base_Has at h
 split at h
 ·rename_i n_l c_l a
  cases h
  obtain ⟨hp0, hp⟩ := hp
  refine ⟨rfl, J_base_Has (listC n_l mkInt c_l) a, [.t (.c (.sl 1 ((listC n_l mkInt c_l).length) (intsC (listC n_l mkInt c_l)))), .t (.c (.v (.int .i64 a)))], ?_, Nat.le_of_ble_eq_true (by kernel_rfl), ?_, ?_⟩
  ·exact (LeA_cons (leT_c ((leL_int hp0))) (LeA_cons (LeD.refl _) LeA_nil))
  ·rw [ev_base_Has]; exact spec_base_Has (listC n_l mkInt c_l) a hp
  ·exact all_base_Has (listC n_l mkInt c_l) a hp
 ·cases h
def S88 : Sum := addS S87 52 con_base_Has
theorem VS88 : Valid Tryd.prog S88 := Valid.add VS87 ok_base_Has
def mk_ref06_Passing_0 (m : List Muon) (f : Int) (v : List Int) (v0_0 : List Int) (v0_1 : Int) : DS := ⟨[some (.t (.c (.sl 2 m.length (musC m)))), none, none, some (.t (.c (.p 3 0))), none, some (.t (.c (.os 5))), some (.t (.c (.v (.int .i64 v0_1)))), none, none, none, none, none, none, none, none, none, none, none, none, none, none, none, none, none, none, none, none, none, none, none, none, none, none, none, none, none, none, none, none, none, none, none, none, none, none, none, none, none, none, none, none, none], [none, none, none, some (.box 71 [.v (.int .i64 f), .sl 1 v.length (intsC v)]), none, some (.num 3 .i64 v0_0), none, none, none, none, none, none, none, none, none, none, none, none, none, none, none, none, none, none, none, none, none, none, none, none, none, none, none, none, none, none, none, none, none, none, none, none, none, none, none, none, none, none, none, none, none, none]⟩
def mk_ref06_Passing_2 (m : List Muon) (f : Int) (v : List Int) (v2_0 : List Int) (v2_1 : Int) (v2_2 : Bool) (v2_3 : Int) : DS := ⟨[some (.t (.c (.sl 2 m.length (musC m)))), none, none, some (.t (.c (.p 3 0))), none, some (.t (.c (.os 5))), some (.t (.c (.v (.int .i64 v2_1)))), some (.t (.c (.v (.bool v2_2)))), some (.t (.c (.v (.int .i64 v2_3)))), none, none, none, none, none, none, none, none, none, none, none, none, none, none, none, none, none, none, none, none, none, none, none, none, none, none, none, none, none, none, none, none, none, none, none, none, none, none, none, none, none, none, none], [none, none, none, some (.box 71 [.v (.int .i64 f), .sl 1 v.length (intsC v)]), none, some (.num 3 .i64 v2_0), none, none, none, none, none, none, none, none, none, none, none, none, none, none, none, none, none, none, none, none, none, none, none, none, none, none, none, none, none, none, none, none, none, none, none, none, none, none, none, none, none, none, none, none, none, none]⟩
def vc_ref06_Passing (J : Inv) (m : List Muon) (f : Int) (v : List Int) (post : DV → Prop) : Prop := ∃ n, J 0 (n :: []) (mk_ref06_Passing_0 m f v ([]) 0)
def ann_ref06_Passing : Ann := ⟨fun r => lookA r [(9, ([[], [0], [0, 1], [0, 1, 2], [0, 1], [0, 1], [0, 1, 4, 5], [0, 1, 4, 5, 6], [0, 1, 4, 5, 6, 7], [0, 1], [0, 1, 4, 5, 6, 7, 8, 9], [0, 1, 4, 5, 6, 7, 8, 9, 10], [0, 1, 2, 3, 4, 5, 6, 7, 8, 9, 10, 11], [0, 1, 2, 3, 4, 5, 6, 7, 8, 9, 10, 11, 12], [0, 1, 2, 3, 4, 5, 6, 7, 8, 9, 10, 11, 12, 13]], [[43], [43], [43], [43], [43], [43], [43], [43], [43], [43], [43], [43], [], [], []]))], fun b => lookA b [(0, (none, some ⟨[0, 3, 6], [3], [(5, .num 3 .i64 ([]))]⟩)), (2, (none, some ⟨[0, 3, 6, 7, 8], [3], [(5, .num 3 .i64 ([]))]⟩))], fun _ => [], noIt, true, fun r => lookA r [(7, (9, [28])), (9, (2, [7]))], fun _ => none⟩
theorem ev_ref06_Passing (J : Inv) (m : List Muon) (f : Int) (v : List Int) (post : DV → Prop) : evFn Tryd.prog tab S88 ann_ref06_Passing J Tryd.f48 [.t (.c (.sl 2 m.length (musC m))), .t (.a [.v (.int .i64 f), .sl 1 v.length (intsC v)])] post = vc_ref06_Passing J m f v post := by kernel_rfl
theorem fit_ref06_Passing : okFn ann_ref06_Passing Tryd.f48 = true := by kernel_rfl
def rd_ref06_Passing_0 (J : Inv) (m : List Muon) (f : Int) (v : List Int) (v0_0 : List Int) (v0_1 : Int) (nn0 : Nat) (post : DV → Prop) : Prop := cond (decide (v0_1 < ((m.length : Nat) : Int))) (∃ n, J 2 (n :: nn0 :: []) (mk_ref06_Passing_2 m f v v0_0 v0_1 false 0)) (post (.t (.c (.sl 1 v0_0.length (numsC .i64 v0_0)))))
theorem er_ref06_Passing_0 (J : Inv) (m : List Muon) (f : Int) (v : List Int) (v0_0 : List Int) (v0_1 : Int) (nn0 : Nat) (post : DV → Prop) : round Tryd.prog tab S88 ann_ref06_Passing J Tryd.f48 post 0 (nn0 :: []) (mk_ref06_Passing_0 m f v v0_0 v0_1) = rd_ref06_Passing_0 J m f v v0_0 v0_1 nn0 post := by kernel_rfl
def rd_ref06_Passing_2 (J : Inv) (m : List Muon) (f : Int) (v : List Int) (v2_0 : List Int) (v2_1 : Int) (v2_2 : Bool) (v2_3 : Int) (nn2 nn0 : Nat) (post : DV → Prop) : Prop := (0 ≤ v2_1 ∧ v2_1 < ((m.length : Nat) : Int)) ∧ ((cond (decide (v2_3 < (((muAt m v2_1.toNat).s.length : Nat) : Int))) (True) ((false = false) ∧ (True))) ∧ (lt ((bif decide (v2_3 < (((muAt m v2_1.toNat).s.length : Nat) : Int)) then decide (v2_3 < f) else false)) fun x1 => cond x1 ((cond v2_2 ((true = true) ∧ (True)) ((0 ≤ v2_1 ∧ v2_1 < ((m.length : Nat) : Int)) ∧ ((0 ≤ v2_3 ∧ v2_3 < (((muAt m v2_1.toNat).s.length : Nat) : Int)) ∧ ((numsP 1 v.length (intsC v) ∧ ((listC v.length mkInt (intsC v))).length ≤ 1000000) ∧ (True))))) ∧ (lt ((bif v2_2 then true else ((listC v.length mkInt (intsC v))).contains (((muAt m v2_1.toNat).s).getD v2_3.toNat 0))) fun x2 => lt (IntKind.i64.wrap (v2_3 + (1 : Int))) fun x3 => J 2 (nn2 :: nn0 :: []) (mk_ref06_Passing_2 m f v v2_0 v2_1 x2 x3))) (cond (!v2_2) (((IntKind.i64 = IntKind.i64 ∧ True) ∧ roomP 8 (v2_0.length + ([v2_1] : List Int).length)) ∧ (lt (IntKind.i64.wrap (v2_1 + (1 : Int))) fun x4 => J 0 (nn0 :: []) (mk_ref06_Passing_0 m f v (v2_0 ++ ([v2_1])) x4))) (lt (IntKind.i64.wrap (v2_1 + (1 : Int))) fun x5 => J 0 (nn0 :: []) (mk_ref06_Passing_0 m f v v2_0 x5)))))
theorem er_ref06_Passing_2 (J : Inv) (m : List Muon) (f : Int) (v : List Int) (v2_0 : List Int) (v2_1 : Int) (v2_2 : Bool) (v2_3 : Int) (nn2 nn0 : Nat) (post : DV → Prop) : round Tryd.prog tab S88 ann_ref06_Passing J Tryd.f48 post 1 (nn2 :: nn0 :: []) (mk_ref06_Passing_2 m f v v2_0 v2_1 v2_2 v2_3) = rd_ref06_Passing_2 J m f v v2_0 v2_1 v2_2 v2_3 nn2 nn0 post := by kernel_rfl
theorem lp_ref06_Passing (J : Inv) (post : DV → Prop) : AllG J (loopsFn Tryd.prog tab S88 ann_ref06_Passing J Tryd.f48 post) = (((∀ F s, ¬ J 0 (0 :: F) s) ∧ ∀ n F s, J 0 ((n + 1) :: F) s → round Tryd.prog tab S88 ann_ref06_Passing J Tryd.f48 post 0 (n :: F) s) ∧ ((∀ F s, ¬ J 2 (0 :: F) s) ∧ ∀ n F s, J 2 ((n + 1) :: F) s → round Tryd.prog tab S88 ann_ref06_Passing J Tryd.f48 post 1 (n :: F) s) ∧ True) := by kernel_rfl
def J_ref06_Passing (m : List Muon) (f : Int) (v : List Int) : Inv := fun b F s => match b, F with
 | 0, [nn0] => ∃ (v0_0 : List Int) (v0_1 : Int), s = mk_ref06_Passing_0 m f v v0_0 v0_1 ∧ ((musE m = 0 ∧ 0 ≤ f ∧ v.length ≤ 1000000) ∧ 0 ≤ v0_1 ∧ v0_1 ≤ m.length ∧ (nn0 : Int) + v0_1 = m.length + 1 ∧ v0_0 = ((List.range v0_1.toNat).filter fun i => passB f v (muAt m i)).map fun i : Nat => (i : Int))
 | 2, [nn2, nn0] => ∃ (v2_0 : List Int) (v2_1 : Int) (v2_2 : Bool) (v2_3 : Int), s = mk_ref06_Passing_2 m f v v2_0 v2_1 v2_2 v2_3 ∧ ((musE m = 0 ∧ 0 ≤ f ∧ v.length ≤ 1000000) ∧ (0 ≤ v2_1 ∧ v2_1 < m.length ∧ (nn0 : Int) + v2_1 = m.length) ∧ (v2_0 = ((List.range v2_1.toNat).filter fun i => passB f v (muAt m i)).map fun i : Nat => (i : Int)) ∧ 0 ≤ v2_3 ∧ v2_3 ≤ (muAt m v2_1.toNat).s.length ∧ v2_3 ≤ f ∧ (nn2 : Int) + v2_3 = (muAt m v2_1.toNat).s.length + 1 ∧ v2_2 = ((muAt m v2_1.toNat).s.take v2_3.toNat).any fun s => v.contains s)
 | _, _ => False
set_option maxHeartbeats 8000000 in
set_option maxRecDepth 100000 in
theorem rnd_ref06_Passing_0 (m : List Muon) (f : Int) (v : List Int) (v0_0 : List Int) (v0_1 : Int) (nn0 : Nat) (hp : musE m = 0 ∧ 0 ≤ f ∧ (v).length ≤ 1000000) (hi : (musE m = 0 ∧ 0 ≤ f ∧ v.length ≤ 1000000) ∧ 0 ≤ v0_1 ∧ v0_1 ≤ m.length ∧ ((nn0 + 1) : Int) + v0_1 = m.length + 1 ∧ v0_0 = ((List.range v0_1.toNat).filter fun i => passB f v (muAt m i)).map fun i : Nat => (i : Int)) : rd_ref06_Passing_0 (J_ref06_Passing m f v) m f v v0_0 v0_1 nn0 (fun r => LeD r (.t (.c (.sl 1 ((pasL m f v).length) (intsC (pasL m f v)))))) := by
 obtain ⟨i0, i1, i2, i3, i4⟩ := hi
 obtain ⟨k, rfl⟩ : ∃ k : Nat, v0_1 = k := ⟨v0_1.toNat, by omega⟩
 have hk : (k : Int).toNat = k := rfl
 unfold rd_ref06_Passing_0
 refine cond_i (fun h => ?_) (fun h => ?_)
 ·have h := of_decide_eq_true h
  exact ⟨(muAt m k).s.length + 1, _, _, _, 0, rfl, i0, by omega, i4, by omega, by omega, i0.2.1, by rw [hk]; omega, rfl⟩
 ·have hge : k = m.length := by have := of_decide_eq_false h; omega
  rw [i4, hk, hge]
  exact LeD.refl _
theorem zero_ref06_Passing_0 (m : List Muon) (f : Int) (v : List Int) (v0_0 : List Int) (v0_1 : Int)  (hi : (musE m = 0 ∧ 0 ≤ f ∧ v.length ≤ 1000000) ∧ 0 ≤ v0_1 ∧ v0_1 ≤ m.length ∧ (0 : Int) + v0_1 = m.length + 1 ∧ v0_0 = ((List.range v0_1.toNat).filter fun i => passB f v (muAt m i)).map fun i : Nat => (i : Int)) : False := by
 omega
set_option maxHeartbeats 8000000 in
set_option maxRecDepth 100000 in
theorem rnd_ref06_Passing_2 (m : List Muon) (f : Int) (v : List Int) (v2_0 : List Int) (v2_1 : Int) (v2_2 : Bool) (v2_3 : Int) (nn2 nn0 : Nat) (hp : musE m = 0 ∧ 0 ≤ f ∧ (v).length ≤ 1000000) (hi : (musE m = 0 ∧ 0 ≤ f ∧ v.length ≤ 1000000) ∧ (0 ≤ v2_1 ∧ v2_1 < m.length ∧ (nn0 : Int) + v2_1 = m.length) ∧ (v2_0 = ((List.range v2_1.toNat).filter fun i => passB f v (muAt m i)).map fun i : Nat => (i : Int)) ∧ 0 ≤ v2_3 ∧ v2_3 ≤ (muAt m v2_1.toNat).s.length ∧ v2_3 ≤ f ∧ ((nn2 + 1) : Int) + v2_3 = (muAt m v2_1.toNat).s.length + 1 ∧ v2_2 = ((muAt m v2_1.toNat).s.take v2_3.toNat).any fun s => v.contains s) : rd_ref06_Passing_2 (J_ref06_Passing m f v) m f v v2_0 v2_1 v2_2 v2_3 nn2 nn0 (fun r => LeD r (.t (.c (.sl 1 ((pasL m f v).length) (intsC (pasL m f v)))))) := by
 obtain ⟨i0, i1, i2, i3, i4, i5, i6, i7⟩ := hi
 obtain ⟨k, rfl⟩ : ∃ k : Nat, v2_1 = k := ⟨v2_1.toNat, by omega⟩
 have hk : (k : Int).toNat = k := rfl
 rw [hk] at i2 i4 i6 i7
 obtain ⟨q, rfl⟩ : ∃ q : Nat, v2_3 = q := ⟨v2_3.toNat, by omega⟩
 have hq : (q : Int).toNat = q := rfl
 rw [hq] at i7
 obtain ⟨⟨z1, z2⟩, z3⟩ := mus_ok i0.1
 obtain ⟨_, w2, _⟩ := mu_ok (z3 k (by omega))
 have hlen : v2_0.length ≤ 40 := by
  rw [i2, List.length_map]
  have := List.length_filter_le (fun i => passB f v (muAt m i)) (List.range k)
  rw [List.length_range] at this
  omega
 unfold rd_ref06_Passing_2
 rw [hk, hq, ints_listC]
 refine ⟨by omega, cond_i (fun _ => trivial) (fun _ => ⟨rfl, trivial⟩), lt_i fun x1 h1 => cond_i (fun h => ⟨cond_i (fun _ => ⟨rfl, trivial⟩) (fun _ => ⟨by omega, ?_, ⟨numsP_ints v, i0.2.2⟩, trivial⟩), lt_i fun x2 h2 => lt_i fun x hx => ?_⟩) (fun h => ?_)⟩
 ·subst h1
  have h := bif_and h
  have := of_decide_eq_true h.1
  omega
 ·subst h1
  have h := bif_and h
  have h1 := of_decide_eq_true h.1
  have h3 := of_decide_eq_true h.2
  rw [wi (by omega)] at hx
  subst hx
  refine ⟨_, _, _, _, rfl, i0, by omega, by rw [hk]; exact i2, by omega, by rw [hk]; omega, by omega, by rw [hk]; omega, ?_⟩
  rw [show ((q : Int) + 1).toNat = q + 1 by omega, hk, take_getD (0 : Int) (show q < (muAt m k).s.length by omega), List.any_append, ← i7, ← h2]
  cases v2_2 <;> simp
 ·have hE : v2_2 = ((muAt m k).s.take f.toNat).any fun s => v.contains s := by
   rw [i7]
   subst h1
   rcases bif_nand h with h | h
   ·have h := of_decide_eq_false h
    rw [List.take_of_length_le (by omega), List.take_of_length_le (by omega)]
   ·have h := of_decide_eq_false h
    rw [show f.toNat = q by omega]
  have eP : passB f v (muAt m k) = !v2_2 := by
   unfold passB
   rw [hE, ← List.not_any_eq_all_not]
  have eR : ((List.range (k + 1)).filter fun i => passB f v (muAt m i)) = ((List.range k).filter fun i => passB f v (muAt m i)) ++ (if v2_2 = true then [] else [k]) := by
   rw [List.range_succ, List.filter_append, List.filter_cons, eP]
   cases v2_2 <;> rfl
  refine cond_i (fun e => ⟨⟨⟨rfl, trivial⟩, ?_⟩, lt_i fun x hx => ?_⟩) (fun e => lt_i fun x hx => ?_)
  ·unfold roomP maxLen; simp; omega
  ·have e : v2_2 = false := by simpa using e
   rw [wi (by omega)] at hx
   subst hx
   refine ⟨_, _, rfl, i0, by omega, by omega, by omega, ?_⟩
   rw [show ((k : Int) + 1).toNat = k + 1 by omega, eR, e, List.map_append, i2]; rfl
  ·have e : v2_2 = true := by simpa using e
   rw [wi (by omega)] at hx
   subst hx
   refine ⟨_, _, rfl, i0, by omega, by omega, by omega, ?_⟩
   rw [show ((k : Int) + 1).toNat = k + 1 by omega, eR, e, i2]; simp
theorem zero_ref06_Passing_2 (m : List Muon) (f : Int) (v : List Int) (v2_0 : List Int) (v2_1 : Int) (v2_2 : Bool) (v2_3 : Int) (nn0 : Nat) (hi : (musE m = 0 ∧ 0 ≤ f ∧ v.length ≤ 1000000) ∧ (0 ≤ v2_1 ∧ v2_1 < m.length ∧ (nn0 : Int) + v2_1 = m.length) ∧ (v2_0 = ((List.range v2_1.toNat).filter fun i => passB f v (muAt m i)).map fun i : Nat => (i : Int)) ∧ 0 ≤ v2_3 ∧ v2_3 ≤ (muAt m v2_1.toNat).s.length ∧ v2_3 ≤ f ∧ (0 : Int) + v2_3 = (muAt m v2_1.toNat).s.length + 1 ∧ v2_2 = ((muAt m v2_1.toNat).s.take v2_3.toNat).any fun s => v.contains s) : False := by
 omega
set_option maxHeartbeats 8000000 in
set_option maxRecDepth 100000 in
theorem spec_ref06_Passing (m : List Muon) (f : Int) (v : List Int) (hp : musE m = 0 ∧ 0 ≤ f ∧ (v).length ≤ 1000000) : vc_ref06_Passing (J_ref06_Passing m f v) m f v (fun r => LeD r (.t (.c (.sl 1 ((pasL m f v).length) (intsC (pasL m f v)))))) := by
 unfold vc_ref06_Passing
 exact ⟨m.length + 1, [], 0, rfl, hp, by omega, by omega, by omega, rfl⟩
theorem all_ref06_Passing (m : List Muon) (f : Int) (v : List Int) (hp : musE m = 0 ∧ 0 ≤ f ∧ (v).length ≤ 1000000) : AllG (J_ref06_Passing m f v) (loopsFn Tryd.prog tab S88 ann_ref06_Passing (J_ref06_Passing m f v) Tryd.f48 (fun r => LeD r (.t (.c (.sl 1 ((pasL m f v).length) (intsC (pasL m f v))))))) := by
 rw [lp_ref06_Passing]
 refine ⟨⟨?_, ?_⟩, ⟨?_, ?_⟩, trivial⟩
 ·intro F s h
  obtain _ | ⟨g, F⟩ := F
  case cons => exact h.elim
  obtain ⟨w0, w1, rfl, hi⟩ := h
  exact zero_ref06_Passing_0 m f v w0 w1 hi
 ·intro n F s h
  obtain _ | ⟨g, F⟩ := F
  case cons => exact h.elim
  obtain ⟨w0, w1, rfl, hi⟩ := h
  rw [er_ref06_Passing_0]
  exact rnd_ref06_Passing_0 m f v _ _ _ hp hi
 ·intro F s h
  obtain _ | ⟨f0, F⟩ := F
  ·exact h.elim
  obtain _ | ⟨g, F⟩ := F
  case cons => exact h.elim
  obtain ⟨w0, w1, w2, w3, rfl, hi⟩ := h
  exact zero_ref06_Passing_2 m f v w0 w1 w2 w3 _ hi
 ·intro n F s h
  obtain _ | ⟨f0, F⟩ := F
  ·exact h.elim
  obtain _ | ⟨g, F⟩ := F
  case cons => exact h.elim
  obtain ⟨w0, w1, w2, w3, rfl, hi⟩ := h
  rw [er_ref06_Passing_2]
  exact rnd_ref06_Passing_2 m f v _ _ _ _ _ _ hp hi
def con_ref06_Passing : Con := fun args => match args with
 | [.t (.c (.sl 2 n_m c_m)), .t (.a [.v (.int .i64 f), .sl 1 n_v c_v])] => some (.t (.c (.sl 1 ((pasL (muOf n_m c_m) f (listC n_v mkInt c_v)).length) (intsC (pasL (muOf n_m c_m) f (listC n_v mkInt c_v))))), some (muP n_m c_m ∧ numsP 1 n_v c_v ∧ musE (muOf n_m c_m) = 0 ∧ 0 ≤ f ∧ ((listC n_v mkInt c_v)).length ≤ 1000000), true)
 | _ => none
theorem ok_ref06_Passing : Ok Tryd.prog 48 con_ref06_Passing := by
 refine Ok.fnFr (ann := ann_ref06_Passing) mixed tabOK VS88 ValidIt.no rfl (fn := Tryd.f48) (by kernel_rfl) (by kernel_rfl) fit_ref06_Passing fun args r pre fresh h hp => ?_
 unfold con_ref06_Passing at h
 split at h
 ·rename_i n_m c_m f n_v c_v
  cases h
  obtain ⟨hp0, hp1, hp⟩ := hp
  refine ⟨rfl, (fun i j _ hj => plain_int _ i j), J_ref06_Passing (muOf n_m c_m) f (listC n_v mkInt c_v), [.t (.c (.sl 2 ((muOf n_m c_m).length) (musC (muOf n_m c_m)))), .t (.a [.v (.int .i64 f), .sl 1 ((listC n_v mkInt c_v).length) (intsC (listC n_v mkInt c_v))])], ?_, Nat.le_of_ble_eq_true (by kernel_rfl), ?_, ?_⟩
  ·exact (LeA_cons (leT_c ((leL_Muon hp0))) (LeA_cons (leT_a (LeCs.cons (LeC1.refl _) (LeCs.cons ((leL_int hp1)) LeCs.nil))) LeA_nil))
  ·rw [ev_ref06_Passing]; exact spec_ref06_Passing (muOf n_m c_m) f (listC n_v mkInt c_v) hp
  ·exact all_ref06_Passing (muOf n_m c_m) f (listC n_v mkInt c_v) hp
 ·cases h
def S89 : Sum := addS S88 48 con_ref06_Passing
theorem VS89 : Valid Tryd.prog S89 := Valid.add VS88 ok_ref06_Passing
def mk_ref06_sums_0 (m : List Muon) (f : Int) (v : List Int) (v0_0 : Int) (v0_1 : Int) : DS := ⟨[some (.t (.c (.sl 2 m.length (musC m)))), none, none, some (.t (.c (.p 3 0))), none, none, none, some (.t (.c (.v (.int .i64 v0_1)))), some (.t (.c (.v (.int .i64 0)))), some (.t (.c (.v (.int .i64 0)))), some (.t (.c (.v (.int .i64 v0_0)))), none, none, none, none, none, none, none, none, none, none, none, none, none, none, none, none, none, none, none, none, none, none, none, none, none, none, none, none, none, none, none, none, none, none, none, none, none, none, none, none, none, none, none, none], [none, none, none, some (.box 71 [.v (.int .i64 f), .sl 1 v.length (intsC v)]), none, none, none, none, none, none, none, none, none, none, none, none, none, none, none, none, none, none, none, none, none, none, none, none, none, none, none, none, none, none, none, none, none, none, none, none, none, none, none, none, none, none, none, none, none, none, none, none, none, none, none]⟩
def mk_ref06_sums_2 (m : List Muon) (f : Int) (v : List Int) (v2_0 : Int) (v2_1 : Int) (v2_2 : Int) (v2_3 : Int) : DS := ⟨[some (.t (.c (.sl 2 m.length (musC m)))), none, none, none, none, none, none, some (.t (.c (.v (.int .i64 v2_1)))), some (.t (.c (.v (.int .i64 v2_2)))), some (.t (.c (.v (.int .i64 v2_3)))), none, some (.t (.c (.sl 1 ((pasL (muOf m.length (musC m)) f (listC v.length mkInt (intsC v))).length) (intsC (pasL (muOf m.length (musC m)) f (listC v.length mkInt (intsC v))))))), some (.t (.c (.v (.int .i64 v2_0)))), none, none, none, none, none, none, none, none, none, none, none, none, none, none, none, none, none, none, none, none, none, none, none, none, none, none, none, none, none, none, none, none, none, none, none, none, none, none, none, none, none, none], [none, none, none, none, none, none, none, none, none, none, none, none, none, none, none, none, none, none, none, none, none, none, none, none, none, none, none, none, none, none, none, none, none, none, none, none, none, none, none, none, none, none, none, none, none, none, none, none, none, none, none, none, none, none, none]⟩
def vc_ref06_sums (J : Inv) (m : List Muon) (f : Int) (v : List Int) (post : DV → Prop) : Prop := ∃ n, J 0 (n :: []) (mk_ref06_sums_0 m f v 0 0)
def ann_ref06_sums : Ann := ⟨fun _ => none, fun b => lookA b [(0, (none, some ⟨[0, 3, 7, 8, 9, 10], [3], []⟩)), (2, (none, some ⟨[0, 7, 8, 9, 11, 12], [], []⟩))], fun _ => [], noIt, false, fun _ => none, fun _ => none⟩
theorem ev_ref06_sums (J : Inv) (m : List Muon) (f : Int) (v : List Int) (post : DV → Prop) : evFn Tryd.prog tab S89 ann_ref06_sums J Tryd.f116 [.t (.c (.sl 2 m.length (musC m))), .t (.a [.v (.int .i64 f), .sl 1 v.length (intsC v)])] post = vc_ref06_sums J m f v post := by kernel_rfl
theorem fit_ref06_sums : okFn ann_ref06_sums Tryd.f116 = true := by kernel_rfl
def rd_ref06_sums_0 (J : Inv) (m : List Muon) (f : Int) (v : List Int) (v0_0 : Int) (v0_1 : Int) (nn0 : Nat) (post : DV → Prop) : Prop := cond (decide (v0_0 < ((m.length : Nat) : Int))) ((0 ≤ v0_0 ∧ v0_0 < ((m.length : Nat) : Int)) ∧ (lt (IntKind.i64.wrap (v0_1 + ((muAt m v0_0.toNat).w))) fun x1 => lt (IntKind.i64.wrap (v0_0 + (1 : Int))) fun x2 => J 0 (nn0 :: []) (mk_ref06_sums_0 m f v x2 x1))) ((muP m.length (musC m) ∧ numsP 1 v.length (intsC v) ∧ musE (muOf m.length (musC m)) = 0 ∧ 0 ≤ f ∧ ((listC v.length mkInt (intsC v))).length ≤ 1000000) ∧ (∃ n, J 2 (n :: []) (mk_ref06_sums_2 m f v 0 v0_1 0 0)))
theorem er_ref06_sums_0 (J : Inv) (m : List Muon) (f : Int) (v : List Int) (v0_0 : Int) (v0_1 : Int) (nn0 : Nat) (post : DV → Prop) : round Tryd.prog tab S89 ann_ref06_sums J Tryd.f116 post 0 (nn0 :: []) (mk_ref06_sums_0 m f v v0_0 v0_1) = rd_ref06_sums_0 J m f v v0_0 v0_1 nn0 post := by kernel_rfl
def rd_ref06_sums_2 (J : Inv) (m : List Muon) (f : Int) (v : List Int) (v2_0 : Int) (v2_1 : Int) (v2_2 : Int) (v2_3 : Int) (nn2 : Nat) (post : DV → Prop) : Prop := cond (decide (v2_0 < (((pasL (muOf m.length (musC m)) f (listC v.length mkInt (intsC v))).length : Nat) : Int))) ((0 ≤ v2_0 ∧ v2_0 < (((pasL (muOf m.length (musC m)) f (listC v.length mkInt (intsC v))).length : Nat) : Int)) ∧ ((0 ≤ ((pasL (muOf m.length (musC m)) f (listC v.length mkInt (intsC v))).getD v2_0.toNat 0) ∧ ((pasL (muOf m.length (musC m)) f (listC v.length mkInt (intsC v))).getD v2_0.toNat 0) < ((m.length : Nat) : Int)) ∧ (lt (IntKind.i64.wrap (v2_2 + ((muAt m (((pasL (muOf m.length (musC m)) f (listC v.length mkInt (intsC v))).getD v2_0.toNat 0).toNat)).w))) fun x1 => lt (IntKind.i64.wrap (((muAt m (((pasL (muOf m.length (musC m)) f (listC v.length mkInt (intsC v))).getD v2_0.toNat 0).toNat)).w) * ((muAt m (((pasL (muOf m.length (musC m)) f (listC v.length mkInt (intsC v))).getD v2_0.toNat 0).toNat)).w))) fun x2 => lt (IntKind.i64.wrap (v2_3 + x2)) fun x3 => lt (IntKind.i64.wrap (v2_0 + (1 : Int))) fun x4 => J 2 (nn2 :: []) (mk_ref06_sums_2 m f v x4 v2_1 x1 x3)))) (post (.tu [.c (.v (.int .i64 v2_1)), .c (.v (.int .i64 v2_2)), .c (.v (.int .i64 v2_3))]))
theorem er_ref06_sums_2 (J : Inv) (m : List Muon) (f : Int) (v : List Int) (v2_0 : Int) (v2_1 : Int) (v2_2 : Int) (v2_3 : Int) (nn2 : Nat) (post : DV → Prop) : round Tryd.prog tab S89 ann_ref06_sums J Tryd.f116 post 1 (nn2 :: []) (mk_ref06_sums_2 m f v v2_0 v2_1 v2_2 v2_3) = rd_ref06_sums_2 J m f v v2_0 v2_1 v2_2 v2_3 nn2 post := by kernel_rfl
theorem lp_ref06_sums (J : Inv) (post : DV → Prop) : AllG J (loopsFn Tryd.prog tab S89 ann_ref06_sums J Tryd.f116 post) = (((∀ F s, ¬ J 0 (0 :: F) s) ∧ ∀ n F s, J 0 ((n + 1) :: F) s → round Tryd.prog tab S89 ann_ref06_sums J Tryd.f116 post 0 (n :: F) s) ∧ ((∀ F s, ¬ J 2 (0 :: F) s) ∧ ∀ n F s, J 2 ((n + 1) :: F) s → round Tryd.prog tab S89 ann_ref06_sums J Tryd.f116 post 1 (n :: F) s) ∧ True) := by kernel_rfl
def J_ref06_sums (m : List Muon) (f : Int) (v : List Int) : Inv := fun b F s => match b, F with
 | 0, [nn0] => ∃ (v0_0 : Int) (v0_1 : Int), s = mk_ref06_sums_0 m f v v0_0 v0_1 ∧ ((musE m = 0 ∧ 0 ≤ f ∧ v.length ≤ 1000000) ∧ 0 ≤ v0_0 ∧ v0_0 ≤ m.length ∧ (nn0 : Int) + v0_0 = m.length + 1 ∧ v0_1 = sumW (m.take v0_0.toNat))
 | 2, [nn2] => ∃ (v2_0 : Int) (v2_1 : Int) (v2_2 : Int) (v2_3 : Int), s = mk_ref06_sums_2 m f v v2_0 v2_1 v2_2 v2_3 ∧ ((musE m = 0 ∧ 0 ≤ f ∧ v.length ≤ 1000000) ∧ 0 ≤ v2_0 ∧ v2_0 ≤ (pasL m f v).length ∧ (nn2 : Int) + v2_0 = (pasL m f v).length + 1 ∧ v2_1 = sumW m ∧ v2_2 = sumW (((pasL m f v).take v2_0.toNat).map fun i => muAt m i.toNat) ∧ v2_3 = sumQ (((pasL m f v).take v2_0.toNat).map fun i => muAt m i.toNat))
 | _, _ => False
set_option maxHeartbeats 8000000 in
set_option maxRecDepth 100000 in
theorem rnd_ref06_sums_0 (m : List Muon) (f : Int) (v : List Int) (v0_0 : Int) (v0_1 : Int) (nn0 : Nat) (hp : musE m = 0 ∧ 0 ≤ f ∧ (v).length ≤ 1000000) (hi : (musE m = 0 ∧ 0 ≤ f ∧ v.length ≤ 1000000) ∧ 0 ≤ v0_0 ∧ v0_0 ≤ m.length ∧ ((nn0 + 1) : Int) + v0_0 = m.length + 1 ∧ v0_1 = sumW (m.take v0_0.toNat)) : rd_ref06_sums_0 (J_ref06_sums m f v) m f v v0_0 v0_1 nn0 (fun r => LeD r (.tu [.c (.v (.int .i64 (sumW m))), .c (.v (.int .i64 (sumW (passL f v m)))), .c (.v (.int .i64 (sumQ (passL f v m))))])) := by
 obtain ⟨i0, i1, i2, i3, i4⟩ := hi
 obtain ⟨k, rfl⟩ : ∃ k : Nat, v0_0 = k := ⟨v0_0.toNat, by omega⟩
 have hk : (k : Int).toNat = k := rfl
 rw [hk] at i4
 obtain ⟨⟨z1, z2⟩, z3⟩ := mus_ok i0.1
 have ht : ∀ x ∈ m.take k, 1 ≤ x.w ∧ x.w ≤ 100 := fun x hx => (mus_mem i0.1 x (List.mem_of_mem_take hx)).1
 have r1 := sums_rg (m.take k) ht
 have r4 := List.length_take_le k m
 unfold rd_ref06_sums_0
 rw [hk, mus_of, ints_listC]
 refine cond_i (fun h => ⟨by have := of_decide_eq_true h; omega, lt_i fun x1 h1 => lt_i fun x hx => ?_⟩) (fun h => ⟨⟨muP_mus m, numsP_ints v, i0⟩, ?_⟩)
 ·have hlt : k < m.length := by have := of_decide_eq_true h; omega
  obtain ⟨w1, w2, _⟩ := mu_ok (z3 k hlt)
  rw [wi (by omega)] at h1 hx
  subst hx
  refine ⟨_, _, rfl, i0, by omega, by omega, by omega, ?_⟩
  rw [show ((k : Int) + 1).toNat = k + 1 by omega, muAt_take hlt, sumW_app, ← h1, i4]; simp [sumW]
 ·have hge : k = m.length := by have := of_decide_eq_false h; omega
  rw [hge, List.take_length] at i4
  exact ⟨(pasL m f v).length + 1, 0, _, 0, 0, rfl, i0, by omega, by omega, by omega, i4, rfl, rfl⟩
theorem zero_ref06_sums_0 (m : List Muon) (f : Int) (v : List Int) (v0_0 : Int) (v0_1 : Int)  (hi : (musE m = 0 ∧ 0 ≤ f ∧ v.length ≤ 1000000) ∧ 0 ≤ v0_0 ∧ v0_0 ≤ m.length ∧ (0 : Int) + v0_0 = m.length + 1 ∧ v0_1 = sumW (m.take v0_0.toNat)) : False := by
 omega
set_option maxHeartbeats 8000000 in
set_option maxRecDepth 100000 in
theorem rnd_ref06_sums_2 (m : List Muon) (f : Int) (v : List Int) (v2_0 : Int) (v2_1 : Int) (v2_2 : Int) (v2_3 : Int) (nn2 : Nat) (hp : musE m = 0 ∧ 0 ≤ f ∧ (v).length ≤ 1000000) (hi : (musE m = 0 ∧ 0 ≤ f ∧ v.length ≤ 1000000) ∧ 0 ≤ v2_0 ∧ v2_0 ≤ (pasL m f v).length ∧ ((nn2 + 1) : Int) + v2_0 = (pasL m f v).length + 1 ∧ v2_1 = sumW m ∧ v2_2 = sumW (((pasL m f v).take v2_0.toNat).map fun i => muAt m i.toNat) ∧ v2_3 = sumQ (((pasL m f v).take v2_0.toNat).map fun i => muAt m i.toNat)) : rd_ref06_sums_2 (J_ref06_sums m f v) m f v v2_0 v2_1 v2_2 v2_3 nn2 (fun r => LeD r (.tu [.c (.v (.int .i64 (sumW m))), .c (.v (.int .i64 (sumW (passL f v m)))), .c (.v (.int .i64 (sumQ (passL f v m))))])) := by
 obtain ⟨i0, i1, i2, i3, i4, i5, i6⟩ := hi
 obtain ⟨k, rfl⟩ : ∃ k : Nat, v2_0 = k := ⟨v2_0.toNat, by omega⟩
 have hk : (k : Int).toNat = k := rfl
 rw [hk] at i5 i6
 obtain ⟨⟨z1, z2⟩, z3⟩ := mus_ok i0.1
 have hpl := pasL_len m f v
 have hm : ∀ i ∈ (pasL m f v), 0 ≤ i ∧ i < m.length := fun i hi => pasL_mem hi
 have ht : ∀ x ∈ ((pasL m f v).take k).map (fun i => muAt m i.toNat), 1 ≤ x.w ∧ x.w ≤ 100 := fun x hx => by
  obtain ⟨i, hi, e⟩ := List.mem_map.1 hx
  have := hm i (List.mem_of_mem_take hi)
  rw [← e]
  exact (mu_ok (z3 i.toNat (by omega))).1
 have r1 := sums_rg _ ht
 have r4 := List.length_take_le k (pasL m f v)
 rw [List.length_map] at r1
 unfold rd_ref06_sums_2
 rw [hk, mus_of, ints_listC]
 refine cond_i (fun h => ?_) (fun h => ?_)
 ·have hlt : k < (pasL m f v).length := by have := of_decide_eq_true h; omega
  have hx := hm _ (getD_mem hlt)
  obtain ⟨w1, _, _⟩ := mu_ok (z3 ((pasL m f v).getD k 0).toNat (by omega))
  have w3 := sq_rg (d := (muAt m ((pasL m f v).getD k 0).toNat).w) (K := 100) (by omega)
  refine ⟨by omega, by omega, lt_i fun x1 h1 => lt_i fun x2 h2 => lt_i fun x3 h3 => lt_i fun x4 h4 => ?_⟩
  rw [wi (by omega)] at h1 h2 h4
  subst h2 h4
  rw [wi (by omega)] at h3
  refine ⟨_, _, _, _, rfl, i0, by omega, by omega, by omega, i4, ?_, ?_⟩
  ·rw [show ((k : Int) + 1).toNat = k + 1 by omega, take_getD (0 : Int) hlt, List.map_append, sumW_app, ← h1, i5]; simp [sumW]
  ·rw [show ((k : Int) + 1).toNat = k + 1 by omega, take_getD (0 : Int) hlt, List.map_append, sumQ_app, ← h3, i6]; simp [sumQ]
 ·have hge : k = (pasL m f v).length := by have := of_decide_eq_false h; omega
  rw [hge, List.take_length, pasL_at] at i5 i6
  rw [i4, i5, i6]
  exact LeD.refl _
theorem zero_ref06_sums_2 (m : List Muon) (f : Int) (v : List Int) (v2_0 : Int) (v2_1 : Int) (v2_2 : Int) (v2_3 : Int)  (hi : (musE m = 0 ∧ 0 ≤ f ∧ v.length ≤ 1000000) ∧ 0 ≤ v2_0 ∧ v2_0 ≤ (pasL m f v).length ∧ (0 : Int) + v2_0 = (pasL m f v).length + 1 ∧ v2_1 = sumW m ∧ v2_2 = sumW (((pasL m f v).take v2_0.toNat).map fun i => muAt m i.toNat) ∧ v2_3 = sumQ (((pasL m f v).take v2_0.toNat).map fun i => muAt m i.toNat)) : False := by
 omega
set_option maxHeartbeats 8000000 in
set_option maxRecDepth 100000 in
theorem spec_ref06_sums (m : List Muon) (f : Int) (v : List Int) (hp : musE m = 0 ∧ 0 ≤ f ∧ (v).length ≤ 1000000) : vc_ref06_sums (J_ref06_sums m f v) m f v (fun r => LeD r (.tu [.c (.v (.int .i64 (sumW m))), .c (.v (.int .i64 (sumW (passL f v m)))), .c (.v (.int .i64 (sumQ (passL f v m))))])) := by
 unfold vc_ref06_sums
 exact ⟨m.length + 1, 0, 0, rfl, hp, by omega, by omega, by omega, rfl⟩
theorem all_ref06_sums (m : List Muon) (f : Int) (v : List Int) (hp : musE m = 0 ∧ 0 ≤ f ∧ (v).length ≤ 1000000) : AllG (J_ref06_sums m f v) (loopsFn Tryd.prog tab S89 ann_ref06_sums (J_ref06_sums m f v) Tryd.f116 (fun r => LeD r (.tu [.c (.v (.int .i64 (sumW m))), .c (.v (.int .i64 (sumW (passL f v m)))), .c (.v (.int .i64 (sumQ (passL f v m))))]))) := by
 rw [lp_ref06_sums]
 refine ⟨⟨?_, ?_⟩, ⟨?_, ?_⟩, trivial⟩
 ·intro F s h
  obtain _ | ⟨g, F⟩ := F
  case cons => exact h.elim
  obtain ⟨w0, w1, rfl, hi⟩ := h
  exact zero_ref06_sums_0 m f v w0 w1 hi
 ·intro n F s h
  obtain _ | ⟨g, F⟩ := F
  case cons => exact h.elim
  obtain ⟨w0, w1, rfl, hi⟩ := h
  rw [er_ref06_sums_0]
  exact rnd_ref06_sums_0 m f v _ _ _ hp hi
 ·intro F s h
  obtain _ | ⟨g, F⟩ := F
  case cons => exact h.elim
  obtain ⟨w0, w1, w2, w3, rfl, hi⟩ := h
  exact zero_ref06_sums_2 m f v w0 w1 w2 w3 hi
 ·intro n F s h
  obtain _ | ⟨g, F⟩ := F
  case cons => exact h.elim
  obtain ⟨w0, w1, w2, w3, rfl, hi⟩ := h
  rw [er_ref06_sums_2]
  exact rnd_ref06_sums_2 m f v _ _ _ _ _ hp hi
def con_ref06_sums : Con := fun args => match args with
 | [.t (.c (.sl 2 n_m c_m)), .t (.a [.v (.int .i64 f), .sl 1 n_v c_v])] => some (.tu [.c (.v (.int .i64 (sumW (muOf n_m c_m)))), .c (.v (.int .i64 (sumW (passL f (listC n_v mkInt c_v) (muOf n_m c_m))))), .c (.v (.int .i64 (sumQ (passL f (listC n_v mkInt c_v) (muOf n_m c_m)))))], some (muP n_m c_m ∧ numsP 1 n_v c_v ∧ musE (muOf n_m c_m) = 0 ∧ 0 ≤ f ∧ ((listC n_v mkInt c_v)).length ≤ 1000000), false)
 | _ => none
theorem ok_ref06_sums : Ok Tryd.prog 116 con_ref06_sums := by
 refine Ok.fn (ann := ann_ref06_sums) mixed tabOK VS89 ValidIt.no (fn := Tryd.f116) (by kernel_rfl) (by kernel_rfl) fit_ref06_sums fun args r pre fresh h hp => ?_
 unfold con_ref06_sums at h
 split at h
 ·rename_i n_m c_m f n_v c_v
  cases h
  obtain ⟨hp0, hp1, hp⟩ := hp
  refine ⟨rfl, J_ref06_sums (muOf n_m c_m) f (listC n_v mkInt c_v), [.t (.c (.sl 2 ((muOf n_m c_m).length) (musC (muOf n_m c_m)))), .t (.a [.v (.int .i64 f), .sl 1 ((listC n_v mkInt c_v).length) (intsC (listC n_v mkInt c_v))])], ?_, Nat.le_of_ble_eq_true (by kernel_rfl), ?_, ?_⟩
  ·exact (LeA_cons (leT_c ((leL_Muon hp0))) (LeA_cons (leT_a (LeCs.cons (LeC1.refl _) (LeCs.cons ((leL_int hp1)) LeCs.nil))) LeA_nil))
  ·rw [ev_ref06_sums]; exact spec_ref06_sums (muOf n_m c_m) f (listC n_v mkInt c_v) hp
  ·exact all_ref06_sums (muOf n_m c_m) f (listC n_v mkInt c_v) hp
 ·cases h
def S90 : Sum := addS S89 116 con_ref06_sums
theorem VS90 : Valid Tryd.prog S90 := Valid.add VS89 ok_ref06_sums
end Go.Proofs.YtmhgjlapkhdlmaaDoor
set_option linter.unusedVariables false
set_option linter.unusedSimpArgs false
namespace Go.Proofs.YtmhgjlapkhdlmaaDoor
open Go.RowKit Ev
def S91 : Sum := S90
theorem VS91 : Valid Tryd.prog S91 := VS90
def S92 : Sum := S91
theorem VS92 : Valid Tryd.prog S92 := VS91
def vc_ref06_Part (m : List Muon) (f : Int) (v : List Int) (post : DV → Prop) : Prop := (muP m.length (musC m) ∧ numsP 1 v.length (intsC v) ∧ musE (muOf m.length (musC m)) = 0 ∧ 0 ≤ f ∧ ((listC v.length mkInt (intsC v))).length ≤ 1000000) ∧ ((0 ≤ (sumW (passL f (listC v.length mkInt (intsC v)) (muOf m.length (musC m)))) ∧ (sumW (passL f (listC v.length mkInt (intsC v)) (muOf m.length (musC m)))) ≤ 1000000000000 ∧ 0 < (sumW (muOf m.length (musC m))) ∧ (sumW (muOf m.length (musC m))) ≤ 1000000000000) ∧ (post (.t (.a [.v (.int .i64 (lowN (sumW (passL f (listC v.length mkInt (intsC v)) (muOf m.length (musC m)))) (sumW (muOf m.length (musC m))))), .v (.int .i64 (lowD (sumW (passL f (listC v.length mkInt (intsC v)) (muOf m.length (musC m)))) (sumW (muOf m.length (musC m)))))]))))
def ann_ref06_Part : Ann := ⟨fun _ => none, fun _ => none, fun _ => [], noIt, false, fun _ => none, fun _ => none⟩
theorem ev_ref06_Part (J : Inv) (m : List Muon) (f : Int) (v : List Int) (post : DV → Prop) : evFn Tryd.prog tab S92 ann_ref06_Part J Tryd.f49 [.t (.c (.sl 2 m.length (musC m))), .t (.a [.v (.int .i64 f), .sl 1 v.length (intsC v)])] post = vc_ref06_Part m f v post := by kernel_rfl
theorem fit_ref06_Part : okFn ann_ref06_Part Tryd.f49 = true := by kernel_rfl
theorem lp_ref06_Part (J : Inv) (post : DV → Prop) : AllG J (loopsFn Tryd.prog tab S92 ann_ref06_Part J Tryd.f49 post) = (True) := by kernel_rfl
theorem spec_ref06_Part (m : List Muon) (f : Int) (v : List Int) (hp : musE m = 0 ∧ 0 ≤ f ∧ (v).length ≤ 1000000) : vc_ref06_Part m f v (fun r => LeD r (.t (.a [.v (.int .i64 (lowN (sumW (passL f v m)) (sumW m))), .v (.int .i64 (lowD (sumW (passL f v m)) (sumW m)))]))) := by
 have r := pass_rg hp.1 f v
 have z := (mus_ok hp.1).1
 unfold vc_ref06_Part
 rw [mus_of, ints_listC]
 exact ⟨⟨muP_mus m, numsP_ints v, hp⟩, by omega, LeD.refl _⟩
def con_ref06_Part : Con := fun args => match args with
 | [.t (.c (.sl 2 n_m c_m)), .t (.a [.v (.int .i64 f), .sl 1 n_v c_v])] => some (.t (.a [.v (.int .i64 (lowN (sumW (passL f (listC n_v mkInt c_v) (muOf n_m c_m))) (sumW (muOf n_m c_m)))), .v (.int .i64 (lowD (sumW (passL f (listC n_v mkInt c_v) (muOf n_m c_m))) (sumW (muOf n_m c_m))))]), some (muP n_m c_m ∧ numsP 1 n_v c_v ∧ musE (muOf n_m c_m) = 0 ∧ 0 ≤ f ∧ ((listC n_v mkInt c_v)).length ≤ 1000000), false)
 | _ => none
theorem ok_ref06_Part : Ok Tryd.prog 49 con_ref06_Part := by
 refine Ok.fn (ann := ann_ref06_Part) mixed tabOK VS92 ValidIt.no (fn := Tryd.f49) (by kernel_rfl) (by kernel_rfl) fit_ref06_Part fun args r pre fresh h hp => ?_
 unfold con_ref06_Part at h
 split at h
 ·rename_i n_m c_m f n_v c_v
  cases h
  obtain ⟨hp0, hp1, hp⟩ := hp
  refine ⟨rfl, fun _ _ _ => False, [.t (.c (.sl 2 ((muOf n_m c_m).length) (musC (muOf n_m c_m)))), .t (.a [.v (.int .i64 f), .sl 1 ((listC n_v mkInt c_v).length) (intsC (listC n_v mkInt c_v))])], ?_, Nat.le_of_ble_eq_true (by kernel_rfl), ?_, ?_⟩
  ·exact (LeA_cons (leT_c ((leL_Muon hp0))) (LeA_cons (leT_a (LeCs.cons (LeC1.refl _) (LeCs.cons ((leL_int hp1)) LeCs.nil))) LeA_nil))
  ·rw [ev_ref06_Part]; exact spec_ref06_Part (muOf n_m c_m) f (listC n_v mkInt c_v) hp
  ·rw [lp_ref06_Part]; trivial
 ·cases h
def S93 : Sum := addS S92 49 con_ref06_Part
theorem VS93 : Valid Tryd.prog S93 := Valid.add VS92 ok_ref06_Part
def S94 : Sum := S93
theorem VS94 : Valid Tryd.prog S94 := VS93
end Go.Proofs.YtmhgjlapkhdlmaaDoor
set_option linter.unusedVariables false
set_option linter.unusedSimpArgs false
namespace Go.Proofs.YtmhgjlapkhdlmaaDoor
open Go.RowKit Ev
theorem gcd2_dvd (a b : Int) : gcd2 a b ∣ a ∧ gcd2 a b ∣ b := ⟨Int.gcd_dvd_left .., Int.gcd_dvd_right ..⟩
theorem lowF {a b : Int} (hb : 0 < b) : 0 < lowD a b ∧ lowN a b * b = a * lowD a b ∧ gcd2 (lowN a b) (lowD a b) = 1 ∧ lowD a b ≤ b ∧ (0 ≤ a → 0 ≤ lowN a b ∧ lowN a b ≤ a) := by
 have hg := gcd2_pos (a := a) (b := b) (by omega)
 obtain ⟨h1, h2⟩ := gcd2_dvd a b
 have h3 : gcd2 (lowN a b) (lowD a b) = 1 := by
  unfold gcd2 lowN lowD
  have : 0 < Int.gcd a b := by unfold gcd2 at hg; omega
  have e := Int.gcd_ediv_gcd_ediv_gcd this
  unfold gcd2
  rw [e]; rfl
 unfold lowN lowD at *
 generalize gcd2 a b = g at *
 obtain ⟨x, rfl⟩ := h1
 obtain ⟨y, rfl⟩ := h2
 rw [Int.mul_ediv_cancel_left _ (by omega), Int.mul_ediv_cancel_left _ (by omega)] at *
 have hy : 0 < y := by
  rcases Int.lt_or_le 0 y with h | h
  ·exact h
  ·have := Int.mul_nonpos_of_nonneg_of_nonpos (show 0 ≤ g by omega) h; omega
 refine ⟨hy, by grind, h3, ?_, fun ha => ?_⟩
 ·have := Int.mul_le_mul_of_nonneg_right (show 1 ≤ g by omega) (show 0 ≤ y by omega); omega
 ·have hx : 0 ≤ x := by
   rcases Int.lt_or_le x 0 with h | h
   ·have := Int.mul_neg_of_pos_of_neg hg h; omega
   ·exact h
  have := Int.mul_le_mul_of_nonneg_right (show 1 ≤ g by omega) hx
  omega
theorem frac_le {a b c d A B C D : Int} (hb : 0 < b) (hd : 0 < d) (hB : 0 < B) (hD : 0 < D) (h1 : a * B = A * b) (h2 : c * D = C * d) (h : A * D ≤ C * B) : a * d ≤ c * b := by
 have h3 := Int.mul_le_mul_of_nonneg_right h (show 0 ≤ b * d by exact Int.le_of_lt (Int.mul_pos hb hd))
 have e1 : a * d * (B * D) = A * D * (b * d) := by
  rw [show a * d * (B * D) = (a * B) * (d * D) by grind, h1]; grind
 have e2 : c * b * (B * D) = C * B * (b * d) := by
  rw [show c * b * (B * D) = (c * D) * (b * B) by grind, h2]; grind
 have h4 : a * d * (B * D) ≤ c * b * (B * D) := by rw [e1, e2]; exact h3
 exact Int.le_of_mul_le_mul_right h4 (Int.mul_pos hB hD)
def cmpF (a b c d : Int) : Int := if a * d < c * b then -1 else if a * d > c * b then 1 else 0
theorem cmpF_le {a b c d : Int} (h : a * d ≤ c * b) : cmpF a b c d ≤ 0 := by
 unfold cmpF
 split
 ·omega
 ·split <;> omega
theorem sumW_nn {l : List Muon} (h : ∀ m ∈ l, 0 ≤ m.w) : 0 ≤ sumW l := by
 induction l with
 | nil => exact Int.le_refl _
 | cons m l ih => have := h m (by simp); have := ih (fun x hx => h x (by simp [hx])); simp only [sumW]; omega
theorem sumW_filter {l : List Muon} (h : ∀ m ∈ l, 0 ≤ m.w) {p q : Muon → Bool} (hpq : ∀ m, p m = true → q m = true) : sumW (l.filter p) ≤ sumW (l.filter q) := by
 induction l with
 | nil => exact Int.le_refl _
 | cons m l ih =>
  have h1 := h m (by simp)
  have h2 := ih (fun x hx => h x (by simp [hx]))
  by_cases hp : p m = true
  ·rw [List.filter_cons_of_pos hp, List.filter_cons_of_pos (hpq m hp)]; simp only [sumW]; omega
  ·rw [List.filter_cons_of_neg hp]
   by_cases hq : q m = true
   ·rw [List.filter_cons_of_pos hq]; simp only [sumW]; omega
   ·rw [List.filter_cons_of_neg hq]; exact h2
theorem sumW_one {l : List Muon} (h : ∀ m ∈ l, 0 ≤ m.w) {m : Muon} (hm : m ∈ l) : m.w ≤ sumW l := by
 induction l with
 | nil => cases hm
 | cons x l ih =>
  have h1 := h x (by simp)
  have h2 := sumW_nn (l := l) (fun y hy => h y (List.mem_cons_of_mem _ hy))
  rcases List.mem_cons.1 hm with rfl | hm
  ·simp only [sumW]; omega
  ·have := ih (fun y hy => h y (by simp [hy])) hm; simp only [sumW]; omega
theorem sumQ_le {A : Int} {l : List Muon} (h : ∀ m ∈ l, 0 ≤ m.w ∧ m.w ≤ A) : sumQ l ≤ sumW l * A := by
 induction l with
 | nil => simp [sumQ, sumW]
 | cons m l ih =>
  have h1 := h m (by simp)
  have h2 := ih (fun x hx => h x (by simp [hx]))
  have h4 := Int.mul_le_mul_of_nonneg_left h1.2 h1.1
  simp only [sumQ, sumW]
  rw [Int.add_mul]; omega
theorem gr_facts {m : List Muon} {f : Int} {v : List Int} (h : vvE m f v = 0) : (0 ≤ prtN m f v ∧ prtN m f v ≤ prtD m f v ∧ 0 < prtD m f v ∧ prtD m f v ≤ 4000) ∧ (0 ≤ erQN m f v ∧ erQN m f v ≤ 400000 ∧ 0 < erQD m f v ∧ erQD m f v ≤ 16000000) ∧ gcd2 (prtN m f v) (prtD m f v) = 1 ∧ gcd2 (erQN m f v) (erQD m f v) = 1 ∧ cmpF (erQN m f v) (erQD m f v) (prtN m f v) (prtD m f v) ≤ 0 := by
 obtain ⟨h1, h2⟩ := fn2 h
 obtain ⟨r1, r2, r3⟩ := pass_rg h1 f v
 have z := (mus_ok h1).1
 have wn : ∀ x ∈ m, 0 ≤ x.w := fun x hx => by have := (mus_mem h1 x hx).1; omega
 have p1 := sumW_filter wn (p := passB f v) (q := fun _ => true) (fun _ _ => rfl)
 rw [List.filter_eq_self.2 (fun _ _ => rfl)] at p1
 have q1 := sumQ_le (A := sumW m) (l := passL f v m) (fun x hx => by
  have hx' := (List.mem_filter.1 hx).1
  exact ⟨wn x hx', sumW_one wn hx'⟩)
 have q2 := Int.mul_le_mul_of_nonneg_right q1 (show 0 ≤ sumW m by omega)
 have sp : 0 < sumW m := by omega
 have sq := Int.mul_pos sp sp
 have sm := mul_rg (x := sumW m) (y := sumW m) (A := 4000) (B := 4000) (C := 16000000) (by omega) (by omega) (by decide)
 obtain ⟨a1, a2, a3, a4, a5⟩ := lowF (a := sumW (passL f v m)) sp
 obtain ⟨b1, b2, b3, b4, b5⟩ := lowF (a := sumQ (passL f v m)) sq
 have a5 := a5 r2.1
 have b5 := b5 r3.1
 have pl : sumW (passL f v m) ≤ sumW m := p1
 rw [show prtN m f v = _ from if_pos h, show prtD m f v = _ from if_pos h, show erQN m f v = _ from if_pos h, show erQD m f v = _ from if_pos h]
 refine ⟨⟨a5.1, ?_, a1, by omega⟩, ⟨b5.1, by omega, b1, by omega⟩, a3, b3, cmpF_le ?_⟩
 ·have t := Int.mul_le_mul_of_nonneg_right pl (show 0 ≤ lowD (sumW (passL f v m)) (sumW m) by omega)
  rw [← a2, Int.mul_comm (sumW m)] at t
  exact Int.le_of_mul_le_mul_right t sp
 ·refine frac_le b1 a1 sq sp b2 a2 ?_
  rwa [Int.mul_assoc] at q2
end Go.Proofs.YtmhgjlapkhdlmaaDoor
set_option linter.unusedVariables false
set_option linter.unusedSimpArgs false
namespace Go.Proofs.YtmhgjlapkhdlmaaDoor
open Go.RowKit Ev
end Go.Proofs.YtmhgjlapkhdlmaaDoor
set_option linter.unusedVariables false
set_option linter.unusedSimpArgs false
namespace Go.Proofs.YtmhgjlapkhdlmaaDoor
open Go.RowKit Ev
theorem nums_ints : numsC .i64 = intsC := rfl
noncomputable def hd {α : Type} (x : α) : α := Classical.choose (⟨x, rfl⟩ : ∃ y, y = x)
theorem hd_eq {α : Type} (x : α) : hd x = x := Classical.choose_spec (⟨x, rfl⟩ : ∃ y, y = x)
def mdF (a c : Int) : Int := if Int.tmod a c < 0 then IntKind.i64.wrap (Int.tmod a c + c) else Int.tmod a c
def vc_base_IsLowest (y0 y1 : Int) (post : DV → Prop) : Prop := cond (decide (y1 > (0 : Int))) (((-9223372036854775808 ≤ y0 ∧ y0 ≤ 9223372036854775807) ∧ (-9223372036854775807 ≤ y1 ∧ y1 ≤ 9223372036854775807) ∧ (y1 ≠ 0 ∨ -9223372036854775807 ≤ y0)) ∧ (post (.t (.c (.v (.bool ((gcd2 y0 y1) == (1 : Int)))))))) ((false = false) ∧ (post (.t (.c (.v (.bool false))))))
def ann_base_IsLowest : Ann := ⟨fun _ => none, fun _ => none, fun _ => [], noIt, false, fun _ => none, fun _ => none⟩
theorem ev_base_IsLowest (J : Inv) (y0 y1 : Int) (post : DV → Prop) : evFn Tryd.prog tab S94 ann_base_IsLowest J Tryd.f51 [.t (.a [.v (.int .i64 y0), .v (.int .i64 y1)])] post = vc_base_IsLowest y0 y1 post := by kernel_rfl
theorem fit_base_IsLowest : okFn ann_base_IsLowest Tryd.f51 = true := by kernel_rfl
theorem lp_base_IsLowest (J : Inv) (post : DV → Prop) : AllG J (loopsFn Tryd.prog tab S94 ann_base_IsLowest J Tryd.f51 post) = (True) := by kernel_rfl
theorem spec_base_IsLowest (y0 y1 : Int) (hp : (-1000000000 ≤ y0 ∧ y0 ≤ 1000000000) ∧ -1000000000 ≤ y1 ∧ y1 ≤ 1000000000) : vc_base_IsLowest y0 y1 (fun r => LeD r (.t (.c (.v (.bool (decide (y1 > 0) && (gcd2 y0 y1 == 1))))))) := by
 unfold vc_base_IsLowest
 refine cond_i (fun h => ⟨by omega, leB ?_⟩) (fun h => ⟨rfl, leB ?_⟩)
 ·rw [h]; rfl
 ·rw [h]; rfl
def con_base_IsLowest : Con := fun args => match args with
 | [.t (.a [.v (.int .i64 y0), .v (.int .i64 y1)])] => some (.t (.c (.v (.bool (decide (y1 > 0) && (gcd2 y0 y1 == 1))))), some ((-1000000000 ≤ y0 ∧ y0 ≤ 1000000000) ∧ -1000000000 ≤ y1 ∧ y1 ≤ 1000000000), false)
 | _ => none
theorem ok_base_IsLowest : Ok Tryd.prog 51 con_base_IsLowest := by
 refine Ok.fn (ann := ann_base_IsLowest) mixed tabOK VS94 ValidIt.no (fn := Tryd.f51) (by kernel_rfl) (by kernel_rfl) fit_base_IsLowest fun args r pre fresh h hp => ?_
 unfold con_base_IsLowest at h
 split at h
 ·rename_i y0 y1
  cases h
  refine ⟨rfl, fun _ _ _ => False, _, LeA.refl _, Nat.le_of_ble_eq_true (by kernel_rfl), ?_, ?_⟩
  ·rw [ev_base_IsLowest]; exact spec_base_IsLowest y0 y1 hp
  ·rw [lp_base_IsLowest]; trivial
 ·cases h
def S95 : Sum := addS S94 51 con_base_IsLowest
theorem VS95 : Valid Tryd.prog S95 := Valid.add VS94 ok_base_IsLowest
def vc_base_IsSmall (y0 y1 : Int) (post : DV → Prop) : Prop := cond (inB y0 (-1000000000 : Int) (1000000000 : Int)) (post (.t (.c (.v (.bool (inB y1 (1 : Int) (1000000000 : Int))))))) ((false = false) ∧ (post (.t (.c (.v (.bool false))))))
def ann_base_IsSmall : Ann := ⟨fun _ => none, fun _ => none, fun _ => [], noIt, false, fun _ => none, fun _ => none⟩
theorem ev_base_IsSmall (J : Inv) (y0 y1 : Int) (post : DV → Prop) : evFn Tryd.prog tab S95 ann_base_IsSmall J Tryd.f39 [.t (.a [.v (.int .i64 y0), .v (.int .i64 y1)])] post = vc_base_IsSmall y0 y1 post := by kernel_rfl
theorem fit_base_IsSmall : okFn ann_base_IsSmall Tryd.f39 = true := by kernel_rfl
theorem lp_base_IsSmall (J : Inv) (post : DV → Prop) : AllG J (loopsFn Tryd.prog tab S95 ann_base_IsSmall J Tryd.f39 post) = (True) := by kernel_rfl
theorem spec_base_IsSmall (y0 y1 : Int) : vc_base_IsSmall y0 y1 (fun r => LeD r (.t (.c (.v (.bool (inB y0 (-1000000000) 1000000000 && inB y1 1 1000000000)))))) := by
 unfold vc_base_IsSmall
 refine cond_i (fun h => leB ?_) (fun h => ⟨rfl, leB ?_⟩)
 ·rw [h]; rfl
 ·rw [h]; rfl
def con_base_IsSmall : Con := fun args => match args with
 | [.t (.a [.v (.int .i64 y0), .v (.int .i64 y1)])] => some (.t (.c (.v (.bool (inB y0 (-1000000000) 1000000000 && inB y1 1 1000000000)))), none, false)
 | _ => none
theorem ok_base_IsSmall : Ok Tryd.prog 39 con_base_IsSmall := by
 refine Ok.fn (ann := ann_base_IsSmall) mixed tabOK VS95 ValidIt.no (fn := Tryd.f39) (by kernel_rfl) (by kernel_rfl) fit_base_IsSmall fun args r pre fresh h hp => ?_
 unfold con_base_IsSmall at h
 split at h
 ·rename_i y0 y1
  cases h
  refine ⟨rfl, fun _ _ _ => False, _, LeA.refl _, Nat.le_of_ble_eq_true (by kernel_rfl), ?_, ?_⟩
  ·rw [ev_base_IsSmall]; exact spec_base_IsSmall y0 y1
  ·rw [lp_base_IsSmall]; trivial
 ·cases h
def S96 : Sum := addS S95 39 con_base_IsSmall
theorem VS96 : Valid Tryd.prog S96 := Valid.add VS95 ok_base_IsSmall
def vc_base_Cmp (y0 y1 : Int) (z0 z1 : Int) (post : DV → Prop) : Prop := lt (IntKind.i64.wrap (y0 * z1)) fun x1 => lt (IntKind.i64.wrap (z0 * y1)) fun x2 => cond (decide (x1 < x2)) (post (.t (.c (.v (.int .i64 (-1)))))) (cond (decide (x1 > x2)) (post (.t (.c (.v (.int .i64 1))))) (post (.t (.c (.v (.int .i64 0))))))
def ann_base_Cmp : Ann := ⟨fun r => lookA r [(1, ([[], [0], [], [2], [0, 1, 2, 3], [], [5], [], [7], [5, 6, 7, 8], [0, 1, 2, 3, 4], [0, 1, 2, 3, 4, 5, 6, 7, 8, 9, 10]], [[], [], [], [], [], [], [], [], [], [], [], []]))], fun _ => none, fun _ => [], noIt, false, fun _ => none, fun _ => none⟩
theorem ev_base_Cmp (J : Inv) (y0 y1 : Int) (z0 z1 : Int) (post : DV → Prop) : evFn Tryd.prog tab S96 ann_base_Cmp J Tryd.f40 [.t (.a [.v (.int .i64 y0), .v (.int .i64 y1)]), .t (.a [.v (.int .i64 z0), .v (.int .i64 z1)])] post = vc_base_Cmp y0 y1 z0 z1 post := by kernel_rfl
theorem fit_base_Cmp : okFn ann_base_Cmp Tryd.f40 = true := by kernel_rfl
theorem lp_base_Cmp (J : Inv) (post : DV → Prop) : AllG J (loopsFn Tryd.prog tab S96 ann_base_Cmp J Tryd.f40 post) = (True) := by kernel_rfl
theorem spec_base_Cmp (y0 y1 : Int) (z0 z1 : Int) (hp : ((-1000000000 ≤ y0 ∧ y0 ≤ 1000000000) ∧ -1000000000 ≤ y1 ∧ y1 ≤ 1000000000) ∧ (-1000000000 ≤ z0 ∧ z0 ≤ 1000000000) ∧ -1000000000 ≤ z1 ∧ z1 ≤ 1000000000) : vc_base_Cmp y0 y1 z0 z1 (fun r => LeD r (.t (.c (.v (.int .i64 (cmpF y0 y1 z0 z1)))))) := by
 unfold vc_base_Cmp
 have m1 := mul_rg (x := y0) (y := z1) (A := 1000000000) (B := 1000000000) (C := 1000000000000000000) (by omega) (by omega) (by decide)
 have m2 := mul_rg (x := z0) (y := y1) (A := 1000000000) (B := 1000000000) (C := 1000000000000000000) (by omega) (by omega) (by decide)
 refine lt_i fun x1 h1 => lt_i fun x2 h2 => ?_
 rw [wi (by omega)] at h1 h2
 subst h1 h2
 unfold cmpF
 refine cond_i (fun h => leI ?_) (fun h => cond_i (fun h2 => leI ?_) (fun h2 => leI ?_))
 ·rw [if_pos (of_decide_eq_true h)]
 ·rw [if_neg (of_decide_eq_false h), if_pos (of_decide_eq_true h2)]
 ·rw [if_neg (of_decide_eq_false h), if_neg (of_decide_eq_false h2)]
def con_base_Cmp : Con := fun args => match args with
 | [.t (.a [.v (.int .i64 y0), .v (.int .i64 y1)]), .t (.a [.v (.int .i64 z0), .v (.int .i64 z1)])] => some (.t (.c (.v (.int .i64 (cmpF y0 y1 z0 z1)))), some (((-1000000000 ≤ y0 ∧ y0 ≤ 1000000000) ∧ -1000000000 ≤ y1 ∧ y1 ≤ 1000000000) ∧ (-1000000000 ≤ z0 ∧ z0 ≤ 1000000000) ∧ -1000000000 ≤ z1 ∧ z1 ≤ 1000000000), false)
 | _ => none
theorem ok_base_Cmp : Ok Tryd.prog 40 con_base_Cmp := by
 refine Ok.fn (ann := ann_base_Cmp) mixed tabOK VS96 ValidIt.no (fn := Tryd.f40) (by kernel_rfl) (by kernel_rfl) fit_base_Cmp fun args r pre fresh h hp => ?_
 unfold con_base_Cmp at h
 split at h
 ·rename_i y0 y1 z0 z1
  cases h
  refine ⟨rfl, fun _ _ _ => False, _, LeA.refl _, Nat.le_of_ble_eq_true (by kernel_rfl), ?_, ?_⟩
  ·rw [ev_base_Cmp]; exact spec_base_Cmp y0 y1 z0 z1 hp
  ·rw [lp_base_Cmp]; trivial
 ·cases h
def S97 : Sum := addS S96 40 con_base_Cmp
theorem VS97 : Valid Tryd.prog S97 := Valid.add VS96 ok_base_Cmp
def vc_base_Mod (a : Int) (c : Int) (post : DV → Prop) : Prop := lt (Int.tmod a c) fun x1 => (IntKind.i64 = IntKind.i64 ∧ c ≠ 0) ∧ (cond (decide (x1 < (0 : Int))) (lt (IntKind.i64.wrap (x1 + c)) fun x2 => post (.t (.c (.v (.int .i64 x2))))) (post (.t (.c (.v (.int .i64 x1))))))
def ann_base_Mod : Ann := ⟨fun _ => none, fun _ => none, fun _ => [], noIt, false, fun _ => none, fun _ => none⟩
theorem ev_base_Mod (J : Inv) (a : Int) (c : Int) (post : DV → Prop) : evFn Tryd.prog tab S97 ann_base_Mod J Tryd.f41 [.t (.c (.v (.int .i64 a))), .t (.c (.v (.int .i64 c)))] post = vc_base_Mod a c post := by kernel_rfl
theorem fit_base_Mod : okFn ann_base_Mod Tryd.f41 = true := by kernel_rfl
theorem lp_base_Mod (J : Inv) (post : DV → Prop) : AllG J (loopsFn Tryd.prog tab S97 ann_base_Mod J Tryd.f41 post) = (True) := by kernel_rfl
theorem spec_base_Mod (a : Int) (c : Int) (hp : c ≠ 0) : vc_base_Mod a c (fun r => LeD r (.t (.c (.v (.int .i64 (mdF a c)))))) := by
 unfold vc_base_Mod mdF
 refine lt_i fun x1 h1 => ⟨⟨rfl, hp⟩, ?_⟩
 rw [h1]
 refine cond_i (fun h => lt_i fun x2 h2 => leI ?_) (fun h => leI ?_)
 ·rw [if_pos (of_decide_eq_true h)]; exact h2.symm
 ·rw [if_neg (of_decide_eq_false h)]
def con_base_Mod : Con := fun args => match args with
 | [.t (.c (.v (.int .i64 a))), .t (.c (.v (.int .i64 c)))] => some (.t (.c (.v (.int .i64 (mdF a c)))), some (c ≠ 0), false)
 | _ => none
theorem ok_base_Mod : Ok Tryd.prog 41 con_base_Mod := by
 refine Ok.fn (ann := ann_base_Mod) mixed tabOK VS97 ValidIt.no (fn := Tryd.f41) (by kernel_rfl) (by kernel_rfl) fit_base_Mod fun args r pre fresh h hp => ?_
 unfold con_base_Mod at h
 split at h
 ·rename_i a c
  cases h
  refine ⟨rfl, fun _ _ _ => False, _, LeA.refl _, Nat.le_of_ble_eq_true (by kernel_rfl), ?_, ?_⟩
  ·rw [ev_base_Mod]; exact spec_base_Mod a c hp
  ·rw [lp_base_Mod]; trivial
 ·cases h
def S98 : Sum := addS S97 41 con_base_Mod
theorem VS98 : Valid Tryd.prog S98 := Valid.add VS97 ok_base_Mod
def S99 : Sum := S98
theorem VS99 : Valid Tryd.prog S99 := VS98
noncomputable def S100 : Sum := S99
theorem VS100 : Valid Tryd.prog S100 := VS99
noncomputable def conh_flash_PartOf : Con := fun args => match args with
 | [.t (.c (.sl 2 n_m c_m)), .t (.a [.v (.int .i64 f), .sl 1 n_v c_v])] => some (.tu [.a [.v (.int .i64 (hd (prtN (muOf n_m c_m) f (listC n_v mkInt c_v)))), .v (.int .i64 (hd (prtD (muOf n_m c_m) f (listC n_v mkInt c_v))))], .c (.v (.int .i64 (hd (vvE (muOf n_m c_m) f (listC n_v mkInt c_v)))))], some (muP n_m c_m ∧ numsP 1 n_v c_v ∧ muSm (muOf n_m c_m) ∧ ((listC n_v mkInt c_v)).length ≤ 1000000), false)
 | _ => none
theorem okh_flash_PartOf : Ok Tryd.prog 38 conh_flash_PartOf := by
 refine Ok.over ok_flash_PartOf fun args r' pre' fresh h hp => ?_
 unfold conh_flash_PartOf at h
 split at h
 ·cases h
  exact ⟨_, _, rfl, hp, by simp only [hd_eq]⟩
 ·cases h
noncomputable def S101 : Sum := addS S100 38 conh_flash_PartOf
theorem VS101 : Valid Tryd.prog S101 := Valid.add VS100 okh_flash_PartOf
noncomputable def S102 : Sum := S101
theorem VS102 : Valid Tryd.prog S102 := VS101
noncomputable def conh_base_IsLowest : Con := fun args => match args with
 | [.t (.a [.v (.int .i64 y0), .v (.int .i64 y1)])] => some (.t (.c (.v (.bool (hd (decide (y1 > 0) && (gcd2 y0 y1 == 1)))))), some ((-1000000000 ≤ y0 ∧ y0 ≤ 1000000000) ∧ -1000000000 ≤ y1 ∧ y1 ≤ 1000000000), false)
 | _ => none
theorem okh_base_IsLowest : Ok Tryd.prog 51 conh_base_IsLowest := by
 refine Ok.over ok_base_IsLowest fun args r' pre' fresh h hp => ?_
 unfold conh_base_IsLowest at h
 split at h
 ·cases h
  exact ⟨_, _, rfl, hp, by simp only [hd_eq]⟩
 ·cases h
noncomputable def S103 : Sum := addS S102 51 conh_base_IsLowest
theorem VS103 : Valid Tryd.prog S103 := Valid.add VS102 okh_base_IsLowest
noncomputable def conh_base_IsSmall : Con := fun args => match args with
 | [.t (.a [.v (.int .i64 y0), .v (.int .i64 y1)])] => some (.t (.c (.v (.bool (hd (inB y0 (-1000000000) 1000000000 && inB y1 1 1000000000))))), none, false)
 | _ => none
theorem okh_base_IsSmall : Ok Tryd.prog 39 conh_base_IsSmall := by
 refine Ok.over ok_base_IsSmall fun args r' pre' fresh h hp => ?_
 unfold conh_base_IsSmall at h
 split at h
 ·cases h
  exact ⟨_, _, rfl, hp, by simp only [hd_eq]⟩
 ·cases h
noncomputable def S104 : Sum := addS S103 39 conh_base_IsSmall
theorem VS104 : Valid Tryd.prog S104 := Valid.add VS103 okh_base_IsSmall
noncomputable def conh_base_Cmp : Con := fun args => match args with
 | [.t (.a [.v (.int .i64 y0), .v (.int .i64 y1)]), .t (.a [.v (.int .i64 z0), .v (.int .i64 z1)])] => some (.t (.c (.v (.int .i64 (hd (cmpF y0 y1 z0 z1))))), some (((-1000000000 ≤ y0 ∧ y0 ≤ 1000000000) ∧ -1000000000 ≤ y1 ∧ y1 ≤ 1000000000) ∧ (-1000000000 ≤ z0 ∧ z0 ≤ 1000000000) ∧ -1000000000 ≤ z1 ∧ z1 ≤ 1000000000), false)
 | _ => none
theorem okh_base_Cmp : Ok Tryd.prog 40 conh_base_Cmp := by
 refine Ok.over ok_base_Cmp fun args r' pre' fresh h hp => ?_
 unfold conh_base_Cmp at h
 split at h
 ·cases h
  exact ⟨_, _, rfl, hp, by simp only [hd_eq]⟩
 ·cases h
noncomputable def S105 : Sum := addS S104 40 conh_base_Cmp
theorem VS105 : Valid Tryd.prog S105 := Valid.add VS104 okh_base_Cmp
end Go.Proofs.YtmhgjlapkhdlmaaDoor
set_option linter.unusedVariables false
set_option linter.unusedSimpArgs false
namespace Go.Proofs.YtmhgjlapkhdlmaaDoor
open Go.RowKit Ev
theorem befL_irr : ∀ l, befL l l = false := by
 intro l
 induction l with
 | nil => rfl
 | cons a l ih => simp [befL, ih]
theorem befL_total : ∀ l m, l = m ∨ befL l m = true ∨ befL m l = true := by
 intro l
 induction l with
 | nil => intro m; cases m <;> simp [befL]
 | cons a l ih =>
  intro m
  cases m with
  | nil => simp [befL]
  | cons b m =>
   simp only [befL, Bool.or_eq_true, Bool.and_eq_true, decide_eq_true_eq, List.cons.injEq]
   rcases Int.lt_trichotomy a b with h | h | h
   ·exact Or.inr (Or.inl (Or.inl h))
   ·rcases ih m with g | g | g
    ·exact Or.inl ⟨h, g⟩
    ·exact Or.inr (Or.inl (Or.inr ⟨h, g⟩))
    ·exact Or.inr (Or.inr (Or.inr ⟨h.symm, g⟩))
   ·exact Or.inr (Or.inr (Or.inl h))
theorem befL_trans : ∀ l m n, befL l m = true → befL m n = true → befL l n = true := by
 intro l
 induction l with
 | nil => intro m n h g; cases n with
  | nil => cases m <;> simp [befL] at g
  | cons c n => rfl
 | cons a l ih =>
  intro m n h g
  cases m with
  | nil => simp [befL] at h
  | cons b m =>
   cases n with
   | nil => simp [befL] at g
   | cons c n =>
    simp only [befL, Bool.or_eq_true, Bool.and_eq_true, decide_eq_true_eq] at *
    rcases h with h | ⟨h, h'⟩ <;> rcases g with g | ⟨g, g'⟩
    ·left; omega
    ·left; omega
    ·left; omega
    ·right; exact ⟨by omega, ih m n h' g'⟩
theorem lessL_irr (a : List Int) : lessL a a = false := by simp [lessL, befL_irr]
theorem lessL_total (a b : List Int) : a = b ∨ lessL a b = true ∨ lessL b a = true := by
 unfold lessL
 simp only [Bool.or_eq_true, Bool.and_eq_true, decide_eq_true_eq]
 rcases Nat.lt_trichotomy a.length b.length with h | h | h
 ·exact Or.inr (Or.inl (Or.inl h))
 ·rcases befL_total a b with g | g | g
  ·exact Or.inl g
  ·exact Or.inr (Or.inl (Or.inr ⟨h, g⟩))
  ·exact Or.inr (Or.inr (Or.inr ⟨h.symm, g⟩))
 ·exact Or.inr (Or.inr (Or.inl h))
theorem lessL_trans {a b c : List Int} (h : lessL a b = true) (g : lessL b c = true) : lessL a c = true := by
 unfold lessL at *
 simp only [Bool.or_eq_true, Bool.and_eq_true, decide_eq_true_eq] at *
 rcases h with h | ⟨h, h'⟩ <;> rcases g with g | ⟨g, g'⟩
 ·left; omega
 ·left; omega
 ·left; omega
 ·right; exact ⟨by omega, befL_trans _ _ _ h' g'⟩
def rfB (hd : Bool) (o : Option (List Int)) (s : List Int) : Bool := hd && (match o with
 | none => true
 | some b => lessL s b)
theorem sm_ref (hd : List Int → Bool) (o : Option (List Int)) (s : List Int) : smStep hd o s = if rfB (hd s) o s = true then some s else o := by
 cases o with
 | none => unfold smStep rfB; simp
 | some b =>
  unfold smStep rfB
  cases hs : hd s
  ·simp
  ·simp only [Bool.true_and, if_true]
   rcases lessL_total b s with h | h | h
   ·subst h; simp [lessL_irr]
   ·have : lessL s b = false := by
     cases q : lessL s b
     ·rfl
     ·have := lessL_trans h q; rw [lessL_irr] at this; cases this
    rw [if_pos h, if_neg (by rw [this]; simp)]
   ·have : lessL b s = false := by
     cases q : lessL b s
     ·rfl
     ·have := lessL_trans h q; rw [lessL_irr] at this; cases this
    rw [if_neg (by rw [this]; simp), if_pos h]
theorem rfB_if {hd fd : Bool} {o : Option (List Int)} {s best : List Int} (h1 : fd = o.isSome) (h2 : best = o.getD []) : (bif hd then (bif (!fd) then true else (bif decide (((s.length : Nat) : Int) < ((best.length : Nat) : Int)) then true else (bif (((s.length : Nat) : Int) == ((best.length : Nat) : Int)) then befL s best else false))) else false) = rfB hd o s := by
 subst h1 h2
 cases hd
 ·rfl
 ·cases o with
  | none => rfl
  | some b =>
   unfold rfB lessL
   simp only [Option.isSome_some, Option.getD_some, Bool.not_true, _root_.cond_true, _root_.cond_false, Bool.true_and]
   rcases Nat.lt_trichotomy s.length b.length with h | h | h
   ·rw [decide_eq_true (show (s.length : Int) < b.length by omega), decide_eq_true h]; rfl
   ·rw [decide_eq_false (show ¬ (s.length : Int) < b.length by omega), decide_eq_false (show ¬ s.length < b.length by omega), decide_eq_true h, h]
    simp
   ·rw [decide_eq_false (show ¬ (s.length : Int) < b.length by omega), decide_eq_false (show ¬ s.length < b.length by omega), decide_eq_false (show ¬ s.length = b.length by omega), show ((s.length : Int) == (b.length : Int)) = false by simp; omega]
    rfl
def foldS (hd : List Int → Bool) (n : Nat) : Option (List Int) := (List.range n).foldl (fun o k => smStep hd o (membs 8 k)) none
theorem foldS_succ (hd : List Int → Bool) (n : Nat) : foldS hd (n + 1) = if rfB (hd (membs 8 n)) (foldS hd n) (membs 8 n) = true then some (membs 8 n) else foldS hd n := by
 unfold foldS
 rw [List.range_succ, List.foldl_append, List.foldl_cons, List.foldl_nil, sm_ref]
theorem foldS_ok (hd : List Int → Bool) : ∀ n, (∀ k, k < n → hd (membs 8 k) = true → ∃ b, foldS hd n = some b ∧ b.length ≤ (membs 8 k).length) ∧ ∀ b, foldS hd n = some b → ∃ k, k < n ∧ b = membs 8 k ∧ hd b = true := by
 intro n
 induction n with
 | zero => exact ⟨fun k hk => by omega, fun b h => by cases h⟩
 | succ n ih =>
  obtain ⟨i1, i2⟩ := ih
  rw [foldS_succ]
  by_cases q : rfB (hd (membs 8 n)) (foldS hd n) (membs 8 n) = true
  ·rw [if_pos q]
   have hh : hd (membs 8 n) = true := by unfold rfB at q; rw [Bool.and_eq_true] at q; exact q.1
   refine ⟨fun k hk h => ⟨_, rfl, ?_⟩, fun b h => ?_⟩
   ·by_cases e : k = n
    ·rw [e]; exact Nat.le_refl _
    ·obtain ⟨b, e1, e2⟩ := i1 k (by omega) h
     rw [e1, rfB, Bool.and_eq_true] at q
     have q := q.2
     simp only [lessL, Bool.or_eq_true, Bool.and_eq_true, decide_eq_true_eq] at q
     omega
   ·cases h
    exact ⟨n, by omega, rfl, hh⟩
  ·rw [if_neg q]
   refine ⟨fun k hk h => ?_, fun b h => ?_⟩
   ·by_cases e : k = n
    ·subst e
     cases hf : foldS hd k with
     | none => rw [hf, rfB, h] at q; exact absurd rfl q
     | some b =>
      refine ⟨b, rfl, ?_⟩
      rw [hf, rfB, h] at q
      simp only [Bool.true_and, lessL, Bool.or_eq_true, Bool.and_eq_true, decide_eq_true_eq, not_or, not_and] at q
      omega
    ·exact i1 k (by omega) h
   ·obtain ⟨k, e1, e2⟩ := i2 b h
    exact ⟨k, by omega, e2⟩
theorem cmpF_iff {a b c d : Int} : cmpF a b c d ≤ 0 ↔ a * d ≤ c * b := by
 unfold cmpF
 split
 ·constructor <;> intro <;> omega
 ·split
  ·constructor <;> intro <;> omega
  ·constructor <;> intro <;> omega
theorem keep_iff {m : List Muon} {f y0 y1 : Int} {v : List Int} (hs : 0 < sumW m) (hy : 0 < y1) : decide (cmpF (lowN (sumW (passL f v m)) (sumW m)) (lowD (sumW (passL f v m)) (sumW m)) y0 y1 ≤ 0) = keepB m f y0 y1 v := by
 obtain ⟨a1, a2, _⟩ := lowF (a := sumW (passL f v m)) hs
 unfold keepB
 refine decide_eq_decide.2 (cmpF_iff.trans ⟨fun h => ?_, fun h => ?_⟩)
 ·exact frac_le (d := y1) (C := y0) (D := y1) hs hy a1 hy a2.symm rfl h
 ·exact frac_le (d := y1) (C := y0) (D := y1) a1 hy hs hy a2 rfl h
theorem membs_succ (i k : Nat) : membs (i + 1) k = membs i k ++ (if k.testBit i = true then [(i : Int)] else []) := by
 unfold membs
 rw [List.range_succ, List.filter_append, List.map_append]
 congr 1
 rw [List.filter_cons]
 cases k.testBit i <;> rfl
theorem membs_lt (i k : Nat) : (membs i k).length ≤ i := by
 unfold membs
 rw [List.length_map]
 have := List.length_filter_le (fun j : Nat => k.testBit j) (List.range i)
 rwa [List.length_range] at this
theorem bit_all : ((List.range 256).all fun k => (List.range 8).all fun i => ((IntKind.i64.wrap ((BitVec.ofInt 64 (Int.fdiv (k : Int) (2 ^ (min i 64))) &&& BitVec.ofInt 64 (1 : Int)).toNat : Int) == (1 : Int)) == k.testBit i)) = true := by kernel_rfl
theorem bit_ok {k i : Nat} (hk : k < 256) (hi : i < 8) : (IntKind.i64.wrap ((BitVec.ofInt 64 (Int.fdiv (k : Int) (2 ^ (min i 64))) &&& BitVec.ofInt 64 (1 : Int)).toNat : Int) == (1 : Int)) = k.testBit i := by
 have h := bit_all
 rw [List.all_eq_true] at h
 have h := h k (List.mem_range.2 hk)
 rw [List.all_eq_true] at h
 exact eq_of_beq (h i (List.mem_range.2 hi))
theorem mdF_256 (t : Int) : 0 ≤ mdF t 256 ∧ mdF t 256 < 256 := by
 have h1 := Int.tmod_lt_of_pos t (show (0 : Int) < 256 by decide)
 have h2 : -256 < Int.tmod t 256 := by
  have := Int.tmod_lt_of_pos (-t) (show (0 : Int) < 256 by decide)
  rw [Int.neg_tmod] at this
  omega
 unfold mdF
 split
 ·rw [wi (by omega)]; omega
 ·omega
def acS (z i a b : Int) : Int := firstNZ [unl (inB b 0 (z - 1)) 6, unl (decide (i = 0) || decide (b > a)) 9]
def acE (z : Int) (l : List Int) (k : Nat) : Int := acS z (k : Int) (l.getD (k - 1) 0) (l.getD k 0)
def accE (g : Lat) (l : List Int) : Int := scan (acE g.sz l) l.length
def volV (g : Lat) (l : List Int) : Int := (l.length : Int) * g.st * g.st * g.st
def voE (g : Lat) (l : List Int) : Int := if latE g = 0 then accE g l else latE g
def voV (g : Lat) (l : List Int) : Int := if voE g l = 0 then volV g l else 0
def prmE (f a b : Int) : Int := firstNZ [unl (inB f 0 8) 2, unl (decide (b > 0) && (gcd2 a b == 1)) 3, unl (inB a 0 b && decide (b ≤ 1000000000)) 2]
theorem smE_eq (m : List Muon) (f a b : Int) : smE m f a b = if musE m = 0 then prmE f a b else musE m := by
 unfold smE prmE
 by_cases h : musE m = 0
 ·rw [if_pos h, h]; rfl
 ·rw [if_neg h]; simp [firstNZ, h]
theorem prm_ok {f a b : Int} (h : prmE f a b = 0) : (0 ≤ f ∧ f ≤ 8) ∧ (0 ≤ a ∧ a ≤ b) ∧ 0 < b ∧ b ≤ 1000000000 := by
 unfold prmE at h
 obtain ⟨h1, h2, h3⟩ := fn3 h
 rw [unl_0 (by decide)] at h1 h2 h3
 simp only [Bool.and_eq_true, decide_eq_true_eq] at h2 h3
 have := inB_true.1 h1
 have := inB_true.1 h3.1
 omega
theorem keep_prt {m : List Muon} {f y0 y1 : Int} {v : List Int} (hv : vvE m f v = 0) (hy : 0 < y1) : cmpF (prtN m f v) (prtD m f v) y0 y1 ≤ 0 ↔ keepB m f y0 y1 v = true := by
 have h1 := (fn2 hv).1
 have sp : 0 < sumW m := by have := (pass_rg h1 f v).1; have := (mus_ok h1).1; omega
 rw [show prtN m f v = _ from if_pos hv, show prtD m f v = _ from if_pos hv, ← keep_iff (f := f) (v := v) sp hy, decide_eq_true_eq]
theorem sm_cases (m : List Muon) (f a b : Int) : (musE m ≠ 0 ∧ smR m f a b = musE m ∧ smL m f a b = []) ∨ (musE m = 0 ∧ prmE f a b ≠ 0 ∧ smR m f a b = prmE f a b ∧ smL m f a b = []) ∨
  (musE m = 0 ∧ prmE f a b = 0 ∧ smallF 8 (keepB m f a b) = none ∧ smR m f a b = 12 ∧ smL m f a b = []) ∨
  ∃ s, musE m = 0 ∧ prmE f a b = 0 ∧ smallF 8 (keepB m f a b) = some s ∧ smR m f a b = 0 ∧ smL m f a b = s ∧ s.length ≤ 8 ∧ vvE m f s = 0 ∧ cmpF (prtN m f s) (prtD m f s) a b ≤ 0 ∧
   ∀ k, k < 256 → vvE m f (membs 8 k) = 0 ∧ (cmpF (prtN m f (membs 8 k)) (prtD m f (membs 8 k)) a b ≤ 0 → s.length ≤ (membs 8 k).length) := by
 by_cases h1 : musE m = 0
 ·by_cases h2 : prmE f a b = 0
  ·have e : smE m f a b = 0 := by rw [smE_eq, if_pos h1]; exact h2
   obtain ⟨p1, p2, p3, p4⟩ := prm_ok h2
   have eF : smallF 8 (keepB m f a b) = foldS (keepB m f a b) 256 := rfl
   obtain ⟨g1, g2⟩ := foldS_ok (keepB m f a b) 256
   have vv : ∀ k, k < 256 → vvE m f (membs 8 k) = 0 := fun k hk => by
    unfold vvE
    rw [h1, vet_membs hk (inB_true.2 p1)]; rfl
   cases hs : smallF 8 (keepB m f a b) with
   | none => exact Or.inr (Or.inr (Or.inl ⟨h1, h2, rfl, by rw [show smR m f a b = _ from if_pos e, hs]; rfl, by rw [show smL m f a b = _ from if_pos e, hs]; rfl⟩))
   | some s =>
    rw [eF] at hs
    obtain ⟨k, k1, rfl, k3⟩ := g2 s hs
    refine Or.inr (Or.inr (Or.inr ⟨_, h1, h2, rfl, by rw [show smR m f a b = _ from if_pos e, eF, hs]; rfl, by rw [show smL m f a b = _ from if_pos e, eF, hs]; rfl, membs_len k1, vv k k1, (keep_prt (vv k k1) p3).2 k3, fun j hj => ⟨vv j hj, fun hc => ?_⟩⟩))
    obtain ⟨b', e1, e2⟩ := g1 j hj ((keep_prt (vv j hj) p3).1 hc)
    rw [hs] at e1
    cases e1
    exact e2
  ·have e : smE m f a b = prmE f a b := by rw [smE_eq, if_pos h1]
   have e' : smE m f a b ≠ 0 := by rw [e]; exact h2
   exact Or.inr (Or.inl ⟨h1, h2, (if_neg e').trans e, if_neg e'⟩)
 ·have e : smE m f a b = musE m := by rw [smE_eq, if_neg h1]
  have e' : smE m f a b ≠ 0 := by rw [e]; exact h1
  exact Or.inl ⟨h1, (if_neg e').trans e, if_neg e'⟩
end Go.Proofs.YtmhgjlapkhdlmaaDoor