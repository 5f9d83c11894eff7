/- Texts of this claim, together. -/
import Derived.Test.YtmhgjlapkhdlmaaDoorV8

set_option linter.unusedVariables false
set_option linter.unusedSimpArgs false
namespace Go.Proofs.YtmhgjlapkhdlmaaDoor
open Go.RowKit Ev
theorem ints_fwd (l : List Int) : ((List.range l.length).map fun i => fwd ((intsC l) i) 0 1) = l.map fun n => [CV.v (.int .i64 n)] := by
 apply List.ext_getElem?
 intro i
 by_cases hi : i < l.length
 ·simp only [List.getElem?_map, List.getElem?_range hi, Option.map_some, List.getElem?_eq_getElem hi]
  simp [fwd, intsC, List.getD, hi]
 ·rw [List.getElem?_eq_none (by simpa using hi), List.getElem?_eq_none (by simpa using hi)]
theorem le_ints (l : List Int) : LeD (.t (.c (.sl 1 (l.map fun n => [CV.v (.int .i64 n)]).length (genC (l.map fun n => [CV.v (.int .i64 n)]))))) (.t (.c (.sl 1 l.length (intsC l)))) := by
 rw [List.length_map]
 refine leSl fun i j hi hj => ?_
 unfold genC intsC
 rw [show j = 0 by omega]
 simp [List.getD, hi]
theorem getD_mem {l : List Int} {k : Nat} (h : k < l.length) : l.getD k 0 ∈ l := by
 rw [show l.getD k 0 = l[k] by simp [List.getD, h]]; exact List.getElem_mem h
theorem mem_getD {l : List Int} {a : Int} (h : a ∈ l) : ∃ j, j < l.length ∧ l.getD j 0 = a := by
 obtain ⟨j, hj, e⟩ := List.getElem_of_mem h
 exact ⟨j, hj, by simp [List.getD, hj, e]⟩
theorem all_getD {l : List Int} {p : Int → Bool} (h : ∀ i, i < l.length → p (l.getD i 0) = true) : l.all p = true := by
 rw [List.all_eq_true]
 intro x hx
 obtain ⟨j, hj, e⟩ := mem_getD hx
 rw [← e]; exact h j hj
theorem bif_and {a b : Bool} (h : (bif a then b else false) = true) : a = true ∧ b = true := by cases a <;> cases b <;> simp_all
theorem bif_nand {a b : Bool} (h : (bif a then b else false) = false) : a = false ∨ b = false := by cases a <;> cases b <;> simp_all
theorem cnt_le {n : Nat} {K : Int} (h : cntE n K = 0) : (n : Int) ≤ K := by
 have h2 := (fn2 h).2
 rw [unl_0 (by decide)] at h2
 exact of_decide_eq_true h2
def fewB (m : List Muon) : Bool := decide (m.length ≤ 42) && (List.range m.length).all fun i => decide ((muAt m i).s.length ≤ 10)
theorem fewB_iff {m : List Muon} : fewB m = true ↔ m.length ≤ 42 ∧ ∀ k, k < m.length → (muAt m k).s.length ≤ 10 := by
 unfold fewB
 rw [Bool.and_eq_true, decide_eq_true_eq, List.all_eq_true]
 constructor
 ·rintro ⟨h1, h2⟩; exact ⟨h1, fun k hk => of_decide_eq_true (h2 k (List.mem_range.2 hk))⟩
 ·rintro ⟨h1, h2⟩; exact ⟨h1, fun k hk => decide_eq_true (h2 k (List.mem_range.1 hk))⟩
theorem fewB_ok {m : List Muon} (h : fewB m = true) : m.length ≤ 42 ∧ ∀ k, k < m.length → (muAt m k).s.length ≤ 10 := fewB_iff.1 h
def pasL (m : List Muon) (f : Int) (v : List Int) : List Int := ((List.range m.length).filter fun i => passB f v (muAt m i)).map fun i : Nat => (i : Int)
theorem pasL_mem {m : List Muon} {f : Int} {v : List Int} {i : Int} (h : i ∈ pasL m f v) : 0 ≤ i ∧ i < m.length := by
 obtain ⟨j, hj, e⟩ := List.mem_map.1 h
 have := List.mem_range.1 (List.mem_filter.1 hj).1
 omega
theorem pasL_len (m : List Muon) (f : Int) (v : List Int) : (pasL m f v).length ≤ m.length := by
 unfold pasL
 rw [List.length_map]
 have := List.length_filter_le (fun i => passB f v (muAt m i)) (List.range m.length)
 rwa [List.length_range] at this
theorem mus_range (m : List Muon) : (List.range m.length).map (muAt m) = m := by
 apply List.ext_getElem?
 intro i
 by_cases hi : i < m.length
 ·simp [muAt, List.getD, hi]
 ·rw [List.getElem?_eq_none (by simpa using hi), List.getElem?_eq_none (by omega)]
theorem pasL_at (m : List Muon) (f : Int) (v : List Int) : (pasL m f v).map (fun i => muAt m i.toNat) = passL f v m := by
 unfold pasL passL
 rw [List.map_map]
 have e : ((fun i : Int => muAt m i.toNat) ∘ fun i : Nat => (i : Int)) = muAt m := rfl
 rw [e]
 conv => rhs; rw [← mus_range m]
 rw [List.filter_map]; rfl
def vc_base_CopyInts (l : List Int) (post : DV → Prop) : Prop := (roomP 8 (([] : List (List CV)).length + ((List.range l.length).map fun i => fwd ((intsC l) i) 0 1).length)) ∧ (post (.t (.c (.sl 1 ((([] : List (List CV)) ++ ((List.range l.length).map fun i => fwd ((intsC l) i) 0 1)).length) (genC (([] : List (List CV)) ++ ((List.range l.length).map fun i => fwd ((intsC l) i) 0 1)))))))
def ann_base_CopyInts : Ann := ⟨fun _ => none, fun _ => none, fun _ => [], noIt, true, fun _ => none, fun _ => none⟩
theorem ev_base_CopyInts (J : Inv) (l : List Int) (post : DV → Prop) : evFn Tryd.prog tab S80 ann_base_CopyInts J Tryd.f29 [.t (.c (.sl 1 l.length (intsC l)))] post = vc_base_CopyInts l post := by kernel_rfl
theorem fit_base_CopyInts : okFn ann_base_CopyInts Tryd.f29 = true := by kernel_rfl
theorem lp_base_CopyInts (J : Inv) (post : DV → Prop) : AllG J (loopsFn Tryd.prog tab S80 ann_base_CopyInts J Tryd.f29 post) = (True) := by kernel_rfl
theorem spec_base_CopyInts (l : List Int) (hp : (l).length ≤ 1000000) : vc_base_CopyInts l (fun r => LeD r (.t (.c (.sl 1 l.length (intsC l))))) := by
 unfold vc_base_CopyInts
 rw [ints_fwd, List.nil_append]
 refine ⟨?_, le_ints l⟩
 unfold roomP maxLen
 simp
 omega
def con_base_CopyInts : Con := fun args => match args with
 | [.t (.c (.sl 1 n_l c_l))] => some (.t (.c (.sl 1 ((listC n_l mkInt c_l).length) (intsC (listC n_l mkInt c_l)))), some (numsP 1 n_l c_l ∧ ((listC n_l mkInt c_l)).length ≤ 1000000), true)
 | _ => none
theorem ok_base_CopyInts : Ok Tryd.prog 29 con_base_CopyInts := by
 refine Ok.fnFr (ann := ann_base_CopyInts) mixed tabOK VS80 ValidIt.no rfl (fn := Tryd.f29) (by kernel_rfl) (by kernel_rfl) fit_base_CopyInts fun args r pre fresh h hp => ?_
 unfold con_base_CopyInts at h
 split at h
 ·rename_i n_l c_l
  cases h
  obtain ⟨hp0, hp⟩ := hp
  refine ⟨rfl, (fun i j _ hj => plain_int _ i j), fun _ _ _ => False, [.t (.c (.sl 1 ((listC n_l mkInt c_l).length) (intsC (listC n_l mkInt c_l))))], ?_, Nat.le_of_ble_eq_true (by kernel_rfl), ?_, ?_⟩
  ·exact (LeA_cons (leT_c ((leL_int hp0))) LeA_nil)
  ·rw [ev_base_CopyInts]; exact spec_base_CopyInts (listC n_l mkInt c_l) hp
  ·rw [lp_base_CopyInts]; trivial
 ·cases h
def S81 : Sum := addS S80 29 con_base_CopyInts
theorem VS81 : Valid Tryd.prog S81 := Valid.add VS80 ok_base_CopyInts
def mk_ref06_CopyMuons_0 (m : List Muon) (v0_0 : List (List CV)) (v0_1 : Int) : DS := ⟨[some (.t (.c (.sl 2 m.length (musC m)))), none, none, some (.t (.c (.os 3))), some (.t (.c (.v (.int .i64 v0_1)))), none, none, none, none, none, none, none, none, none, none, none, none, none, none, none, none, none, none, none, none, none, none], [none, none, none, some (.gen 158 2 v0_0), none, none, none, none, none, none, none, none, none, none, none, none, none, none, none, none, none, none, none, none, none, none, none]⟩
def vc_ref06_CopyMuons (J : Inv) (m : List Muon) (post : DV → Prop) : Prop := ∃ n, J 0 (n :: []) (mk_ref06_CopyMuons_0 m ([]) 0)
def ann_ref06_CopyMuons : Ann := ⟨fun r => lookA r [(5, ([[], [], [], [1, 2], [1, 2, 3], [1, 2, 3, 4], [1, 2, 3, 4, 5], [], [], [7, 8], [7, 8, 9], [7, 8, 9, 10], [1, 2, 3, 4, 5, 6, 7, 8, 9, 10, 11], [1, 2, 3, 4, 5, 6, 7, 8, 9, 10, 11, 12], [0, 1, 2, 3, 4, 5, 6, 7, 8, 9, 10, 11, 12, 13], [0, 1, 2, 3, 4, 5, 6, 7, 8, 9, 10, 11, 12, 13, 14]], [[17, 24], [17, 24], [17, 24], [17, 24], [17, 24], [17, 24], [24], [17, 24], [17, 24], [17, 24], [17, 24], [17, 24], [24], [], [], []]))], fun b => lookA b [(0, (none, some ⟨[0, 4], [], [(3, .gen 158 2 [])]⟩))], fun _ => [], noIt, false, fun _ => none, fun _ => none⟩
theorem ev_ref06_CopyMuons (J : Inv) (m : List Muon) (post : DV → Prop) : evFn Tryd.prog tab S81 ann_ref06_CopyMuons J Tryd.f33 [.t (.c (.sl 2 m.length (musC m)))] post = vc_ref06_CopyMuons J m post := by kernel_rfl
theorem fit_ref06_CopyMuons : okFn ann_ref06_CopyMuons Tryd.f33 = true := by kernel_rfl
def rd_ref06_CopyMuons_0 (J : Inv) (m : List Muon) (v0_0 : List (List CV)) (v0_1 : Int) (nn0 : Nat) (post : DV → Prop) : Prop := cond (decide (v0_1 < ((m.length : Nat) : Int))) ((0 ≤ v0_1 ∧ v0_1 < ((m.length : Nat) : Int)) ∧ ((numsP 1 ((muAt m v0_1.toNat).s.length) (intsC (muAt m v0_1.toNat).s) ∧ ((listC ((muAt m v0_1.toNat).s.length) mkInt (intsC (muAt m v0_1.toNat).s))).length ≤ 1000000) ∧ ((0 ≤ v0_1 ∧ v0_1 < ((m.length : Nat) : Int)) ∧ ((roomP 32 (v0_0.length + ([[.sl 1 ((listC ((muAt m v0_1.toNat).s.length) mkInt (intsC (muAt m v0_1.toNat).s)).length) (intsC (listC ((muAt m v0_1.toNat).s.length) mkInt (intsC (muAt m v0_1.toNat).s))), .v (.int .i64 ((muAt m v0_1.toNat).w))]] : List (List CV)).length)) ∧ (lt (IntKind.i64.wrap (v0_1 + (1 : Int))) fun x1 => J 0 (nn0 :: []) (mk_ref06_CopyMuons_0 m (v0_0 ++ ([[.sl 1 ((listC ((muAt m v0_1.toNat).s.length) mkInt (intsC (muAt m v0_1.toNat).s)).length) (intsC (listC ((muAt m v0_1.toNat).s.length) mkInt (intsC (muAt m v0_1.toNat).s))), .v (.int .i64 ((muAt m v0_1.toNat).w))]] : List (List CV))) x1)))))) (post (.t (.c (.sl 2 v0_0.length (genC v0_0)))))
theorem er_ref06_CopyMuons_0 (J : Inv) (m : List Muon) (v0_0 : List (List CV)) (v0_1 : Int) (nn0 : Nat) (post : DV → Prop) : round Tryd.prog tab S81 ann_ref06_CopyMuons J Tryd.f33 post 0 (nn0 :: []) (mk_ref06_CopyMuons_0 m v0_0 v0_1) = rd_ref06_CopyMuons_0 J m v0_0 v0_1 nn0 post := by kernel_rfl
theorem lp_ref06_CopyMuons (J : Inv) (post : DV → Prop) : AllG J (loopsFn Tryd.prog tab S81 ann_ref06_CopyMuons J Tryd.f33 post) = (((∀ F s, ¬ J 0 (0 :: F) s) ∧ ∀ n F s, J 0 ((n + 1) :: F) s → round Tryd.prog tab S81 ann_ref06_CopyMuons J Tryd.f33 post 0 (n :: F) s) ∧ True) := by kernel_rfl
def J_ref06_CopyMuons (m : List Muon) : Inv := fun b F s => match b, F with
 | 0, [nn0] => ∃ (v0_0 : List (List CV)) (v0_1 : Int), s = mk_ref06_CopyMuons_0 m v0_0 v0_1 ∧ ((muSm m ∧ m.length ≤ 1000000) ∧ 0 ≤ v0_1 ∧ v0_1 ≤ m.length ∧ (nn0 : Int) + v0_1 = m.length + 1 ∧ v0_0 = (m.take v0_1.toNat).map muCv)
 | _, _ => False
theorem rnd_ref06_CopyMuons_0 (m : List Muon) (v0_0 : List (List CV)) (v0_1 : Int) (nn0 : Nat) (hp : muSm m ∧ (m).length ≤ 1000000) (hi : (muSm m ∧ m.length ≤ 1000000) ∧ 0 ≤ v0_1 ∧ v0_1 ≤ m.length ∧ ((nn0 + 1) : Int) + v0_1 = m.length + 1 ∧ v0_0 = (m.take v0_1.toNat).map muCv) : rd_ref06_CopyMuons_0 (J_ref06_CopyMuons m) m v0_0 v0_1 nn0 (fun r => LeD r (.t (.c (.sl 2 m.length (musC m))))) := by
 obtain ⟨i0, i1, i2, i3, i4⟩ := hi
 obtain ⟨k, rfl⟩ : ∃ k : Nat, v0_1 = k := ⟨v0_1.toNat, by omega⟩
 have hk : (k : Int).toNat = k := rfl
 rw [hk] at i4
 unfold rd_ref06_CopyMuons_0
 rw [hk, ints_listC]
 refine cond_i (fun h => ?_) (fun h => ?_)
 ·have hlt : k < m.length := by have := of_decide_eq_true h; omega
  refine ⟨by omega, ⟨numsP_ints _, i0.1 k hlt⟩, by omega, ?_, lt_i fun x hx => ?_⟩
  ·rw [i4]; unfold roomP maxLen; simp; omega
  ·rw [wi (by omega)] at hx
   subst hx
   refine ⟨_, _, rfl, i0, by omega, by omega, by omega, ?_⟩
   rw [show ((k : Int) + 1).toNat = k + 1 by omega, i4, muAt_take hlt, List.map_append]; rfl
 ·have hge : k = m.length := by have := of_decide_eq_false h; omega
  rw [i4, hge, List.take_length]
  exact leT_c (leC_mus m)
theorem zero_ref06_CopyMuons_0 (m : List Muon) (v0_0 : List (List CV)) (v0_1 : Int)  (hi : (muSm m ∧ m.length ≤ 1000000) ∧ 0 ≤ v0_1 ∧ v0_1 ≤ m.length ∧ (0 : Int) + v0_1 = m.length + 1 ∧ v0_0 = (m.take v0_1.toNat).map muCv) : False := by
 omega
theorem spec_ref06_CopyMuons (m : List Muon) (hp : muSm m ∧ (m).length ≤ 1000000) : vc_ref06_CopyMuons (J_ref06_CopyMuons m) m (fun r => LeD r (.t (.c (.sl 2 m.length (musC m))))) := by
 unfold vc_ref06_CopyMuons
 exact ⟨m.length + 1, [], 0, rfl, hp, by omega, by omega, by omega, rfl⟩
theorem all_ref06_CopyMuons (m : List Muon) (hp : muSm m ∧ (m).length ≤ 1000000) : AllG (J_ref06_CopyMuons m) (loopsFn Tryd.prog tab S81 ann_ref06_CopyMuons (J_ref06_CopyMuons m) Tryd.f33 (fun r => LeD r (.t (.c (.sl 2 m.length (musC m)))))) := by
 rw [lp_ref06_CopyMuons]
 refine ⟨⟨?_, ?_⟩, trivial⟩
 ·intro F s h
  obtain _ | ⟨g, F⟩ := F
  case cons => exact h.elim
  obtain ⟨w0, w1, rfl, hi⟩ := h
  exact zero_ref06_CopyMuons_0 m w0 w1 hi
 ·intro n F s h
  obtain _ | ⟨g, F⟩ := F
  case cons => exact h.elim
  obtain ⟨w0, w1, rfl, hi⟩ := h
  rw [er_ref06_CopyMuons_0]
  exact rnd_ref06_CopyMuons_0 m _ _ _ hp hi
def con_ref06_CopyMuons : Con := fun args => match args with
 | [.t (.c (.sl 2 n_m c_m))] => some (.t (.c (.sl 2 ((muOf n_m c_m).length) (musC (muOf n_m c_m)))), some (muP n_m c_m ∧ muSm (muOf n_m c_m) ∧ ((muOf n_m c_m)).length ≤ 1000000), false)
 | _ => none
theorem ok_ref06_CopyMuons : Ok Tryd.prog 33 con_ref06_CopyMuons := by
 refine Ok.fn (ann := ann_ref06_CopyMuons) mixed tabOK VS81 ValidIt.no (fn := Tryd.f33) (by kernel_rfl) (by kernel_rfl) fit_ref06_CopyMuons fun args r pre fresh h hp => ?_
 unfold con_ref06_CopyMuons at h
 split at h
 ·rename_i n_m c_m
  cases h
  obtain ⟨hp0, hp⟩ := hp
  refine ⟨rfl, J_ref06_CopyMuons (muOf n_m c_m), [.t (.c (.sl 2 ((muOf n_m c_m).length) (musC (muOf n_m c_m))))], ?_, Nat.le_of_ble_eq_true (by kernel_rfl), ?_, ?_⟩
  ·exact (LeA_cons (leT_c ((leL_Muon hp0))) LeA_nil)
  ·rw [ev_ref06_CopyMuons]; exact spec_ref06_CopyMuons (muOf n_m c_m) hp
  ·exact all_ref06_CopyMuons (muOf n_m c_m) hp
 ·cases h
def S82 : Sum := addS S81 33 con_ref06_CopyMuons
theorem VS82 : Valid Tryd.prog S82 := Valid.add VS81 ok_ref06_CopyMuons
def vc_ref06_CopyVeto (f : Int) (v : List Int) (post : DV → Prop) : Prop := (numsP 1 v.length (intsC v) ∧ ((listC v.length mkInt (intsC v))).length ≤ 1000000) ∧ (post (.t (.a [.v (.int .i64 f), .sl 1 ((listC v.length mkInt (intsC v)).length) (intsC (listC v.length mkInt (intsC v)))])))
def ann_ref06_CopyVeto : Ann := ⟨fun r => lookA r [(1, ([[], [0], [], [2], [2, 3], [0, 1, 2, 3, 4], [0, 1, 2, 3, 4, 5]], [[7], [7], [7], [7], [], [], []]))], fun _ => none, fun _ => [], noIt, false, fun _ => none, fun _ => none⟩
theorem ev_ref06_CopyVeto (J : Inv) (f : Int) (v : List Int) (post : DV → Prop) : evFn Tryd.prog tab S82 ann_ref06_CopyVeto J Tryd.f44 [.t (.a [.v (.int .i64 f), .sl 1 v.length (intsC v)])] post = vc_ref06_CopyVeto f v post := by kernel_rfl
theorem fit_ref06_CopyVeto : okFn ann_ref06_CopyVeto Tryd.f44 = true := by kernel_rfl
theorem lp_ref06_CopyVeto (J : Inv) (post : DV → Prop) : AllG J (loopsFn Tryd.prog tab S82 ann_ref06_CopyVeto J Tryd.f44 post) = (True) := by kernel_rfl
theorem spec_ref06_CopyVeto (f : Int) (v : List Int) (hp : (v).length ≤ 1000000) : vc_ref06_CopyVeto f v (fun r => LeD r (.t (.a [.v (.int .i64 f), .sl 1 v.length (intsC v)]))) := by
 unfold vc_ref06_CopyVeto
 rw [ints_listC]
 exact ⟨⟨numsP_ints v, hp⟩, LeD.refl _⟩
def con_ref06_CopyVeto : Con := fun args => match args with
 | [.t (.a [.v (.int .i64 f), .sl 1 n_v c_v])] => some (.t (.a [.v (.int .i64 f), .sl 1 ((listC n_v mkInt c_v).length) (intsC (listC n_v mkInt c_v))]), some (numsP 1 n_v c_v ∧ ((listC n_v mkInt c_v)).length ≤ 1000000), false)
 | _ => none
theorem ok_ref06_CopyVeto : Ok Tryd.prog 44 con_ref06_CopyVeto := by
 refine Ok.fn (ann := ann_ref06_CopyVeto) mixed tabOK VS82 ValidIt.no (fn := Tryd.f44) (by kernel_rfl) (by kernel_rfl) fit_ref06_CopyVeto fun args r pre fresh h hp => ?_
 unfold con_ref06_CopyVeto at h
 split at h
 ·rename_i f n_v c_v
  cases h
  obtain ⟨hp0, hp⟩ := hp
  refine ⟨rfl, fun _ _ _ => False, [.t (.a [.v (.int .i64 f), .sl 1 ((listC n_v mkInt c_v).length) (intsC (listC n_v mkInt c_v))])], ?_, Nat.le_of_ble_eq_true (by kernel_rfl), ?_, ?_⟩
  ·exact (LeA_cons (leT_a (LeCs.cons (LeC1.refl _) (LeCs.cons ((leL_int hp0)) LeCs.nil))) LeA_nil)
  ·rw [ev_ref06_CopyVeto]; exact spec_ref06_CopyVeto f (listC n_v mkInt c_v) hp
  ·rw [lp_ref06_CopyVeto]; trivial
 ·cases h
def S83 : Sum := addS S82 44 con_ref06_CopyVeto
theorem VS83 : Valid Tryd.prog S83 := Valid.add VS82 ok_ref06_CopyVeto
def mk_law06_fewMuons_0 (m : List Muon) (v0_0 : Int) : DS := ⟨[some (.t (.c (.sl 2 m.length (musC m)))), none, none, some (.t (.c (.v (.int .i64 v0_0)))), none, none, none, none, none, none, none, none, none, none, none, none, none, none, none, none], [none, none, none, none, none, none, none, none, none, none, none, none, none, none, none, none, none, none, none, none]⟩
def vc_law06_fewMuons (J : Inv) (m : List Muon) (post : DV → Prop) : Prop := cond (decide (((m.length : Nat) : Int) > (42 : Int))) (post (.t (.c (.v (.bool false))))) (∃ n, J 0 (n :: []) (mk_law06_fewMuons_0 m 0))
def ann_law06_fewMuons : Ann := ⟨fun _ => none, fun b => lookA b [(0, (none, some ⟨[0, 3], [], []⟩))], fun _ => [], noIt, false, fun _ => none, fun _ => none⟩
theorem ev_law06_fewMuons (J : Inv) (m : List Muon) (post : DV → Prop) : evFn Tryd.prog tab S83 ann_law06_fewMuons J Tryd.f27 [.t (.c (.sl 2 m.length (musC m)))] post = vc_law06_fewMuons J m post := by kernel_rfl
theorem fit_law06_fewMuons : okFn ann_law06_fewMuons Tryd.f27 = true := by kernel_rfl
def rd_law06_fewMuons_0 (J : Inv) (m : List Muon) (v0_0 : Int) (nn0 : Nat) (post : DV → Prop) : Prop := cond (decide (v0_0 < ((m.length : Nat) : Int))) ((0 ≤ v0_0 ∧ v0_0 < ((m.length : Nat) : Int)) ∧ (cond (decide ((((muAt m v0_0.toNat).s.length : Nat) : Int) > (10 : Int))) (post (.t (.c (.v (.bool false))))) (lt (IntKind.i64.wrap (v0_0 + (1 : Int))) fun x1 => J 0 (nn0 :: []) (mk_law06_fewMuons_0 m x1)))) (post (.t (.c (.v (.bool true)))))
theorem er_law06_fewMuons_0 (J : Inv) (m : List Muon) (v0_0 : Int) (nn0 : Nat) (post : DV → Prop) : round Tryd.prog tab S83 ann_law06_fewMuons J Tryd.f27 post 0 (nn0 :: []) (mk_law06_fewMuons_0 m v0_0) = rd_law06_fewMuons_0 J m v0_0 nn0 post := by kernel_rfl
theorem lp_law06_fewMuons (J : Inv) (post : DV → Prop) : AllG J (loopsFn Tryd.prog tab S83 ann_law06_fewMuons J Tryd.f27 post) = (((∀ F s, ¬ J 0 (0 :: F) s) ∧ ∀ n F s, J 0 ((n + 1) :: F) s → round Tryd.prog tab S83 ann_law06_fewMuons J Tryd.f27 post 0 (n :: F) s) ∧ True) := by kernel_rfl
def J_law06_fewMuons (m : List Muon) : Inv := fun b F s => match b, F with
 | 0, [nn0] => ∃ (v0_0 : Int), s = mk_law06_fewMuons_0 m v0_0 ∧ (m.length ≤ 42 ∧ 0 ≤ v0_0 ∧ v0_0 ≤ m.length ∧ (nn0 : Int) + v0_0 = m.length + 1 ∧ ∀ k : Nat, (k : Int) < v0_0 → (muAt m k).s.length ≤ 10)
 | _, _ => False
theorem rnd_law06_fewMuons_0 (m : List Muon) (v0_0 : Int) (nn0 : Nat) (hi : m.length ≤ 42 ∧ 0 ≤ v0_0 ∧ v0_0 ≤ m.length ∧ ((nn0 + 1) : Int) + v0_0 = m.length + 1 ∧ ∀ k : Nat, (k : Int) < v0_0 → (muAt m k).s.length ≤ 10) : rd_law06_fewMuons_0 (J_law06_fewMuons m) m v0_0 nn0 (fun r => LeD r (.t (.c (.v (.bool (fewB m)))))) := by
 obtain ⟨i0, i1, i2, i3, i4⟩ := hi
 obtain ⟨k, rfl⟩ : ∃ k : Nat, v0_0 = k := ⟨v0_0.toNat, by omega⟩
 have hk : (k : Int).toNat = k := rfl
 unfold rd_law06_fewMuons_0
 rw [hk]
 refine cond_i (fun h => ?_) (fun h => leB ?_)
 ·have hlt : k < m.length := by have := of_decide_eq_true h; omega
  refine ⟨by omega, cond_i (fun e => leB ?_) (fun e => lt_i fun x hx => ?_)⟩
  ·have e := of_decide_eq_true e
   refine (Bool.eq_false_iff.2 fun q => ?_).symm
   have := (fewB_ok q).2 k hlt
   omega
  ·have e := of_decide_eq_false e
   rw [wi (by omega)] at hx
   subst hx
   refine ⟨_, rfl, i0, by omega, by omega, by omega, fun j hj => ?_⟩
   by_cases q : j = k
   ·rw [q]; omega
   ·exact i4 j (by omega)
 ·have hge : k = m.length := by have := of_decide_eq_false h; omega
  exact (fewB_iff.2 ⟨i0, fun j hj => i4 j (by omega)⟩).symm
theorem zero_law06_fewMuons_0 (m : List Muon) (v0_0 : Int)  (hi : m.length ≤ 42 ∧ 0 ≤ v0_0 ∧ v0_0 ≤ m.length ∧ (0 : Int) + v0_0 = m.length + 1 ∧ ∀ k : Nat, (k : Int) < v0_0 → (muAt m k).s.length ≤ 10) : False := by
 omega
theorem spec_law06_fewMuons (m : List Muon) : vc_law06_fewMuons (J_law06_fewMuons m) m (fun r => LeD r (.t (.c (.v (.bool (fewB m)))))) := by
 unfold vc_law06_fewMuons
 refine cond_i (fun h => leB ?_) (fun h => ?_)
 ·have h := of_decide_eq_true h
  unfold fewB; rw [decide_eq_false (by omega)]; rfl
 ·have h := of_decide_eq_false h
  exact ⟨m.length + 1, 0, rfl, by omega, by omega, by omega, by omega, fun j hj => by omega⟩
theorem all_law06_fewMuons (m : List Muon) : AllG (J_law06_fewMuons m) (loopsFn Tryd.prog tab S83 ann_law06_fewMuons (J_law06_fewMuons m) Tryd.f27 (fun r => LeD r (.t (.c (.v (.bool (fewB m))))))) := by
 rw [lp_law06_fewMuons]
 refine ⟨⟨?_, ?_⟩, trivial⟩
 ·intro F s h
  obtain _ | ⟨g, F⟩ := F
  case cons => exact h.elim
  obtain ⟨w0, rfl, hi⟩ := h
  exact zero_law06_fewMuons_0 m w0 hi
 ·intro n F s h
  obtain _ | ⟨g, F⟩ := F
  case cons => exact h.elim
  obtain ⟨w0, rfl, hi⟩ := h
  rw [er_law06_fewMuons_0]
  exact rnd_law06_fewMuons_0 m _ _ hi
def con_law06_fewMuons : Con := fun args => match args with
 | [.t (.c (.sl 2 n_m c_m))] => some (.t (.c (.v (.bool (fewB (muOf n_m c_m))))), some (muP n_m c_m), false)
 | _ => none
theorem ok_law06_fewMuons : Ok Tryd.prog 27 con_law06_fewMuons := by
 refine Ok.fn (ann := ann_law06_fewMuons) mixed tabOK VS83 ValidIt.no (fn := Tryd.f27) (by kernel_rfl) (by kernel_rfl) fit_law06_fewMuons fun args r pre fresh h hp => ?_
 unfold con_law06_fewMuons at h
 split at h
 ·rename_i n_m c_m
  cases h
  have hp0 := hp
  refine ⟨rfl, J_law06_fewMuons (muOf n_m c_m), [.t (.c (.sl 2 ((muOf n_m c_m).length) (musC (muOf n_m c_m))))], ?_, Nat.le_of_ble_eq_true (by kernel_rfl), ?_, ?_⟩
  ·exact (LeA_cons (leT_c ((leL_Muon hp0))) LeA_nil)
  ·rw [ev_law06_fewMuons]; exact spec_law06_fewMuons (muOf n_m c_m)
  ·exact all_law06_fewMuons (muOf n_m c_m)
 ·cases h
def S84 : Sum := addS S83 27 con_law06_fewMuons
theorem VS84 : Valid Tryd.prog S84 := Valid.add VS83 ok_law06_fewMuons
def mk_ref06_CheckMuons_0 (m : List Muon) (v0_0 : Int) : DS := ⟨[some (.t (.c (.sl 2 m.length (musC m)))), none, none, none, some (.t (.c (.v (.int .i64 v0_0)))), none, none, none, none, none, none, none, none, none, none, none, none, none, none, none, none, none, none, none, none, none, none, none, none, none, none, none, none, none, none, none, none, none, none, none, none, none, none, none, none, none, none, none, none, none, none, none, none, none, none], [none, none, none, none, none, none, none, none, none, none, none, none, none, none, none, none, none, none, none, none, none, none, none, none, none, none, none, none, none, none, none, none, none, none, none, none, none, none, none, none, none, none, none, none, none, none, none, none, none, none, none, none, none, none, none]⟩
def mk_ref06_CheckMuons_2 (m : List Muon) (v2_0 : Int) (v2_1 : Int) : DS := ⟨[some (.t (.c (.sl 2 m.length (musC m)))), none, none, none, some (.t (.c (.v (.int .i64 v2_0)))), some (.t (.c (.v (.int .i64 v2_1)))), none, none, none, none, none, none, none, none, none, none, none, none, none, none, none, none, none, none, none, none, none, none, none, none, none, none, none, none, none, none, none, none, none, none, none, none, none, none, none, none, none, none, none, none, none, none, none, none, none], [none, none, none, none, none, none, none, none, none, none, none, none, none, none, none, none, none, none, none, none, none, none, none, none, none, none, none, none, none, none, none, none, none, none, none, none, none, none, none, none, none, none, none, none, none, none, none, none, none, none, none, none, none, none, none]⟩
def vc_ref06_CheckMuons (J : Inv) (m : List Muon) (post : DV → Prop) : Prop := cond (((m.length : Nat) : Int) == (0 : Int)) (post (.tu [.c (.v (.int .i64 0)), .c (.v (.int .i64 10))])) (cond (decide (((m.length : Nat) : Int) > (40 : Int))) (post (.tu [.c (.v (.int .i64 0)), .c (.v (.int .i64 8))])) (∃ n, J 0 (n :: []) (mk_ref06_CheckMuons_0 m 0)))
def ann_ref06_CheckMuons : Ann := ⟨fun _ => none, fun b => lookA b [(0, (none, some ⟨[0, 4], [], []⟩)), (2, (none, some ⟨[0, 4, 5], [], []⟩))], fun _ => [], noIt, false, fun _ => none, fun _ => none⟩
theorem ev_ref06_CheckMuons (J : Inv) (m : List Muon) (post : DV → Prop) : evFn Tryd.prog tab S84 ann_ref06_CheckMuons J Tryd.f46 [.t (.c (.sl 2 m.length (musC m)))] post = vc_ref06_CheckMuons J m post := by kernel_rfl
theorem fit_ref06_CheckMuons : okFn ann_ref06_CheckMuons Tryd.f46 = true := by kernel_rfl
def rd_ref06_CheckMuons_0 (J : Inv) (m : List Muon) (v0_0 : Int) (nn0 : Nat) (post : DV → Prop) : Prop := cond (decide (v0_0 < ((m.length : Nat) : Int))) ((0 ≤ v0_0 ∧ v0_0 < ((m.length : Nat) : Int)) ∧ (cond (!(inB ((muAt m v0_0.toNat).w) (1 : Int) (100 : Int))) (post (.tu [.c (.v (.int .i64 v0_0)), .c (.v (.int .i64 2))])) ((0 ≤ v0_0 ∧ v0_0 < ((m.length : Nat) : Int)) ∧ (cond (decide ((((muAt m v0_0.toNat).s.length : Nat) : Int) > (8 : Int))) (post (.tu [.c (.v (.int .i64 v0_0)), .c (.v (.int .i64 8))])) (∃ n, J 2 (n :: nn0 :: []) (mk_ref06_CheckMuons_2 m v0_0 0)))))) (post (.tu [.c (.v (.int .i64 0)), .c (.v (.int .i64 0))]))
theorem er_ref06_CheckMuons_0 (J : Inv) (m : List Muon) (v0_0 : Int) (nn0 : Nat) (post : DV → Prop) : round Tryd.prog tab S84 ann_ref06_CheckMuons J Tryd.f46 post 0 (nn0 :: []) (mk_ref06_CheckMuons_0 m v0_0) = rd_ref06_CheckMuons_0 J m v0_0 nn0 post := by kernel_rfl
def rd_ref06_CheckMuons_2 (J : Inv) (m : List Muon) (v2_0 : Int) (v2_1 : Int) (nn2 nn0 : Nat) (post : DV → Prop) : Prop := (0 ≤ v2_0 ∧ v2_0 < ((m.length : Nat) : Int)) ∧ (cond (decide (v2_1 < (((muAt m v2_0.toNat).s.length : Nat) : Int))) ((0 ≤ v2_0 ∧ v2_0 < ((m.length : Nat) : Int)) ∧ ((0 ≤ v2_1 ∧ v2_1 < (((muAt m v2_0.toNat).s.length : Nat) : Int)) ∧ (cond (!(inB (((muAt m v2_0.toNat).s).getD v2_1.toNat 0) (0 : Int) (7 : Int))) (post (.tu [.c (.v (.int .i64 v2_0)), .c (.v (.int .i64 6))])) (lt (IntKind.i64.wrap (v2_1 + (1 : Int))) fun x1 => J 2 (nn2 :: nn0 :: []) (mk_ref06_CheckMuons_2 m v2_0 x1))))) (lt (IntKind.i64.wrap (v2_0 + (1 : Int))) fun x2 => J 0 (nn0 :: []) (mk_ref06_CheckMuons_0 m x2)))
theorem er_ref06_CheckMuons_2 (J : Inv) (m : List Muon) (v2_0 : Int) (v2_1 : Int) (nn2 nn0 : Nat) (post : DV → Prop) : round Tryd.prog tab S84 ann_ref06_CheckMuons J Tryd.f46 post 1 (nn2 :: nn0 :: []) (mk_ref06_CheckMuons_2 m v2_0 v2_1) = rd_ref06_CheckMuons_2 J m v2_0 v2_1 nn2 nn0 post := by kernel_rfl
theorem lp_ref06_CheckMuons (J : Inv) (post : DV → Prop) : AllG J (loopsFn Tryd.prog tab S84 ann_ref06_CheckMuons J Tryd.f46 post) = (((∀ F s, ¬ J 0 (0 :: F) s) ∧ ∀ n F s, J 0 ((n + 1) :: F) s → round Tryd.prog tab S84 ann_ref06_CheckMuons J Tryd.f46 post 0 (n :: F) s) ∧ ((∀ F s, ¬ J 2 (0 :: F) s) ∧ ∀ n F s, J 2 ((n + 1) :: F) s → round Tryd.prog tab S84 ann_ref06_CheckMuons J Tryd.f46 post 1 (n :: F) s) ∧ True) := by kernel_rfl
def J_ref06_CheckMuons (m : List Muon) : Inv := fun b F s => match b, F with
 | 0, [nn0] => ∃ (v0_0 : Int), s = mk_ref06_CheckMuons_0 m v0_0 ∧ (cntE m.length 40 = 0 ∧ 0 ≤ v0_0 ∧ v0_0 ≤ m.length ∧ (nn0 : Int) + v0_0 = m.length + 1 ∧ ∀ j : Nat, (j : Int) < v0_0 → (muAt m j).err = 0)
 | 2, [nn2, nn0] => ∃ (v2_0 : Int) (v2_1 : Int), s = mk_ref06_CheckMuons_2 m v2_0 v2_1 ∧ (cntE m.length 40 = 0 ∧ (0 ≤ v2_0 ∧ v2_0 < m.length ∧ (nn0 : Int) + v2_0 = m.length) ∧ (∀ j : Nat, (j : Int) < v2_0 → (muAt m j).err = 0) ∧ (inB (muAt m v2_0.toNat).w 1 100 = true ∧ (muAt m v2_0.toNat).s.length ≤ 8) ∧ 0 ≤ v2_1 ∧ v2_1 ≤ (muAt m v2_0.toNat).s.length ∧ (nn2 : Int) + v2_1 = (muAt m v2_0.toNat).s.length + 1 ∧ ∀ j : Nat, (j : Int) < v2_1 → senB ((muAt m v2_0.toNat).s.getD j 0) = true)
 | _, _ => False
set_option maxHeartbeats 8000000 in
set_option maxRecDepth 100000 in
theorem rnd_ref06_CheckMuons_0 (m : List Muon) (v0_0 : Int) (nn0 : Nat) (hi : cntE m.length 40 = 0 ∧ 0 ≤ v0_0 ∧ v0_0 ≤ m.length ∧ ((nn0 + 1) : Int) + v0_0 = m.length + 1 ∧ ∀ j : Nat, (j : Int) < v0_0 → (muAt m j).err = 0) : rd_ref06_CheckMuons_0 (J_ref06_CheckMuons m) m v0_0 nn0 (fun r => LeD r (.tu [.c (.v (.int .i64 (musI m))), .c (.v (.int .i64 (musE m)))])) := by
 obtain ⟨i0, i1, i2, i3, i4⟩ := hi
 obtain ⟨k, rfl⟩ : ∃ k : Nat, v0_0 = k := ⟨v0_0.toNat, by omega⟩
 have hk : (k : Int).toNat = k := rfl
 have hz : ∀ j, j < k → (muAt m j).err = 0 := fun j hj => i4 j (by omega)
 have hlen : m.length ≤ 40 := by have := cnt_le i0; omega
 unfold rd_ref06_CheckMuons_0
 rw [hk]
 refine cond_i (fun h => ?_) (fun h => ?_)
 ·have hlt : k < m.length := by have := of_decide_eq_true h; omega
  have bad : ∀ e, e ≠ 0 → (muAt m k).err = e → LeD (.tu [.c (.v (.int .i64 (k : Int))), .c (.v (.int .i64 e))]) (.tu [.c (.v (.int .i64 (musI m))), .c (.v (.int .i64 (musE m)))]) := fun e he q => by
   subst q
   rw [show musI m = _ from if_pos i0, show musE m = _ from if_pos i0]
   exact le2 (scanI_at (f := fun i => (muAt m i).err) hz hlt he).symm (scan_at (f := fun i => (muAt m i).err) hz hlt he).symm
  refine ⟨by omega, cond_i (fun a => bad 2 (by decide) ?_) (fun a => ⟨by omega, cond_i (fun c => bad 8 (by decide) ?_) (fun c => ?_)⟩)⟩
  ·have a : inB (muAt m k).w 1 100 = false := by simpa using a
   unfold Muon.err; rw [a]; rfl
  ·have a : inB (muAt m k).w 1 100 = true := by simpa using a
   have c := of_decide_eq_true c
   unfold Muon.err; rw [a, decide_eq_false (by omega)]; rfl
  ·have a : inB (muAt m k).w 1 100 = true := by simpa using a
   have c := of_decide_eq_false c
   exact ⟨(muAt m k).s.length + 1, _, 0, rfl, i0, by omega, i4, ⟨by rw [hk]; exact a, by rw [hk]; omega⟩, by omega, by omega, by rw [hk]; omega, fun j hj => by omega⟩
 ·have hge : k = m.length := by have := of_decide_eq_false h; omega
  subst hge
  rw [show musI m = _ from if_pos i0, show musE m = _ from if_pos i0]
  exact le2 (scanI_end (f := fun i => (muAt m i).err) hz).symm (scan_end (f := fun i => (muAt m i).err) hz).symm
theorem zero_ref06_CheckMuons_0 (m : List Muon) (v0_0 : Int)  (hi : cntE m.length 40 = 0 ∧ 0 ≤ v0_0 ∧ v0_0 ≤ m.length ∧ (0 : Int) + v0_0 = m.length + 1 ∧ ∀ j : Nat, (j : Int) < v0_0 → (muAt m j).err = 0) : False := by
 omega
set_option maxHeartbeats 8000000 in
set_option maxRecDepth 100000 in
theorem rnd_ref06_CheckMuons_2 (m : List Muon) (v2_0 : Int) (v2_1 : Int) (nn2 nn0 : Nat) (hi : cntE m.length 40 = 0 ∧ (0 ≤ v2_0 ∧ v2_0 < m.length ∧ (nn0 : Int) + v2_0 = m.length) ∧ (∀ j : Nat, (j : Int) < v2_0 → (muAt m j).err = 0) ∧ (inB (muAt m v2_0.toNat).w 1 100 = true ∧ (muAt m v2_0.toNat).s.length ≤ 8) ∧ 0 ≤ v2_1 ∧ v2_1 ≤ (muAt m v2_0.toNat).s.length ∧ ((nn2 + 1) : Int) + v2_1 = (muAt m v2_0.toNat).s.length + 1 ∧ ∀ j : Nat, (j : Int) < v2_1 → senB ((muAt m v2_0.toNat).s.getD j 0) = true) : rd_ref06_CheckMuons_2 (J_ref06_CheckMuons m) m v2_0 v2_1 nn2 nn0 (fun r => LeD r (.tu [.c (.v (.int .i64 (musI m))), .c (.v (.int .i64 (musE m)))])) := by
 obtain ⟨i0, i1, i4, ⟨i5, i6⟩, i7, i8, i9, i10⟩ := hi
 obtain ⟨k, rfl⟩ : ∃ k : Nat, v2_0 = k := ⟨v2_0.toNat, by omega⟩
 have hk : (k : Int).toNat = k := rfl
 rw [hk] at i5 i6 i8 i9 i10
 have hz : ∀ j, j < k → (muAt m j).err = 0 := fun j hj => i4 j (by omega)
 have hlen : m.length ≤ 40 := by have := cnt_le i0; omega
 have hlt : k < m.length := by omega
 have bad : ∀ e, e ≠ 0 → (muAt m k).err = e → LeD (.tu [.c (.v (.int .i64 (k : Int))), .c (.v (.int .i64 e))]) (.tu [.c (.v (.int .i64 (musI m))), .c (.v (.int .i64 (musE m)))]) := fun e he q => by
  subst q
  rw [show musI m = _ from if_pos i0, show musE m = _ from if_pos i0]
  exact le2 (scanI_at (f := fun i => (muAt m i).err) hz hlt he).symm (scan_at (f := fun i => (muAt m i).err) hz hlt he).symm
 obtain ⟨q, rfl⟩ : ∃ q : Nat, v2_1 = q := ⟨v2_1.toNat, by omega⟩
 have hq : (q : Int).toNat = q := rfl
 unfold rd_ref06_CheckMuons_2
 rw [hk, hq]
 have he : (muAt m k).err = unl ((muAt m k).s.all senB) 6 := by
  unfold Muon.err; rw [i5, decide_eq_true (by omega)]
  unfold unl firstNZ firstNZ firstNZ firstNZ
  simp
 refine ⟨by omega, cond_i (fun h => ⟨by omega, ?_⟩) (fun h => lt_i fun x hx => ?_)⟩
 ·have h := of_decide_eq_true h
  refine ⟨by omega, cond_i (fun e => bad 6 (by decide) ?_) (fun e => lt_i fun x hx => ?_)⟩
  ·have e : senB ((muAt m k).s.getD q 0) = false := by simpa [senB] using e
   rw [he, show (muAt m k).s.all senB = false from ?_]
   ·rfl
   ·rw [List.all_eq_false]
    exact ⟨_, getD_mem (k := q) (by omega), by rw [e]; simp⟩
  ·rw [wi (by omega)] at hx
   subst hx
   have e : senB ((muAt m k).s.getD q 0) = true := by simpa [senB] using e
   refine ⟨_, _, rfl, i0, by omega, i4, ⟨by rw [hk]; exact i5, by rw [hk]; exact i6⟩, by omega, by rw [hk]; omega, by rw [hk]; omega, fun j hj => ?_⟩
   rw [hk]
   by_cases c : j = q
   ·rw [c]; exact e
   ·exact i10 j (by omega)
 ·have h := of_decide_eq_false h
  rw [wi (by omega)] at hx
  subst hx
  refine ⟨_, rfl, i0, by omega, by omega, by omega, fun j hj => ?_⟩
  by_cases c : j = k
  ·rw [c, he, show (muAt m k).s.all senB = true from all_getD fun i hi => i10 i (by omega)]; rfl
  ·exact i4 j (by omega)
theorem zero_ref06_CheckMuons_2 (m : List Muon) (v2_0 : Int) (v2_1 : Int) (nn0 : Nat) (hi : cntE m.length 40 = 0 ∧ (0 ≤ v2_0 ∧ v2_0 < m.length ∧ (nn0 : Int) + v2_0 = m.length) ∧ (∀ j : Nat, (j : Int) < v2_0 → (muAt m j).err = 0) ∧ (inB (muAt m v2_0.toNat).w 1 100 = true ∧ (muAt m v2_0.toNat).s.length ≤ 8) ∧ 0 ≤ v2_1 ∧ v2_1 ≤ (muAt m v2_0.toNat).s.length ∧ (0 : Int) + v2_1 = (muAt m v2_0.toNat).s.length + 1 ∧ ∀ j : Nat, (j : Int) < v2_1 → senB ((muAt m v2_0.toNat).s.getD j 0) = true) : False := by
 omega
set_option maxHeartbeats 8000000 in
set_option maxRecDepth 100000 in
theorem spec_ref06_CheckMuons (m : List Muon) : vc_ref06_CheckMuons (J_ref06_CheckMuons m) m (fun r => LeD r (.tu [.c (.v (.int .i64 (musI m))), .c (.v (.int .i64 (musE m)))])) := by
 unfold vc_ref06_CheckMuons
 have bad : ∀ e, e ≠ 0 → cntE m.length 40 = e → LeD (.tu [.c (.v (.int .i64 0)), .c (.v (.int .i64 e))]) (.tu [.c (.v (.int .i64 (musI m))), .c (.v (.int .i64 (musE m)))]) := fun e he q => by
  subst q
  exact le2 (if_neg he).symm (if_neg he).symm
 refine cond_i (fun h => bad 10 (by decide) ?_) (fun h => cond_i (fun h2 => bad 8 (by decide) ?_) (fun h2 => ?_))
 ·have h : (m.length : Int) = 0 := by simpa using h
  unfold cntE; rw [h]; rfl
 ·have h : (m.length : Int) ≠ 0 := by simpa using h
  have h2 := of_decide_eq_true h2
  unfold cntE; rw [decide_eq_true (show (m.length : Int) > 0 by omega), decide_eq_false (show ¬ (m.length : Int) ≤ 40 by omega)]; rfl
 ·have h : (m.length : Int) ≠ 0 := by simpa using h
  have h2 := of_decide_eq_false h2
  refine ⟨m.length + 1, 0, rfl, ?_, by omega, by omega, by omega, fun j hj => by omega⟩
  unfold cntE; rw [decide_eq_true (show (m.length : Int) > 0 by omega), decide_eq_true (show (m.length : Int) ≤ 40 by omega)]; rfl
theorem all_ref06_CheckMuons (m : List Muon) : AllG (J_ref06_CheckMuons m) (loopsFn Tryd.prog tab S84 ann_ref06_CheckMuons (J_ref06_CheckMuons m) Tryd.f46 (fun r => LeD r (.tu [.c (.v (.int .i64 (musI m))), .c (.v (.int .i64 (musE m)))]))) := by
 rw [lp_ref06_CheckMuons]
 refine ⟨⟨?_, ?_⟩, ⟨?_, ?_⟩, trivial⟩
 ·intro F s h
  obtain _ | ⟨g, F⟩ := F
  case cons => exact h.elim
  obtain ⟨w0, rfl, hi⟩ := h
  exact zero_ref06_CheckMuons_0 m w0 hi
 ·intro n F s h
  obtain _ | ⟨g, F⟩ := F
  case cons => exact h.elim
  obtain ⟨w0, rfl, hi⟩ := h
  rw [er_ref06_CheckMuons_0]
  exact rnd_ref06_CheckMuons_0 m _ _ hi
 ·intro F s h
  obtain _ | ⟨f0, F⟩ := F
  ·exact h.elim
  obtain _ | ⟨g, F⟩ := F
  case cons => exact h.elim
  obtain ⟨w0, w1, rfl, hi⟩ := h
  exact zero_ref06_CheckMuons_2 m w0 w1 _ hi
 ·intro n F s h
  obtain _ | ⟨f0, F⟩ := F
  ·exact h.elim
  obtain _ | ⟨g, F⟩ := F
  case cons => exact h.elim
  obtain ⟨w0, w1, rfl, hi⟩ := h
  rw [er_ref06_CheckMuons_2]
  exact rnd_ref06_CheckMuons_2 m _ _ _ _ hi
def con_ref06_CheckMuons : Con := fun args => match args with
 | [.t (.c (.sl 2 n_m c_m))] => some (.tu [.c (.v (.int .i64 (musI (muOf n_m c_m)))), .c (.v (.int .i64 (musE (muOf n_m c_m))))], some (muP n_m c_m), false)
 | _ => none
theorem ok_ref06_CheckMuons : Ok Tryd.prog 46 con_ref06_CheckMuons := by
 refine Ok.fn (ann := ann_ref06_CheckMuons) mixed tabOK VS84 ValidIt.no (fn := Tryd.f46) (by kernel_rfl) (by kernel_rfl) fit_ref06_CheckMuons fun args r pre fresh h hp => ?_
 unfold con_ref06_CheckMuons at h
 split at h
 ·rename_i n_m c_m
  cases h
  have hp0 := hp
  refine ⟨rfl, J_ref06_CheckMuons (muOf n_m c_m), [.t (.c (.sl 2 ((muOf n_m c_m).length) (musC (muOf n_m c_m))))], ?_, Nat.le_of_ble_eq_true (by kernel_rfl), ?_, ?_⟩
  ·exact (LeA_cons (leT_c ((leL_Muon hp0))) LeA_nil)
  ·rw [ev_ref06_CheckMuons]; exact spec_ref06_CheckMuons (muOf n_m c_m)
  ·exact all_ref06_CheckMuons (muOf n_m c_m)
 ·cases h
def S85 : Sum := addS S84 46 con_ref06_CheckMuons
theorem VS85 : Valid Tryd.prog S85 := Valid.add VS84 ok_ref06_CheckMuons
def S86 : Sum := S85
theorem VS86 : Valid Tryd.prog S86 := VS85
def mk_ref06_VetoErr_0 (f : Int) (v : List Int) (v0_0 : Int) : DS := ⟨[none, some (.t (.c (.p 1 0))), none, some (.t (.c (.v (.int .i64 v0_0)))), none, none, none, none, none, none, none, none, none, none, none, none, none, none, none, none, none, none, none, none, none, none, none, none, none, none, none, none, none, none, none, none, none, none, none, none, none, none], [none, some (.box 71 [.v (.int .i64 f), .sl 1 v.length (intsC v)]), none, none, none, none, none, none, none, none, none, none, none, none, none, none, none, none, none, none, none, none, none, none, none, none, none, none, none, none, none, none, none, none, none, none, none, none, none, none, none, none]⟩
def vc_ref06_VetoErr (J : Inv) (f : Int) (v : List Int) (post : DV → Prop) : Prop := cond (!(inB f (0 : Int) (8 : Int))) (post (.t (.c (.v (.int .i64 2))))) (cond (decide (((v.length : Nat) : Int) > (8 : Int))) (post (.t (.c (.v (.int .i64 8))))) (∃ n, J 0 (n :: []) (mk_ref06_VetoErr_0 f v 0)))
def ann_ref06_VetoErr : Ann := ⟨fun r => lookA r [(10, ([[], [0], [0, 1], [0, 1, 2], [0, 1, 2, 3], [0, 1, 2], [0, 1, 2, 3, 4, 5], [0, 1, 2, 3, 4, 5, 6], [0, 1, 2], [0, 1, 2, 8], [0, 1, 2], [0, 1, 2, 10], [0, 1, 2, 8, 9, 10, 11], [0, 1, 2, 8, 9, 10, 11, 12], [0, 1, 2, 3, 4, 5, 6, 7, 8, 9, 10, 11, 12, 13], [0, 1, 2, 3, 4, 5, 6, 7, 8, 9, 10, 11, 12, 13, 14]], [[], [], [], [], [], [], [], [], [], [], [], [], [], [], [], []]))], fun b => lookA b [(0, (none, some ⟨[1, 3], [1], []⟩))], fun _ => [], noIt, false, fun _ => none, fun _ => none⟩
theorem ev_ref06_VetoErr (J : Inv) (f : Int) (v : List Int) (post : DV → Prop) : evFn Tryd.prog tab S86 ann_ref06_VetoErr J Tryd.f47 [.t (.a [.v (.int .i64 f), .sl 1 v.length (intsC v)])] post = vc_ref06_VetoErr J f v post := by kernel_rfl
theorem fit_ref06_VetoErr : okFn ann_ref06_VetoErr Tryd.f47 = true := by kernel_rfl
def rd_ref06_VetoErr_0 (J : Inv) (f : Int) (v : List Int) (v0_0 : Int) (nn0 : Nat) (post : DV → Prop) : Prop := cond (decide (v0_0 < ((v.length : Nat) : Int))) ((0 ≤ v0_0 ∧ v0_0 < ((v.length : Nat) : Int)) ∧ (cond (!(inB (v.getD v0_0.toNat 0) (0 : Int) (7 : Int))) (post (.t (.c (.v (.int .i64 6))))) (cond (decide (v0_0 > (0 : Int))) ((0 ≤ v0_0 ∧ v0_0 < ((v.length : Nat) : Int)) ∧ (lt (IntKind.i64.wrap (v0_0 - (1 : Int))) fun x1 => (0 ≤ x1 ∧ x1 < ((v.length : Nat) : Int)) ∧ (cond (decide ((v.getD v0_0.toNat 0) ≤ (v.getD x1.toNat 0))) (post (.t (.c (.v (.int .i64 9))))) (lt (IntKind.i64.wrap (v0_0 + (1 : Int))) fun x2 => J 0 (nn0 :: []) (mk_ref06_VetoErr_0 f v x2))))) ((false = false) ∧ (lt (IntKind.i64.wrap (v0_0 + (1 : Int))) fun x3 => J 0 (nn0 :: []) (mk_ref06_VetoErr_0 f v x3)))))) (post (.t (.c (.v (.int .i64 0)))))
theorem er_ref06_VetoErr_0 (J : Inv) (f : Int) (v : List Int) (v0_0 : Int) (nn0 : Nat) (post : DV → Prop) : round Tryd.prog tab S86 ann_ref06_VetoErr J Tryd.f47 post 0 (nn0 :: []) (mk_ref06_VetoErr_0 f v v0_0) = rd_ref06_VetoErr_0 J f v v0_0 nn0 post := by kernel_rfl
theorem lp_ref06_VetoErr (J : Inv) (post : DV → Prop) : AllG J (loopsFn Tryd.prog tab S86 ann_ref06_VetoErr J Tryd.f47 post) = (((∀ F s, ¬ J 0 (0 :: F) s) ∧ ∀ n F s, J 0 ((n + 1) :: F) s → round Tryd.prog tab S86 ann_ref06_VetoErr J Tryd.f47 post 0 (n :: F) s) ∧ True) := by kernel_rfl
def J_ref06_VetoErr (f : Int) (v : List Int) : Inv := fun b F s => match b, F with
 | 0, [nn0] => ∃ (v0_0 : Int), s = mk_ref06_VetoErr_0 f v v0_0 ∧ ((inB f 0 8 = true ∧ v.length ≤ 8) ∧ 0 ≤ v0_0 ∧ v0_0 ≤ v.length ∧ (nn0 : Int) + v0_0 = v.length + 1 ∧ ∀ j : Nat, (j : Int) < v0_0 → senE v j = 0)
 | _, _ => False
theorem rnd_ref06_VetoErr_0 (f : Int) (v : List Int) (v0_0 : Int) (nn0 : Nat) (hi : (inB f 0 8 = true ∧ v.length ≤ 8) ∧ 0 ≤ v0_0 ∧ v0_0 ≤ v.length ∧ ((nn0 + 1) : Int) + v0_0 = v.length + 1 ∧ ∀ j : Nat, (j : Int) < v0_0 → senE v j = 0) : rd_ref06_VetoErr_0 (J_ref06_VetoErr f v) f v v0_0 nn0 (fun r => LeD r (.t (.c (.v (.int .i64 (vetE f v)))))) := by
 obtain ⟨⟨i0, i00⟩, i1, i2, i3, i4⟩ := hi
 obtain ⟨k, rfl⟩ : ∃ k : Nat, v0_0 = k := ⟨v0_0.toNat, by omega⟩
 have hk : (k : Int).toNat = k := rfl
 have hz : ∀ j, j < k → senE v j = 0 := fun j hj => i4 j (by omega)
 have eV : vetE f v = scan (senE v) v.length := by
  unfold vetE; rw [i0, decide_eq_true (by omega)]
  unfold unl firstNZ firstNZ firstNZ firstNZ
  simp
  intro h; rw [h]
 unfold rd_ref06_VetoErr_0
 rw [hk]
 refine cond_i (fun h => ?_) (fun h => leI ?_)
 ·have hlt : k < v.length := by have := of_decide_eq_true h; omega
  have eS : senE v k = firstNZ [unl (senB (v.getD k 0)) 6, unl (decide ((k : Int) = 0) || decide (v.getD k 0 > v.getD (k - 1) 0)) 9] := rfl
  have bad : ∀ e, e ≠ 0 → senE v k = e → LeD (.t (.c (.v (.int .i64 e)))) (.t (.c (.v (.int .i64 (vetE f v))))) := fun e he q => by
   subst q
   rw [eV, scan_at (f := senE v) hz hlt he]
   exact LeD.refl _
  have good : senE v k = 0 → ∀ x, IntKind.i64.wrap ((k : Int) + 1) = x → J_ref06_VetoErr f v 0 [nn0] (mk_ref06_VetoErr_0 f v x) := fun q x hx => by
   rw [wi (by omega)] at hx
   subst hx
   refine ⟨_, rfl, ⟨i0, i00⟩, by omega, by omega, by omega, fun j hj => ?_⟩
   by_cases c : j = k
   ·rw [c]; exact q
   ·exact i4 j (by omega)
  refine ⟨by omega, cond_i (fun a => bad 6 (by decide) ?_) (fun a => cond_i (fun c => ⟨by omega, lt_i fun x1 h1 => ?_⟩) (fun c => ⟨rfl, lt_i fun x hx => good ?_ x hx⟩))⟩
  ·have a : senB (v.getD k 0) = false := by simpa [senB] using a
   rw [eS, a]; rfl
  ·have a : senB (v.getD k 0) = true := by simpa [senB] using a
   have c := of_decide_eq_true c
   rw [wi (by omega)] at h1
   subst h1
   rw [show ((k : Int) - 1).toNat = k - 1 by omega]
   rw [a, decide_eq_false (show ¬ (k : Int) = 0 by omega), Bool.false_or] at eS
   refine ⟨by omega, cond_i (fun d => bad 9 (by decide) ?_) (fun d => lt_i fun x hx => good ?_ x hx)⟩
   ·have d := of_decide_eq_true d
    rw [eS, decide_eq_false (by omega)]; rfl
   ·have d := of_decide_eq_false d
    rw [eS, decide_eq_true (by omega)]; rfl
  ·have a : senB (v.getD k 0) = true := by simpa [senB] using a
   have c := of_decide_eq_false c
   rw [eS, a, decide_eq_true (show (k : Int) = 0 by omega)]; rfl
 ·have hge : k = v.length := by have := of_decide_eq_false h; omega
  subst hge
  rw [eV, scan_end (f := senE v) hz]
theorem zero_ref06_VetoErr_0 (f : Int) (v : List Int) (v0_0 : Int)  (hi : (inB f 0 8 = true ∧ v.length ≤ 8) ∧ 0 ≤ v0_0 ∧ v0_0 ≤ v.length ∧ (0 : Int) + v0_0 = v.length + 1 ∧ ∀ j : Nat, (j : Int) < v0_0 → senE v j = 0) : False := by
 omega
theorem spec_ref06_VetoErr (f : Int) (v : List Int) : vc_ref06_VetoErr (J_ref06_VetoErr f v) f v (fun r => LeD r (.t (.c (.v (.int .i64 (vetE f v)))))) := by
 unfold vc_ref06_VetoErr
 unfold vetE
 refine cond_i (fun h => leI ?_) (fun h => cond_i (fun h2 => leI ?_) (fun h2 => ?_))
 ·have h : inB f 0 8 = false := by simpa using h
  rw [h]; rfl
 ·have h : inB f 0 8 = true := by simpa using h
  have h2 := of_decide_eq_true h2
  rw [h, decide_eq_false (by omega)]; rfl
 ·have h : inB f 0 8 = true := by simpa using h
  have h2 := of_decide_eq_false h2
  exact ⟨v.length + 1, 0, rfl, ⟨h, by omega⟩, by omega, by omega, by omega, fun j hj => by omega⟩
theorem all_ref06_VetoErr (f : Int) (v : List Int) : AllG (J_ref06_VetoErr f v) (loopsFn Tryd.prog tab S86 ann_ref06_VetoErr (J_ref06_VetoErr f v) Tryd.f47 (fun r => LeD r (.t (.c (.v (.int .i64 (vetE f v))))))) := by
 rw [lp_ref06_VetoErr]
 refine ⟨⟨?_, ?_⟩, trivial⟩
 ·intro F s h
  obtain _ | ⟨g, F⟩ := F
  case cons => exact h.elim
  obtain ⟨w0, rfl, hi⟩ := h
  exact zero_ref06_VetoErr_0 f v w0 hi
 ·intro n F s h
  obtain _ | ⟨g, F⟩ := F
  case cons => exact h.elim
  obtain ⟨w0, rfl, hi⟩ := h
  rw [er_ref06_VetoErr_0]
  exact rnd_ref06_VetoErr_0 f v _ _ hi
def con_ref06_VetoErr : Con := fun args => match args with
 | [.t (.a [.v (.int .i64 f), .sl 1 n_v c_v])] => some (.t (.c (.v (.int .i64 (vetE f (listC n_v mkInt c_v))))), some (numsP 1 n_v c_v), false)
 | _ => none
theorem ok_ref06_VetoErr : Ok Tryd.prog 47 con_ref06_VetoErr := by
 refine Ok.fn (ann := ann_ref06_VetoErr) mixed tabOK VS86 ValidIt.no (fn := Tryd.f47) (by kernel_rfl) (by kernel_rfl) fit_ref06_VetoErr fun args r pre fresh h hp => ?_
 unfold con_ref06_VetoErr at h
 split at h
 ·rename_i f n_v c_v
  cases h
  have hp0 := hp
  refine ⟨rfl, J_ref06_VetoErr f (listC n_v mkInt c_v), [.t (.a [.v (.int .i64 f), .sl 1 ((listC n_v mkInt c_v).length) (intsC (listC n_v mkInt c_v))])], ?_, Nat.le_of_ble_eq_true (by kernel_rfl), ?_, ?_⟩
  ·exact (LeA_cons (leT_a (LeCs.cons (LeC1.refl _) (LeCs.cons ((leL_int hp0)) LeCs.nil))) LeA_nil)
  ·rw [ev_ref06_VetoErr]; exact spec_ref06_VetoErr f (listC n_v mkInt c_v)
  ·exact all_ref06_VetoErr f (listC n_v mkInt c_v)
 ·cases h
def S87 : Sum := addS S86 47 con_ref06_VetoErr
theorem VS87 : Valid Tryd.prog S87 := Valid.add VS86 ok_ref06_VetoErr
def mk_base_Has_0 (l : List Int) (a : Int) (v0_0 : Int) : DS := ⟨[some (.t (.c (.sl 1 l.length (intsC l)))), some (.t (.c (.v (.int .i64 a)))), none, none, none, some (.t (.c (.v (.int .i64 v0_0)))), none, none, none, none, none, none, none, none, none, none, none, none], [none, none, none, none, none, none, none, none, none, none, none, none, none, none, none, none, none, none]⟩
def vc_base_Has (J : Inv) (l : List Int) (a : Int) (post : DV → Prop) : Prop := ∃ n, J 0 (n :: []) (mk_base_Has_0 l a 0)
def ann_base_Has : Ann := ⟨fun _ => none, fun b => lookA b [(0, (none, some ⟨[0, 1, 5], [], []⟩))], fun _ => [], noIt, false, fun _ => none, fun _ => none⟩
theorem ev_base_Has (J : Inv) (l : List Int) (a : Int) (post : DV → Prop) : evFn Tryd.prog tab S87 ann_base_Has J Tryd.f52 [.t (.c (.sl 1 l.length (intsC l))), .t (.c (.v (.int .i64 a)))] post = vc_base_Has J l a post := by kernel_rfl
theorem fit_base_Has : okFn ann_base_Has Tryd.f52 = true := by kernel_rfl
def rd_base_Has_0 (J : Inv) (l : List Int) (a : Int) (v0_0 : Int) (nn0 : Nat) (post : DV → Prop) : Prop := cond (decide (v0_0 < ((l.length : Nat) : Int))) ((0 ≤ v0_0 ∧ v0_0 < ((l.length : Nat) : Int)) ∧ (cond ((l.getD v0_0.toNat 0) == a) (post (.t (.c (.v (.bool true))))) (lt (IntKind.i64.wrap (v0_0 + (1 : Int))) fun x1 => J 0 (nn0 :: []) (mk_base_Has_0 l a x1)))) (post (.t (.c (.v (.bool false)))))
theorem er_base_Has_0 (J : Inv) (l : List Int) (a : Int) (v0_0 : Int) (nn0 : Nat) (post : DV → Prop) : round Tryd.prog tab S87 ann_base_Has J Tryd.f52 post 0 (nn0 :: []) (mk_base_Has_0 l a v0_0) = rd_base_Has_0 J l a v0_0 nn0 post := by kernel_rfl
theorem lp_base_Has (J : Inv) (post : DV → Prop) : AllG J (loopsFn Tryd.prog tab S87 ann_base_Has J Tryd.f52 post) = (((∀ F s, ¬ J 0 (0 :: F) s) ∧ ∀ n F s, J 0 ((n + 1) :: F) s → round Tryd.prog tab S87 ann_base_Has J Tryd.f52 post 0 (n :: F) s) ∧ True) := by kernel_rfl
def J_base_Has (l : List Int) (a : Int) : Inv := fun b F s => match b, F with
 | 0, [nn0] => ∃ (v0_0 : Int), s = mk_base_Has_0 l a v0_0 ∧ (l.length ≤ 1000000 ∧ 0 ≤ v0_0 ∧ v0_0 ≤ l.length ∧ (nn0 : Int) + v0_0 = l.length + 1 ∧ ∀ k : Nat, (k : Int) < v0_0 → l.getD k 0 ≠ a)
 | _, _ => False
theorem rnd_base_Has_0 (l : List Int) (a : Int) (v0_0 : Int) (nn0 : Nat) (hp : (l).length ≤ 1000000) (hi : l.length ≤ 1000000 ∧ 0 ≤ v0_0 ∧ v0_0 ≤ l.length ∧ ((nn0 + 1) : Int) + v0_0 = l.length + 1 ∧ ∀ k : Nat, (k : Int) < v0_0 → l.getD k 0 ≠ a) : rd_base_Has_0 (J_base_Has l a) l a v0_0 nn0 (fun r => LeD r (.t (.c (.v (.bool ((l).contains a)))))) := by
 obtain ⟨i0, i1, i2, i3, i4⟩ := hi
 obtain ⟨k, rfl⟩ : ∃ k : Nat, v0_0 = k := ⟨v0_0.toNat, by omega⟩
 have hk : (k : Int).toNat = k := rfl
 unfold rd_base_Has_0
 rw [hk]
 refine cond_i (fun h => ?_) (fun h => leB ?_)
 ·have hlt : k < l.length := by have := of_decide_eq_true h; omega
  refine ⟨by omega, cond_i (fun e => leB ?_) (fun e => lt_i fun x hx => ?_)⟩
  ·have e : l.getD k 0 = a := by simpa using e
   exact (List.contains_iff_mem.2 (e ▸ getD_mem hlt)).symm
  ·rw [wi (by omega)] at hx
   subst hx
   refine ⟨_, rfl, i0, by omega, by omega, by omega, fun j hj => ?_⟩
   by_cases q : j = k
   ·rw [q]; simpa using e
   ·exact i4 j (by omega)
 ·have hge : k = l.length := by have := of_decide_eq_false h; omega
  refine (Bool.eq_false_iff.2 fun q => ?_).symm
  obtain ⟨j, hj, e⟩ := mem_getD (List.contains_iff_mem.1 q)
  exact i4 j (by omega) e
theorem zero_base_Has_0 (l : List Int) (a : Int) (v0_0 : Int)  (hi : l.length ≤ 1000000 ∧ 0 ≤ v0_0 ∧ v0_0 ≤ l.length ∧ (0 : Int) + v0_0 = l.length + 1 ∧ ∀ k : Nat, (k : Int) < v0_0 → l.getD k 0 ≠ a) : False := by
 omega
theorem spec_base_Has (l : List Int) (a : Int) (hp : (l).length ≤ 1000000) : vc_base_Has (J_base_Has l a) l a (fun r => LeD r (.t (.c (.v (.bool ((l).contains a)))))) := by
 unfold vc_base_Has
 exact ⟨l.length + 1, 0, rfl, hp, by omega, by omega, by omega, fun j hj => by omega⟩
theorem all_base_Has (l : List Int) (a : Int) (hp : (l).length ≤ 1000000) : AllG (J_base_Has l a) (loopsFn Tryd.prog tab S87 ann_base_Has (J_base_Has l a) Tryd.f52 (fun r => LeD r (.t (.c (.v (.bool ((l).contains a))))))) := by
 rw [lp_base_Has]
 refine ⟨⟨?_, ?_⟩, trivial⟩
 ·intro F s h
  obtain _ | ⟨g, F⟩ := F
  case cons => exact h.elim
  obtain ⟨w0, rfl, hi⟩ := h
  exact zero_base_Has_0 l a w0 hi
 ·intro n F s h
  obtain _ | ⟨g, F⟩ := F
  case cons => exact h.elim
  obtain ⟨w0, rfl, hi⟩ := h
  rw [er_base_Has_0]
  exact rnd_base_Has_0 l a _ _ hp hi
def con_base_Has : Con := fun args => match args with
 | [.t (.c (.sl 1 n_l c_l)), .t (.c (.v (.int .i64 a)))] => some (.t (.c (.v (.bool (((listC n_l mkInt c_l)).contains a)))), some (numsP 1 n_l c_l ∧ ((listC n_l mkInt c_l)).length ≤ 1000000), false)
 | _ => none
theorem ok_base_Has : Ok Tryd.prog 52 con_base_Has := by
 refine Ok.fn (ann := ann_base_Has) mixed tabOK VS87 ValidIt.no (fn := Tryd.f52) (by kernel_rfl) (by kernel_rfl) fit_base_Has fun args r pre fresh h hp => ?_
 unfold con_base_Has at h
 split at h
 ·rename_i n_l c_l a
  cases h
  obtain ⟨hp0, hp⟩ := hp
  refine ⟨rfl, J_base_Has (listC n_l mkInt c_l) a, [.t (.c (.sl 1 ((listC n_l mkInt c_l).length) (intsC (listC n_l mkInt c_l)))), .t (.c (.v (.int .i64 a)))], ?_, Nat.le_of_ble_eq_true (by kernel_rfl), ?_, ?_⟩
  ·exact (LeA_cons (leT_c ((leL_int hp0))) (LeA_cons (LeD.refl _) LeA_nil))
  ·rw [ev_base_Has]; exact spec_base_Has (listC n_l mkInt c_l) a hp
  ·exact all_base_Has (listC n_l mkInt c_l) a hp
 ·cases h
def S88 : Sum := addS S87 52 con_base_Has
theorem VS88 : Valid Tryd.prog S88 := Valid.add VS87 ok_base_Has
def mk_ref06_Passing_0 (m : List Muon) (f : Int) (v : List Int) (v0_0 : List Int) (v0_1 : Int) : DS := ⟨[some (.t (.c (.sl 2 m.length (musC m)))), none, none, some (.t (.c (.p 3 0))), none, some (.t (.c (.os 5))), some (.t (.c (.v (.int .i64 v0_1)))), none, none, none, none, none, none, none, none, none, none, none, none, none, none, none, none, none, none, none, none, none, none, none, none, none, none, none, none, none, none, none, none, none, none, none, none, none, none, none, none, none, none, none, none, none], [none, none, none, some (.box 71 [.v (.int .i64 f), .sl 1 v.length (intsC v)]), none, some (.num 3 .i64 v0_0), none, none, none, none, none, none, none, none, none, none, none, none, none, none, none, none, none, none, none, none, none, none, none, none, none, none, none, none, none, none, none, none, none, none, none, none, none, none, none, none, none, none, none, none, none, none]⟩
def mk_ref06_Passing_2 (m : List Muon) (f : Int) (v : List Int) (v2_0 : List Int) (v2_1 : Int) (v2_2 : Bool) (v2_3 : Int) : DS := ⟨[some (.t (.c (.sl 2 m.length (musC m)))), none, none, some (.t (.c (.p 3 0))), none, some (.t (.c (.os 5))), some (.t (.c (.v (.int .i64 v2_1)))), some (.t (.c (.v (.bool v2_2)))), some (.t (.c (.v (.int .i64 v2_3)))), none, none, none, none, none, none, none, none, none, none, none, none, none, none, none, none, none, none, none, none, none, none, none, none, none, none, none, none, none, none, none, none, none, none, none, none, none, none, none, none, none, none, none], [none, none, none, some (.box 71 [.v (.int .i64 f), .sl 1 v.length (intsC v)]), none, some (.num 3 .i64 v2_0), none, none, none, none, none, none, none, none, none, none, none, none, none, none, none, none, none, none, none, none, none, none, none, none, none, none, none, none, none, none, none, none, none, none, none, none, none, none, none, none, none, none, none, none, none, none]⟩
def vc_ref06_Passing (J : Inv) (m : List Muon) (f : Int) (v : List Int) (post : DV → Prop) : Prop := ∃ n, J 0 (n :: []) (mk_ref06_Passing_0 m f v ([]) 0)
def ann_ref06_Passing : Ann := ⟨fun r => lookA r [(9, ([[], [0], [0, 1], [0, 1, 2], [0, 1], [0, 1], [0, 1, 4, 5], [0, 1, 4, 5, 6], [0, 1, 4, 5, 6, 7], [0, 1], [0, 1, 4, 5, 6, 7, 8, 9], [0, 1, 4, 5, 6, 7, 8, 9, 10], [0, 1, 2, 3, 4, 5, 6, 7, 8, 9, 10, 11], [0, 1, 2, 3, 4, 5, 6, 7, 8, 9, 10, 11, 12], [0, 1, 2, 3, 4, 5, 6, 7, 8, 9, 10, 11, 12, 13]], [[43], [43], [43], [43], [43], [43], [43], [43], [43], [43], [43], [43], [], [], []]))], fun b => lookA b [(0, (none, some ⟨[0, 3, 6], [3], [(5, .num 3 .i64 ([]))]⟩)), (2, (none, some ⟨[0, 3, 6, 7, 8], [3], [(5, .num 3 .i64 ([]))]⟩))], fun _ => [], noIt, true, fun r => lookA r [(7, (9, [28])), (9, (2, [7]))], fun _ => none⟩
theorem ev_ref06_Passing (J : Inv) (m : List Muon) (f : Int) (v : List Int) (post : DV → Prop) : evFn Tryd.prog tab S88 ann_ref06_Passing J Tryd.f48 [.t (.c (.sl 2 m.length (musC m))), .t (.a [.v (.int .i64 f), .sl 1 v.length (intsC v)])] post = vc_ref06_Passing J m f v post := by kernel_rfl
theorem fit_ref06_Passing : okFn ann_ref06_Passing Tryd.f48 = true := by kernel_rfl
def rd_ref06_Passing_0 (J : Inv) (m : List Muon) (f : Int) (v : List Int) (v0_0 : List Int) (v0_1 : Int) (nn0 : Nat) (post : DV → Prop) : Prop := cond (decide (v0_1 < ((m.length : Nat) : Int))) (∃ n, J 2 (n :: nn0 :: []) (mk_ref06_Passing_2 m f v v0_0 v0_1 false 0)) (post (.t (.c (.sl 1 v0_0.length (numsC .i64 v0_0)))))
theorem er_ref06_Passing_0 (J : Inv) (m : List Muon) (f : Int) (v : List Int) (v0_0 : List Int) (v0_1 : Int) (nn0 : Nat) (post : DV → Prop) : round Tryd.prog tab S88 ann_ref06_Passing J Tryd.f48 post 0 (nn0 :: []) (mk_ref06_Passing_0 m f v v0_0 v0_1) = rd_ref06_Passing_0 J m f v v0_0 v0_1 nn0 post := by kernel_rfl
def rd_ref06_Passing_2 (J : Inv) (m : List Muon) (f : Int) (v : List Int) (v2_0 : List Int) (v2_1 : Int) (v2_2 : Bool) (v2_3 : Int) (nn2 nn0 : Nat) (post : DV → Prop) : Prop := (0 ≤ v2_1 ∧ v2_1 < ((m.length : Nat) : Int)) ∧ ((cond (decide (v2_3 < (((muAt m v2_1.toNat).s.length : Nat) : Int))) (True) ((false = false) ∧ (True))) ∧ (lt ((bif decide (v2_3 < (((muAt m v2_1.toNat).s.length : Nat) : Int)) then decide (v2_3 < f) else false)) fun x1 => cond x1 ((cond v2_2 ((true = true) ∧ (True)) ((0 ≤ v2_1 ∧ v2_1 < ((m.length : Nat) : Int)) ∧ ((0 ≤ v2_3 ∧ v2_3 < (((muAt m v2_1.toNat).s.length : Nat) : Int)) ∧ ((numsP 1 v.length (intsC v) ∧ ((listC v.length mkInt (intsC v))).length ≤ 1000000) ∧ (True))))) ∧ (lt ((bif v2_2 then true else ((listC v.length mkInt (intsC v))).contains (((muAt m v2_1.toNat).s).getD v2_3.toNat 0))) fun x2 => lt (IntKind.i64.wrap (v2_3 + (1 : Int))) fun x3 => J 2 (nn2 :: nn0 :: []) (mk_ref06_Passing_2 m f v v2_0 v2_1 x2 x3))) (cond (!v2_2) (((IntKind.i64 = IntKind.i64 ∧ True) ∧ roomP 8 (v2_0.length + ([v2_1] : List Int).length)) ∧ (lt (IntKind.i64.wrap (v2_1 + (1 : Int))) fun x4 => J 0 (nn0 :: []) (mk_ref06_Passing_0 m f v (v2_0 ++ ([v2_1])) x4))) (lt (IntKind.i64.wrap (v2_1 + (1 : Int))) fun x5 => J 0 (nn0 :: []) (mk_ref06_Passing_0 m f v v2_0 x5)))))
theorem er_ref06_Passing_2 (J : Inv) (m : List Muon) (f : Int) (v : List Int) (v2_0 : List Int) (v2_1 : Int) (v2_2 : Bool) (v2_3 : Int) (nn2 nn0 : Nat) (post : DV → Prop) : round Tryd.prog tab S88 ann_ref06_Passing J Tryd.f48 post 1 (nn2 :: nn0 :: []) (mk_ref06_Passing_2 m f v v2_0 v2_1 v2_2 v2_3) = rd_ref06_Passing_2 J m f v v2_0 v2_1 v2_2 v2_3 nn2 nn0 post := by kernel_rfl
theorem lp_ref06_Passing (J : Inv) (post : DV → Prop) : AllG J (loopsFn Tryd.prog tab S88 ann_ref06_Passing J Tryd.f48 post) = (((∀ F s, ¬ J 0 (0 :: F) s) ∧ ∀ n F s, J 0 ((n + 1) :: F) s → round Tryd.prog tab S88 ann_ref06_Passing J Tryd.f48 post 0 (n :: F) s) ∧ ((∀ F s, ¬ J 2 (0 :: F) s) ∧ ∀ n F s, J 2 ((n + 1) :: F) s → round Tryd.prog tab S88 ann_ref06_Passing J Tryd.f48 post 1 (n :: F) s) ∧ True) := by kernel_rfl
def J_ref06_Passing (m : List Muon) (f : Int) (v : List Int) : Inv := fun b F s => match b, F with
 | 0, [nn0] => ∃ (v0_0 : List Int) (v0_1 : Int), s = mk_ref06_Passing_0 m f v v0_0 v0_1 ∧ ((musE m = 0 ∧ 0 ≤ f ∧ v.length ≤ 1000000) ∧ 0 ≤ v0_1 ∧ v0_1 ≤ m.length ∧ (nn0 : Int) + v0_1 = m.length + 1 ∧ v0_0 = ((List.range v0_1.toNat).filter fun i => passB f v (muAt m i)).map fun i : Nat => (i : Int))
 | 2, [nn2, nn0] => ∃ (v2_0 : List Int) (v2_1 : Int) (v2_2 : Bool) (v2_3 : Int), s = mk_ref06_Passing_2 m f v v2_0 v2_1 v2_2 v2_3 ∧ ((musE m = 0 ∧ 0 ≤ f ∧ v.length ≤ 1000000) ∧ (0 ≤ v2_1 ∧ v2_1 < m.length ∧ (nn0 : Int) + v2_1 = m.length) ∧ (v2_0 = ((List.range v2_1.toNat).filter fun i => passB f v (muAt m i)).map fun i : Nat => (i : Int)) ∧ 0 ≤ v2_3 ∧ v2_3 ≤ (muAt m v2_1.toNat).s.length ∧ v2_3 ≤ f ∧ (nn2 : Int) + v2_3 = (muAt m v2_1.toNat).s.length + 1 ∧ v2_2 = ((muAt m v2_1.toNat).s.take v2_3.toNat).any fun s => v.contains s)
 | _, _ => False
set_option maxHeartbeats 8000000 in
set_option maxRecDepth 100000 in
theorem rnd_ref06_Passing_0 (m : List Muon) (f : Int) (v : List Int) (v0_0 : List Int) (v0_1 : Int) (nn0 : Nat) (hp : musE m = 0 ∧ 0 ≤ f ∧ (v).length ≤ 1000000) (hi : (musE m = 0 ∧ 0 ≤ f ∧ v.length ≤ 1000000) ∧ 0 ≤ v0_1 ∧ v0_1 ≤ m.length ∧ ((nn0 + 1) : Int) + v0_1 = m.length + 1 ∧ v0_0 = ((List.range v0_1.toNat).filter fun i => passB f v (muAt m i)).map fun i : Nat => (i : Int)) : rd_ref06_Passing_0 (J_ref06_Passing m f v) m f v v0_0 v0_1 nn0 (fun r => LeD r (.t (.c (.sl 1 ((pasL m f v).length) (intsC (pasL m f v)))))) := by
 obtain ⟨i0, i1, i2, i3, i4⟩ := hi
 obtain ⟨k, rfl⟩ : ∃ k : Nat, v0_1 = k := ⟨v0_1.toNat, by omega⟩
 have hk : (k : Int).toNat = k := rfl
 unfold rd_ref06_Passing_0
 refine cond_i (fun h => ?_) (fun h => ?_)
 ·have h := of_decide_eq_true h
  exact ⟨(muAt m k).s.length + 1, _, _, _, 0, rfl, i0, by omega, i4, by omega, by omega, i0.2.1, by rw [hk]; omega, rfl⟩
 ·have hge : k = m.length := by have := of_decide_eq_false h; omega
  rw [i4, hk, hge]
  exact LeD.refl _
theorem zero_ref06_Passing_0 (m : List Muon) (f : Int) (v : List Int) (v0_0 : List Int) (v0_1 : Int)  (hi : (musE m = 0 ∧ 0 ≤ f ∧ v.length ≤ 1000000) ∧ 0 ≤ v0_1 ∧ v0_1 ≤ m.length ∧ (0 : Int) + v0_1 = m.length + 1 ∧ v0_0 = ((List.range v0_1.toNat).filter fun i => passB f v (muAt m i)).map fun i : Nat => (i : Int)) : False := by
 omega
set_option maxHeartbeats 8000000 in
set_option maxRecDepth 100000 in
theorem rnd_ref06_Passing_2 (m : List Muon) (f : Int) (v : List Int) (v2_0 : List Int) (v2_1 : Int) (v2_2 : Bool) (v2_3 : Int) (nn2 nn0 : Nat) (hp : musE m = 0 ∧ 0 ≤ f ∧ (v).length ≤ 1000000) (hi : (musE m = 0 ∧ 0 ≤ f ∧ v.length ≤ 1000000) ∧ (0 ≤ v2_1 ∧ v2_1 < m.length ∧ (nn0 : Int) + v2_1 = m.length) ∧ (v2_0 = ((List.range v2_1.toNat).filter fun i => passB f v (muAt m i)).map fun i : Nat => (i : Int)) ∧ 0 ≤ v2_3 ∧ v2_3 ≤ (muAt m v2_1.toNat).s.length ∧ v2_3 ≤ f ∧ ((nn2 + 1) : Int) + v2_3 = (muAt m v2_1.toNat).s.length + 1 ∧ v2_2 = ((muAt m v2_1.toNat).s.take v2_3.toNat).any fun s => v.contains s) : rd_ref06_Passing_2 (J_ref06_Passing m f v) m f v v2_0 v2_1 v2_2 v2_3 nn2 nn0 (fun r => LeD r (.t (.c (.sl 1 ((pasL m f v).length) (intsC (pasL m f v)))))) := by
 obtain ⟨i0, i1, i2, i3, i4, i5, i6, i7⟩ := hi
 obtain ⟨k, rfl⟩ : ∃ k : Nat, v2_1 = k := ⟨v2_1.toNat, by omega⟩
 have hk : (k : Int).toNat = k := rfl
 rw [hk] at i2 i4 i6 i7
 obtain ⟨q, rfl⟩ : ∃ q : Nat, v2_3 = q := ⟨v2_3.toNat, by omega⟩
 have hq : (q : Int).toNat = q := rfl
 rw [hq] at i7
 obtain ⟨⟨z1, z2⟩, z3⟩ := mus_ok i0.1
 obtain ⟨_, w2, _⟩ := mu_ok (z3 k (by omega))
 have hlen : v2_0.length ≤ 40 := by
  rw [i2, List.length_map]
  have := List.length_filter_le (fun i => passB f v (muAt m i)) (List.range k)
  rw [List.length_range] at this
  omega
 unfold rd_ref06_Passing_2
 rw [hk, hq, ints_listC]
 refine ⟨by omega, cond_i (fun _ => trivial) (fun _ => ⟨rfl, trivial⟩), lt_i fun x1 h1 => cond_i (fun h => ⟨cond_i (fun _ => ⟨rfl, trivial⟩) (fun _ => ⟨by omega, ?_, ⟨numsP_ints v, i0.2.2⟩, trivial⟩), lt_i fun x2 h2 => lt_i fun x hx => ?_⟩) (fun h => ?_)⟩
 ·subst h1
  have h := bif_and h
  have := of_decide_eq_true h.1
  omega
 ·subst h1
  have h := bif_and h
  have h1 := of_decide_eq_true h.1
  have h3 := of_decide_eq_true h.2
  rw [wi (by omega)] at hx
  subst hx
  refine ⟨_, _, _, _, rfl, i0, by omega, by rw [hk]; exact i2, by omega, by rw [hk]; omega, by omega, by rw [hk]; omega, ?_⟩
  rw [show ((q : Int) + 1).toNat = q + 1 by omega, hk, take_getD (0 : Int) (show q < (muAt m k).s.length by omega), List.any_append, ← i7, ← h2]
  cases v2_2 <;> simp
 ·have hE : v2_2 = ((muAt m k).s.take f.toNat).any fun s => v.contains s := by
   rw [i7]
   subst h1
   rcases bif_nand h with h | h
   ·have h := of_decide_eq_false h
    rw [List.take_of_length_le (by omega), List.take_of_length_le (by omega)]
   ·have h := of_decide_eq_false h
    rw [show f.toNat = q by omega]
  have eP : passB f v (muAt m k) = !v2_2 := by
   unfold passB
   rw [hE, ← List.not_any_eq_all_not]
  have eR : ((List.range (k + 1)).filter fun i => passB f v (muAt m i)) = ((List.range k).filter fun i => passB f v (muAt m i)) ++ (if v2_2 = true then [] else [k]) := by
   rw [List.range_succ, List.filter_append, List.filter_cons, eP]
   cases v2_2 <;> rfl
  refine cond_i (fun e => ⟨⟨⟨rfl, trivial⟩, ?_⟩, lt_i fun x hx => ?_⟩) (fun e => lt_i fun x hx => ?_)
  ·unfold roomP maxLen; simp; omega
  ·have e : v2_2 = false := by simpa using e
   rw [wi (by omega)] at hx
   subst hx
   refine ⟨_, _, rfl, i0, by omega, by omega, by omega, ?_⟩
   rw [show ((k : Int) + 1).toNat = k + 1 by omega, eR, e, List.map_append, i2]; rfl
  ·have e : v2_2 = true := by simpa using e
   rw [wi (by omega)] at hx
   subst hx
   refine ⟨_, _, rfl, i0, by omega, by omega, by omega, ?_⟩
   rw [show ((k : Int) + 1).toNat = k + 1 by omega, eR, e, i2]; simp
theorem zero_ref06_Passing_2 (m : List Muon) (f : Int) (v : List Int) (v2_0 : List Int) (v2_1 : Int) (v2_2 : Bool) (v2_3 : Int) (nn0 : Nat) (hi : (musE m = 0 ∧ 0 ≤ f ∧ v.length ≤ 1000000) ∧ (0 ≤ v2_1 ∧ v2_1 < m.length ∧ (nn0 : Int) + v2_1 = m.length) ∧ (v2_0 = ((List.range v2_1.toNat).filter fun i => passB f v (muAt m i)).map fun i : Nat => (i : Int)) ∧ 0 ≤ v2_3 ∧ v2_3 ≤ (muAt m v2_1.toNat).s.length ∧ v2_3 ≤ f ∧ (0 : Int) + v2_3 = (muAt m v2_1.toNat).s.length + 1 ∧ v2_2 = ((muAt m v2_1.toNat).s.take v2_3.toNat).any fun s => v.contains s) : False := by
 omega
set_option maxHeartbeats 8000000 in
set_option maxRecDepth 100000 in
theorem spec_ref06_Passing (m : List Muon) (f : Int) (v : List Int) (hp : musE m = 0 ∧ 0 ≤ f ∧ (v).length ≤ 1000000) : vc_ref06_Passing (J_ref06_Passing m f v) m f v (fun r => LeD r (.t (.c (.sl 1 ((pasL m f v).length) (intsC (pasL m f v)))))) := by
 unfold vc_ref06_Passing
 exact ⟨m.length + 1, [], 0, rfl, hp, by omega, by omega, by omega, rfl⟩
theorem all_ref06_Passing (m : List Muon) (f : Int) (v : List Int) (hp : musE m = 0 ∧ 0 ≤ f ∧ (v).length ≤ 1000000) : AllG (J_ref06_Passing m f v) (loopsFn Tryd.prog tab S88 ann_ref06_Passing (J_ref06_Passing m f v) Tryd.f48 (fun r => LeD r (.t (.c (.sl 1 ((pasL m f v).length) (intsC (pasL m f v))))))) := by
 rw [lp_ref06_Passing]
 refine ⟨⟨?_, ?_⟩, ⟨?_, ?_⟩, trivial⟩
 ·intro F s h
  obtain _ | ⟨g, F⟩ := F
  case cons => exact h.elim
  obtain ⟨w0, w1, rfl, hi⟩ := h
  exact zero_ref06_Passing_0 m f v w0 w1 hi
 ·intro n F s h
  obtain _ | ⟨g, F⟩ := F
  case cons => exact h.elim
  obtain ⟨w0, w1, rfl, hi⟩ := h
  rw [er_ref06_Passing_0]
  exact rnd_ref06_Passing_0 m f v _ _ _ hp hi
 ·intro F s h
  obtain _ | ⟨f0, F⟩ := F
  ·exact h.elim
  obtain _ | ⟨g, F⟩ := F
  case cons => exact h.elim
  obtain ⟨w0, w1, w2, w3, rfl, hi⟩ := h
  exact zero_ref06_Passing_2 m f v w0 w1 w2 w3 _ hi
 ·intro n F s h
  obtain _ | ⟨f0, F⟩ := F
  ·exact h.elim
  obtain _ | ⟨g, F⟩ := F
  case cons => exact h.elim
  obtain ⟨w0, w1, w2, w3, rfl, hi⟩ := h
  rw [er_ref06_Passing_2]
  exact rnd_ref06_Passing_2 m f v _ _ _ _ _ _ hp hi
def con_ref06_Passing : Con := fun args => match args with
 | [.t (.c (.sl 2 n_m c_m)), .t (.a [.v (.int .i64 f), .sl 1 n_v c_v])] => some (.t (.c (.sl 1 ((pasL (muOf n_m c_m) f (listC n_v mkInt c_v)).length) (intsC (pasL (muOf n_m c_m) f (listC n_v mkInt c_v))))), some (muP n_m c_m ∧ numsP 1 n_v c_v ∧ musE (muOf n_m c_m) = 0 ∧ 0 ≤ f ∧ ((listC n_v mkInt c_v)).length ≤ 1000000), true)
 | _ => none
theorem ok_ref06_Passing : Ok Tryd.prog 48 con_ref06_Passing := by
 refine Ok.fnFr (ann := ann_ref06_Passing) mixed tabOK VS88 ValidIt.no rfl (fn := Tryd.f48) (by kernel_rfl) (by kernel_rfl) fit_ref06_Passing fun args r pre fresh h hp => ?_
 unfold con_ref06_Passing at h
 split at h
 ·rename_i n_m c_m f n_v c_v
  cases h
  obtain ⟨hp0, hp1, hp⟩ := hp
  refine ⟨rfl, (fun i j _ hj => plain_int _ i j), J_ref06_Passing (muOf n_m c_m) f (listC n_v mkInt c_v), [.t (.c (.sl 2 ((muOf n_m c_m).length) (musC (muOf n_m c_m)))), .t (.a [.v (.int .i64 f), .sl 1 ((listC n_v mkInt c_v).length) (intsC (listC n_v mkInt c_v))])], ?_, Nat.le_of_ble_eq_true (by kernel_rfl), ?_, ?_⟩
  ·exact (LeA_cons (leT_c ((leL_Muon hp0))) (LeA_cons (leT_a (LeCs.cons (LeC1.refl _) (LeCs.cons ((leL_int hp1)) LeCs.nil))) LeA_nil))
  ·rw [ev_ref06_Passing]; exact spec_ref06_Passing (muOf n_m c_m) f (listC n_v mkInt c_v) hp
  ·exact all_ref06_Passing (muOf n_m c_m) f (listC n_v mkInt c_v) hp
 ·cases h
def S89 : Sum := addS S88 48 con_ref06_Passing
theorem VS89 : Valid Tryd.prog S89 := Valid.add VS88 ok_ref06_Passing
def mk_ref06_sums_0 (m : List Muon) (f : Int) (v : List Int) (v0_0 : Int) (v0_1 : Int) : DS := ⟨[some (.t (.c (.sl 2 m.length (musC m)))), none, none, some (.t (.c (.p 3 0))), none, none, none, some (.t (.c (.v (.int .i64 v0_1)))), some (.t (.c (.v (.int .i64 0)))), some (.t (.c (.v (.int .i64 0)))), some (.t (.c (.v (.int .i64 v0_0)))), none, none, none, none, none, none, none, none, none, none, none, none, none, none, none, none, none, none, none, none, none, none, none, none, none, none, none, none, none, none, none, none, none, none, none, none, none, none, none, none, none, none, none, none], [none, none, none, some (.box 71 [.v (.int .i64 f), .sl 1 v.length (intsC v)]), none, none, none, none, none, none, none, none, none, none, none, none, none, none, none, none, none, none, none, none, none, none, none, none, none, none, none, none, none, none, none, none, none, none, none, none, none, none, none, none, none, none, none, none, none, none, none, none, none, none, none]⟩
def mk_ref06_sums_2 (m : List Muon) (f : Int) (v : List Int) (v2_0 : Int) (v2_1 : Int) (v2_2 : Int) (v2_3 : Int) : DS := ⟨[some (.t (.c (.sl 2 m.length (musC m)))), none, none, none, none, none, none, some (.t (.c (.v (.int .i64 v2_1)))), some (.t (.c (.v (.int .i64 v2_2)))), some (.t (.c (.v (.int .i64 v2_3)))), none, some (.t (.c (.sl 1 ((pasL (muOf m.length (musC m)) f (listC v.length mkInt (intsC v))).length) (intsC (pasL (muOf m.length (musC m)) f (listC v.length mkInt (intsC v))))))), some (.t (.c (.v (.int .i64 v2_0)))), none, none, none, none, none, none, none, none, none, none, none, none, none, none, none, none, none, none, none, none, none, none, none, none, none, none, none, none, none, none, none, none, none, none, none, none, none, none, none, none, none, none], [none, none, none, none, none, none, none, none, none, none, none, none, none, none, none, none, none, none, none, none, none, none, none, none, none, none, none, none, none, none, none, none, none, none, none, none, none, none, none, none, none, none, none, none, none, none, none, none, none, none, none, none, none, none, none]⟩
def vc_ref06_sums (J : Inv) (m : List Muon) (f : Int) (v : List Int) (post : DV → Prop) : Prop := ∃ n, J 0 (n :: []) (mk_ref06_sums_0 m f v 0 0)
def ann_ref06_sums : Ann := ⟨fun _ => none, fun b => lookA b [(0, (none, some ⟨[0, 3, 7, 8, 9, 10], [3], []⟩)), (2, (none, some ⟨[0, 7, 8, 9, 11, 12], [], []⟩))], fun _ => [], noIt, false, fun _ => none, fun _ => none⟩
theorem ev_ref06_sums (J : Inv) (m : List Muon) (f : Int) (v : List Int) (post : DV → Prop) : evFn Tryd.prog tab S89 ann_ref06_sums J Tryd.f116 [.t (.c (.sl 2 m.length (musC m))), .t (.a [.v (.int .i64 f), .sl 1 v.length (intsC v)])] post = vc_ref06_sums J m f v post := by kernel_rfl
theorem fit_ref06_sums : okFn ann_ref06_sums Tryd.f116 = true := by kernel_rfl
def rd_ref06_sums_0 (J : Inv) (m : List Muon) (f : Int) (v : List Int) (v0_0 : Int) (v0_1 : Int) (nn0 : Nat) (post : DV → Prop) : Prop := cond (decide (v0_0 < ((m.length : Nat) : Int))) ((0 ≤ v0_0 ∧ v0_0 < ((m.length : Nat) : Int)) ∧ (lt (IntKind.i64.wrap (v0_1 + ((muAt m v0_0.toNat).w))) fun x1 => lt (IntKind.i64.wrap (v0_0 + (1 : Int))) fun x2 => J 0 (nn0 :: []) (mk_ref06_sums_0 m f v x2 x1))) ((muP m.length (musC m) ∧ numsP 1 v.length (intsC v) ∧ musE (muOf m.length (musC m)) = 0 ∧ 0 ≤ f ∧ ((listC v.length mkInt (intsC v))).length ≤ 1000000) ∧ (∃ n, J 2 (n :: []) (mk_ref06_sums_2 m f v 0 v0_1 0 0)))
theorem er_ref06_sums_0 (J : Inv) (m : List Muon) (f : Int) (v : List Int) (v0_0 : Int) (v0_1 : Int) (nn0 : Nat) (post : DV → Prop) : round Tryd.prog tab S89 ann_ref06_sums J Tryd.f116 post 0 (nn0 :: []) (mk_ref06_sums_0 m f v v0_0 v0_1) = rd_ref06_sums_0 J m f v v0_0 v0_1 nn0 post := by kernel_rfl
def rd_ref06_sums_2 (J : Inv) (m : List Muon) (f : Int) (v : List Int) (v2_0 : Int) (v2_1 : Int) (v2_2 : Int) (v2_3 : Int) (nn2 : Nat) (post : DV → Prop) : Prop := cond (decide (v2_0 < (((pasL (muOf m.length (musC m)) f (listC v.length mkInt (intsC v))).length : Nat) : Int))) ((0 ≤ v2_0 ∧ v2_0 < (((pasL (muOf m.length (musC m)) f (listC v.length mkInt (intsC v))).length : Nat) : Int)) ∧ ((0 ≤ ((pasL (muOf m.length (musC m)) f (listC v.length mkInt (intsC v))).getD v2_0.toNat 0) ∧ ((pasL (muOf m.length (musC m)) f (listC v.length mkInt (intsC v))).getD v2_0.toNat 0) < ((m.length : Nat) : Int)) ∧ (lt (IntKind.i64.wrap (v2_2 + ((muAt m (((pasL (muOf m.length (musC m)) f (listC v.length mkInt (intsC v))).getD v2_0.toNat 0).toNat)).w))) fun x1 => lt (IntKind.i64.wrap (((muAt m (((pasL (muOf m.length (musC m)) f (listC v.length mkInt (intsC v))).getD v2_0.toNat 0).toNat)).w) * ((muAt m (((pasL (muOf m.length (musC m)) f (listC v.length mkInt (intsC v))).getD v2_0.toNat 0).toNat)).w))) fun x2 => lt (IntKind.i64.wrap (v2_3 + x2)) fun x3 => lt (IntKind.i64.wrap (v2_0 + (1 : Int))) fun x4 => J 2 (nn2 :: []) (mk_ref06_sums_2 m f v x4 v2_1 x1 x3)))) (post (.tu [.c (.v (.int .i64 v2_1)), .c (.v (.int .i64 v2_2)), .c (.v (.int .i64 v2_3))]))
theorem er_ref06_sums_2 (J : Inv) (m : List Muon) (f : Int) (v : List Int) (v2_0 : Int) (v2_1 : Int) (v2_2 : Int) (v2_3 : Int) (nn2 : Nat) (post : DV → Prop) : round Tryd.prog tab S89 ann_ref06_sums J Tryd.f116 post 1 (nn2 :: []) (mk_ref06_sums_2 m f v v2_0 v2_1 v2_2 v2_3) = rd_ref06_sums_2 J m f v v2_0 v2_1 v2_2 v2_3 nn2 post := by kernel_rfl
theorem lp_ref06_sums (J : Inv) (post : DV → Prop) : AllG J (loopsFn Tryd.prog tab S89 ann_ref06_sums J Tryd.f116 post) = (((∀ F s, ¬ J 0 (0 :: F) s) ∧ ∀ n F s, J 0 ((n + 1) :: F) s → round Tryd.prog tab S89 ann_ref06_sums J Tryd.f116 post 0 (n :: F) s) ∧ ((∀ F s, ¬ J 2 (0 :: F) s) ∧ ∀ n F s, J 2 ((n + 1) :: F) s → round Tryd.prog tab S89 ann_ref06_sums J Tryd.f116 post 1 (n :: F) s) ∧ True) := by kernel_rfl
def J_ref06_sums (m : List Muon) (f : Int) (v : List Int) : Inv := fun b F s => match b, F with
 | 0, [nn0] => ∃ (v0_0 : Int) (v0_1 : Int), s = mk_ref06_sums_0 m f v v0_0 v0_1 ∧ ((musE m = 0 ∧ 0 ≤ f ∧ v.length ≤ 1000000) ∧ 0 ≤ v0_0 ∧ v0_0 ≤ m.length ∧ (nn0 : Int) + v0_0 = m.length + 1 ∧ v0_1 = sumW (m.take v0_0.toNat))
 | 2, [nn2] => ∃ (v2_0 : Int) (v2_1 : Int) (v2_2 : Int) (v2_3 : Int), s = mk_ref06_sums_2 m f v v2_0 v2_1 v2_2 v2_3 ∧ ((musE m = 0 ∧ 0 ≤ f ∧ v.length ≤ 1000000) ∧ 0 ≤ v2_0 ∧ v2_0 ≤ (pasL m f v).length ∧ (nn2 : Int) + v2_0 = (pasL m f v).length + 1 ∧ v2_1 = sumW m ∧ v2_2 = sumW (((pasL m f v).take v2_0.toNat).map fun i => muAt m i.toNat) ∧ v2_3 = sumQ (((pasL m f v).take v2_0.toNat).map fun i => muAt m i.toNat))
 | _, _ => False
set_option maxHeartbeats 8000000 in
set_option maxRecDepth 100000 in
theorem rnd_ref06_sums_0 (m : List Muon) (f : Int) (v : List Int) (v0_0 : Int) (v0_1 : Int) (nn0 : Nat) (hp : musE m = 0 ∧ 0 ≤ f ∧ (v).length ≤ 1000000) (hi : (musE m = 0 ∧ 0 ≤ f ∧ v.length ≤ 1000000) ∧ 0 ≤ v0_0 ∧ v0_0 ≤ m.length ∧ ((nn0 + 1) : Int) + v0_0 = m.length + 1 ∧ v0_1 = sumW (m.take v0_0.toNat)) : rd_ref06_sums_0 (J_ref06_sums m f v) m f v v0_0 v0_1 nn0 (fun r => LeD r (.tu [.c (.v (.int .i64 (sumW m))), .c (.v (.int .i64 (sumW (passL f v m)))), .c (.v (.int .i64 (sumQ (passL f v m))))])) := by
 obtain ⟨i0, i1, i2, i3, i4⟩ := hi
 obtain ⟨k, rfl⟩ : ∃ k : Nat, v0_0 = k := ⟨v0_0.toNat, by omega⟩
 have hk : (k : Int).toNat = k := rfl
 rw [hk] at i4
 obtain ⟨⟨z1, z2⟩, z3⟩ := mus_ok i0.1
 have ht : ∀ x ∈ m.take k, 1 ≤ x.w ∧ x.w ≤ 100 := fun x hx => (mus_mem i0.1 x (List.mem_of_mem_take hx)).1
 have r1 := sums_rg (m.take k) ht
 have r4 := List.length_take_le k m
 unfold rd_ref06_sums_0
 rw [hk, mus_of, ints_listC]
 refine cond_i (fun h => ⟨by have := of_decide_eq_true h; omega, lt_i fun x1 h1 => lt_i fun x hx => ?_⟩) (fun h => ⟨⟨muP_mus m, numsP_ints v, i0⟩, ?_⟩)
 ·have hlt : k < m.length := by have := of_decide_eq_true h; omega
  obtain ⟨w1, w2, _⟩ := mu_ok (z3 k hlt)
  rw [wi (by omega)] at h1 hx
  subst hx
  refine ⟨_, _, rfl, i0, by omega, by omega, by omega, ?_⟩
  rw [show ((k : Int) + 1).toNat = k + 1 by omega, muAt_take hlt, sumW_app, ← h1, i4]; simp [sumW]
 ·have hge : k = m.length := by have := of_decide_eq_false h; omega
  rw [hge, List.take_length] at i4
  exact ⟨(pasL m f v).length + 1, 0, _, 0, 0, rfl, i0, by omega, by omega, by omega, i4, rfl, rfl⟩
theorem zero_ref06_sums_0 (m : List Muon) (f : Int) (v : List Int) (v0_0 : Int) (v0_1 : Int)  (hi : (musE m = 0 ∧ 0 ≤ f ∧ v.length ≤ 1000000) ∧ 0 ≤ v0_0 ∧ v0_0 ≤ m.length ∧ (0 : Int) + v0_0 = m.length + 1 ∧ v0_1 = sumW (m.take v0_0.toNat)) : False := by
 omega
set_option maxHeartbeats 8000000 in
set_option maxRecDepth 100000 in
theorem rnd_ref06_sums_2 (m : List Muon) (f : Int) (v : List Int) (v2_0 : Int) (v2_1 : Int) (v2_2 : Int) (v2_3 : Int) (nn2 : Nat) (hp : musE m = 0 ∧ 0 ≤ f ∧ (v).length ≤ 1000000) (hi : (musE m = 0 ∧ 0 ≤ f ∧ v.length ≤ 1000000) ∧ 0 ≤ v2_0 ∧ v2_0 ≤ (pasL m f v).length ∧ ((nn2 + 1) : Int) + v2_0 = (pasL m f v).length + 1 ∧ v2_1 = sumW m ∧ v2_2 = sumW (((pasL m f v).take v2_0.toNat).map fun i => muAt m i.toNat) ∧ v2_3 = sumQ (((pasL m f v).take v2_0.toNat).map fun i => muAt m i.toNat)) : rd_ref06_sums_2 (J_ref06_sums m f v) m f v v2_0 v2_1 v2_2 v2_3 nn2 (fun r => LeD r (.tu [.c (.v (.int .i64 (sumW m))), .c (.v (.int .i64 (sumW (passL f v m)))), .c (.v (.int .i64 (sumQ (passL f v m))))])) := by
 obtain ⟨i0, i1, i2, i3, i4, i5, i6⟩ := hi
 obtain ⟨k, rfl⟩ : ∃ k : Nat, v2_0 = k := ⟨v2_0.toNat, by omega⟩
 have hk : (k : Int).toNat = k := rfl
 rw [hk] at i5 i6
 obtain ⟨⟨z1, z2⟩, z3⟩ := mus_ok i0.1
 have hpl := pasL_len m f v
 have hm : ∀ i ∈ (pasL m f v), 0 ≤ i ∧ i < m.length := fun i hi => pasL_mem hi
 have ht : ∀ x ∈ ((pasL m f v).take k).map (fun i => muAt m i.toNat), 1 ≤ x.w ∧ x.w ≤ 100 := fun x hx => by
  obtain ⟨i, hi, e⟩ := List.mem_map.1 hx
  have := hm i (List.mem_of_mem_take hi)
  rw [← e]
  exact (mu_ok (z3 i.toNat (by omega))).1
 have r1 := sums_rg _ ht
 have r4 := List.length_take_le k (pasL m f v)
 rw [List.length_map] at r1
 unfold rd_ref06_sums_2
 rw [hk, mus_of, ints_listC]
 refine cond_i (fun h => ?_) (fun h => ?_)
 ·have hlt : k < (pasL m f v).length := by have := of_decide_eq_true h; omega
  have hx := hm _ (getD_mem hlt)
  obtain ⟨w1, _, _⟩ := mu_ok (z3 ((pasL m f v).getD k 0).toNat (by omega))
  have w3 := sq_rg (d := (muAt m ((pasL m f v).getD k 0).toNat).w) (K := 100) (by omega)
  refine ⟨by omega, by omega, lt_i fun x1 h1 => lt_i fun x2 h2 => lt_i fun x3 h3 => lt_i fun x4 h4 => ?_⟩
  rw [wi (by omega)] at h1 h2 h4
  subst h2 h4
  rw [wi (by omega)] at h3
  refine ⟨_, _, _, _, rfl, i0, by omega, by omega, by omega, i4, ?_, ?_⟩
  ·rw [show ((k : Int) + 1).toNat = k + 1 by omega, take_getD (0 : Int) hlt, List.map_append, sumW_app, ← h1, i5]; simp [sumW]
  ·rw [show ((k : Int) + 1).toNat = k + 1 by omega, take_getD (0 : Int) hlt, List.map_append, sumQ_app, ← h3, i6]; simp [sumQ]
 ·have hge : k = (pasL m f v).length := by have := of_decide_eq_false h; omega
  rw [hge, List.take_length, pasL_at] at i5 i6
  rw [i4, i5, i6]
  exact LeD.refl _
theorem zero_ref06_sums_2 (m : List Muon) (f : Int) (v : List Int) (v2_0 : Int) (v2_1 : Int) (v2_2 : Int) (v2_3 : Int)  (hi : (musE m = 0 ∧ 0 ≤ f ∧ v.length ≤ 1000000) ∧ 0 ≤ v2_0 ∧ v2_0 ≤ (pasL m f v).length ∧ (0 : Int) + v2_0 = (pasL m f v).length + 1 ∧ v2_1 = sumW m ∧ v2_2 = sumW (((pasL m f v).take v2_0.toNat).map fun i => muAt m i.toNat) ∧ v2_3 = sumQ (((pasL m f v).take v2_0.toNat).map fun i => muAt m i.toNat)) : False := by
 omega
set_option maxHeartbeats 8000000 in
set_option maxRecDepth 100000 in
theorem spec_ref06_sums (m : List Muon) (f : Int) (v : List Int) (hp : musE m = 0 ∧ 0 ≤ f ∧ (v).length ≤ 1000000) : vc_ref06_sums (J_ref06_sums m f v) m f v (fun r => LeD r (.tu [.c (.v (.int .i64 (sumW m))), .c (.v (.int .i64 (sumW (passL f v m)))), .c (.v (.int .i64 (sumQ (passL f v m))))])) := by
 unfold vc_ref06_sums
 exact ⟨m.length + 1, 0, 0, rfl, hp, by omega, by omega, by omega, rfl⟩
theorem all_ref06_sums (m : List Muon) (f : Int) (v : List Int) (hp : musE m = 0 ∧ 0 ≤ f ∧ (v).length ≤ 1000000) : AllG (J_ref06_sums m f v) (loopsFn Tryd.prog tab S89 ann_ref06_sums (J_ref06_sums m f v) Tryd.f116 (fun r => LeD r (.tu [.c (.v (.int .i64 (sumW m))), .c (.v (.int .i64 (sumW (passL f v m)))), .c (.v (.int .i64 (sumQ (passL f v m))))]))) := by
 rw [lp_ref06_sums]
 refine ⟨⟨?_, ?_⟩, ⟨?_, ?_⟩, trivial⟩
 ·intro F s h
  obtain _ | ⟨g, F⟩ := F
  case cons => exact h.elim
  obtain ⟨w0, w1, rfl, hi⟩ := h
  exact zero_ref06_sums_0 m f v w0 w1 hi
 ·intro n F s h
  obtain _ | ⟨g, F⟩ := F
  case cons => exact h.elim
  obtain ⟨w0, w1, rfl, hi⟩ := h
  rw [er_ref06_sums_0]
  exact rnd_ref06_sums_0 m f v _ _ _ hp hi
 ·intro F s h
  obtain _ | ⟨g, F⟩ := F
  case cons => exact h.elim
  obtain ⟨w0, w1, w2, w3, rfl, hi⟩ := h
  exact zero_ref06_sums_2 m f v w0 w1 w2 w3 hi
 ·intro n F s h
  obtain _ | ⟨g, F⟩ := F
  case cons => exact h.elim
  obtain ⟨w0, w1, w2, w3, rfl, hi⟩ := h
  rw [er_ref06_sums_2]
  exact rnd_ref06_sums_2 m f v _ _ _ _ _ hp hi
def con_ref06_sums : Con := fun args => match args with
 | [.t (.c (.sl 2 n_m c_m)), .t (.a [.v (.int .i64 f), .sl 1 n_v c_v])] => some (.tu [.c (.v (.int .i64 (sumW (muOf n_m c_m)))), .c (.v (.int .i64 (sumW (passL f (listC n_v mkInt c_v) (muOf n_m c_m))))), .c (.v (.int .i64 (sumQ (passL f (listC n_v mkInt c_v) (muOf n_m c_m)))))], some (muP n_m c_m ∧ numsP 1 n_v c_v ∧ musE (muOf n_m c_m) = 0 ∧ 0 ≤ f ∧ ((listC n_v mkInt c_v)).length ≤ 1000000), false)
 | _ => none
theorem ok_ref06_sums : Ok Tryd.prog 116 con_ref06_sums := by
 refine Ok.fn (ann := ann_ref06_sums) mixed tabOK VS89 ValidIt.no (fn := Tryd.f116) (by kernel_rfl) (by kernel_rfl) fit_ref06_sums fun args r pre fresh h hp => ?_
 unfold con_ref06_sums at h
 split at h
 ·rename_i n_m c_m f n_v c_v
  cases h
  obtain ⟨hp0, hp1, hp⟩ := hp
  refine ⟨rfl, J_ref06_sums (muOf n_m c_m) f (listC n_v mkInt c_v), [.t (.c (.sl 2 ((muOf n_m c_m).length) (musC (muOf n_m c_m)))), .t (.a [.v (.int .i64 f), .sl 1 ((listC n_v mkInt c_v).length) (intsC (listC n_v mkInt c_v))])], ?_, Nat.le_of_ble_eq_true (by kernel_rfl), ?_, ?_⟩
  ·exact (LeA_cons (leT_c ((leL_Muon hp0))) (LeA_cons (leT_a (LeCs.cons (LeC1.refl _) (LeCs.cons ((leL_int hp1)) LeCs.nil))) LeA_nil))
  ·rw [ev_ref06_sums]; exact spec_ref06_sums (muOf n_m c_m) f (listC n_v mkInt c_v) hp
  ·exact all_ref06_sums (muOf n_m c_m) f (listC n_v mkInt c_v) hp
 ·cases h
def S90 : Sum := addS S89 116 con_ref06_sums
theorem VS90 : Valid Tryd.prog S90 := Valid.add VS89 ok_ref06_sums
end Go.Proofs.YtmhgjlapkhdlmaaDoor
set_option linter.unusedVariables false
set_option linter.unusedSimpArgs false
namespace Go.Proofs.YtmhgjlapkhdlmaaDoor
open Go.RowKit Ev
def pasV (m : List Muon) (f : Int) (v : List Int) : List Int := if vvE m f v = 0 then pasL m f v else []
def mk_flash_PassingOf_0 (m : List Muon) (f : Int) (v : List Int) (v0_0 : List Int) (v0_1 : Int) : DS := ⟨[none, none, none, some (.t (.c (.p 3 0))), none, none, none, some (.t (.c (.os 7))), none, none, none, none, none, none, none, none, none, none, none, some (.t (.c (.sl 2 m.length (musC m)))), some (.t (.c (.v (.int .i64 ((m.length : Nat) : Int))))), some (.t (.c (.v (.int .i64 v0_1)))), none, none, none, none, none, none, none, none, none, none, none, none, none], [none, none, none, some (.box 71 [.v (.int .i64 f), .sl 1 v.length (intsC v)]), none, none, none, some (.num 3 .i64 v0_0), none, none, none, none, none, none, none, none, none, none, none, none, none, none, none, none, none, none, none, none, none, none, none, none, none, none, none]⟩
def vc_flash_PassingOf (J : Inv) (m : List Muon) (f : Int) (v : List Int) (post : DV → Prop) : Prop := (muP m.length (musC m) ∧ muSm (muOf m.length (musC m))) ∧ ((numsP 1 v.length (intsC v) ∧ ((listC v.length mkInt (intsC v))).length ≤ 1000000) ∧ ((numsP 1 2 (genC [[.v (.int .i64 (musE (muOf m.length (musC m))))], [.v (.int .i64 (vetE f (listC v.length mkInt (intsC v))))]]) ∧ (([(musE (muOf m.length (musC m))), (vetE f (listC v.length mkInt (intsC v)))] : List Int)).length ≤ 100) ∧ (cond ((firstNZ ([(musE (muOf m.length (musC m))), (vetE f (listC v.length mkInt (intsC v)))] : List Int)) != (0 : Int)) (post (.tu [.c (.v (.slice none 0 0)), .c (.v (.int .i64 (firstNZ ([(musE (muOf m.length (musC m))), (vetE f (listC v.length mkInt (intsC v)))] : List Int))))])) (∃ n, J 0 (n :: []) (mk_flash_PassingOf_0 m f v ([]) 0)))))
def ann_flash_PassingOf : Ann := ⟨fun r => lookA r [(1, ([[], [0], [], [0, 1, 2], [0, 1, 2, 3], [0, 1, 2, 3, 4], [0, 1, 2, 3, 4, 5]], [[11, 13, 14, 15], [13, 14, 15], [11, 13, 14, 15], [14, 15], [15], [], []]))], fun b => lookA b [(0, (none, some ⟨[3, 19, 20, 21], [3], [(7, .num 3 .i64 ([]))]⟩))], fun _ => [], noIt, true, fun _ => none, fun _ => none⟩
theorem ev_flash_PassingOf (J : Inv) (m : List Muon) (f : Int) (v : List Int) (post : DV → Prop) : evFn Tryd.prog tab S90 ann_flash_PassingOf J Tryd.f43 [.t (.c (.sl 2 m.length (musC m))), .t (.a [.v (.int .i64 f), .sl 1 v.length (intsC v)])] post = vc_flash_PassingOf J m f v post := by kernel_rfl
theorem fit_flash_PassingOf : okFn ann_flash_PassingOf Tryd.f43 = true := by kernel_rfl
def rd_flash_PassingOf_0 (J : Inv) (m : List Muon) (f : Int) (v : List Int) (v0_0 : List Int) (v0_1 : Int) (nn0 : Nat) (post : DV → Prop) : Prop := cond (decide (v0_1 < ((m.length : Nat) : Int))) ((0 ≤ v0_1 ∧ v0_1 < ((m.length : Nat) : Int)) ∧ ((numsP 1 ((muAt m v0_1.toNat).s.length) (intsC (muAt m v0_1.toNat).s) ∧ numsP 1 v.length (intsC v) ∧ 0 ≤ f ∧ ((listC ((muAt m v0_1.toNat).s.length) mkInt (intsC (muAt m v0_1.toNat).s))).length ≤ 1000000 ∧ ((listC v.length mkInt (intsC v))).length ≤ 1000000) ∧ (cond (passB f (listC v.length mkInt (intsC v)) ⟨(listC ((muAt m v0_1.toNat).s.length) mkInt (intsC (muAt m v0_1.toNat).s)), ((muAt m v0_1.toNat).w)⟩) (((IntKind.i64 = IntKind.i64 ∧ True) ∧ roomP 8 (v0_0.length + ([v0_1] : List Int).length)) ∧ (lt (IntKind.i64.wrap (v0_1 + (1 : Int))) fun x1 => J 0 (nn0 :: []) (mk_flash_PassingOf_0 m f v (v0_0 ++ ([v0_1])) x1))) (lt (IntKind.i64.wrap (v0_1 + (1 : Int))) fun x2 => J 0 (nn0 :: []) (mk_flash_PassingOf_0 m f v v0_0 x2))))) (post (.tu [.c (.sl 1 v0_0.length (numsC .i64 v0_0)), .c (.v (.int .i64 0))]))
theorem er_flash_PassingOf_0 (J : Inv) (m : List Muon) (f : Int) (v : List Int) (v0_0 : List Int) (v0_1 : Int) (nn0 : Nat) (post : DV → Prop) : round Tryd.prog tab S90 ann_flash_PassingOf J Tryd.f43 post 0 (nn0 :: []) (mk_flash_PassingOf_0 m f v v0_0 v0_1) = rd_flash_PassingOf_0 J m f v v0_0 v0_1 nn0 post := by kernel_rfl
theorem lp_flash_PassingOf (J : Inv) (post : DV → Prop) : AllG J (loopsFn Tryd.prog tab S90 ann_flash_PassingOf J Tryd.f43 post) = (((∀ F s, ¬ J 0 (0 :: F) s) ∧ ∀ n F s, J 0 ((n + 1) :: F) s → round Tryd.prog tab S90 ann_flash_PassingOf J Tryd.f43 post 0 (n :: F) s) ∧ True) := by kernel_rfl
def J_flash_PassingOf (m : List Muon) (f : Int) (v : List Int) : Inv := fun b F s => match b, F with
 | 0, [nn0] => ∃ (v0_0 : List Int) (v0_1 : Int), s = mk_flash_PassingOf_0 m f v v0_0 v0_1 ∧ (vvE m f v = 0 ∧ 0 ≤ v0_1 ∧ v0_1 ≤ m.length ∧ (nn0 : Int) + v0_1 = m.length + 1 ∧ v0_0 = ((List.range v0_1.toNat).filter fun i => passB f v (muAt m i)).map fun i : Nat => (i : Int))
 | _, _ => False
theorem rnd_flash_PassingOf_0 (m : List Muon) (f : Int) (v : List Int) (v0_0 : List Int) (v0_1 : Int) (nn0 : Nat) (hp : muSm m ∧ (v).length ≤ 1000000) (hi : vvE m f v = 0 ∧ 0 ≤ v0_1 ∧ v0_1 ≤ m.length ∧ ((nn0 + 1) : Int) + v0_1 = m.length + 1 ∧ v0_0 = ((List.range v0_1.toNat).filter fun i => passB f v (muAt m i)).map fun i : Nat => (i : Int)) : rd_flash_PassingOf_0 (J_flash_PassingOf m f v) m f v v0_0 v0_1 nn0 (fun r => LeD r (.tu [.c (.sl 1 ((pasV m f v).length) (intsC (pasV m f v))), .c (.v (.int .i64 (vvE m f v)))])) := by
 obtain ⟨i0, i1, i2, i3, i4⟩ := hi
 obtain ⟨k, rfl⟩ : ∃ k : Nat, v0_1 = k := ⟨v0_1.toNat, by omega⟩
 have hk : (k : Int).toNat = k := rfl
 rw [hk] at i4
 obtain ⟨k1, k2⟩ := fn2 i0
 obtain ⟨⟨z1, z2⟩, z3⟩ := mus_ok k1
 obtain ⟨f1, f2, _⟩ := vet_ok k2
 have hlen : v0_0.length ≤ k := by
  rw [i4, List.length_map]
  have := List.length_filter_le (fun i => passB f v (muAt m i)) (List.range k)
  rwa [List.length_range] at this
 unfold rd_flash_PassingOf_0
 rw [hk, ints_listC, ints_listC]
 refine cond_i (fun h => ?_) (fun h => ?_)
 ·have hlt : k < m.length := by have := of_decide_eq_true h; omega
  obtain ⟨w1, w2, _⟩ := mu_ok (z3 k hlt)
  have eM : (⟨(muAt m k).s, (muAt m k).w⟩ : Muon) = muAt m k := rfl
  rw [eM]
  have eR : ((List.range (k + 1)).filter fun i => passB f v (muAt m i)) = ((List.range k).filter fun i => passB f v (muAt m i)) ++ (if passB f v (muAt m k) = true then [k] else []) := by
   rw [List.range_succ, List.filter_append, List.filter_cons]; rfl
  refine ⟨by omega, ⟨numsP_ints _, numsP_ints _, by omega, by omega, by omega⟩, cond_i (fun e => ⟨⟨⟨rfl, trivial⟩, ?_⟩, lt_i fun x hx => ?_⟩) (fun e => lt_i fun x hx => ?_)⟩
  ·unfold roomP maxLen; simp; omega
  ·rw [wi (by omega)] at hx
   subst hx
   refine ⟨_, _, rfl, i0, by omega, by omega, by omega, ?_⟩
   rw [show ((k : Int) + 1).toNat = k + 1 by omega, eR, if_pos e, List.map_append, i4]; rfl
  ·rw [wi (by omega)] at hx
   subst hx
   refine ⟨_, _, rfl, i0, by omega, by omega, by omega, ?_⟩
   rw [show ((k : Int) + 1).toNat = k + 1 by omega, eR, if_neg (by rw [e]; simp), List.append_nil, i4]
 ·have hge : k = m.length := by have := of_decide_eq_false h; omega
  rw [show pasV m f v = pasL m f v from if_pos i0, i4, hge, i0]
  exact LeD.refl _
theorem zero_flash_PassingOf_0 (m : List Muon) (f : Int) (v : List Int) (v0_0 : List Int) (v0_1 : Int)  (hi : vvE m f v = 0 ∧ 0 ≤ v0_1 ∧ v0_1 ≤ m.length ∧ (0 : Int) + v0_1 = m.length + 1 ∧ v0_0 = ((List.range v0_1.toNat).filter fun i => passB f v (muAt m i)).map fun i : Nat => (i : Int)) : False := by
 omega
theorem spec_flash_PassingOf (m : List Muon) (f : Int) (v : List Int) (hp : muSm m ∧ (v).length ≤ 1000000) : vc_flash_PassingOf (J_flash_PassingOf m f v) m f v (fun r => LeD r (.tu [.c (.sl 1 ((pasV m f v).length) (intsC (pasV m f v))), .c (.v (.int .i64 (vvE m f v)))])) := by
 unfold vc_flash_PassingOf
 rw [mus_of, ints_listC]
 refine ⟨⟨muP_mus m, hp.1⟩, ⟨numsP_ints v, hp.2⟩, ⟨numsP_gen [_, _], Nat.le_of_ble_eq_true rfl⟩, cond_i (fun h => ?_) (fun h => ?_)⟩
 ·have h : vvE m f v ≠ 0 := by unfold vvE; simpa using h
  rw [show pasV m f v = [] from if_neg h]
  exact le_tu le_nil (LeD.refl _)
 ·have h : vvE m f v = 0 := by unfold vvE; simpa using h
  exact ⟨m.length + 1, [], 0, rfl, h, by omega, by omega, by omega, rfl⟩
theorem all_flash_PassingOf (m : List Muon) (f : Int) (v : List Int) (hp : muSm m ∧ (v).length ≤ 1000000) : AllG (J_flash_PassingOf m f v) (loopsFn Tryd.prog tab S90 ann_flash_PassingOf (J_flash_PassingOf m f v) Tryd.f43 (fun r => LeD r (.tu [.c (.sl 1 ((pasV m f v).length) (intsC (pasV m f v))), .c (.v (.int .i64 (vvE m f v)))]))) := by
 rw [lp_flash_PassingOf]
 refine ⟨⟨?_, ?_⟩, trivial⟩
 ·intro F s h
  obtain _ | ⟨g, F⟩ := F
  case cons => exact h.elim
  obtain ⟨w0, w1, rfl, hi⟩ := h
  exact zero_flash_PassingOf_0 m f v w0 w1 hi
 ·intro n F s h
  obtain _ | ⟨g, F⟩ := F
  case cons => exact h.elim
  obtain ⟨w0, w1, rfl, hi⟩ := h
  rw [er_flash_PassingOf_0]
  exact rnd_flash_PassingOf_0 m f v _ _ _ hp hi
def con_flash_PassingOf : Con := fun args => match args with
 | [.t (.c (.sl 2 n_m c_m)), .t (.a [.v (.int .i64 f), .sl 1 n_v c_v])] => some (.tu [.c (.sl 1 ((pasV (muOf n_m c_m) f (listC n_v mkInt c_v)).length) (intsC (pasV (muOf n_m c_m) f (listC n_v mkInt c_v)))), .c (.v (.int .i64 (vvE (muOf n_m c_m) f (listC n_v mkInt c_v))))], some (muP n_m c_m ∧ numsP 1 n_v c_v ∧ muSm (muOf n_m c_m) ∧ ((listC n_v mkInt c_v)).length ≤ 1000000), true)
 | _ => none
theorem ok_flash_PassingOf : Ok Tryd.prog 43 con_flash_PassingOf := by
 refine Ok.fnFr (ann := ann_flash_PassingOf) mixed tabOK VS90 ValidIt.no rfl (fn := Tryd.f43) (by kernel_rfl) (by kernel_rfl) fit_flash_PassingOf fun args r pre fresh h hp => ?_
 unfold con_flash_PassingOf at h
 split at h
 ·rename_i n_m c_m f n_v c_v
  cases h
  obtain ⟨hp0, hp1, hp⟩ := hp
  refine ⟨rfl, (by intro x hx; simp only [List.mem_cons, List.not_mem_nil, or_false] at hx; rcases hx with rfl | rfl; exact (fun i j _ hj => plain_int _ i j); exact trivial), J_flash_PassingOf (muOf n_m c_m) f (listC n_v mkInt c_v), [.t (.c (.sl 2 ((muOf n_m c_m).length) (musC (muOf n_m c_m)))), .t (.a [.v (.int .i64 f), .sl 1 ((listC n_v mkInt c_v).length) (intsC (listC n_v mkInt c_v))])], ?_, Nat.le_of_ble_eq_true (by kernel_rfl), ?_, ?_⟩
  ·exact (LeA_cons (leT_c ((leL_Muon hp0))) (LeA_cons (leT_a (LeCs.cons (LeC1.refl _) (LeCs.cons ((leL_int hp1)) LeCs.nil))) LeA_nil))
  ·rw [ev_flash_PassingOf]; exact spec_flash_PassingOf (muOf n_m c_m) f (listC n_v mkInt c_v) hp
  ·exact all_flash_PassingOf (muOf n_m c_m) f (listC n_v mkInt c_v) hp
 ·cases h
def S91 : Sum := addS S90 43 con_flash_PassingOf
theorem VS91 : Valid Tryd.prog S91 := Valid.add VS90 ok_flash_PassingOf
def vc_flash_ErrorOf (m : List Muon) (f : Int) (v : List Int) (post : DV → Prop) : Prop := (muP m.length (musC m) ∧ muSm (muOf m.length (musC m))) ∧ ((numsP 1 v.length (intsC v) ∧ ((listC v.length mkInt (intsC v))).length ≤ 1000000) ∧ ((numsP 1 2 (genC [[.v (.int .i64 (musE (muOf m.length (musC m))))], [.v (.int .i64 (vetE f (listC v.length mkInt (intsC v))))]]) ∧ (([(musE (muOf m.length (musC m))), (vetE f (listC v.length mkInt (intsC v)))] : List Int)).length ≤ 100) ∧ (cond ((firstNZ ([(musE (muOf m.length (musC m))), (vetE f (listC v.length mkInt (intsC v)))] : List Int)) != (0 : Int)) (post (.tu [.a [.v (.int .i64 0), .v (.int .i64 0)], .c (.v (.int .i64 (firstNZ ([(musE (muOf m.length (musC m))), (vetE f (listC v.length mkInt (intsC v)))] : List Int))))])) ((muP m.length (musC m) ∧ numsP 1 v.length (intsC v) ∧ musE (muOf m.length (musC m)) = 0 ∧ vetE f (listC v.length mkInt (intsC v)) = 0) ∧ (lt (IntKind.i64.wrap ((sumW (muOf m.length (musC m))) * (sumW (muOf m.length (musC m))))) fun x1 => (0 ≤ (sumQ (passL f (listC v.length mkInt (intsC v)) (muOf m.length (musC m)))) ∧ (sumQ (passL f (listC v.length mkInt (intsC v)) (muOf m.length (musC m)))) ≤ 1000000000000 ∧ 0 < x1 ∧ x1 ≤ 1000000000000) ∧ (post (.tu [.a [.v (.int .i64 (lowN (sumQ (passL f (listC v.length mkInt (intsC v)) (muOf m.length (musC m)))) x1)), .v (.int .i64 (lowD (sumQ (passL f (listC v.length mkInt (intsC v)) (muOf m.length (musC m)))) x1))], .c (.v (.int .i64 0))])))))))
def ann_flash_ErrorOf : Ann := ⟨fun r => lookA r [(1, ([[], [0], [], [0, 1, 2], [0, 1, 2, 3], [0, 1, 2, 3, 4], [0, 1, 2, 3, 4, 5]], [[11, 13, 14, 15], [13, 14, 15], [11, 13, 14, 15], [14, 15], [15], [], []]))], fun _ => none, fun _ => [], noIt, false, fun _ => none, fun _ => none⟩
theorem ev_flash_ErrorOf (J : Inv) (m : List Muon) (f : Int) (v : List Int) (post : DV → Prop) : evFn Tryd.prog tab S91 ann_flash_ErrorOf J Tryd.f45 [.t (.c (.sl 2 m.length (musC m))), .t (.a [.v (.int .i64 f), .sl 1 v.length (intsC v)])] post = vc_flash_ErrorOf m f v post := by kernel_rfl
theorem fit_flash_ErrorOf : okFn ann_flash_ErrorOf Tryd.f45 = true := by kernel_rfl
theorem lp_flash_ErrorOf (J : Inv) (post : DV → Prop) : AllG J (loopsFn Tryd.prog tab S91 ann_flash_ErrorOf J Tryd.f45 post) = (True) := by kernel_rfl
theorem spec_flash_ErrorOf (m : List Muon) (f : Int) (v : List Int) (hp : muSm m ∧ (v).length ≤ 1000000) : vc_flash_ErrorOf m f v (fun r => LeD r (.tu [.a [.v (.int .i64 (erQN m f v)), .v (.int .i64 (erQD m f v))], .c (.v (.int .i64 (vvE m f v)))])) := by
 unfold vc_flash_ErrorOf
 rw [mus_of, ints_listC]
 refine ⟨⟨muP_mus m, hp.1⟩, ⟨numsP_ints v, hp.2⟩, ⟨numsP_gen [_, _], Nat.le_of_ble_eq_true rfl⟩, cond_i (fun h => ?_) (fun h => ?_)⟩
 ·have h : vvE m f v ≠ 0 := by unfold vvE; simpa using h
  rw [show erQN m f v = 0 from if_neg h, show erQD m f v = 0 from if_neg h]
  exact LeD.refl _
 ·have h : vvE m f v = 0 := by unfold vvE; simpa using h
  have k := fn2 h
  have r := pass_rg k.1 f v
  have z := (mus_ok k.1).1
  have mm := mul_rg (x := sumW m) (y := sumW m) (A := 4000) (B := 4000) (C := 16000000) (by omega) (by omega) (by decide)
  have mp := Int.mul_pos (a := sumW m) (b := sumW m) (by omega) (by omega)
  rw [show erQN m f v = _ from if_pos h, show erQD m f v = _ from if_pos h, h]
  refine ⟨⟨muP_mus m, numsP_ints v, k⟩, lt_i fun x hx => ?_⟩
  rw [wi (by omega)] at hx
  subst hx
  exact ⟨by omega, LeD.refl _⟩
def con_flash_ErrorOf : Con := fun args => match args with
 | [.t (.c (.sl 2 n_m c_m)), .t (.a [.v (.int .i64 f), .sl 1 n_v c_v])] => some (.tu [.a [.v (.int .i64 (erQN (muOf n_m c_m) f (listC n_v mkInt c_v))), .v (.int .i64 (erQD (muOf n_m c_m) f (listC n_v mkInt c_v)))], .c (.v (.int .i64 (vvE (muOf n_m c_m) f (listC n_v mkInt c_v))))], some (muP n_m c_m ∧ numsP 1 n_v c_v ∧ muSm (muOf n_m c_m) ∧ ((listC n_v mkInt c_v)).length ≤ 1000000), false)
 | _ => none
theorem ok_flash_ErrorOf : Ok Tryd.prog 45 con_flash_ErrorOf := by
 refine Ok.fn (ann := ann_flash_ErrorOf) mixed tabOK VS91 ValidIt.no (fn := Tryd.f45) (by kernel_rfl) (by kernel_rfl) fit_flash_ErrorOf fun args r pre fresh h hp => ?_
 unfold con_flash_ErrorOf at h
 split at h
 ·rename_i n_m c_m f n_v c_v
  cases h
  obtain ⟨hp0, hp1, hp⟩ := hp
  refine ⟨rfl, fun _ _ _ => False, [.t (.c (.sl 2 ((muOf n_m c_m).length) (musC (muOf n_m c_m)))), .t (.a [.v (.int .i64 f), .sl 1 ((listC n_v mkInt c_v).length) (intsC (listC n_v mkInt c_v))])], ?_, Nat.le_of_ble_eq_true (by kernel_rfl), ?_, ?_⟩
  ·exact (LeA_cons (leT_c ((leL_Muon hp0))) (LeA_cons (leT_a (LeCs.cons (LeC1.refl _) (LeCs.cons ((leL_int hp1)) LeCs.nil))) LeA_nil))
  ·rw [ev_flash_ErrorOf]; exact spec_flash_ErrorOf (muOf n_m c_m) f (listC n_v mkInt c_v) hp
  ·rw [lp_flash_ErrorOf]; trivial
 ·cases h
def S92 : Sum := addS S91 45 con_flash_ErrorOf
theorem VS92 : Valid Tryd.prog S92 := Valid.add VS91 ok_flash_ErrorOf
def vc_ref06_Part (m : List Muon) (f : Int) (v : List Int) (post : DV → Prop) : Prop := (muP m.length (musC m) ∧ numsP 1 v.length (intsC v) ∧ musE (muOf m.length (musC m)) = 0 ∧ 0 ≤ f ∧ ((listC v.length mkInt (intsC v))).length ≤ 1000000) ∧ ((0 ≤ (sumW (passL f (listC v.length mkInt (intsC v)) (muOf m.length (musC m)))) ∧ (sumW (passL f (listC v.length mkInt (intsC v)) (muOf m.length (musC m)))) ≤ 1000000000000 ∧ 0 < (sumW (muOf m.length (musC m))) ∧ (sumW (muOf m.length (musC m))) ≤ 1000000000000) ∧ (post (.t (.a [.v (.int .i64 (lowN (sumW (passL f (listC v.length mkInt (intsC v)) (muOf m.length (musC m)))) (sumW (muOf m.length (musC m))))), .v (.int .i64 (lowD (sumW (passL f (listC v.length mkInt (intsC v)) (muOf m.length (musC m)))) (sumW (muOf m.length (musC m)))))]))))
def ann_ref06_Part : Ann := ⟨fun _ => none, fun _ => none, fun _ => [], noIt, false, fun _ => none, fun _ => none⟩
theorem ev_ref06_Part (J : Inv) (m : List Muon) (f : Int) (v : List Int) (post : DV → Prop) : evFn Tryd.prog tab S92 ann_ref06_Part J Tryd.f49 [.t (.c (.sl 2 m.length (musC m))), .t (.a [.v (.int .i64 f), .sl 1 v.length (intsC v)])] post = vc_ref06_Part m f v post := by kernel_rfl
theorem fit_ref06_Part : okFn ann_ref06_Part Tryd.f49 = true := by kernel_rfl
theorem lp_ref06_Part (J : Inv) (post : DV → Prop) : AllG J (loopsFn Tryd.prog tab S92 ann_ref06_Part J Tryd.f49 post) = (True) := by kernel_rfl
theorem spec_ref06_Part (m : List Muon) (f : Int) (v : List Int) (hp : musE m = 0 ∧ 0 ≤ f ∧ (v).length ≤ 1000000) : vc_ref06_Part m f v (fun r => LeD r (.t (.a [.v (.int .i64 (lowN (sumW (passL f v m)) (sumW m))), .v (.int .i64 (lowD (sumW (passL f v m)) (sumW m)))]))) := by
 have r := pass_rg hp.1 f v
 have z := (mus_ok hp.1).1
 unfold vc_ref06_Part
 rw [mus_of, ints_listC]
 exact ⟨⟨muP_mus m, numsP_ints v, hp⟩, by omega, LeD.refl _⟩
def con_ref06_Part : Con := fun args => match args with
 | [.t (.c (.sl 2 n_m c_m)), .t (.a [.v (.int .i64 f), .sl 1 n_v c_v])] => some (.t (.a [.v (.int .i64 (lowN (sumW (passL f (listC n_v mkInt c_v) (muOf n_m c_m))) (sumW (muOf n_m c_m)))), .v (.int .i64 (lowD (sumW (passL f (listC n_v mkInt c_v) (muOf n_m c_m))) (sumW (muOf n_m c_m))))]), some (muP n_m c_m ∧ numsP 1 n_v c_v ∧ musE (muOf n_m c_m) = 0 ∧ 0 ≤ f ∧ ((listC n_v mkInt c_v)).length ≤ 1000000), false)
 | _ => none
theorem ok_ref06_Part : Ok Tryd.prog 49 con_ref06_Part := by
 refine Ok.fn (ann := ann_ref06_Part) mixed tabOK VS92 ValidIt.no (fn := Tryd.f49) (by kernel_rfl) (by kernel_rfl) fit_ref06_Part fun args r pre fresh h hp => ?_
 unfold con_ref06_Part at h
 split at h
 ·rename_i n_m c_m f n_v c_v
  cases h
  obtain ⟨hp0, hp1, hp⟩ := hp
  refine ⟨rfl, fun _ _ _ => False, [.t (.c (.sl 2 ((muOf n_m c_m).length) (musC (muOf n_m c_m)))), .t (.a [.v (.int .i64 f), .sl 1 ((listC n_v mkInt c_v).length) (intsC (listC n_v mkInt c_v))])], ?_, Nat.le_of_ble_eq_true (by kernel_rfl), ?_, ?_⟩
  ·exact (LeA_cons (leT_c ((leL_Muon hp0))) (LeA_cons (leT_a (LeCs.cons (LeC1.refl _) (LeCs.cons ((leL_int hp1)) LeCs.nil))) LeA_nil))
  ·rw [ev_ref06_Part]; exact spec_ref06_Part (muOf n_m c_m) f (listC n_v mkInt c_v) hp
  ·rw [lp_ref06_Part]; trivial
 ·cases h
def S93 : Sum := addS S92 49 con_ref06_Part
theorem VS93 : Valid Tryd.prog S93 := Valid.add VS92 ok_ref06_Part
def vc_ref06_Error (m : List Muon) (f : Int) (v : List Int) (post : DV → Prop) : Prop := (muP m.length (musC m) ∧ numsP 1 v.length (intsC v) ∧ musE (muOf m.length (musC m)) = 0 ∧ 0 ≤ f ∧ ((listC v.length mkInt (intsC v))).length ≤ 1000000) ∧ (lt (IntKind.i64.wrap ((sumW (muOf m.length (musC m))) * (sumW (muOf m.length (musC m))))) fun x1 => (0 ≤ (sumQ (passL f (listC v.length mkInt (intsC v)) (muOf m.length (musC m)))) ∧ (sumQ (passL f (listC v.length mkInt (intsC v)) (muOf m.length (musC m)))) ≤ 1000000000000 ∧ 0 < x1 ∧ x1 ≤ 1000000000000) ∧ (post (.t (.a [.v (.int .i64 (lowN (sumQ (passL f (listC v.length mkInt (intsC v)) (muOf m.length (musC m)))) x1)), .v (.int .i64 (lowD (sumQ (passL f (listC v.length mkInt (intsC v)) (muOf m.length (musC m)))) x1))]))))
def ann_ref06_Error : Ann := ⟨fun _ => none, fun _ => none, fun _ => [], noIt, false, fun _ => none, fun _ => none⟩
theorem ev_ref06_Error (J : Inv) (m : List Muon) (f : Int) (v : List Int) (post : DV → Prop) : evFn Tryd.prog tab S93 ann_ref06_Error J Tryd.f50 [.t (.c (.sl 2 m.length (musC m))), .t (.a [.v (.int .i64 f), .sl 1 v.length (intsC v)])] post = vc_ref06_Error m f v post := by kernel_rfl
theorem fit_ref06_Error : okFn ann_ref06_Error Tryd.f50 = true := by kernel_rfl
theorem lp_ref06_Error (J : Inv) (post : DV → Prop) : AllG J (loopsFn Tryd.prog tab S93 ann_ref06_Error J Tryd.f50 post) = (True) := by kernel_rfl
theorem spec_ref06_Error (m : List Muon) (f : Int) (v : List Int) (hp : musE m = 0 ∧ 0 ≤ f ∧ (v).length ≤ 1000000) : vc_ref06_Error m f v (fun r => LeD r (.t (.a [.v (.int .i64 (lowN (sumQ (passL f v m)) (sumW m * sumW m))), .v (.int .i64 (lowD (sumQ (passL f v m)) (sumW m * sumW m)))]))) := by
 have r := pass_rg hp.1 f v
 have z := (mus_ok hp.1).1
 have mm := mul_rg (x := sumW m) (y := sumW m) (A := 4000) (B := 4000) (C := 16000000) (by omega) (by omega) (by decide)
 have mp := Int.mul_pos (a := sumW m) (b := sumW m) (by omega) (by omega)
 unfold vc_ref06_Error
 rw [mus_of, ints_listC]
 refine ⟨⟨muP_mus m, numsP_ints v, hp⟩, lt_i fun x hx => ?_⟩
 rw [wi (by omega)] at hx
 subst hx
 exact ⟨by omega, LeD.refl _⟩
def con_ref06_Error : Con := fun args => match args with
 | [.t (.c (.sl 2 n_m c_m)), .t (.a [.v (.int .i64 f), .sl 1 n_v c_v])] => some (.t (.a [.v (.int .i64 (lowN (sumQ (passL f (listC n_v mkInt c_v) (muOf n_m c_m))) (sumW (muOf n_m c_m) * sumW (muOf n_m c_m)))), .v (.int .i64 (lowD (sumQ (passL f (listC n_v mkInt c_v) (muOf n_m c_m))) (sumW (muOf n_m c_m) * sumW (muOf n_m c_m))))]), some (muP n_m c_m ∧ numsP 1 n_v c_v ∧ musE (muOf n_m c_m) = 0 ∧ 0 ≤ f ∧ ((listC n_v mkInt c_v)).length ≤ 1000000), false)
 | _ => none
theorem ok_ref06_Error : Ok Tryd.prog 50 con_ref06_Error := by
 refine Ok.fn (ann := ann_ref06_Error) mixed tabOK VS93 ValidIt.no (fn := Tryd.f50) (by kernel_rfl) (by kernel_rfl) fit_ref06_Error fun args r pre fresh h hp => ?_
 unfold con_ref06_Error at h
 split at h
 ·rename_i n_m c_m f n_v c_v
  cases h
  obtain ⟨hp0, hp1, hp⟩ := hp
  refine ⟨rfl, fun _ _ _ => False, [.t (.c (.sl 2 ((muOf n_m c_m).length) (musC (muOf n_m c_m)))), .t (.a [.v (.int .i64 f), .sl 1 ((listC n_v mkInt c_v).length) (intsC (listC n_v mkInt c_v))])], ?_, Nat.le_of_ble_eq_true (by kernel_rfl), ?_, ?_⟩
  ·exact (LeA_cons (leT_c ((leL_Muon hp0))) (LeA_cons (leT_a (LeCs.cons (LeC1.refl _) (LeCs.cons ((leL_int hp1)) LeCs.nil))) LeA_nil))
  ·rw [ev_ref06_Error]; exact spec_ref06_Error (muOf n_m c_m) f (listC n_v mkInt c_v) hp
  ·rw [lp_ref06_Error]; trivial
 ·cases h
def S94 : Sum := addS S93 50 con_ref06_Error
theorem VS94 : Valid Tryd.prog S94 := Valid.add VS93 ok_ref06_Error
end Go.Proofs.YtmhgjlapkhdlmaaDoor