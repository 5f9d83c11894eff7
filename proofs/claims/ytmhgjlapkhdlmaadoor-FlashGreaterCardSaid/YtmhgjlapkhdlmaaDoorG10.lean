/- Texts of this claim, together. -/
import Derived.Test.YtmhgjlapkhdlmaaDoorG9
import Derived.Test.YtmhgjlapkhdlmaaDoorG5

set_option linter.unusedVariables false
set_option linter.unusedSimpArgs false
namespace Go.Proofs.YtmhgjlapkhdlmaaDoor
open Go.RowKit Ev
theorem ints_fwd (l : List Int) : ((List.range l.length).map fun i => fwd ((intsC l) i) 0 1) = l.map fun n => [CV.v (.int .i64 n)] := by
 apply List.ext_getElem?
 intro i
 by_cases hi : i < l.length
 ·simp only [List.getElem?_map, List.getElem?_range hi, Option.map_some, List.getElem?_eq_getElem hi]
  simp [fwd, intsC, List.getD, hi]
 ·rw [List.getElem?_eq_none (by simpa using hi), List.getElem?_eq_none (by simpa using hi)]
theorem le_ints (l : List Int) : LeD (.t (.c (.sl 1 (l.map fun n => [CV.v (.int .i64 n)]).length (genC (l.map fun n => [CV.v (.int .i64 n)]))))) (.t (.c (.sl 1 l.length (intsC l)))) := by
 rw [List.length_map]
 refine leSl fun i j hi hj => ?_
 unfold genC intsC
 rw [show j = 0 by omega]
 simp [List.getD, hi]
theorem getD_mem {l : List Int} {k : Nat} (h : k < l.length) : l.getD k 0 ∈ l := by
 rw [show l.getD k 0 = l[k] by simp [List.getD, h]]; exact List.getElem_mem h
theorem mem_getD {l : List Int} {a : Int} (h : a ∈ l) : ∃ j, j < l.length ∧ l.getD j 0 = a := by
 obtain ⟨j, hj, e⟩ := List.getElem_of_mem h
 exact ⟨j, hj, by simp [List.getD, hj, e]⟩
theorem all_getD {l : List Int} {p : Int → Bool} (h : ∀ i, i < l.length → p (l.getD i 0) = true) : l.all p = true := by
 rw [List.all_eq_true]
 intro x hx
 obtain ⟨j, hj, e⟩ := mem_getD hx
 rw [← e]; exact h j hj
theorem cnt_le {n : Nat} {K : Int} (h : cntE n K = 0) : (n : Int) ≤ K := by
 have h2 := (fn2 h).2
 rw [unl_0 (by decide)] at h2
 exact of_decide_eq_true h2
def fewB (m : List Muon) : Bool := decide (m.length ≤ 42) && (List.range m.length).all fun i => decide ((muAt m i).s.length ≤ 10)
theorem fewB_iff {m : List Muon} : fewB m = true ↔ m.length ≤ 42 ∧ ∀ k, k < m.length → (muAt m k).s.length ≤ 10 := by
 unfold fewB
 rw [Bool.and_eq_true, decide_eq_true_eq, List.all_eq_true]
 constructor
 ·rintro ⟨h1, h2⟩; exact ⟨h1, fun k hk => of_decide_eq_true (h2 k (List.mem_range.2 hk))⟩
 ·rintro ⟨h1, h2⟩; exact ⟨h1, fun k hk => decide_eq_true (h2 k (List.mem_range.1 hk))⟩
theorem fewB_ok {m : List Muon} (h : fewB m = true) : m.length ≤ 42 ∧ ∀ k, k < m.length → (muAt m k).s.length ≤ 10 := fewB_iff.1 h
def pasL (m : List Muon) (f : Int) (v : List Int) : List Int := ((List.range m.length).filter fun i => passB f v (muAt m i)).map fun i : Nat => (i : Int)
theorem pasL_len (m : List Muon) (f : Int) (v : List Int) : (pasL m f v).length ≤ m.length := by
 unfold pasL
 rw [List.length_map]
 have := List.length_filter_le (fun i => passB f v (muAt m i)) (List.range m.length)
 rwa [List.length_range] at this
def vc_base_CopyInts (l : List Int) (post : DV → Prop) : Prop := (roomP 8 (([] : List (List CV)).length + ((List.range l.length).map fun i => fwd ((intsC l) i) 0 1).length)) ∧ (post (.t (.c (.sl 1 ((([] : List (List CV)) ++ ((List.range l.length).map fun i => fwd ((intsC l) i) 0 1)).length) (genC (([] : List (List CV)) ++ ((List.range l.length).map fun i => fwd ((intsC l) i) 0 1)))))))
def ann_base_CopyInts : Ann := ⟨fun _ => none, fun _ => none, fun _ => [], noIt, true, fun _ => none, fun _ => none⟩
theorem ev_base_CopyInts (J : Inv) (l : List Int) (post : DV → Prop) : evFn Tryd.prog tab S80 ann_base_CopyInts J Tryd.f29 [.t (.c (.sl 1 l.length (intsC l)))] post = vc_base_CopyInts l post := by kernel_rfl
theorem fit_base_CopyInts : okFn ann_base_CopyInts Tryd.f29 = true := by kernel_rfl
theorem lp_base_CopyInts (J : Inv) (post : DV → Prop) : AllG J (loopsFn Tryd.prog tab S80 ann_base_CopyInts J Tryd.f29 post) = (True) := by kernel_rfl
theorem spec_base_CopyInts (l : List Int) (hp : (l).length ≤ 1000000) : vc_base_CopyInts l (fun r => LeD r (.t (.c (.sl 1 l.length (intsC l))))) := by
 unfold vc_base_CopyInts
 rw [ints_fwd, List.nil_append]
 refine ⟨?_, le_ints l⟩
 unfold roomP maxLen
 simp
 omega
def con_base_CopyInts : Con := fun args => match args with
 | [.t (.c (.sl 1 n_l c_l))] => some (.t (.c (.sl 1 ((listC n_l mkInt c_l).length) (intsC (listC n_l mkInt c_l)))), some (numsP 1 n_l c_l ∧ ((listC n_l mkInt c_l)).length ≤ 1000000), true)
 | _ => none
theorem ok_base_CopyInts : Ok Tryd.prog 29 con_base_CopyInts := by
 refine Ok.fnFr (ann := ann_base_CopyInts) mixed tabOK VS80 ValidIt.no rfl (fn := Tryd.f29) (by kernel_rfl) (by kernel_rfl) fit_base_CopyInts fun args r pre fresh h hp => ?_
 unfold con_base_CopyInts at h
 split at h
 ·rename_i n_l c_l
  cases h
  obtain ⟨hp0, hp⟩ := hp
  refine ⟨rfl, (fun i j _ hj => plain_int _ i j), fun _ _ _ => False, [.t (.c (.sl 1 ((listC n_l mkInt c_l).length) (intsC (listC n_l mkInt c_l))))], ?_, Nat.le_of_ble_eq_true (by kernel_rfl), ?_, ?_⟩
  ·exact (LeA_cons (leT_c ((leL_int hp0))) LeA_nil)
  ·rw [ev_base_CopyInts]; exact spec_base_CopyInts (listC n_l mkInt c_l) hp
  ·rw [lp_base_CopyInts]; trivial
 ·cases h
def S81 : Sum := addS S80 29 con_base_CopyInts
theorem VS81 : Valid Tryd.prog S81 := Valid.add VS80 ok_base_CopyInts
def mk_ref06_CopyMuons_0 (m : List Muon) (v0_0 : List (List CV)) (v0_1 : Int) : DS := ⟨[some (.t (.c (.sl 2 m.length (musC m)))), none, none, some (.t (.c (.os 3))), some (.t (.c (.v (.int .i64 v0_1)))), none, none, none, none, none, none, none, none, none, none, none, none, none, none, none, none, none, none, none, none, none, none], [none, none, none, some (.gen 158 2 v0_0), none, none, none, none, none, none, none, none, none, none, none, none, none, none, none, none, none, none, none, none, none, none, none]⟩
def vc_ref06_CopyMuons (J : Inv) (m : List Muon) (post : DV → Prop) : Prop := ∃ n, J 0 (n :: []) (mk_ref06_CopyMuons_0 m ([]) 0)
def ann_ref06_CopyMuons : Ann := ⟨fun r => lookA r [(5, ([[], [], [], [1, 2], [1, 2, 3], [1, 2, 3, 4], [1, 2, 3, 4, 5], [], [], [7, 8], [7, 8, 9], [7, 8, 9, 10], [1, 2, 3, 4, 5, 6, 7, 8, 9, 10, 11], [1, 2, 3, 4, 5, 6, 7, 8, 9, 10, 11, 12], [0, 1, 2, 3, 4, 5, 6, 7, 8, 9, 10, 11, 12, 13], [0, 1, 2, 3, 4, 5, 6, 7, 8, 9, 10, 11, 12, 13, 14]], [[17, 24], [17, 24], [17, 24], [17, 24], [17, 24], [17, 24], [24], [17, 24], [17, 24], [17, 24], [17, 24], [17, 24], [24], [], [], []]))], fun b => lookA b [(0, (none, some ⟨[0, 4], [], [(3, .gen 158 2 [])]⟩))], fun _ => [], noIt, false, fun _ => none, fun _ => none⟩
theorem ev_ref06_CopyMuons (J : Inv) (m : List Muon) (post : DV → Prop) : evFn Tryd.prog tab S81 ann_ref06_CopyMuons J Tryd.f33 [.t (.c (.sl 2 m.length (musC m)))] post = vc_ref06_CopyMuons J m post := by kernel_rfl
theorem fit_ref06_CopyMuons : okFn ann_ref06_CopyMuons Tryd.f33 = true := by kernel_rfl
def rd_ref06_CopyMuons_0 (J : Inv) (m : List Muon) (v0_0 : List (List CV)) (v0_1 : Int) (nn0 : Nat) (post : DV → Prop) : Prop := cond (decide (v0_1 < ((m.length : Nat) : Int))) ((0 ≤ v0_1 ∧ v0_1 < ((m.length : Nat) : Int)) ∧ ((numsP 1 ((muAt m v0_1.toNat).s.length) (intsC (muAt m v0_1.toNat).s) ∧ ((listC ((muAt m v0_1.toNat).s.length) mkInt (intsC (muAt m v0_1.toNat).s))).length ≤ 1000000) ∧ ((0 ≤ v0_1 ∧ v0_1 < ((m.length : Nat) : Int)) ∧ ((roomP 32 (v0_0.length + ([[.sl 1 ((listC ((muAt m v0_1.toNat).s.length) mkInt (intsC (muAt m v0_1.toNat).s)).length) (intsC (listC ((muAt m v0_1.toNat).s.length) mkInt (intsC (muAt m v0_1.toNat).s))), .v (.int .i64 ((muAt m v0_1.toNat).w))]] : List (List CV)).length)) ∧ (lt (IntKind.i64.wrap (v0_1 + (1 : Int))) fun x1 => J 0 (nn0 :: []) (mk_ref06_CopyMuons_0 m (v0_0 ++ ([[.sl 1 ((listC ((muAt m v0_1.toNat).s.length) mkInt (intsC (muAt m v0_1.toNat).s)).length) (intsC (listC ((muAt m v0_1.toNat).s.length) mkInt (intsC (muAt m v0_1.toNat).s))), .v (.int .i64 ((muAt m v0_1.toNat).w))]] : List (List CV))) x1)))))) (post (.t (.c (.sl 2 v0_0.length (genC v0_0)))))
theorem er_ref06_CopyMuons_0 (J : Inv) (m : List Muon) (v0_0 : List (List CV)) (v0_1 : Int) (nn0 : Nat) (post : DV → Prop) : round Tryd.prog tab S81 ann_ref06_CopyMuons J Tryd.f33 post 0 (nn0 :: []) (mk_ref06_CopyMuons_0 m v0_0 v0_1) = rd_ref06_CopyMuons_0 J m v0_0 v0_1 nn0 post := by kernel_rfl
theorem lp_ref06_CopyMuons (J : Inv) (post : DV → Prop) : AllG J (loopsFn Tryd.prog tab S81 ann_ref06_CopyMuons J Tryd.f33 post) = (((∀ F s, ¬ J 0 (0 :: F) s) ∧ ∀ n F s, J 0 ((n + 1) :: F) s → round Tryd.prog tab S81 ann_ref06_CopyMuons J Tryd.f33 post 0 (n :: F) s) ∧ True) := by kernel_rfl
def J_ref06_CopyMuons (m : List Muon) : Inv := fun b F s => match b, F with
 | 0, [nn0] => ∃ (v0_0 : List (List CV)) (v0_1 : Int), s = mk_ref06_CopyMuons_0 m v0_0 v0_1 ∧ ((muSm m ∧ m.length ≤ 1000000) ∧ 0 ≤ v0_1 ∧ v0_1 ≤ m.length ∧ (nn0 : Int) + v0_1 = m.length + 1 ∧ v0_0 = (m.take v0_1.toNat).map muCv)
 | _, _ => False
theorem rnd_ref06_CopyMuons_0 (m : List Muon) (v0_0 : List (List CV)) (v0_1 : Int) (nn0 : Nat) (hp : muSm m ∧ (m).length ≤ 1000000) (hi : (muSm m ∧ m.length ≤ 1000000) ∧ 0 ≤ v0_1 ∧ v0_1 ≤ m.length ∧ ((nn0 + 1) : Int) + v0_1 = m.length + 1 ∧ v0_0 = (m.take v0_1.toNat).map muCv) : rd_ref06_CopyMuons_0 (J_ref06_CopyMuons m) m v0_0 v0_1 nn0 (fun r => LeD r (.t (.c (.sl 2 m.length (musC m))))) := by
 obtain ⟨i0, i1, i2, i3, i4⟩ := hi
 obtain ⟨k, rfl⟩ : ∃ k : Nat, v0_1 = k := ⟨v0_1.toNat, by omega⟩
 have hk : (k : Int).toNat = k := rfl
 rw [hk] at i4
 unfold rd_ref06_CopyMuons_0
 rw [hk, ints_listC]
 refine cond_i (fun h => ?_) (fun h => ?_)
 ·have hlt : k < m.length := by have := of_decide_eq_true h; omega
  refine ⟨by omega, ⟨numsP_ints _, i0.1 k hlt⟩, by omega, ?_, lt_i fun x hx => ?_⟩
  ·rw [i4]; unfold roomP maxLen; simp; omega
  ·rw [wi (by omega)] at hx
   subst hx
   refine ⟨_, _, rfl, i0, by omega, by omega, by omega, ?_⟩
   rw [show ((k : Int) + 1).toNat = k + 1 by omega, i4, muAt_take hlt, List.map_append]; rfl
 ·have hge : k = m.length := by have := of_decide_eq_false h; omega
  rw [i4, hge, List.take_length]
  exact leT_c (leC_mus m)
theorem zero_ref06_CopyMuons_0 (m : List Muon) (v0_0 : List (List CV)) (v0_1 : Int)  (hi : (muSm m ∧ m.length ≤ 1000000) ∧ 0 ≤ v0_1 ∧ v0_1 ≤ m.length ∧ (0 : Int) + v0_1 = m.length + 1 ∧ v0_0 = (m.take v0_1.toNat).map muCv) : False := by
 omega
theorem spec_ref06_CopyMuons (m : List Muon) (hp : muSm m ∧ (m).length ≤ 1000000) : vc_ref06_CopyMuons (J_ref06_CopyMuons m) m (fun r => LeD r (.t (.c (.sl 2 m.length (musC m))))) := by
 unfold vc_ref06_CopyMuons
 exact ⟨m.length + 1, [], 0, rfl, hp, by omega, by omega, by omega, rfl⟩
theorem all_ref06_CopyMuons (m : List Muon) (hp : muSm m ∧ (m).length ≤ 1000000) : AllG (J_ref06_CopyMuons m) (loopsFn Tryd.prog tab S81 ann_ref06_CopyMuons (J_ref06_CopyMuons m) Tryd.f33 (fun r => LeD r (.t (.c (.sl 2 m.length (musC m)))))) := by
 rw [lp_ref06_CopyMuons]
 refine ⟨⟨?_, ?_⟩, trivial⟩
 ·intro F s h
  obtain _ | ⟨g, F⟩ := F
  case cons => exact h.elim
  obtain ⟨w0, w1, rfl, hi⟩ := h
  exact zero_ref06_CopyMuons_0 m w0 w1 hi
 ·intro n F s h
  obtain _ | ⟨g, F⟩ := F
  case cons => exact h.elim
  obtain ⟨w0, w1, rfl, hi⟩ := h
  rw [er_ref06_CopyMuons_0]
  exact rnd_ref06_CopyMuons_0 m _ _ _ hp hi
def con_ref06_CopyMuons : Con := fun args => match args with
 | [.t (.c (.sl 2 n_m c_m))] => some (.t (.c (.sl 2 ((muOf n_m c_m).length) (musC (muOf n_m c_m)))), some (muP n_m c_m ∧ muSm (muOf n_m c_m) ∧ ((muOf n_m c_m)).length ≤ 1000000), false)
 | _ => none
theorem ok_ref06_CopyMuons : Ok Tryd.prog 33 con_ref06_CopyMuons := by
 refine Ok.fn (ann := ann_ref06_CopyMuons) mixed tabOK VS81 ValidIt.no (fn := Tryd.f33) (by kernel_rfl) (by kernel_rfl) fit_ref06_CopyMuons fun args r pre fresh h hp => ?_
 unfold con_ref06_CopyMuons at h
 split at h
 ·rename_i n_m c_m
  cases h
  obtain ⟨hp0, hp⟩ := hp
  refine ⟨rfl, J_ref06_CopyMuons (muOf n_m c_m), [.t (.c (.sl 2 ((muOf n_m c_m).length) (musC (muOf n_m c_m))))], ?_, Nat.le_of_ble_eq_true (by kernel_rfl), ?_, ?_⟩
  ·exact (LeA_cons (leT_c ((leL_Muon hp0))) LeA_nil)
  ·rw [ev_ref06_CopyMuons]; exact spec_ref06_CopyMuons (muOf n_m c_m) hp
  ·exact all_ref06_CopyMuons (muOf n_m c_m) hp
 ·cases h
def S82 : Sum := addS S81 33 con_ref06_CopyMuons
theorem VS82 : Valid Tryd.prog S82 := Valid.add VS81 ok_ref06_CopyMuons
def vc_ref06_CopyVeto (f : Int) (v : List Int) (post : DV → Prop) : Prop := (numsP 1 v.length (intsC v) ∧ ((listC v.length mkInt (intsC v))).length ≤ 1000000) ∧ (post (.t (.a [.v (.int .i64 f), .sl 1 ((listC v.length mkInt (intsC v)).length) (intsC (listC v.length mkInt (intsC v)))])))
def ann_ref06_CopyVeto : Ann := ⟨fun r => lookA r [(1, ([[], [0], [], [2], [2, 3], [0, 1, 2, 3, 4], [0, 1, 2, 3, 4, 5]], [[7], [7], [7], [7], [], [], []]))], fun _ => none, fun _ => [], noIt, false, fun _ => none, fun _ => none⟩
theorem ev_ref06_CopyVeto (J : Inv) (f : Int) (v : List Int) (post : DV → Prop) : evFn Tryd.prog tab S82 ann_ref06_CopyVeto J Tryd.f44 [.t (.a [.v (.int .i64 f), .sl 1 v.length (intsC v)])] post = vc_ref06_CopyVeto f v post := by kernel_rfl
theorem fit_ref06_CopyVeto : okFn ann_ref06_CopyVeto Tryd.f44 = true := by kernel_rfl
theorem lp_ref06_CopyVeto (J : Inv) (post : DV → Prop) : AllG J (loopsFn Tryd.prog tab S82 ann_ref06_CopyVeto J Tryd.f44 post) = (True) := by kernel_rfl
theorem spec_ref06_CopyVeto (f : Int) (v : List Int) (hp : (v).length ≤ 1000000) : vc_ref06_CopyVeto f v (fun r => LeD r (.t (.a [.v (.int .i64 f), .sl 1 v.length (intsC v)]))) := by
 unfold vc_ref06_CopyVeto
 rw [ints_listC]
 exact ⟨⟨numsP_ints v, hp⟩, LeD.refl _⟩
def con_ref06_CopyVeto : Con := fun args => match args with
 | [.t (.a [.v (.int .i64 f), .sl 1 n_v c_v])] => some (.t (.a [.v (.int .i64 f), .sl 1 ((listC n_v mkInt c_v).length) (intsC (listC n_v mkInt c_v))]), some (numsP 1 n_v c_v ∧ ((listC n_v mkInt c_v)).length ≤ 1000000), false)
 | _ => none
theorem ok_ref06_CopyVeto : Ok Tryd.prog 44 con_ref06_CopyVeto := by
 refine Ok.fn (ann := ann_ref06_CopyVeto) mixed tabOK VS82 ValidIt.no (fn := Tryd.f44) (by kernel_rfl) (by kernel_rfl) fit_ref06_CopyVeto fun args r pre fresh h hp => ?_
 unfold con_ref06_CopyVeto at h
 split at h
 ·rename_i f n_v c_v
  cases h
  obtain ⟨hp0, hp⟩ := hp
  refine ⟨rfl, fun _ _ _ => False, [.t (.a [.v (.int .i64 f), .sl 1 ((listC n_v mkInt c_v).length) (intsC (listC n_v mkInt c_v))])], ?_, Nat.le_of_ble_eq_true (by kernel_rfl), ?_, ?_⟩
  ·exact (LeA_cons (leT_a (LeCs.cons (LeC1.refl _) (LeCs.cons ((leL_int hp0)) LeCs.nil))) LeA_nil)
  ·rw [ev_ref06_CopyVeto]; exact spec_ref06_CopyVeto f (listC n_v mkInt c_v) hp
  ·rw [lp_ref06_CopyVeto]; trivial
 ·cases h
def S83 : Sum := addS S82 44 con_ref06_CopyVeto
theorem VS83 : Valid Tryd.prog S83 := Valid.add VS82 ok_ref06_CopyVeto
def mk_law06_fewMuons_0 (m : List Muon) (v0_0 : Int) : DS := ⟨[some (.t (.c (.sl 2 m.length (musC m)))), none, none, some (.t (.c (.v (.int .i64 v0_0)))), none, none, none, none, none, none, none, none, none, none, none, none, none, none, none, none], [none, none, none, none, none, none, none, none, none, none, none, none, none, none, none, none, none, none, none, none]⟩
def vc_law06_fewMuons (J : Inv) (m : List Muon) (post : DV → Prop) : Prop := cond (decide (((m.length : Nat) : Int) > (42 : Int))) (post (.t (.c (.v (.bool false))))) (∃ n, J 0 (n :: []) (mk_law06_fewMuons_0 m 0))
def ann_law06_fewMuons : Ann := ⟨fun _ => none, fun b => lookA b [(0, (none, some ⟨[0, 3], [], []⟩))], fun _ => [], noIt, false, fun _ => none, fun _ => none⟩
theorem ev_law06_fewMuons (J : Inv) (m : List Muon) (post : DV → Prop) : evFn Tryd.prog tab S83 ann_law06_fewMuons J Tryd.f27 [.t (.c (.sl 2 m.length (musC m)))] post = vc_law06_fewMuons J m post := by kernel_rfl
theorem fit_law06_fewMuons : okFn ann_law06_fewMuons Tryd.f27 = true := by kernel_rfl
def rd_law06_fewMuons_0 (J : Inv) (m : List Muon) (v0_0 : Int) (nn0 : Nat) (post : DV → Prop) : Prop := cond (decide (v0_0 < ((m.length : Nat) : Int))) ((0 ≤ v0_0 ∧ v0_0 < ((m.length : Nat) : Int)) ∧ (cond (decide ((((muAt m v0_0.toNat).s.length : Nat) : Int) > (10 : Int))) (post (.t (.c (.v (.bool false))))) (lt (IntKind.i64.wrap (v0_0 + (1 : Int))) fun x1 => J 0 (nn0 :: []) (mk_law06_fewMuons_0 m x1)))) (post (.t (.c (.v (.bool true)))))
theorem er_law06_fewMuons_0 (J : Inv) (m : List Muon) (v0_0 : Int) (nn0 : Nat) (post : DV → Prop) : round Tryd.prog tab S83 ann_law06_fewMuons J Tryd.f27 post 0 (nn0 :: []) (mk_law06_fewMuons_0 m v0_0) = rd_law06_fewMuons_0 J m v0_0 nn0 post := by kernel_rfl
theorem lp_law06_fewMuons (J : Inv) (post : DV → Prop) : AllG J (loopsFn Tryd.prog tab S83 ann_law06_fewMuons J Tryd.f27 post) = (((∀ F s, ¬ J 0 (0 :: F) s) ∧ ∀ n F s, J 0 ((n + 1) :: F) s → round Tryd.prog tab S83 ann_law06_fewMuons J Tryd.f27 post 0 (n :: F) s) ∧ True) := by kernel_rfl
def J_law06_fewMuons (m : List Muon) : Inv := fun b F s => match b, F with
 | 0, [nn0] => ∃ (v0_0 : Int), s = mk_law06_fewMuons_0 m v0_0 ∧ (m.length ≤ 42 ∧ 0 ≤ v0_0 ∧ v0_0 ≤ m.length ∧ (nn0 : Int) + v0_0 = m.length + 1 ∧ ∀ k : Nat, (k : Int) < v0_0 → (muAt m k).s.length ≤ 10)
 | _, _ => False
theorem rnd_law06_fewMuons_0 (m : List Muon) (v0_0 : Int) (nn0 : Nat) (hi : m.length ≤ 42 ∧ 0 ≤ v0_0 ∧ v0_0 ≤ m.length ∧ ((nn0 + 1) : Int) + v0_0 = m.length + 1 ∧ ∀ k : Nat, (k : Int) < v0_0 → (muAt m k).s.length ≤ 10) : rd_law06_fewMuons_0 (J_law06_fewMuons m) m v0_0 nn0 (fun r => LeD r (.t (.c (.v (.bool (fewB m)))))) := by
 obtain ⟨i0, i1, i2, i3, i4⟩ := hi
 obtain ⟨k, rfl⟩ : ∃ k : Nat, v0_0 = k := ⟨v0_0.toNat, by omega⟩
 have hk : (k : Int).toNat = k := rfl
 unfold rd_law06_fewMuons_0
 rw [hk]
 refine cond_i (fun h => ?_) (fun h => leB ?_)
 ·have hlt : k < m.length := by have := of_decide_eq_true h; omega
  refine ⟨by omega, cond_i (fun e => leB ?_) (fun e => lt_i fun x hx => ?_)⟩
  ·have e := of_decide_eq_true e
   refine (Bool.eq_false_iff.2 fun q => ?_).symm
   have := (fewB_ok q).2 k hlt
   omega
  ·have e := of_decide_eq_false e
   rw [wi (by omega)] at hx
   subst hx
   refine ⟨_, rfl, i0, by omega, by omega, by omega, fun j hj => ?_⟩
   by_cases q : j = k
   ·rw [q]; omega
   ·exact i4 j (by omega)
 ·have hge : k = m.length := by have := of_decide_eq_false h; omega
  exact (fewB_iff.2 ⟨i0, fun j hj => i4 j (by omega)⟩).symm
theorem zero_law06_fewMuons_0 (m : List Muon) (v0_0 : Int)  (hi : m.length ≤ 42 ∧ 0 ≤ v0_0 ∧ v0_0 ≤ m.length ∧ (0 : Int) + v0_0 = m.length + 1 ∧ ∀ k : Nat, (k : Int) < v0_0 → (muAt m k).s.length ≤ 10) : False := by
 omega
theorem spec_law06_fewMuons (m : List Muon) : vc_law06_fewMuons (J_law06_fewMuons m) m (fun r => LeD r (.t (.c (.v (.bool (fewB m)))))) := by
 unfold vc_law06_fewMuons
 refine cond_i (fun h => leB ?_) (fun h => ?_)
 ·have h := of_decide_eq_true h
  unfold fewB; rw [decide_eq_false (by omega)]; rfl
 ·have h := of_decide_eq_false h
  exact ⟨m.length + 1, 0, rfl, by omega, by omega, by omega, by omega, fun j hj => by omega⟩
theorem all_law06_fewMuons (m : List Muon) : AllG (J_law06_fewMuons m) (loopsFn Tryd.prog tab S83 ann_law06_fewMuons (J_law06_fewMuons m) Tryd.f27 (fun r => LeD r (.t (.c (.v (.bool (fewB m))))))) := by
 rw [lp_law06_fewMuons]
 refine ⟨⟨?_, ?_⟩, trivial⟩
 ·intro F s h
  obtain _ | ⟨g, F⟩ := F
  case cons => exact h.elim
  obtain ⟨w0, rfl, hi⟩ := h
  exact zero_law06_fewMuons_0 m w0 hi
 ·intro n F s h
  obtain _ | ⟨g, F⟩ := F
  case cons => exact h.elim
  obtain ⟨w0, rfl, hi⟩ := h
  rw [er_law06_fewMuons_0]
  exact rnd_law06_fewMuons_0 m _ _ hi
def con_law06_fewMuons : Con := fun args => match args with
 | [.t (.c (.sl 2 n_m c_m))] => some (.t (.c (.v (.bool (fewB (muOf n_m c_m))))), some (muP n_m c_m), false)
 | _ => none
theorem ok_law06_fewMuons : Ok Tryd.prog 27 con_law06_fewMuons := by
 refine Ok.fn (ann := ann_law06_fewMuons) mixed tabOK VS83 ValidIt.no (fn := Tryd.f27) (by kernel_rfl) (by kernel_rfl) fit_law06_fewMuons fun args r pre fresh h hp => ?_
 unfold con_law06_fewMuons at h
 split at h
 ·rename_i n_m c_m
  cases h
  have hp0 := hp
  refine ⟨rfl, J_law06_fewMuons (muOf n_m c_m), [.t (.c (.sl 2 ((muOf n_m c_m).length) (musC (muOf n_m c_m))))], ?_, Nat.le_of_ble_eq_true (by kernel_rfl), ?_, ?_⟩
  ·exact (LeA_cons (leT_c ((leL_Muon hp0))) LeA_nil)
  ·rw [ev_law06_fewMuons]; exact spec_law06_fewMuons (muOf n_m c_m)
  ·exact all_law06_fewMuons (muOf n_m c_m)
 ·cases h
def S84 : Sum := addS S83 27 con_law06_fewMuons
theorem VS84 : Valid Tryd.prog S84 := Valid.add VS83 ok_law06_fewMuons
def mk_ref06_CheckMuons_0 (m : List Muon) (v0_0 : Int) : DS := ⟨[some (.t (.c (.sl 2 m.length (musC m)))), none, none, none, some (.t (.c (.v (.int .i64 v0_0)))), none, none, none, none, none, none, none, none, none, none, none, none, none, none, none, none, none, none, none, none, none, none, none, none, none, none, none, none, none, none, none, none, none, none, none, none, none, none, none, none, none, none, none, none, none, none, none, none, none, none], [none, none, none, none, none, none, none, none, none, none, none, none, none, none, none, none, none, none, none, none, none, none, none, none, none, none, none, none, none, none, none, none, none, none, none, none, none, none, none, none, none, none, none, none, none, none, none, none, none, none, none, none, none, none, none]⟩
def mk_ref06_CheckMuons_2 (m : List Muon) (v2_0 : Int) (v2_1 : Int) : DS := ⟨[some (.t (.c (.sl 2 m.length (musC m)))), none, none, none, some (.t (.c (.v (.int .i64 v2_0)))), some (.t (.c (.v (.int .i64 v2_1)))), none, none, none, none, none, none, none, none, none, none, none, none, none, none, none, none, none, none, none, none, none, none, none, none, none, none, none, none, none, none, none, none, none, none, none, none, none, none, none, none, none, none, none, none, none, none, none, none, none], [none, none, none, none, none, none, none, none, none, none, none, none, none, none, none, none, none, none, none, none, none, none, none, none, none, none, none, none, none, none, none, none, none, none, none, none, none, none, none, none, none, none, none, none, none, none, none, none, none, none, none, none, none, none, none]⟩
def vc_ref06_CheckMuons (J : Inv) (m : List Muon) (post : DV → Prop) : Prop := cond (((m.length : Nat) : Int) == (0 : Int)) (post (.tu [.c (.v (.int .i64 0)), .c (.v (.int .i64 10))])) (cond (decide (((m.length : Nat) : Int) > (40 : Int))) (post (.tu [.c (.v (.int .i64 0)), .c (.v (.int .i64 8))])) (∃ n, J 0 (n :: []) (mk_ref06_CheckMuons_0 m 0)))
def ann_ref06_CheckMuons : Ann := ⟨fun _ => none, fun b => lookA b [(0, (none, some ⟨[0, 4], [], []⟩)), (2, (none, some ⟨[0, 4, 5], [], []⟩))], fun _ => [], noIt, false, fun _ => none, fun _ => none⟩
theorem ev_ref06_CheckMuons (J : Inv) (m : List Muon) (post : DV → Prop) : evFn Tryd.prog tab S84 ann_ref06_CheckMuons J Tryd.f46 [.t (.c (.sl 2 m.length (musC m)))] post = vc_ref06_CheckMuons J m post := by kernel_rfl
theorem fit_ref06_CheckMuons : okFn ann_ref06_CheckMuons Tryd.f46 = true := by kernel_rfl
def rd_ref06_CheckMuons_0 (J : Inv) (m : List Muon) (v0_0 : Int) (nn0 : Nat) (post : DV → Prop) : Prop := cond (decide (v0_0 < ((m.length : Nat) : Int))) ((0 ≤ v0_0 ∧ v0_0 < ((m.length : Nat) : Int)) ∧ (cond (!(inB ((muAt m v0_0.toNat).w) (1 : Int) (100 : Int))) (post (.tu [.c (.v (.int .i64 v0_0)), .c (.v (.int .i64 2))])) ((0 ≤ v0_0 ∧ v0_0 < ((m.length : Nat) : Int)) ∧ (cond (decide ((((muAt m v0_0.toNat).s.length : Nat) : Int) > (8 : Int))) (post (.tu [.c (.v (.int .i64 v0_0)), .c (.v (.int .i64 8))])) (∃ n, J 2 (n :: nn0 :: []) (mk_ref06_CheckMuons_2 m v0_0 0)))))) (post (.tu [.c (.v (.int .i64 0)), .c (.v (.int .i64 0))]))
theorem er_ref06_CheckMuons_0 (J : Inv) (m : List Muon) (v0_0 : Int) (nn0 : Nat) (post : DV → Prop) : round Tryd.prog tab S84 ann_ref06_CheckMuons J Tryd.f46 post 0 (nn0 :: []) (mk_ref06_CheckMuons_0 m v0_0) = rd_ref06_CheckMuons_0 J m v0_0 nn0 post := by kernel_rfl
def rd_ref06_CheckMuons_2 (J : Inv) (m : List Muon) (v2_0 : Int) (v2_1 : Int) (nn2 nn0 : Nat) (post : DV → Prop) : Prop := (0 ≤ v2_0 ∧ v2_0 < ((m.length : Nat) : Int)) ∧ (cond (decide (v2_1 < (((muAt m v2_0.toNat).s.length : Nat) : Int))) ((0 ≤ v2_0 ∧ v2_0 < ((m.length : Nat) : Int)) ∧ ((0 ≤ v2_1 ∧ v2_1 < (((muAt m v2_0.toNat).s.length : Nat) : Int)) ∧ (cond (!(inB (((muAt m v2_0.toNat).s).getD v2_1.toNat 0) (0 : Int) (7 : Int))) (post (.tu [.c (.v (.int .i64 v2_0)), .c (.v (.int .i64 6))])) (lt (IntKind.i64.wrap (v2_1 + (1 : Int))) fun x1 => J 2 (nn2 :: nn0 :: []) (mk_ref06_CheckMuons_2 m v2_0 x1))))) (lt (IntKind.i64.wrap (v2_0 + (1 : Int))) fun x2 => J 0 (nn0 :: []) (mk_ref06_CheckMuons_0 m x2)))
theorem er_ref06_CheckMuons_2 (J : Inv) (m : List Muon) (v2_0 : Int) (v2_1 : Int) (nn2 nn0 : Nat) (post : DV → Prop) : round Tryd.prog tab S84 ann_ref06_CheckMuons J Tryd.f46 post 1 (nn2 :: nn0 :: []) (mk_ref06_CheckMuons_2 m v2_0 v2_1) = rd_ref06_CheckMuons_2 J m v2_0 v2_1 nn2 nn0 post := by kernel_rfl
theorem lp_ref06_CheckMuons (J : Inv) (post : DV → Prop) : AllG J (loopsFn Tryd.prog tab S84 ann_ref06_CheckMuons J Tryd.f46 post) = (((∀ F s, ¬ J 0 (0 :: F) s) ∧ ∀ n F s, J 0 ((n + 1) :: F) s → round Tryd.prog tab S84 ann_ref06_CheckMuons J Tryd.f46 post 0 (n :: F) s) ∧ ((∀ F s, ¬ J 2 (0 :: F) s) ∧ ∀ n F s, J 2 ((n + 1) :: F) s → round Tryd.prog tab S84 ann_ref06_CheckMuons J Tryd.f46 post 1 (n :: F) s) ∧ True) := by kernel_rfl
def J_ref06_CheckMuons (m : List Muon) : Inv := fun b F s => match b, F with
 | 0, [nn0] => ∃ (v0_0 : Int), s = mk_ref06_CheckMuons_0 m v0_0 ∧ (cntE m.length 40 = 0 ∧ 0 ≤ v0_0 ∧ v0_0 ≤ m.length ∧ (nn0 : Int) + v0_0 = m.length + 1 ∧ ∀ j : Nat, (j : Int) < v0_0 → (muAt m j).err = 0)
 | 2, [nn2, nn0] => ∃ (v2_0 : Int) (v2_1 : Int), s = mk_ref06_CheckMuons_2 m v2_0 v2_1 ∧ (cntE m.length 40 = 0 ∧ (0 ≤ v2_0 ∧ v2_0 < m.length ∧ (nn0 : Int) + v2_0 = m.length) ∧ (∀ j : Nat, (j : Int) < v2_0 → (muAt m j).err = 0) ∧ (inB (muAt m v2_0.toNat).w 1 100 = true ∧ (muAt m v2_0.toNat).s.length ≤ 8) ∧ 0 ≤ v2_1 ∧ v2_1 ≤ (muAt m v2_0.toNat).s.length ∧ (nn2 : Int) + v2_1 = (muAt m v2_0.toNat).s.length + 1 ∧ ∀ j : Nat, (j : Int) < v2_1 → senB ((muAt m v2_0.toNat).s.getD j 0) = true)
 | _, _ => False
set_option maxHeartbeats 8000000 in
set_option maxRecDepth 100000 in
theorem rnd_ref06_CheckMuons_0 (m : List Muon) (v0_0 : Int) (nn0 : Nat) (hi : cntE m.length 40 = 0 ∧ 0 ≤ v0_0 ∧ v0_0 ≤ m.length ∧ ((nn0 + 1) : Int) + v0_0 = m.length + 1 ∧ ∀ j : Nat, (j : Int) < v0_0 → (muAt m j).err = 0) : rd_ref06_CheckMuons_0 (J_ref06_CheckMuons m) m v0_0 nn0 (fun r => LeD r (.tu [.c (.v (.int .i64 (musI m))), .c (.v (.int .i64 (musE m)))])) := by
 obtain ⟨i0, i1, i2, i3, i4⟩ := hi
 obtain ⟨k, rfl⟩ : ∃ k : Nat, v0_0 = k := ⟨v0_0.toNat, by omega⟩
 have hk : (k : Int).toNat = k := rfl
 have hz : ∀ j, j < k → (muAt m j).err = 0 := fun j hj => i4 j (by omega)
 have hlen : m.length ≤ 40 := by have := cnt_le i0; omega
 unfold rd_ref06_CheckMuons_0
 rw [hk]
 refine cond_i (fun h => ?_) (fun h => ?_)
 ·have hlt : k < m.length := by have := of_decide_eq_true h; omega
  have bad : ∀ e, e ≠ 0 → (muAt m k).err = e → LeD (.tu [.c (.v (.int .i64 (k : Int))), .c (.v (.int .i64 e))]) (.tu [.c (.v (.int .i64 (musI m))), .c (.v (.int .i64 (musE m)))]) := fun e he q => by
   subst q
   rw [show musI m = _ from if_pos i0, show musE m = _ from if_pos i0]
   exact le2 (scanI_at (f := fun i => (muAt m i).err) hz hlt he).symm (scan_at (f := fun i => (muAt m i).err) hz hlt he).symm
  refine ⟨by omega, cond_i (fun a => bad 2 (by decide) ?_) (fun a => ⟨by omega, cond_i (fun c => bad 8 (by decide) ?_) (fun c => ?_)⟩)⟩
  ·have a : inB (muAt m k).w 1 100 = false := by simpa using a
   unfold Muon.err; rw [a]; rfl
  ·have a : inB (muAt m k).w 1 100 = true := by simpa using a
   have c := of_decide_eq_true c
   unfold Muon.err; rw [a, decide_eq_false (by omega)]; rfl
  ·have a : inB (muAt m k).w 1 100 = true := by simpa using a
   have c := of_decide_eq_false c
   exact ⟨(muAt m k).s.length + 1, _, 0, rfl, i0, by omega, i4, ⟨by rw [hk]; exact a, by rw [hk]; omega⟩, by omega, by omega, by rw [hk]; omega, fun j hj => by omega⟩
 ·have hge : k = m.length := by have := of_decide_eq_false h; omega
  subst hge
  rw [show musI m = _ from if_pos i0, show musE m = _ from if_pos i0]
  exact le2 (scanI_end (f := fun i => (muAt m i).err) hz).symm (scan_end (f := fun i => (muAt m i).err) hz).symm
theorem zero_ref06_CheckMuons_0 (m : List Muon) (v0_0 : Int)  (hi : cntE m.length 40 = 0 ∧ 0 ≤ v0_0 ∧ v0_0 ≤ m.length ∧ (0 : Int) + v0_0 = m.length + 1 ∧ ∀ j : Nat, (j : Int) < v0_0 → (muAt m j).err = 0) : False := by
 omega
set_option maxHeartbeats 8000000 in
set_option maxRecDepth 100000 in
theorem rnd_ref06_CheckMuons_2 (m : List Muon) (v2_0 : Int) (v2_1 : Int) (nn2 nn0 : Nat) (hi : cntE m.length 40 = 0 ∧ (0 ≤ v2_0 ∧ v2_0 < m.length ∧ (nn0 : Int) + v2_0 = m.length) ∧ (∀ j : Nat, (j : Int) < v2_0 → (muAt m j).err = 0) ∧ (inB (muAt m v2_0.toNat).w 1 100 = true ∧ (muAt m v2_0.toNat).s.length ≤ 8) ∧ 0 ≤ v2_1 ∧ v2_1 ≤ (muAt m v2_0.toNat).s.length ∧ ((nn2 + 1) : Int) + v2_1 = (muAt m v2_0.toNat).s.length + 1 ∧ ∀ j : Nat, (j : Int) < v2_1 → senB ((muAt m v2_0.toNat).s.getD j 0) = true) : rd_ref06_CheckMuons_2 (J_ref06_CheckMuons m) m v2_0 v2_1 nn2 nn0 (fun r => LeD r (.tu [.c (.v (.int .i64 (musI m))), .c (.v (.int .i64 (musE m)))])) := by
 obtain ⟨i0, i1, i4, ⟨i5, i6⟩, i7, i8, i9, i10⟩ := hi
 obtain ⟨k, rfl⟩ : ∃ k : Nat, v2_0 = k := ⟨v2_0.toNat, by omega⟩
 have hk : (k : Int).toNat = k := rfl
 rw [hk] at i5 i6 i8 i9 i10
 have hz : ∀ j, j < k → (muAt m j).err = 0 := fun j hj => i4 j (by omega)
 have hlen : m.length ≤ 40 := by have := cnt_le i0; omega
 have hlt : k < m.length := by omega
 have bad : ∀ e, e ≠ 0 → (muAt m k).err = e → LeD (.tu [.c (.v (.int .i64 (k : Int))), .c (.v (.int .i64 e))]) (.tu [.c (.v (.int .i64 (musI m))), .c (.v (.int .i64 (musE m)))]) := fun e he q => by
  subst q
  rw [show musI m = _ from if_pos i0, show musE m = _ from if_pos i0]
  exact le2 (scanI_at (f := fun i => (muAt m i).err) hz hlt he).symm (scan_at (f := fun i => (muAt m i).err) hz hlt he).symm
 obtain ⟨q, rfl⟩ : ∃ q : Nat, v2_1 = q := ⟨v2_1.toNat, by omega⟩
 have hq : (q : Int).toNat = q := rfl
 unfold rd_ref06_CheckMuons_2
 rw [hk, hq]
 have he : (muAt m k).err = unl ((muAt m k).s.all senB) 6 := by
  unfold Muon.err; rw [i5, decide_eq_true (by omega)]
  unfold unl firstNZ firstNZ firstNZ firstNZ
  simp
 refine ⟨by omega, cond_i (fun h => ⟨by omega, ?_⟩) (fun h => lt_i fun x hx => ?_)⟩
 ·have h := of_decide_eq_true h
  refine ⟨by omega, cond_i (fun e => bad 6 (by decide) ?_) (fun e => lt_i fun x hx => ?_)⟩
  ·have e : senB ((muAt m k).s.getD q 0) = false := by simpa [senB] using e
   rw [he, show (muAt m k).s.all senB = false from ?_]
   ·rfl
   ·rw [List.all_eq_false]
    exact ⟨_, getD_mem (k := q) (by omega), by rw [e]; simp⟩
  ·rw [wi (by omega)] at hx
   subst hx
   have e : senB ((muAt m k).s.getD q 0) = true := by simpa [senB] using e
   refine ⟨_, _, rfl, i0, by omega, i4, ⟨by rw [hk]; exact i5, by rw [hk]; exact i6⟩, by omega, by rw [hk]; omega, by rw [hk]; omega, fun j hj => ?_⟩
   rw [hk]
   by_cases c : j = q
   ·rw [c]; exact e
   ·exact i10 j (by omega)
 ·have h := of_decide_eq_false h
  rw [wi (by omega)] at hx
  subst hx
  refine ⟨_, rfl, i0, by omega, by omega, by omega, fun j hj => ?_⟩
  by_cases c : j = k
  ·rw [c, he, show (muAt m k).s.all senB = true from all_getD fun i hi => i10 i (by omega)]; rfl
  ·exact i4 j (by omega)
theorem zero_ref06_CheckMuons_2 (m : List Muon) (v2_0 : Int) (v2_1 : Int) (nn0 : Nat) (hi : cntE m.length 40 = 0 ∧ (0 ≤ v2_0 ∧ v2_0 < m.length ∧ (nn0 : Int) + v2_0 = m.length) ∧ (∀ j : Nat, (j : Int) < v2_0 → (muAt m j).err = 0) ∧ (inB (muAt m v2_0.toNat).w 1 100 = true ∧ (muAt m v2_0.toNat).s.length ≤ 8) ∧ 0 ≤ v2_1 ∧ v2_1 ≤ (muAt m v2_0.toNat).s.length ∧ (0 : Int) + v2_1 = (muAt m v2_0.toNat).s.length + 1 ∧ ∀ j : Nat, (j : Int) < v2_1 → senB ((muAt m v2_0.toNat).s.getD j 0) = true) : False := by
 omega
set_option maxHeartbeats 8000000 in
set_option maxRecDepth 100000 in
theorem spec_ref06_CheckMuons (m : List Muon) : vc_ref06_CheckMuons (J_ref06_CheckMuons m) m (fun r => LeD r (.tu [.c (.v (.int .i64 (musI m))), .c (.v (.int .i64 (musE m)))])) := by
 unfold vc_ref06_CheckMuons
 have bad : ∀ e, e ≠ 0 → cntE m.length 40 = e → LeD (.tu [.c (.v (.int .i64 0)), .c (.v (.int .i64 e))]) (.tu [.c (.v (.int .i64 (musI m))), .c (.v (.int .i64 (musE m)))]) := fun e he q => by
  subst q
  exact le2 (if_neg he).symm (if_neg he).symm
 refine cond_i (fun h => bad 10 (by decide) ?_) (fun h => cond_i (fun h2 => bad 8 (by decide) ?_) (fun h2 => ?_))
 ·have h : (m.length : Int) = 0 := by simpa using h
  unfold cntE; rw [h]; rfl
 ·have h : (m.length : Int) ≠ 0 := by simpa using h
  have h2 := of_decide_eq_true h2
  unfold cntE; rw [decide_eq_true (show (m.length : Int) > 0 by omega), decide_eq_false (show ¬ (m.length : Int) ≤ 40 by omega)]; rfl
 ·have h : (m.length : Int) ≠ 0 := by simpa using h
  have h2 := of_decide_eq_false h2
  refine ⟨m.length + 1, 0, rfl, ?_, by omega, by omega, by omega, fun j hj => by omega⟩
  unfold cntE; rw [decide_eq_true (show (m.length : Int) > 0 by omega), decide_eq_true (show (m.length : Int) ≤ 40 by omega)]; rfl
theorem all_ref06_CheckMuons (m : List Muon) : AllG (J_ref06_CheckMuons m) (loopsFn Tryd.prog tab S84 ann_ref06_CheckMuons (J_ref06_CheckMuons m) Tryd.f46 (fun r => LeD r (.tu [.c (.v (.int .i64 (musI m))), .c (.v (.int .i64 (musE m)))]))) := by
 rw [lp_ref06_CheckMuons]
 refine ⟨⟨?_, ?_⟩, ⟨?_, ?_⟩, trivial⟩
 ·intro F s h
  obtain _ | ⟨g, F⟩ := F
  case cons => exact h.elim
  obtain ⟨w0, rfl, hi⟩ := h
  exact zero_ref06_CheckMuons_0 m w0 hi
 ·intro n F s h
  obtain _ | ⟨g, F⟩ := F
  case cons => exact h.elim
  obtain ⟨w0, rfl, hi⟩ := h
  rw [er_ref06_CheckMuons_0]
  exact rnd_ref06_CheckMuons_0 m _ _ hi
 ·intro F s h
  obtain _ | ⟨f0, F⟩ := F
  ·exact h.elim
  obtain _ | ⟨g, F⟩ := F
  case cons => exact h.elim
  obtain ⟨w0, w1, rfl, hi⟩ := h
  exact zero_ref06_CheckMuons_2 m w0 w1 _ hi
 ·intro n F s h
  obtain _ | ⟨f0, F⟩ := F
  ·exact h.elim
  obtain _ | ⟨g, F⟩ := F
  case cons => exact h.elim
  obtain ⟨w0, w1, rfl, hi⟩ := h
  rw [er_ref06_CheckMuons_2]
  exact rnd_ref06_CheckMuons_2 m _ _ _ _ hi
def con_ref06_CheckMuons : Con := fun args => match args with
 | [.t (.c (.sl 2 n_m c_m))] => some (.tu [.c (.v (.int .i64 (musI (muOf n_m c_m)))), .c (.v (.int .i64 (musE (muOf n_m c_m))))], some (muP n_m c_m), false)
 | _ => none
theorem ok_ref06_CheckMuons : Ok Tryd.prog 46 con_ref06_CheckMuons := by
 refine Ok.fn (ann := ann_ref06_CheckMuons) mixed tabOK VS84 ValidIt.no (fn := Tryd.f46) (by kernel_rfl) (by kernel_rfl) fit_ref06_CheckMuons fun args r pre fresh h hp => ?_
 unfold con_ref06_CheckMuons at h
 split at h
 ·rename_i n_m c_m
  cases h
  have hp0 := hp
  refine ⟨rfl, J_ref06_CheckMuons (muOf n_m c_m), [.t (.c (.sl 2 ((muOf n_m c_m).length) (musC (muOf n_m c_m))))], ?_, Nat.le_of_ble_eq_true (by kernel_rfl), ?_, ?_⟩
  ·exact (LeA_cons (leT_c ((leL_Muon hp0))) LeA_nil)
  ·rw [ev_ref06_CheckMuons]; exact spec_ref06_CheckMuons (muOf n_m c_m)
  ·exact all_ref06_CheckMuons (muOf n_m c_m)
 ·cases h
def S85 : Sum := addS S84 46 con_ref06_CheckMuons
theorem VS85 : Valid Tryd.prog S85 := Valid.add VS84 ok_ref06_CheckMuons
def vc_ref06_MuonsErr (m : List Muon) (post : DV → Prop) : Prop := (muP m.length (musC m)) ∧ (post (.t (.c (.v (.int .i64 (musE (muOf m.length (musC m))))))))
def ann_ref06_MuonsErr : Ann := ⟨fun _ => none, fun _ => none, fun _ => [], noIt, false, fun _ => none, fun _ => none⟩
theorem ev_ref06_MuonsErr (J : Inv) (m : List Muon) (post : DV → Prop) : evFn Tryd.prog tab S85 ann_ref06_MuonsErr J Tryd.f34 [.t (.c (.sl 2 m.length (musC m)))] post = vc_ref06_MuonsErr m post := by kernel_rfl
theorem fit_ref06_MuonsErr : okFn ann_ref06_MuonsErr Tryd.f34 = true := by kernel_rfl
theorem lp_ref06_MuonsErr (J : Inv) (post : DV → Prop) : AllG J (loopsFn Tryd.prog tab S85 ann_ref06_MuonsErr J Tryd.f34 post) = (True) := by kernel_rfl
theorem spec_ref06_MuonsErr (m : List Muon) : vc_ref06_MuonsErr m (fun r => LeD r (.t (.c (.v (.int .i64 (musE m)))))) := by
 unfold vc_ref06_MuonsErr
 rw [mus_of]
 exact ⟨muP_mus m, LeD.refl _⟩
def con_ref06_MuonsErr : Con := fun args => match args with
 | [.t (.c (.sl 2 n_m c_m))] => some (.t (.c (.v (.int .i64 (musE (muOf n_m c_m))))), some (muP n_m c_m), false)
 | _ => none
theorem ok_ref06_MuonsErr : Ok Tryd.prog 34 con_ref06_MuonsErr := by
 refine Ok.fn (ann := ann_ref06_MuonsErr) mixed tabOK VS85 ValidIt.no (fn := Tryd.f34) (by kernel_rfl) (by kernel_rfl) fit_ref06_MuonsErr fun args r pre fresh h hp => ?_
 unfold con_ref06_MuonsErr at h
 split at h
 ·rename_i n_m c_m
  cases h
  have hp0 := hp
  refine ⟨rfl, fun _ _ _ => False, [.t (.c (.sl 2 ((muOf n_m c_m).length) (musC (muOf n_m c_m))))], ?_, Nat.le_of_ble_eq_true (by kernel_rfl), ?_, ?_⟩
  ·exact (LeA_cons (leT_c ((leL_Muon hp0))) LeA_nil)
  ·rw [ev_ref06_MuonsErr]; exact spec_ref06_MuonsErr (muOf n_m c_m)
  ·rw [lp_ref06_MuonsErr]; trivial
 ·cases h
def S86 : Sum := addS S85 34 con_ref06_MuonsErr
theorem VS86 : Valid Tryd.prog S86 := Valid.add VS85 ok_ref06_MuonsErr
def mk_ref06_VetoErr_0 (f : Int) (v : List Int) (v0_0 : Int) : DS := ⟨[none, some (.t (.c (.p 1 0))), none, some (.t (.c (.v (.int .i64 v0_0)))), none, none, none, none, none, none, none, none, none, none, none, none, none, none, none, none, none, none, none, none, none, none, none, none, none, none, none, none, none, none, none, none, none, none, none, none, none, none], [none, some (.box 71 [.v (.int .i64 f), .sl 1 v.length (intsC v)]), none, none, none, none, none, none, none, none, none, none, none, none, none, none, none, none, none, none, none, none, none, none, none, none, none, none, none, none, none, none, none, none, none, none, none, none, none, none, none, none]⟩
def vc_ref06_VetoErr (J : Inv) (f : Int) (v : List Int) (post : DV → Prop) : Prop := cond (!(inB f (0 : Int) (8 : Int))) (post (.t (.c (.v (.int .i64 2))))) (cond (decide (((v.length : Nat) : Int) > (8 : Int))) (post (.t (.c (.v (.int .i64 8))))) (∃ n, J 0 (n :: []) (mk_ref06_VetoErr_0 f v 0)))
def ann_ref06_VetoErr : Ann := ⟨fun r => lookA r [(10, ([[], [0], [0, 1], [0, 1, 2], [0, 1, 2, 3], [0, 1, 2], [0, 1, 2, 3, 4, 5], [0, 1, 2, 3, 4, 5, 6], [0, 1, 2], [0, 1, 2, 8], [0, 1, 2], [0, 1, 2, 10], [0, 1, 2, 8, 9, 10, 11], [0, 1, 2, 8, 9, 10, 11, 12], [0, 1, 2, 3, 4, 5, 6, 7, 8, 9, 10, 11, 12, 13], [0, 1, 2, 3, 4, 5, 6, 7, 8, 9, 10, 11, 12, 13, 14]], [[], [], [], [], [], [], [], [], [], [], [], [], [], [], [], []]))], fun b => lookA b [(0, (none, some ⟨[1, 3], [1], []⟩))], fun _ => [], noIt, false, fun _ => none, fun _ => none⟩
theorem ev_ref06_VetoErr (J : Inv) (f : Int) (v : List Int) (post : DV → Prop) : evFn Tryd.prog tab S86 ann_ref06_VetoErr J Tryd.f47 [.t (.a [.v (.int .i64 f), .sl 1 v.length (intsC v)])] post = vc_ref06_VetoErr J f v post := by kernel_rfl
theorem fit_ref06_VetoErr : okFn ann_ref06_VetoErr Tryd.f47 = true := by kernel_rfl
def rd_ref06_VetoErr_0 (J : Inv) (f : Int) (v : List Int) (v0_0 : Int) (nn0 : Nat) (post : DV → Prop) : Prop := cond (decide (v0_0 < ((v.length : Nat) : Int))) ((0 ≤ v0_0 ∧ v0_0 < ((v.length : Nat) : Int)) ∧ (cond (!(inB (v.getD v0_0.toNat 0) (0 : Int) (7 : Int))) (post (.t (.c (.v (.int .i64 6))))) (cond (decide (v0_0 > (0 : Int))) ((0 ≤ v0_0 ∧ v0_0 < ((v.length : Nat) : Int)) ∧ (lt (IntKind.i64.wrap (v0_0 - (1 : Int))) fun x1 => (0 ≤ x1 ∧ x1 < ((v.length : Nat) : Int)) ∧ (cond (decide ((v.getD v0_0.toNat 0) ≤ (v.getD x1.toNat 0))) (post (.t (.c (.v (.int .i64 9))))) (lt (IntKind.i64.wrap (v0_0 + (1 : Int))) fun x2 => J 0 (nn0 :: []) (mk_ref06_VetoErr_0 f v x2))))) ((false = false) ∧ (lt (IntKind.i64.wrap (v0_0 + (1 : Int))) fun x3 => J 0 (nn0 :: []) (mk_ref06_VetoErr_0 f v x3)))))) (post (.t (.c (.v (.int .i64 0)))))
theorem er_ref06_VetoErr_0 (J : Inv) (f : Int) (v : List Int) (v0_0 : Int) (nn0 : Nat) (post : DV → Prop) : round Tryd.prog tab S86 ann_ref06_VetoErr J Tryd.f47 post 0 (nn0 :: []) (mk_ref06_VetoErr_0 f v v0_0) = rd_ref06_VetoErr_0 J f v v0_0 nn0 post := by kernel_rfl
theorem lp_ref06_VetoErr (J : Inv) (post : DV → Prop) : AllG J (loopsFn Tryd.prog tab S86 ann_ref06_VetoErr J Tryd.f47 post) = (((∀ F s, ¬ J 0 (0 :: F) s) ∧ ∀ n F s, J 0 ((n + 1) :: F) s → round Tryd.prog tab S86 ann_ref06_VetoErr J Tryd.f47 post 0 (n :: F) s) ∧ True) := by kernel_rfl
def J_ref06_VetoErr (f : Int) (v : List Int) : Inv := fun b F s => match b, F with
 | 0, [nn0] => ∃ (v0_0 : Int), s = mk_ref06_VetoErr_0 f v v0_0 ∧ ((inB f 0 8 = true ∧ v.length ≤ 8) ∧ 0 ≤ v0_0 ∧ v0_0 ≤ v.length ∧ (nn0 : Int) + v0_0 = v.length + 1 ∧ ∀ j : Nat, (j : Int) < v0_0 → senE v j = 0)
 | _, _ => False
theorem rnd_ref06_VetoErr_0 (f : Int) (v : List Int) (v0_0 : Int) (nn0 : Nat) (hi : (inB f 0 8 = true ∧ v.length ≤ 8) ∧ 0 ≤ v0_0 ∧ v0_0 ≤ v.length ∧ ((nn0 + 1) : Int) + v0_0 = v.length + 1 ∧ ∀ j : Nat, (j : Int) < v0_0 → senE v j = 0) : rd_ref06_VetoErr_0 (J_ref06_VetoErr f v) f v v0_0 nn0 (fun r => LeD r (.t (.c (.v (.int .i64 (vetE f v)))))) := by
 obtain ⟨⟨i0, i00⟩, i1, i2, i3, i4⟩ := hi
 obtain ⟨k, rfl⟩ : ∃ k : Nat, v0_0 = k := ⟨v0_0.toNat, by omega⟩
 have hk : (k : Int).toNat = k := rfl
 have hz : ∀ j, j < k → senE v j = 0 := fun j hj => i4 j (by omega)
 have eV : vetE f v = scan (senE v) v.length := by
  unfold vetE; rw [i0, decide_eq_true (by omega)]
  unfold unl firstNZ firstNZ firstNZ firstNZ
  simp
  intro h; rw [h]
 unfold rd_ref06_VetoErr_0
 rw [hk]
 refine cond_i (fun h => ?_) (fun h => leI ?_)
 ·have hlt : k < v.length := by have := of_decide_eq_true h; omega
  have eS : senE v k = firstNZ [unl (senB (v.getD k 0)) 6, unl (decide ((k : Int) = 0) || decide (v.getD k 0 > v.getD (k - 1) 0)) 9] := rfl
  have bad : ∀ e, e ≠ 0 → senE v k = e → LeD (.t (.c (.v (.int .i64 e)))) (.t (.c (.v (.int .i64 (vetE f v))))) := fun e he q => by
   subst q
   rw [eV, scan_at (f := senE v) hz hlt he]
   exact LeD.refl _
  have good : senE v k = 0 → ∀ x, IntKind.i64.wrap ((k : Int) + 1) = x → J_ref06_VetoErr f v 0 [nn0] (mk_ref06_VetoErr_0 f v x) := fun q x hx => by
   rw [wi (by omega)] at hx
   subst hx
   refine ⟨_, rfl, ⟨i0, i00⟩, by omega, by omega, by omega, fun j hj => ?_⟩
   by_cases c : j = k
   ·rw [c]; exact q
   ·exact i4 j (by omega)
  refine ⟨by omega, cond_i (fun a => bad 6 (by decide) ?_) (fun a => cond_i (fun c => ⟨by omega, lt_i fun x1 h1 => ?_⟩) (fun c => ⟨rfl, lt_i fun x hx => good ?_ x hx⟩))⟩
  ·have a : senB (v.getD k 0) = false := by simpa [senB] using a
   rw [eS, a]; rfl
  ·have a : senB (v.getD k 0) = true := by simpa [senB] using a
   have c := of_decide_eq_true c
   rw [wi (by omega)] at h1
   subst h1
   rw [show ((k : Int) - 1).toNat = k - 1 by omega]
   rw [a, decide_eq_false (show ¬ (k : Int) = 0 by omega), Bool.false_or] at eS
   refine ⟨by omega, cond_i (fun d => bad 9 (by decide) ?_) (fun d => lt_i fun x hx => good ?_ x hx)⟩
   ·have d := of_decide_eq_true d
    rw [eS, decide_eq_false (by omega)]; rfl
   ·have d := of_decide_eq_false d
    rw [eS, decide_eq_true (by omega)]; rfl
  ·have a : senB (v.getD k 0) = true := by simpa [senB] using a
   have c := of_decide_eq_false c
   rw [eS, a, decide_eq_true (show (k : Int) = 0 by omega)]; rfl
 ·have hge : k = v.length := by have := of_decide_eq_false h; omega
  subst hge
  rw [eV, scan_end (f := senE v) hz]
theorem zero_ref06_VetoErr_0 (f : Int) (v : List Int) (v0_0 : Int)  (hi : (inB f 0 8 = true ∧ v.length ≤ 8) ∧ 0 ≤ v0_0 ∧ v0_0 ≤ v.length ∧ (0 : Int) + v0_0 = v.length + 1 ∧ ∀ j : Nat, (j : Int) < v0_0 → senE v j = 0) : False := by
 omega
theorem spec_ref06_VetoErr (f : Int) (v : List Int) : vc_ref06_VetoErr (J_ref06_VetoErr f v) f v (fun r => LeD r (.t (.c (.v (.int .i64 (vetE f v)))))) := by
 unfold vc_ref06_VetoErr
 unfold vetE
 refine cond_i (fun h => leI ?_) (fun h => cond_i (fun h2 => leI ?_) (fun h2 => ?_))
 ·have h : inB f 0 8 = false := by simpa using h
  rw [h]; rfl
 ·have h : inB f 0 8 = true := by simpa using h
  have h2 := of_decide_eq_true h2
  rw [h, decide_eq_false (by omega)]; rfl
 ·have h : inB f 0 8 = true := by simpa using h
  have h2 := of_decide_eq_false h2
  exact ⟨v.length + 1, 0, rfl, ⟨h, by omega⟩, by omega, by omega, by omega, fun j hj => by omega⟩
theorem all_ref06_VetoErr (f : Int) (v : List Int) : AllG (J_ref06_VetoErr f v) (loopsFn Tryd.prog tab S86 ann_ref06_VetoErr (J_ref06_VetoErr f v) Tryd.f47 (fun r => LeD r (.t (.c (.v (.int .i64 (vetE f v))))))) := by
 rw [lp_ref06_VetoErr]
 refine ⟨⟨?_, ?_⟩, trivial⟩
 ·intro F s h
  obtain _ | ⟨g, F⟩ := F
  case cons => exact h.elim
  obtain ⟨w0, rfl, hi⟩ := h
  exact zero_ref06_VetoErr_0 f v w0 hi
 ·intro n F s h
  obtain _ | ⟨g, F⟩ := F
  case cons => exact h.elim
  obtain ⟨w0, rfl, hi⟩ := h
  rw [er_ref06_VetoErr_0]
  exact rnd_ref06_VetoErr_0 f v _ _ hi
def con_ref06_VetoErr : Con := fun args => match args with
 | [.t (.a [.v (.int .i64 f), .sl 1 n_v c_v])] => some (.t (.c (.v (.int .i64 (vetE f (listC n_v mkInt c_v))))), some (numsP 1 n_v c_v), false)
 | _ => none
theorem ok_ref06_VetoErr : Ok Tryd.prog 47 con_ref06_VetoErr := by
 refine Ok.fn (ann := ann_ref06_VetoErr) mixed tabOK VS86 ValidIt.no (fn := Tryd.f47) (by kernel_rfl) (by kernel_rfl) fit_ref06_VetoErr fun args r pre fresh h hp => ?_
 unfold con_ref06_VetoErr at h
 split at h
 ·rename_i f n_v c_v
  cases h
  have hp0 := hp
  refine ⟨rfl, J_ref06_VetoErr f (listC n_v mkInt c_v), [.t (.a [.v (.int .i64 f), .sl 1 ((listC n_v mkInt c_v).length) (intsC (listC n_v mkInt c_v))])], ?_, Nat.le_of_ble_eq_true (by kernel_rfl), ?_, ?_⟩
  ·exact (LeA_cons (leT_a (LeCs.cons (LeC1.refl _) (LeCs.cons ((leL_int hp0)) LeCs.nil))) LeA_nil)
  ·rw [ev_ref06_VetoErr]; exact spec_ref06_VetoErr f (listC n_v mkInt c_v)
  ·exact all_ref06_VetoErr f (listC n_v mkInt c_v)
 ·cases h
def S87 : Sum := addS S86 47 con_ref06_VetoErr
theorem VS87 : Valid Tryd.prog S87 := Valid.add VS86 ok_ref06_VetoErr
def mk_base_Has_0 (l : List Int) (a : Int) (v0_0 : Int) : DS := ⟨[some (.t (.c (.sl 1 l.length (intsC l)))), some (.t (.c (.v (.int .i64 a)))), none, none, none, some (.t (.c (.v (.int .i64 v0_0)))), none, none, none, none, none, none, none, none, none, none, none, none], [none, none, none, none, none, none, none, none, none, none, none, none, none, none, none, none, none, none]⟩
def vc_base_Has (J : Inv) (l : List Int) (a : Int) (post : DV → Prop) : Prop := ∃ n, J 0 (n :: []) (mk_base_Has_0 l a 0)
def ann_base_Has : Ann := ⟨fun _ => none, fun b => lookA b [(0, (none, some ⟨[0, 1, 5], [], []⟩))], fun _ => [], noIt, false, fun _ => none, fun _ => none⟩
theorem ev_base_Has (J : Inv) (l : List Int) (a : Int) (post : DV → Prop) : evFn Tryd.prog tab S87 ann_base_Has J Tryd.f52 [.t (.c (.sl 1 l.length (intsC l))), .t (.c (.v (.int .i64 a)))] post = vc_base_Has J l a post := by kernel_rfl
theorem fit_base_Has : okFn ann_base_Has Tryd.f52 = true := by kernel_rfl
def rd_base_Has_0 (J : Inv) (l : List Int) (a : Int) (v0_0 : Int) (nn0 : Nat) (post : DV → Prop) : Prop := cond (decide (v0_0 < ((l.length : Nat) : Int))) ((0 ≤ v0_0 ∧ v0_0 < ((l.length : Nat) : Int)) ∧ (cond ((l.getD v0_0.toNat 0) == a) (post (.t (.c (.v (.bool true))))) (lt (IntKind.i64.wrap (v0_0 + (1 : Int))) fun x1 => J 0 (nn0 :: []) (mk_base_Has_0 l a x1)))) (post (.t (.c (.v (.bool false)))))
theorem er_base_Has_0 (J : Inv) (l : List Int) (a : Int) (v0_0 : Int) (nn0 : Nat) (post : DV → Prop) : round Tryd.prog tab S87 ann_base_Has J Tryd.f52 post 0 (nn0 :: []) (mk_base_Has_0 l a v0_0) = rd_base_Has_0 J l a v0_0 nn0 post := by kernel_rfl
theorem lp_base_Has (J : Inv) (post : DV → Prop) : AllG J (loopsFn Tryd.prog tab S87 ann_base_Has J Tryd.f52 post) = (((∀ F s, ¬ J 0 (0 :: F) s) ∧ ∀ n F s, J 0 ((n + 1) :: F) s → round Tryd.prog tab S87 ann_base_Has J Tryd.f52 post 0 (n :: F) s) ∧ True) := by kernel_rfl
def J_base_Has (l : List Int) (a : Int) : Inv := fun b F s => match b, F with
 | 0, [nn0] => ∃ (v0_0 : Int), s = mk_base_Has_0 l a v0_0 ∧ (l.length ≤ 1000000 ∧ 0 ≤ v0_0 ∧ v0_0 ≤ l.length ∧ (nn0 : Int) + v0_0 = l.length + 1 ∧ ∀ k : Nat, (k : Int) < v0_0 → l.getD k 0 ≠ a)
 | _, _ => False
theorem rnd_base_Has_0 (l : List Int) (a : Int) (v0_0 : Int) (nn0 : Nat) (hp : (l).length ≤ 1000000) (hi : l.length ≤ 1000000 ∧ 0 ≤ v0_0 ∧ v0_0 ≤ l.length ∧ ((nn0 + 1) : Int) + v0_0 = l.length + 1 ∧ ∀ k : Nat, (k : Int) < v0_0 → l.getD k 0 ≠ a) : rd_base_Has_0 (J_base_Has l a) l a v0_0 nn0 (fun r => LeD r (.t (.c (.v (.bool ((l).contains a)))))) := by
 obtain ⟨i0, i1, i2, i3, i4⟩ := hi
 obtain ⟨k, rfl⟩ : ∃ k : Nat, v0_0 = k := ⟨v0_0.toNat, by omega⟩
 have hk : (k : Int).toNat = k := rfl
 unfold rd_base_Has_0
 rw [hk]
 refine cond_i (fun h => ?_) (fun h => leB ?_)
 ·have hlt : k < l.length := by have := of_decide_eq_true h; omega
  refine ⟨by omega, cond_i (fun e => leB ?_) (fun e => lt_i fun x hx => ?_)⟩
  ·have e : l.getD k 0 = a := by simpa using e
   exact (List.contains_iff_mem.2 (e ▸ getD_mem hlt)).symm
  ·rw [wi (by omega)] at hx
   subst hx
   refine ⟨_, rfl, i0, by omega, by omega, by omega, fun j hj => ?_⟩
   by_cases q : j = k
   ·rw [q]; simpa using e
   ·exact i4 j (by omega)
 ·have hge : k = l.length := by have := of_decide_eq_false h; omega
  refine (Bool.eq_false_iff.2 fun q => ?_).symm
  obtain ⟨j, hj, e⟩ := mem_getD (List.contains_iff_mem.1 q)
  exact i4 j (by omega) e
theorem zero_base_Has_0 (l : List Int) (a : Int) (v0_0 : Int)  (hi : l.length ≤ 1000000 ∧ 0 ≤ v0_0 ∧ v0_0 ≤ l.length ∧ (0 : Int) + v0_0 = l.length + 1 ∧ ∀ k : Nat, (k : Int) < v0_0 → l.getD k 0 ≠ a) : False := by
 omega
theorem spec_base_Has (l : List Int) (a : Int) (hp : (l).length ≤ 1000000) : vc_base_Has (J_base_Has l a) l a (fun r => LeD r (.t (.c (.v (.bool ((l).contains a)))))) := by
 unfold vc_base_Has
 exact ⟨l.length + 1, 0, rfl, hp, by omega, by omega, by omega, fun j hj => by omega⟩
theorem all_base_Has (l : List Int) (a : Int) (hp : (l).length ≤ 1000000) : AllG (J_base_Has l a) (loopsFn Tryd.prog tab S87 ann_base_Has (J_base_Has l a) Tryd.f52 (fun r => LeD r (.t (.c (.v (.bool ((l).contains a))))))) := by
 rw [lp_base_Has]
 refine ⟨⟨?_, ?_⟩, trivial⟩
 ·intro F s h
  obtain _ | ⟨g, F⟩ := F
  case cons => exact h.elim
  obtain ⟨w0, rfl, hi⟩ := h
  exact zero_base_Has_0 l a w0 hi
 ·intro n F s h
  obtain _ | ⟨g, F⟩ := F
  case cons => exact h.elim
  obtain ⟨w0, rfl, hi⟩ := h
  rw [er_base_Has_0]
  exact rnd_base_Has_0 l a _ _ hp hi
def con_base_Has : Con := fun args => match args with
 | [.t (.c (.sl 1 n_l c_l)), .t (.c (.v (.int .i64 a)))] => some (.t (.c (.v (.bool (((listC n_l mkInt c_l)).contains a)))), some (numsP 1 n_l c_l ∧ ((listC n_l mkInt c_l)).length ≤ 1000000), false)
 | _ => none
theorem ok_base_Has : Ok Tryd.prog 52 con_base_Has := by
 refine Ok.fn (ann := ann_base_Has) mixed tabOK VS87 ValidIt.no (fn := Tryd.f52) (by kernel_rfl) (by kernel_rfl) fit_base_Has fun args r pre fresh h hp => ?_
 unfold con_base_Has at h
 split at h
 ·rename_i n_l c_l a
  cases h
  obtain ⟨hp0, hp⟩ := hp
  refine ⟨rfl, J_base_Has (listC n_l mkInt c_l) a, [.t (.c (.sl 1 ((listC n_l mkInt c_l).length) (intsC (listC n_l mkInt c_l)))), .t (.c (.v (.int .i64 a)))], ?_, Nat.le_of_ble_eq_true (by kernel_rfl), ?_, ?_⟩
  ·exact (LeA_cons (leT_c ((leL_int hp0))) (LeA_cons (LeD.refl _) LeA_nil))
  ·rw [ev_base_Has]; exact spec_base_Has (listC n_l mkInt c_l) a hp
  ·exact all_base_Has (listC n_l mkInt c_l) a hp
 ·cases h
def S88 : Sum := addS S87 52 con_base_Has
theorem VS88 : Valid Tryd.prog S88 := Valid.add VS87 ok_base_Has
def S89 : Sum := S88
theorem VS89 : Valid Tryd.prog S89 := VS88
def S90 : Sum := S89
theorem VS90 : Valid Tryd.prog S90 := VS89
end Go.Proofs.YtmhgjlapkhdlmaaDoor
set_option linter.unusedVariables false
set_option linter.unusedSimpArgs false
namespace Go.Proofs.YtmhgjlapkhdlmaaDoor
open Go.RowKit Ev
def pasV (m : List Muon) (f : Int) (v : List Int) : List Int := if vvE m f v = 0 then pasL m f v else []
def mk_flash_PassingOf_0 (m : List Muon) (f : Int) (v : List Int) (v0_0 : List Int) (v0_1 : Int) : DS := ⟨[none, none, none, some (.t (.c (.p 3 0))), none, none, none, some (.t (.c (.os 7))), none, none, none, none, none, none, none, none, none, none, none, some (.t (.c (.sl 2 m.length (musC m)))), some (.t (.c (.v (.int .i64 ((m.length : Nat) : Int))))), some (.t (.c (.v (.int .i64 v0_1)))), none, none, none, none, none, none, none, none, none, none, none, none, none], [none, none, none, some (.box 71 [.v (.int .i64 f), .sl 1 v.length (intsC v)]), none, none, none, some (.num 3 .i64 v0_0), none, none, none, none, none, none, none, none, none, none, none, none, none, none, none, none, none, none, none, none, none, none, none, none, none, none, none]⟩
def vc_flash_PassingOf (J : Inv) (m : List Muon) (f : Int) (v : List Int) (post : DV → Prop) : Prop := (muP m.length (musC m) ∧ muSm (muOf m.length (musC m))) ∧ ((numsP 1 v.length (intsC v) ∧ ((listC v.length mkInt (intsC v))).length ≤ 1000000) ∧ ((numsP 1 2 (genC [[.v (.int .i64 (musE (muOf m.length (musC m))))], [.v (.int .i64 (vetE f (listC v.length mkInt (intsC v))))]]) ∧ (([(musE (muOf m.length (musC m))), (vetE f (listC v.length mkInt (intsC v)))] : List Int)).length ≤ 100) ∧ (cond ((firstNZ ([(musE (muOf m.length (musC m))), (vetE f (listC v.length mkInt (intsC v)))] : List Int)) != (0 : Int)) (post (.tu [.c (.v (.slice none 0 0)), .c (.v (.int .i64 (firstNZ ([(musE (muOf m.length (musC m))), (vetE f (listC v.length mkInt (intsC v)))] : List Int))))])) (∃ n, J 0 (n :: []) (mk_flash_PassingOf_0 m f v ([]) 0)))))
def ann_flash_PassingOf : Ann := ⟨fun r => lookA r [(1, ([[], [0], [], [0, 1, 2], [0, 1, 2, 3], [0, 1, 2, 3, 4], [0, 1, 2, 3, 4, 5]], [[11, 13, 14, 15], [13, 14, 15], [11, 13, 14, 15], [14, 15], [15], [], []]))], fun b => lookA b [(0, (none, some ⟨[3, 19, 20, 21], [3], [(7, .num 3 .i64 ([]))]⟩))], fun _ => [], noIt, true, fun _ => none, fun _ => none⟩
theorem ev_flash_PassingOf (J : Inv) (m : List Muon) (f : Int) (v : List Int) (post : DV → Prop) : evFn Tryd.prog tab S90 ann_flash_PassingOf J Tryd.f43 [.t (.c (.sl 2 m.length (musC m))), .t (.a [.v (.int .i64 f), .sl 1 v.length (intsC v)])] post = vc_flash_PassingOf J m f v post := by kernel_rfl
theorem fit_flash_PassingOf : okFn ann_flash_PassingOf Tryd.f43 = true := by kernel_rfl
def rd_flash_PassingOf_0 (J : Inv) (m : List Muon) (f : Int) (v : List Int) (v0_0 : List Int) (v0_1 : Int) (nn0 : Nat) (post : DV → Prop) : Prop := cond (decide (v0_1 < ((m.length : Nat) : Int))) ((0 ≤ v0_1 ∧ v0_1 < ((m.length : Nat) : Int)) ∧ ((numsP 1 ((muAt m v0_1.toNat).s.length) (intsC (muAt m v0_1.toNat).s) ∧ numsP 1 v.length (intsC v) ∧ 0 ≤ f ∧ ((listC ((muAt m v0_1.toNat).s.length) mkInt (intsC (muAt m v0_1.toNat).s))).length ≤ 1000000 ∧ ((listC v.length mkInt (intsC v))).length ≤ 1000000) ∧ (cond (passB f (listC v.length mkInt (intsC v)) ⟨(listC ((muAt m v0_1.toNat).s.length) mkInt (intsC (muAt m v0_1.toNat).s)), ((muAt m v0_1.toNat).w)⟩) (((IntKind.i64 = IntKind.i64 ∧ True) ∧ roomP 8 (v0_0.length + ([v0_1] : List Int).length)) ∧ (lt (IntKind.i64.wrap (v0_1 + (1 : Int))) fun x1 => J 0 (nn0 :: []) (mk_flash_PassingOf_0 m f v (v0_0 ++ ([v0_1])) x1))) (lt (IntKind.i64.wrap (v0_1 + (1 : Int))) fun x2 => J 0 (nn0 :: []) (mk_flash_PassingOf_0 m f v v0_0 x2))))) (post (.tu [.c (.sl 1 v0_0.length (numsC .i64 v0_0)), .c (.v (.int .i64 0))]))
theorem er_flash_PassingOf_0 (J : Inv) (m : List Muon) (f : Int) (v : List Int) (v0_0 : List Int) (v0_1 : Int) (nn0 : Nat) (post : DV → Prop) : round Tryd.prog tab S90 ann_flash_PassingOf J Tryd.f43 post 0 (nn0 :: []) (mk_flash_PassingOf_0 m f v v0_0 v0_1) = rd_flash_PassingOf_0 J m f v v0_0 v0_1 nn0 post := by kernel_rfl
theorem lp_flash_PassingOf (J : Inv) (post : DV → Prop) : AllG J (loopsFn Tryd.prog tab S90 ann_flash_PassingOf J Tryd.f43 post) = (((∀ F s, ¬ J 0 (0 :: F) s) ∧ ∀ n F s, J 0 ((n + 1) :: F) s → round Tryd.prog tab S90 ann_flash_PassingOf J Tryd.f43 post 0 (n :: F) s) ∧ True) := by kernel_rfl
def J_flash_PassingOf (m : List Muon) (f : Int) (v : List Int) : Inv := fun b F s => match b, F with
 | 0, [nn0] => ∃ (v0_0 : List Int) (v0_1 : Int), s = mk_flash_PassingOf_0 m f v v0_0 v0_1 ∧ (vvE m f v = 0 ∧ 0 ≤ v0_1 ∧ v0_1 ≤ m.length ∧ (nn0 : Int) + v0_1 = m.length + 1 ∧ v0_0 = ((List.range v0_1.toNat).filter fun i => passB f v (muAt m i)).map fun i : Nat => (i : Int))
 | _, _ => False
theorem rnd_flash_PassingOf_0 (m : List Muon) (f : Int) (v : List Int) (v0_0 : List Int) (v0_1 : Int) (nn0 : Nat) (hp : muSm m ∧ (v).length ≤ 1000000) (hi : vvE m f v = 0 ∧ 0 ≤ v0_1 ∧ v0_1 ≤ m.length ∧ ((nn0 + 1) : Int) + v0_1 = m.length + 1 ∧ v0_0 = ((List.range v0_1.toNat).filter fun i => passB f v (muAt m i)).map fun i : Nat => (i : Int)) : rd_flash_PassingOf_0 (J_flash_PassingOf m f v) m f v v0_0 v0_1 nn0 (fun r => LeD r (.tu [.c (.sl 1 ((pasV m f v).length) (intsC (pasV m f v))), .c (.v (.int .i64 (vvE m f v)))])) := by
 obtain ⟨i0, i1, i2, i3, i4⟩ := hi
 obtain ⟨k, rfl⟩ : ∃ k : Nat, v0_1 = k := ⟨v0_1.toNat, by omega⟩
 have hk : (k : Int).toNat = k := rfl
 rw [hk] at i4
 obtain ⟨k1, k2⟩ := fn2 i0
 obtain ⟨⟨z1, z2⟩, z3⟩ := mus_ok k1
 obtain ⟨f1, f2, _⟩ := vet_ok k2
 have hlen : v0_0.length ≤ k := by
  rw [i4, List.length_map]
  have := List.length_filter_le (fun i => passB f v (muAt m i)) (List.range k)
  rwa [List.length_range] at this
 unfold rd_flash_PassingOf_0
 rw [hk, ints_listC, ints_listC]
 refine cond_i (fun h => ?_) (fun h => ?_)
 ·have hlt : k < m.length := by have := of_decide_eq_true h; omega
  obtain ⟨w1, w2, _⟩ := mu_ok (z3 k hlt)
  have eM : (⟨(muAt m k).s, (muAt m k).w⟩ : Muon) = muAt m k := rfl
  rw [eM]
  have eR : ((List.range (k + 1)).filter fun i => passB f v (muAt m i)) = ((List.range k).filter fun i => passB f v (muAt m i)) ++ (if passB f v (muAt m k) = true then [k] else []) := by
   rw [List.range_succ, List.filter_append, List.filter_cons]; rfl
  refine ⟨by omega, ⟨numsP_ints _, numsP_ints _, by omega, by omega, by omega⟩, cond_i (fun e => ⟨⟨⟨rfl, trivial⟩, ?_⟩, lt_i fun x hx => ?_⟩) (fun e => lt_i fun x hx => ?_)⟩
  ·unfold roomP maxLen; simp; omega
  ·rw [wi (by omega)] at hx
   subst hx
   refine ⟨_, _, rfl, i0, by omega, by omega, by omega, ?_⟩
   rw [show ((k : Int) + 1).toNat = k + 1 by omega, eR, if_pos e, List.map_append, i4]; rfl
  ·rw [wi (by omega)] at hx
   subst hx
   refine ⟨_, _, rfl, i0, by omega, by omega, by omega, ?_⟩
   rw [show ((k : Int) + 1).toNat = k + 1 by omega, eR, if_neg (by rw [e]; simp), List.append_nil, i4]
 ·have hge : k = m.length := by have := of_decide_eq_false h; omega
  rw [show pasV m f v = pasL m f v from if_pos i0, i4, hge, i0]
  exact LeD.refl _
theorem zero_flash_PassingOf_0 (m : List Muon) (f : Int) (v : List Int) (v0_0 : List Int) (v0_1 : Int)  (hi : vvE m f v = 0 ∧ 0 ≤ v0_1 ∧ v0_1 ≤ m.length ∧ (0 : Int) + v0_1 = m.length + 1 ∧ v0_0 = ((List.range v0_1.toNat).filter fun i => passB f v (muAt m i)).map fun i : Nat => (i : Int)) : False := by
 omega
theorem spec_flash_PassingOf (m : List Muon) (f : Int) (v : List Int) (hp : muSm m ∧ (v).length ≤ 1000000) : vc_flash_PassingOf (J_flash_PassingOf m f v) m f v (fun r => LeD r (.tu [.c (.sl 1 ((pasV m f v).length) (intsC (pasV m f v))), .c (.v (.int .i64 (vvE m f v)))])) := by
 unfold vc_flash_PassingOf
 rw [mus_of, ints_listC]
 refine ⟨⟨muP_mus m, hp.1⟩, ⟨numsP_ints v, hp.2⟩, ⟨numsP_gen [_, _], Nat.le_of_ble_eq_true rfl⟩, cond_i (fun h => ?_) (fun h => ?_)⟩
 ·have h : vvE m f v ≠ 0 := by unfold vvE; simpa using h
  rw [show pasV m f v = [] from if_neg h]
  exact le_tu le_nil (LeD.refl _)
 ·have h : vvE m f v = 0 := by unfold vvE; simpa using h
  exact ⟨m.length + 1, [], 0, rfl, h, by omega, by omega, by omega, rfl⟩
theorem all_flash_PassingOf (m : List Muon) (f : Int) (v : List Int) (hp : muSm m ∧ (v).length ≤ 1000000) : AllG (J_flash_PassingOf m f v) (loopsFn Tryd.prog tab S90 ann_flash_PassingOf (J_flash_PassingOf m f v) Tryd.f43 (fun r => LeD r (.tu [.c (.sl 1 ((pasV m f v).length) (intsC (pasV m f v))), .c (.v (.int .i64 (vvE m f v)))]))) := by
 rw [lp_flash_PassingOf]
 refine ⟨⟨?_, ?_⟩, trivial⟩
 ·intro F s h
  obtain _ | ⟨g, F⟩ := F
  case cons => exact h.elim
  obtain ⟨w0, w1, rfl, hi⟩ := h
  exact zero_flash_PassingOf_0 m f v w0 w1 hi
 ·intro n F s h
  obtain _ | ⟨g, F⟩ := F
  case cons => exact h.elim
  obtain ⟨w0, w1, rfl, hi⟩ := h
  rw [er_flash_PassingOf_0]
  exact rnd_flash_PassingOf_0 m f v _ _ _ hp hi
def con_flash_PassingOf : Con := fun args => match args with
 | [.t (.c (.sl 2 n_m c_m)), .t (.a [.v (.int .i64 f), .sl 1 n_v c_v])] => some (.tu [.c (.sl 1 ((pasV (muOf n_m c_m) f (listC n_v mkInt c_v)).length) (intsC (pasV (muOf n_m c_m) f (listC n_v mkInt c_v)))), .c (.v (.int .i64 (vvE (muOf n_m c_m) f (listC n_v mkInt c_v))))], some (muP n_m c_m ∧ numsP 1 n_v c_v ∧ muSm (muOf n_m c_m) ∧ ((listC n_v mkInt c_v)).length ≤ 1000000), true)
 | _ => none
theorem ok_flash_PassingOf : Ok Tryd.prog 43 con_flash_PassingOf := by
 refine Ok.fnFr (ann := ann_flash_PassingOf) mixed tabOK VS90 ValidIt.no rfl (fn := Tryd.f43) (by kernel_rfl) (by kernel_rfl) fit_flash_PassingOf fun args r pre fresh h hp => ?_
 unfold con_flash_PassingOf at h
 split at h
 ·rename_i n_m c_m f n_v c_v
  cases h
  obtain ⟨hp0, hp1, hp⟩ := hp
  refine ⟨rfl, (by intro x hx; simp only [List.mem_cons, List.not_mem_nil, or_false] at hx; rcases hx with rfl | rfl; exact (fun i j _ hj => plain_int _ i j); exact trivial), J_flash_PassingOf (muOf n_m c_m) f (listC n_v mkInt c_v), [.t (.c (.sl 2 ((muOf n_m c_m).length) (musC (muOf n_m c_m)))), .t (.a [.v (.int .i64 f), .sl 1 ((listC n_v mkInt c_v).length) (intsC (listC n_v mkInt c_v))])], ?_, Nat.le_of_ble_eq_true (by kernel_rfl), ?_, ?_⟩
  ·exact (LeA_cons (leT_c ((leL_Muon hp0))) (LeA_cons (leT_a (LeCs.cons (LeC1.refl _) (LeCs.cons ((leL_int hp1)) LeCs.nil))) LeA_nil))
  ·rw [ev_flash_PassingOf]; exact spec_flash_PassingOf (muOf n_m c_m) f (listC n_v mkInt c_v) hp
  ·exact all_flash_PassingOf (muOf n_m c_m) f (listC n_v mkInt c_v) hp
 ·cases h
def S91 : Sum := addS S90 43 con_flash_PassingOf
theorem VS91 : Valid Tryd.prog S91 := Valid.add VS90 ok_flash_PassingOf
def vc_flash_ErrorOf (m : List Muon) (f : Int) (v : List Int) (post : DV → Prop) : Prop := (muP m.length (musC m) ∧ muSm (muOf m.length (musC m))) ∧ ((numsP 1 v.length (intsC v) ∧ ((listC v.length mkInt (intsC v))).length ≤ 1000000) ∧ ((numsP 1 2 (genC [[.v (.int .i64 (musE (muOf m.length (musC m))))], [.v (.int .i64 (vetE f (listC v.length mkInt (intsC v))))]]) ∧ (([(musE (muOf m.length (musC m))), (vetE f (listC v.length mkInt (intsC v)))] : List Int)).length ≤ 100) ∧ (cond ((firstNZ ([(musE (muOf m.length (musC m))), (vetE f (listC v.length mkInt (intsC v)))] : List Int)) != (0 : Int)) (post (.tu [.a [.v (.int .i64 0), .v (.int .i64 0)], .c (.v (.int .i64 (firstNZ ([(musE (muOf m.length (musC m))), (vetE f (listC v.length mkInt (intsC v)))] : List Int))))])) ((muP m.length (musC m) ∧ numsP 1 v.length (intsC v) ∧ musE (muOf m.length (musC m)) = 0 ∧ vetE f (listC v.length mkInt (intsC v)) = 0) ∧ (lt (IntKind.i64.wrap ((sumW (muOf m.length (musC m))) * (sumW (muOf m.length (musC m))))) fun x1 => (0 ≤ (sumQ (passL f (listC v.length mkInt (intsC v)) (muOf m.length (musC m)))) ∧ (sumQ (passL f (listC v.length mkInt (intsC v)) (muOf m.length (musC m)))) ≤ 1000000000000 ∧ 0 < x1 ∧ x1 ≤ 1000000000000) ∧ (post (.tu [.a [.v (.int .i64 (lowN (sumQ (passL f (listC v.length mkInt (intsC v)) (muOf m.length (musC m)))) x1)), .v (.int .i64 (lowD (sumQ (passL f (listC v.length mkInt (intsC v)) (muOf m.length (musC m)))) x1))], .c (.v (.int .i64 0))])))))))
def ann_flash_ErrorOf : Ann := ⟨fun r => lookA r [(1, ([[], [0], [], [0, 1, 2], [0, 1, 2, 3], [0, 1, 2, 3, 4], [0, 1, 2, 3, 4, 5]], [[11, 13, 14, 15], [13, 14, 15], [11, 13, 14, 15], [14, 15], [15], [], []]))], fun _ => none, fun _ => [], noIt, false, fun _ => none, fun _ => none⟩
theorem ev_flash_ErrorOf (J : Inv) (m : List Muon) (f : Int) (v : List Int) (post : DV → Prop) : evFn Tryd.prog tab S91 ann_flash_ErrorOf J Tryd.f45 [.t (.c (.sl 2 m.length (musC m))), .t (.a [.v (.int .i64 f), .sl 1 v.length (intsC v)])] post = vc_flash_ErrorOf m f v post := by kernel_rfl
theorem fit_flash_ErrorOf : okFn ann_flash_ErrorOf Tryd.f45 = true := by kernel_rfl
theorem lp_flash_ErrorOf (J : Inv) (post : DV → Prop) : AllG J (loopsFn Tryd.prog tab S91 ann_flash_ErrorOf J Tryd.f45 post) = (True) := by kernel_rfl
theorem spec_flash_ErrorOf (m : List Muon) (f : Int) (v : List Int) (hp : muSm m ∧ (v).length ≤ 1000000) : vc_flash_ErrorOf m f v (fun r => LeD r (.tu [.a [.v (.int .i64 (erQN m f v)), .v (.int .i64 (erQD m f v))], .c (.v (.int .i64 (vvE m f v)))])) := by
 unfold vc_flash_ErrorOf
 rw [mus_of, ints_listC]
 refine ⟨⟨muP_mus m, hp.1⟩, ⟨numsP_ints v, hp.2⟩, ⟨numsP_gen [_, _], Nat.le_of_ble_eq_true rfl⟩, cond_i (fun h => ?_) (fun h => ?_)⟩
 ·have h : vvE m f v ≠ 0 := by unfold vvE; simpa using h
  rw [show erQN m f v = 0 from if_neg h, show erQD m f v = 0 from if_neg h]
  exact LeD.refl _
 ·have h : vvE m f v = 0 := by unfold vvE; simpa using h
  have k := fn2 h
  have r := pass_rg k.1 f v
  have z := (mus_ok k.1).1
  have mm := mul_rg (x := sumW m) (y := sumW m) (A := 4000) (B := 4000) (C := 16000000) (by omega) (by omega) (by decide)
  have mp := Int.mul_pos (a := sumW m) (b := sumW m) (by omega) (by omega)
  rw [show erQN m f v = _ from if_pos h, show erQD m f v = _ from if_pos h, h]
  refine ⟨⟨muP_mus m, numsP_ints v, k⟩, lt_i fun x hx => ?_⟩
  rw [wi (by omega)] at hx
  subst hx
  exact ⟨by omega, LeD.refl _⟩
def con_flash_ErrorOf : Con := fun args => match args with
 | [.t (.c (.sl 2 n_m c_m)), .t (.a [.v (.int .i64 f), .sl 1 n_v c_v])] => some (.tu [.a [.v (.int .i64 (erQN (muOf n_m c_m) f (listC n_v mkInt c_v))), .v (.int .i64 (erQD (muOf n_m c_m) f (listC n_v mkInt c_v)))], .c (.v (.int .i64 (vvE (muOf n_m c_m) f (listC n_v mkInt c_v))))], some (muP n_m c_m ∧ numsP 1 n_v c_v ∧ muSm (muOf n_m c_m) ∧ ((listC n_v mkInt c_v)).length ≤ 1000000), false)
 | _ => none
theorem ok_flash_ErrorOf : Ok Tryd.prog 45 con_flash_ErrorOf := by
 refine Ok.fn (ann := ann_flash_ErrorOf) mixed tabOK VS91 ValidIt.no (fn := Tryd.f45) (by kernel_rfl) (by kernel_rfl) fit_flash_ErrorOf fun args r pre fresh h hp => ?_
 unfold con_flash_ErrorOf at h
 split at h
 ·rename_i n_m c_m f n_v c_v
  cases h
  obtain ⟨hp0, hp1, hp⟩ := hp
  refine ⟨rfl, fun _ _ _ => False, [.t (.c (.sl 2 ((muOf n_m c_m).length) (musC (muOf n_m c_m)))), .t (.a [.v (.int .i64 f), .sl 1 ((listC n_v mkInt c_v).length) (intsC (listC n_v mkInt c_v))])], ?_, Nat.le_of_ble_eq_true (by kernel_rfl), ?_, ?_⟩
  ·exact (LeA_cons (leT_c ((leL_Muon hp0))) (LeA_cons (leT_a (LeCs.cons (LeC1.refl _) (LeCs.cons ((leL_int hp1)) LeCs.nil))) LeA_nil))
  ·rw [ev_flash_ErrorOf]; exact spec_flash_ErrorOf (muOf n_m c_m) f (listC n_v mkInt c_v) hp
  ·rw [lp_flash_ErrorOf]; trivial
 ·cases h
def S92 : Sum := addS S91 45 con_flash_ErrorOf
theorem VS92 : Valid Tryd.prog S92 := Valid.add VS91 ok_flash_ErrorOf
def S93 : Sum := S92
theorem VS93 : Valid Tryd.prog S93 := VS92
def S94 : Sum := S93
theorem VS94 : Valid Tryd.prog S94 := VS93
end Go.Proofs.YtmhgjlapkhdlmaaDoor
set_option linter.unusedVariables false
set_option linter.unusedSimpArgs false
namespace Go.Proofs.YtmhgjlapkhdlmaaDoor
open Go.RowKit Ev
theorem gcd2_dvd (a b : Int) : gcd2 a b ∣ a ∧ gcd2 a b ∣ b := ⟨Int.gcd_dvd_left .., Int.gcd_dvd_right ..⟩
theorem lowF {a b : Int} (hb : 0 < b) : 0 < lowD a b ∧ lowN a b * b = a * lowD a b ∧ gcd2 (lowN a b) (lowD a b) = 1 ∧ lowD a b ≤ b ∧ (0 ≤ a → 0 ≤ lowN a b ∧ lowN a b ≤ a) := by
 have hg := gcd2_pos (a := a) (b := b) (by omega)
 obtain ⟨h1, h2⟩ := gcd2_dvd a b
 have h3 : gcd2 (lowN a b) (lowD a b) = 1 := by
  unfold gcd2 lowN lowD
  have : 0 < Int.gcd a b := by unfold gcd2 at hg; omega
  have e := Int.gcd_ediv_gcd_ediv_gcd this
  unfold gcd2
  rw [e]; rfl
 unfold lowN lowD at *
 generalize gcd2 a b = g at *
 obtain ⟨x, rfl⟩ := h1
 obtain ⟨y, rfl⟩ := h2
 rw [Int.mul_ediv_cancel_left _ (by omega), Int.mul_ediv_cancel_left _ (by omega)] at *
 have hy : 0 < y := by
  rcases Int.lt_or_le 0 y with h | h
  ·exact h
  ·have := Int.mul_nonpos_of_nonneg_of_nonpos (show 0 ≤ g by omega) h; omega
 refine ⟨hy, by grind, h3, ?_, fun ha => ?_⟩
 ·have := Int.mul_le_mul_of_nonneg_right (show 1 ≤ g by omega) (show 0 ≤ y by omega); omega
 ·have hx : 0 ≤ x := by
   rcases Int.lt_or_le x 0 with h | h
   ·have := Int.mul_neg_of_pos_of_neg hg h; omega
   ·exact h
  have := Int.mul_le_mul_of_nonneg_right (show 1 ≤ g by omega) hx
  omega
theorem frac_le {a b c d A B C D : Int} (hb : 0 < b) (hd : 0 < d) (hB : 0 < B) (hD : 0 < D) (h1 : a * B = A * b) (h2 : c * D = C * d) (h : A * D ≤ C * B) : a * d ≤ c * b := by
 have h3 := Int.mul_le_mul_of_nonneg_right h (show 0 ≤ b * d by exact Int.le_of_lt (Int.mul_pos hb hd))
 have e1 : a * d * (B * D) = A * D * (b * d) := by
  rw [show a * d * (B * D) = (a * B) * (d * D) by grind, h1]; grind
 have e2 : c * b * (B * D) = C * B * (b * d) := by
  rw [show c * b * (B * D) = (c * D) * (b * B) by grind, h2]; grind
 have h4 : a * d * (B * D) ≤ c * b * (B * D) := by rw [e1, e2]; exact h3
 exact Int.le_of_mul_le_mul_right h4 (Int.mul_pos hB hD)
def cmpF (a b c d : Int) : Int := if a * d < c * b then -1 else if a * d > c * b then 1 else 0
theorem cmpF_le {a b c d : Int} (h : a * d ≤ c * b) : cmpF a b c d ≤ 0 := by
 unfold cmpF
 split
 ·omega
 ·split <;> omega
theorem passB_more {f f' : Int} {v v' : List Int} (hf : f ≤ f') (hv : ∀ s ∈ v, s ∈ v') (m : Muon) (h : passB f' v' m = true) : passB f v m = true := by
 unfold passB at *
 rw [List.all_eq_true] at *
 intro s hs
 have h1 := h s (List.take_subset_take_left _ (by omega) hs)
 simp only [Bool.not_eq_true', List.contains_eq_mem, decide_eq_false_iff_not] at *
 exact fun h2 => h1 (hv s h2)
theorem sumW_nn {l : List Muon} (h : ∀ m ∈ l, 0 ≤ m.w) : 0 ≤ sumW l := by
 induction l with
 | nil => exact Int.le_refl _
 | cons m l ih => have := h m (by simp); have := ih (fun x hx => h x (by simp [hx])); simp only [sumW]; omega
theorem sumW_filter {l : List Muon} (h : ∀ m ∈ l, 0 ≤ m.w) {p q : Muon → Bool} (hpq : ∀ m, p m = true → q m = true) : sumW (l.filter p) ≤ sumW (l.filter q) := by
 induction l with
 | nil => exact Int.le_refl _
 | cons m l ih =>
  have h1 := h m (by simp)
  have h2 := ih (fun x hx => h x (by simp [hx]))
  by_cases hp : p m = true
  ·rw [List.filter_cons_of_pos hp, List.filter_cons_of_pos (hpq m hp)]; simp only [sumW]; omega
  ·rw [List.filter_cons_of_neg hp]
   by_cases hq : q m = true
   ·rw [List.filter_cons_of_pos hq]; simp only [sumW]; omega
   ·rw [List.filter_cons_of_neg hq]; exact h2
theorem sumW_one {l : List Muon} (h : ∀ m ∈ l, 0 ≤ m.w) {m : Muon} (hm : m ∈ l) : m.w ≤ sumW l := by
 induction l with
 | nil => cases hm
 | cons x l ih =>
  have h1 := h x (by simp)
  have h2 := sumW_nn (l := l) (fun y hy => h y (List.mem_cons_of_mem _ hy))
  rcases List.mem_cons.1 hm with rfl | hm
  ·simp only [sumW]; omega
  ·have := ih (fun y hy => h y (by simp [hy])) hm; simp only [sumW]; omega
theorem sumQ_le {A : Int} {l : List Muon} (h : ∀ m ∈ l, 0 ≤ m.w ∧ m.w ≤ A) : sumQ l ≤ sumW l * A := by
 induction l with
 | nil => simp [sumQ, sumW]
 | cons m l ih =>
  have h1 := h m (by simp)
  have h2 := ih (fun x hx => h x (by simp [hx]))
  have h4 := Int.mul_le_mul_of_nonneg_left h1.2 h1.1
  simp only [sumQ, sumW]
  rw [Int.add_mul]; omega
def moK (v : List Int) (t : Int) (k : Nat) : List Int := ((List.range k).filter fun i : Nat => decide ((i : Int) = t) || v.contains (i : Int)).map fun i : Nat => (i : Int)
theorem moK_succ (v : List Int) (t : Int) (k : Nat) : moK v t (k + 1) = moK v t k ++ (if (decide ((k : Int) = t) || v.contains (k : Int)) = true then [(k : Int)] else []) := by
 unfold moK
 rw [List.range_succ, List.filter_append, List.map_append]
 congr 1
 rw [List.filter_cons]
 cases (decide ((k : Int) = t) || v.contains (k : Int)) <;> rfl
theorem moK_len (v : List Int) (t : Int) (k : Nat) : (moK v t k).length ≤ k := by
 unfold moK
 rw [List.length_map]
 have := List.length_filter_le (fun i : Nat => decide ((i : Int) = t) || v.contains (i : Int)) (List.range k)
 rwa [List.length_range] at this
theorem moK_asc (v : List Int) (t : Int) (k : Nat) : (moK v t k).Pairwise (· < ·) := by
 unfold moK
 rw [List.pairwise_map]
 refine (List.Pairwise.filter _ List.pairwise_lt_range).imp fun {a b} h => ?_
 omega
theorem moK_rg {v : List Int} {t : Int} {k : Nat} {s : Int} (h : s ∈ moK v t k) : 0 ≤ s ∧ s < k := by
 obtain ⟨j, hj, rfl⟩ := List.mem_map.1 h
 have := List.mem_range.1 (List.mem_filter.1 hj).1
 omega
theorem vetE_asc {f : Int} {l : List Int} (hf : 0 ≤ f ∧ f ≤ 8) (hl : l.length ≤ 8) (h1 : l.Pairwise (· < ·)) (h2 : ∀ s ∈ l, 0 ≤ s ∧ s < 8) : vetE f l = 0 := by
 have hs : scan (senE l) l.length = 0 := by
  refine scan_end fun i hi => ?_
  have e : l.getD i 0 = l[i] := by simp [List.getD, hi]
  have g := h2 _ (List.getElem_mem hi)
  unfold senE sen1
  rw [e, (unl_0 (by decide)).2 (show senB l[i] = true from inB_true.2 (by omega))]
  by_cases hz : i = 0
  ·subst hz; rfl
  ·have hi' : i - 1 < l.length := by omega
   have e2 : l.getD (i - 1) 0 = l[i - 1] := by simp [List.getD, hi']
   have := List.pairwise_iff_getElem.1 h1 (i - 1) i hi' hi (by omega)
   rw [e2, (unl_0 (by decide)).2 (show (decide ((i : Int) = 0) || decide (l[i] > l[i - 1])) = true by simp; omega)]
   rfl
 unfold vetE
 rw [hs, (unl_0 (by decide)).2 (inB_true.2 hf), (unl_0 (by decide)).2 (show decide ((l.length : Int) ≤ 8) = true by simp; omega)]
 rfl
theorem vet_mem {f : Int} {v : List Int} (h : vetE f v = 0) : ∀ s ∈ v, 0 ≤ s ∧ s < 8 := by
 intro s hs
 obtain ⟨i, hi, rfl⟩ := List.getElem_of_mem hs
 have h1 := (vet_ok h).2.2 i hi
 unfold senE sen1 at h1
 obtain ⟨h2, _⟩ := fn2'.1 h1
 rw [unl_0 (by decide)] at h2
 have h3 := inB_true.1 h2
 have e : v.getD i 0 = v[i] := by simp [List.getD, hi]
 rw [e] at h3
 omega
theorem gr_facts {m : List Muon} {f : Int} {v : List Int} (h : vvE m f v = 0) : (0 ≤ prtN m f v ∧ prtN m f v ≤ prtD m f v ∧ 0 < prtD m f v ∧ prtD m f v ≤ 4000) ∧ (0 ≤ erQN m f v ∧ erQN m f v ≤ 400000 ∧ 0 < erQD m f v ∧ erQD m f v ≤ 16000000) ∧ gcd2 (prtN m f v) (prtD m f v) = 1 ∧ gcd2 (erQN m f v) (erQD m f v) = 1 ∧ cmpF (erQN m f v) (erQD m f v) (prtN m f v) (prtD m f v) ≤ 0 := by
 obtain ⟨h1, h2⟩ := fn2 h
 obtain ⟨r1, r2, r3⟩ := pass_rg h1 f v
 have z := (mus_ok h1).1
 have wn : ∀ x ∈ m, 0 ≤ x.w := fun x hx => by have := (mus_mem h1 x hx).1; omega
 have p1 := sumW_filter wn (p := passB f v) (q := fun _ => true) (fun _ _ => rfl)
 rw [List.filter_eq_self.2 (fun _ _ => rfl)] at p1
 have q1 := sumQ_le (A := sumW m) (l := passL f v m) (fun x hx => by
  have hx' := (List.mem_filter.1 hx).1
  exact ⟨wn x hx', sumW_one wn hx'⟩)
 have q2 := Int.mul_le_mul_of_nonneg_right q1 (show 0 ≤ sumW m by omega)
 have sp : 0 < sumW m := by omega
 have sq := Int.mul_pos sp sp
 have sm := mul_rg (x := sumW m) (y := sumW m) (A := 4000) (B := 4000) (C := 16000000) (by omega) (by omega) (by decide)
 obtain ⟨a1, a2, a3, a4, a5⟩ := lowF (a := sumW (passL f v m)) sp
 obtain ⟨b1, b2, b3, b4, b5⟩ := lowF (a := sumQ (passL f v m)) sq
 have a5 := a5 r2.1
 have b5 := b5 r3.1
 have pl : sumW (passL f v m) ≤ sumW m := p1
 rw [show prtN m f v = _ from if_pos h, show prtD m f v = _ from if_pos h, show erQN m f v = _ from if_pos h, show erQD m f v = _ from if_pos h]
 refine ⟨⟨a5.1, ?_, a1, by omega⟩, ⟨b5.1, by omega, b1, by omega⟩, a3, b3, cmpF_le ?_⟩
 ·have t := Int.mul_le_mul_of_nonneg_right pl (show 0 ≤ lowD (sumW (passL f v m)) (sumW m) by omega)
  rw [← a2, Int.mul_comm (sumW m)] at t
  exact Int.le_of_mul_le_mul_right t sp
 ·refine frac_le b1 a1 sq sp b2 a2 ?_
  rwa [Int.mul_assoc] at q2
theorem gr_less {m : List Muon} {f f' : Int} {v v' : List Int} (h : vvE m f v = 0) (h' : vvE m f' v' = 0) (hf : f ≤ f') (hv : ∀ s ∈ v, s ∈ v') : cmpF (prtN m f' v') (prtD m f' v') (prtN m f v) (prtD m f v) ≤ 0 ∧ ∀ i ∈ pasL m f' v', i ∈ pasL m f v := by
 obtain ⟨h1, h2⟩ := fn2 h
 have z := (mus_ok h1).1
 have wn : ∀ x ∈ m, 0 ≤ x.w := fun x hx => by have := (mus_mem h1 x hx).1; omega
 have sp : 0 < sumW m := by have := (pass_rg h1 f v).1; omega
 obtain ⟨a1, a2, _⟩ := lowF (a := sumW (passL f v m)) sp
 obtain ⟨b1, b2, _⟩ := lowF (a := sumW (passL f' v' m)) sp
 rw [show prtN m f v = _ from if_pos h, show prtD m f v = _ from if_pos h, show prtN m f' v' = _ from if_pos h', show prtD m f' v' = _ from if_pos h']
 refine ⟨cmpF_le (frac_le b1 a1 sp sp b2 a2 (Int.mul_le_mul_of_nonneg_right (sumW_filter wn fun x hx => passB_more hf hv x hx) (by omega))), fun i hi => ?_⟩
 obtain ⟨j, hj, rfl⟩ := List.mem_map.1 hi
 obtain ⟨g1, g2⟩ := List.mem_filter.1 hj
 exact List.mem_map.2 ⟨j, List.mem_filter.2 ⟨g1, passB_more hf hv _ g2⟩, rfl⟩
theorem gr_more {m : List Muon} {f : Int} {v : List Int} (t : Int) (h : vvE m f v = 0) : vvE m (if (8 : Int) < f + 1 then 8 else f + 1) (moK v t 8) = 0 ∧ f ≤ (if (8 : Int) < f + 1 then 8 else f + 1) ∧ ∀ s ∈ v, s ∈ moK v t 8 := by
 obtain ⟨h1, h2⟩ := fn2 h
 have hf := (vet_ok h2).1
 refine ⟨?_, by split <;> omega, fun s hs => ?_⟩
 ·unfold vvE
  rw [h1, vetE_asc (by split <;> omega) (moK_len _ _ _) (moK_asc _ _ _) (fun s hs => moK_rg hs)]
  rfl
 ·have hr := vet_mem h2 s hs
  exact List.mem_map.2 ⟨s.toNat, List.mem_filter.2 ⟨List.mem_range.2 (by omega), by rw [show ((s.toNat : Nat) : Int) = s by omega]; simp [hs]⟩, by omega⟩
end Go.Proofs.YtmhgjlapkhdlmaaDoor
set_option linter.unusedVariables false
set_option linter.unusedSimpArgs false
namespace Go.Proofs.YtmhgjlapkhdlmaaDoor
open Go.RowKit Ev
theorem alloc2v (w : World) (a b : Array Value) (t s : TypeId) : ∀ W, W = (w.alloc (.cells a t)).alloc (.cells b s) →
  W.heap[w.heap.size]? = some (.cells a t (0, 0)) ∧ W.heap[w.heap.size + 1]? = some (.cells b s (0, 0)) := by
 rintro W rfl
 refine ⟨?_, ?_⟩
 ·rw [Below.heap_alloc _ _ _ (by simp), heap_alloc_new]
 ·have := heap_alloc_new (w.alloc (.cells a t)) (.cells b s)
  simpa using this
theorem cell_setB (w : World) (B off k : Nat) (v : Value) {b : Nat} (h : b ≠ B) : (w.setCell ⟨B, k, none⟩ v).cell? ⟨b, off, none⟩ = w.cell? ⟨b, off, none⟩ :=
 World.cell?_setCell_other w _ _ _ (by intro e; cases e; exact h rfl)
set_option maxRecDepth 100000 in
set_option maxHeartbeats 1000000 in
theorem walk_CopyVeto (W : World) (N : Nat → Prop) (hG : Gd W) (f : Int) (n : Nat) (c : Nat → Nat → CV) (x : Value) (hp : numsP 1 n c ∧ (listC n mkInt c).length ≤ 1000000) (hv : RelF W N (.sl 1 n c) x) :
  Calls Tryd.prog 44 #[.agg #[.int .i64 f, x]] W fun e w' => ∃ v, e = .returned v ∧ RelD (RelF w' (resN W N .new)) (.t (.a [.v (.int .i64 f), .sl 1 (listC n mkInt c).length (intsC (listC n mkInt c))])) v ∧ Below W.heap.size W w' := by
 obtain ⟨ao, cap, rfl, _⟩ := id hv
 obtain ⟨W2, hW⟩ : ∃ W2, W2 = (W.alloc (.cells #[.int .i64 f, .slice ao n cap] 71)).alloc (.cells #[.int .i64 0, .slice none 0 0] 71) := ⟨_, rfl⟩
 have hzW : W2.heap.size = W.heap.size + 1 + 1 := by rw [hW]; simp
 have hBW : Below W.heap.size W W2 := by rw [hW]; exact BelowA
 obtain ⟨q0, q1⟩ := alloc2v W _ _ _ _ W2 hW
 have HQ := hid q1
 have hl1 : W.heap.size + 1 < W2.heap.size := by omega
 obtain ⟨a0, a1, fa0, fa1, hl0⟩ := two_cells q0
 have HBW := hid hBW
 have hBD : Below W.heap.size W W2.drew := by exact BelowA
 have hzD : W2.drew.heap.size = W2.heap.size := rfl
 have hG2 : Gd W2.drew := hG.below hBD
 have hv2 : RelF W2.drew N (.sl 1 n c) (.slice ao n cap) := RelF.mono (by omega) (fun b _ hb off => show W2.drew.cell? ⟨b, off, none⟩ = W.cell? ⟨b, off, none⟩ from hBD.cell hb) (fun _ h _ => h) _ hv
 have HC := hid ((ok_base_CopyInts [.t (.c (.sl 1 n c))] _ _ _ rfl hp).2 W2.drew N [.slice ao n cap] hG2 (show All2 (RelD (RelF W2.drew N)) [.t (.c (.sl 1 n c))] [.slice ao n cap] from ⟨hv2, trivial⟩))
 clear q0 q1 hv hv2 hp hG hG2 hBD
 generalize hl : listC n mkInt c = l at *
 clear hl
 go_enter Tryd.func44, Tryd.ntmps44
 go_wp2_with fail
 rw [← hW]
 clear hW
 refine wp_mixC (fun wc => Below (W2.heap.size) W2 wc) 6 [.q [0, 1, 2, 3], .f [4], .q [5]] [.f [6]] (by kernel_rfl) (by kernel_rfl) ((Below.refl _ _).drew) ?_
 intro Q' hQ'
 (rw [wpMixC]; simp only [pick, List.drop_succ_cons, List.drop_zero, List.head?_cons, Option.toList_some, List.cons_append, List.nil_append])
 (repeat (first | go_big_quiet_skip | (go_big_quiet_want; refine quiet_simple rfl ?_; go_big_quiet_op; go_big_quiet_on) | (go_big_quiet_want; refine quiet_cellB (ty := 3) rfl rfl (by kernel_rfl) (by assumption) (by first | omega | (simp; omega)) ?_; simp only [Act.put, List.setIfInBounds_toArray, List.set_cons_succ, List.set_cons_zero]; go_big_quiet_on) | (go_big_quiet_want; refine quiet_cellB (ty := 53) rfl rfl (by kernel_rfl) (by assumption) (by first | omega | (simp; omega)) ?_; simp only [Act.put, List.setIfInBounds_toArray, List.set_cons_succ, List.set_cons_zero]; go_big_quiet_on)))
 (try refine wpQuiet_nil ?_)
 (rw [wpMixC]; simp only [pick, List.drop_succ_cons, List.drop_zero, List.head?_cons, Option.toList_some, List.cons_append, List.nil_append])
 (rw [wpSteps]; go_wp2_with ((go_at_call 29; refine (HC.out).mono ?_; rintro _ w3 ⟨v3, rfl, hr3, hb3⟩; obtain ⟨ro3, rc3, rfl, h32⟩ : ∃ ao cap, v3 = .slice ao l.length cap ∧ RelF w3 (resN W2.drew N .new) (.sl 1 l.length (intsC l)) (.slice ao l.length cap) := (by obtain ⟨ao, cap, rfl, hq⟩ := id hr3; exact ⟨ao, cap, rfl, hr3⟩); have HR3 := hid h32; clear hr3 h32; have hb3 : Below W2.heap.size W2.drew w3 := hb3; have hb3 : Below W2.heap.size W2 w3 := ((Below.refl W2.heap.size W2).drew).trans hb3; obtain ⟨c0, c1, fc0, fc1, hl3⟩ := two_cells ((hb3.block (W.heap.size + 1) hl1).trans HQ.out))); rw [contF]; refine ⟨?_, ?_⟩; (next => exact BelowA))
 (rw [wpSteps])
 (rw [wpMixC]; simp only [pick, List.drop_succ_cons, List.drop_zero, List.head?_cons, Option.toList_some, List.cons_append, List.nil_append])
 (repeat (first | go_big_quiet_skip | (go_big_quiet_want; refine quiet_simple rfl ?_; go_big_quiet_op; go_big_quiet_on) | (go_big_quiet_want; refine quiet_cellB (ty := 3) rfl rfl (by kernel_rfl) (by assumption) (by first | omega | (simp; omega)) ?_; simp only [Act.put, List.setIfInBounds_toArray, List.set_cons_succ, List.set_cons_zero]; go_big_quiet_on) | (go_big_quiet_want; refine quiet_cellB (ty := 53) rfl rfl (by kernel_rfl) (by assumption) (by first | omega | (simp; omega)) ?_; simp only [Act.put, List.setIfInBounds_toArray, List.set_cons_succ, List.set_cons_zero]; go_big_quiet_on)))
 (try refine wpQuiet_nil ?_)
 (rw [wpMixC])
 (rw [wpMix]; simp only [pick, List.drop_succ_cons, List.drop_zero, List.head?_cons, Option.toList_some, List.cons_append, List.nil_append])
 (go_wp2_with ((go_at_call 29; refine (HC.out).mono ?_; rintro _ w3 ⟨v3, rfl, hr3, hb3⟩; obtain ⟨ro3, rc3, rfl, h32⟩ : ∃ ao cap, v3 = .slice ao l.length cap ∧ RelF w3 (resN W2.drew N .new) (.sl 1 l.length (intsC l)) (.slice ao l.length cap) := (by obtain ⟨ao, cap, rfl, hq⟩ := id hr3; exact ⟨ao, cap, rfl, hr3⟩); have HR3 := hid h32; clear hr3 h32; have hb3 : Below W2.heap.size W2.drew w3 := hb3; have hb3 : Below W2.heap.size W2 w3 := ((Below.refl W2.heap.size W2).drew).trans hb3; obtain ⟨c0, c1, fc0, fc1, hl3⟩ := two_cells ((hb3.block (W.heap.size + 1) hl1).trans HQ.out))); rw [contF])
 (rw [wpMix])
 (refine hQ' _ _ ?_)
 go_wp2_with fail
 ((try simp only [Exit.inBlock, Exit.then]); refine bodyPost_ret (v := .agg #[.int .i64 f, .slice ro3 l.length rc3]) ?_ rfl ?_; (next => simp [results, Tryd.results44, go_sem, hl3, c0, c1]))
 have hb : Below W.heap.size W w3 := by exact BelowA
 refine ⟨_, rfl, ?_, by exact BelowA⟩
 have HK : ∀ w4, w4 = (w3.setCell ⟨W.heap.size + 1, 0, none⟩ (.int .i64 f)).setCell ⟨W.heap.size + 1, 1, none⟩ (.slice ro3 l.length rc3) → RelF w4 (resN W N .new) (.sl 1 l.length (intsC l)) (.slice ro3 l.length rc3) := by
  rintro w4 rfl
  refine RelF.mono (by simp) (fun b hb _ off => ?_) (fun b hb _ => ?_) _ HR3.out
  ·have : W2.drew.heap.size ≤ b := hb.elim (fun h => by cases h.1) id
   rw [cell_setB _ _ _ _ _ (by omega), cell_setB _ _ _ _ _ (by omega)]
  ·have : W2.drew.heap.size ≤ b := hb.elim (fun h => by cases h.1) id
   exact Or.inr (by omega)
 exact ⟨_, rfl, ⟨rfl, rfl⟩, HK _ rfl, trivial⟩
end Go.Proofs.YtmhgjlapkhdlmaaDoor
set_option linter.unusedVariables false
set_option linter.unusedSimpArgs false
namespace Go.Proofs.YtmhgjlapkhdlmaaDoor
open Go.RowKit Ev
theorem nums_ints : numsC .i64 = intsC := rfl
noncomputable def hd {α : Type} (x : α) : α := Classical.choose (⟨x, rfl⟩ : ∃ y, y = x)
theorem hd_eq {α : Type} (x : α) : hd x = x := Classical.choose_spec (⟨x, rfl⟩ : ∃ y, y = x)
theorem moB {a b : Int} {c : Bool} : (bif (a == b) then true else c) = (decide (a = b) || c) := by
 by_cases h : a = b <;> simp [h]
def mdF (a c : Int) : Int := if Int.tmod a c < 0 then IntKind.i64.wrap (Int.tmod a c + c) else Int.tmod a c
theorem agg_two {w : World} {N : Nat → Prop} {f : Int} {x : CV} {u : Value} (h : RelD (RelF w N) (.t (.a [.v (.int .i64 f), x])) u) : ∃ y, u = .agg #[.int .i64 f, y] ∧ RelF w N x y := by
 obtain ⟨us, rfl, h1⟩ := h
 obtain ⟨u0, us0, rfl, g0, h2⟩ := h1.cons_inv
 obtain ⟨u1, us1, rfl, g1, h3⟩ := h2.cons_inv
 have e := h3.nil_inv
 subst e
 obtain ⟨e, _⟩ := g0
 subst e
 exact ⟨_, rfl, g1⟩
def vc_base_IsLowest (y0 y1 : Int) (post : DV → Prop) : Prop := cond (decide (y1 > (0 : Int))) (((-9223372036854775808 ≤ y0 ∧ y0 ≤ 9223372036854775807) ∧ (-9223372036854775807 ≤ y1 ∧ y1 ≤ 9223372036854775807) ∧ (y1 ≠ 0 ∨ -9223372036854775807 ≤ y0)) ∧ (post (.t (.c (.v (.bool ((gcd2 y0 y1) == (1 : Int)))))))) ((false = false) ∧ (post (.t (.c (.v (.bool false))))))
def ann_base_IsLowest : Ann := ⟨fun _ => none, fun _ => none, fun _ => [], noIt, false, fun _ => none, fun _ => none⟩
theorem ev_base_IsLowest (J : Inv) (y0 y1 : Int) (post : DV → Prop) : evFn Tryd.prog tab S94 ann_base_IsLowest J Tryd.f51 [.t (.a [.v (.int .i64 y0), .v (.int .i64 y1)])] post = vc_base_IsLowest y0 y1 post := by kernel_rfl
theorem fit_base_IsLowest : okFn ann_base_IsLowest Tryd.f51 = true := by kernel_rfl
theorem lp_base_IsLowest (J : Inv) (post : DV → Prop) : AllG J (loopsFn Tryd.prog tab S94 ann_base_IsLowest J Tryd.f51 post) = (True) := by kernel_rfl
theorem spec_base_IsLowest (y0 y1 : Int) (hp : (-1000000000 ≤ y0 ∧ y0 ≤ 1000000000) ∧ -1000000000 ≤ y1 ∧ y1 ≤ 1000000000) : vc_base_IsLowest y0 y1 (fun r => LeD r (.t (.c (.v (.bool (decide (y1 > 0) && (gcd2 y0 y1 == 1))))))) := by
 unfold vc_base_IsLowest
 refine cond_i (fun h => ⟨by omega, leB ?_⟩) (fun h => ⟨rfl, leB ?_⟩)
 ·rw [h]; rfl
 ·rw [h]; rfl
def con_base_IsLowest : Con := fun args => match args with
 | [.t (.a [.v (.int .i64 y0), .v (.int .i64 y1)])] => some (.t (.c (.v (.bool (decide (y1 > 0) && (gcd2 y0 y1 == 1))))), some ((-1000000000 ≤ y0 ∧ y0 ≤ 1000000000) ∧ -1000000000 ≤ y1 ∧ y1 ≤ 1000000000), false)
 | _ => none
theorem ok_base_IsLowest : Ok Tryd.prog 51 con_base_IsLowest := by
 refine Ok.fn (ann := ann_base_IsLowest) mixed tabOK VS94 ValidIt.no (fn := Tryd.f51) (by kernel_rfl) (by kernel_rfl) fit_base_IsLowest fun args r pre fresh h hp => ?_
 unfold con_base_IsLowest at h
 split at h
 ·rename_i y0 y1
  cases h
  refine ⟨rfl, fun _ _ _ => False, _, LeA.refl _, Nat.le_of_ble_eq_true (by kernel_rfl), ?_, ?_⟩
  ·rw [ev_base_IsLowest]; exact spec_base_IsLowest y0 y1 hp
  ·rw [lp_base_IsLowest]; trivial
 ·cases h
def S95 : Sum := addS S94 51 con_base_IsLowest
theorem VS95 : Valid Tryd.prog S95 := Valid.add VS94 ok_base_IsLowest
def vc_base_IsSmall (y0 y1 : Int) (post : DV → Prop) : Prop := cond (inB y0 (-1000000000 : Int) (1000000000 : Int)) (post (.t (.c (.v (.bool (inB y1 (1 : Int) (1000000000 : Int))))))) ((false = false) ∧ (post (.t (.c (.v (.bool false))))))
def ann_base_IsSmall : Ann := ⟨fun _ => none, fun _ => none, fun _ => [], noIt, false, fun _ => none, fun _ => none⟩
theorem ev_base_IsSmall (J : Inv) (y0 y1 : Int) (post : DV → Prop) : evFn Tryd.prog tab S95 ann_base_IsSmall J Tryd.f39 [.t (.a [.v (.int .i64 y0), .v (.int .i64 y1)])] post = vc_base_IsSmall y0 y1 post := by kernel_rfl
theorem fit_base_IsSmall : okFn ann_base_IsSmall Tryd.f39 = true := by kernel_rfl
theorem lp_base_IsSmall (J : Inv) (post : DV → Prop) : AllG J (loopsFn Tryd.prog tab S95 ann_base_IsSmall J Tryd.f39 post) = (True) := by kernel_rfl
theorem spec_base_IsSmall (y0 y1 : Int) : vc_base_IsSmall y0 y1 (fun r => LeD r (.t (.c (.v (.bool (inB y0 (-1000000000) 1000000000 && inB y1 1 1000000000)))))) := by
 unfold vc_base_IsSmall
 refine cond_i (fun h => leB ?_) (fun h => ⟨rfl, leB ?_⟩)
 ·rw [h]; rfl
 ·rw [h]; rfl
def con_base_IsSmall : Con := fun args => match args with
 | [.t (.a [.v (.int .i64 y0), .v (.int .i64 y1)])] => some (.t (.c (.v (.bool (inB y0 (-1000000000) 1000000000 && inB y1 1 1000000000)))), none, false)
 | _ => none
theorem ok_base_IsSmall : Ok Tryd.prog 39 con_base_IsSmall := by
 refine Ok.fn (ann := ann_base_IsSmall) mixed tabOK VS95 ValidIt.no (fn := Tryd.f39) (by kernel_rfl) (by kernel_rfl) fit_base_IsSmall fun args r pre fresh h hp => ?_
 unfold con_base_IsSmall at h
 split at h
 ·rename_i y0 y1
  cases h
  refine ⟨rfl, fun _ _ _ => False, _, LeA.refl _, Nat.le_of_ble_eq_true (by kernel_rfl), ?_, ?_⟩
  ·rw [ev_base_IsSmall]; exact spec_base_IsSmall y0 y1
  ·rw [lp_base_IsSmall]; trivial
 ·cases h
def S96 : Sum := addS S95 39 con_base_IsSmall
theorem VS96 : Valid Tryd.prog S96 := Valid.add VS95 ok_base_IsSmall
def vc_base_Cmp (y0 y1 : Int) (z0 z1 : Int) (post : DV → Prop) : Prop := lt (IntKind.i64.wrap (y0 * z1)) fun x1 => lt (IntKind.i64.wrap (z0 * y1)) fun x2 => cond (decide (x1 < x2)) (post (.t (.c (.v (.int .i64 (-1)))))) (cond (decide (x1 > x2)) (post (.t (.c (.v (.int .i64 1))))) (post (.t (.c (.v (.int .i64 0))))))
def ann_base_Cmp : Ann := ⟨fun r => lookA r [(1, ([[], [0], [], [2], [0, 1, 2, 3], [], [5], [], [7], [5, 6, 7, 8], [0, 1, 2, 3, 4], [0, 1, 2, 3, 4, 5, 6, 7, 8, 9, 10]], [[], [], [], [], [], [], [], [], [], [], [], []]))], fun _ => none, fun _ => [], noIt, false, fun _ => none, fun _ => none⟩
theorem ev_base_Cmp (J : Inv) (y0 y1 : Int) (z0 z1 : Int) (post : DV → Prop) : evFn Tryd.prog tab S96 ann_base_Cmp J Tryd.f40 [.t (.a [.v (.int .i64 y0), .v (.int .i64 y1)]), .t (.a [.v (.int .i64 z0), .v (.int .i64 z1)])] post = vc_base_Cmp y0 y1 z0 z1 post := by kernel_rfl
theorem fit_base_Cmp : okFn ann_base_Cmp Tryd.f40 = true := by kernel_rfl
theorem lp_base_Cmp (J : Inv) (post : DV → Prop) : AllG J (loopsFn Tryd.prog tab S96 ann_base_Cmp J Tryd.f40 post) = (True) := by kernel_rfl
theorem spec_base_Cmp (y0 y1 : Int) (z0 z1 : Int) (hp : ((-1000000000 ≤ y0 ∧ y0 ≤ 1000000000) ∧ -1000000000 ≤ y1 ∧ y1 ≤ 1000000000) ∧ (-1000000000 ≤ z0 ∧ z0 ≤ 1000000000) ∧ -1000000000 ≤ z1 ∧ z1 ≤ 1000000000) : vc_base_Cmp y0 y1 z0 z1 (fun r => LeD r (.t (.c (.v (.int .i64 (cmpF y0 y1 z0 z1)))))) := by
 unfold vc_base_Cmp
 have m1 := mul_rg (x := y0) (y := z1) (A := 1000000000) (B := 1000000000) (C := 1000000000000000000) (by omega) (by omega) (by decide)
 have m2 := mul_rg (x := z0) (y := y1) (A := 1000000000) (B := 1000000000) (C := 1000000000000000000) (by omega) (by omega) (by decide)
 refine lt_i fun x1 h1 => lt_i fun x2 h2 => ?_
 rw [wi (by omega)] at h1 h2
 subst h1 h2
 unfold cmpF
 refine cond_i (fun h => leI ?_) (fun h => cond_i (fun h2 => leI ?_) (fun h2 => leI ?_))
 ·rw [if_pos (of_decide_eq_true h)]
 ·rw [if_neg (of_decide_eq_false h), if_pos (of_decide_eq_true h2)]
 ·rw [if_neg (of_decide_eq_false h), if_neg (of_decide_eq_false h2)]
def con_base_Cmp : Con := fun args => match args with
 | [.t (.a [.v (.int .i64 y0), .v (.int .i64 y1)]), .t (.a [.v (.int .i64 z0), .v (.int .i64 z1)])] => some (.t (.c (.v (.int .i64 (cmpF y0 y1 z0 z1)))), some (((-1000000000 ≤ y0 ∧ y0 ≤ 1000000000) ∧ -1000000000 ≤ y1 ∧ y1 ≤ 1000000000) ∧ (-1000000000 ≤ z0 ∧ z0 ≤ 1000000000) ∧ -1000000000 ≤ z1 ∧ z1 ≤ 1000000000), false)
 | _ => none
theorem ok_base_Cmp : Ok Tryd.prog 40 con_base_Cmp := by
 refine Ok.fn (ann := ann_base_Cmp) mixed tabOK VS96 ValidIt.no (fn := Tryd.f40) (by kernel_rfl) (by kernel_rfl) fit_base_Cmp fun args r pre fresh h hp => ?_
 unfold con_base_Cmp at h
 split at h
 ·rename_i y0 y1 z0 z1
  cases h
  refine ⟨rfl, fun _ _ _ => False, _, LeA.refl _, Nat.le_of_ble_eq_true (by kernel_rfl), ?_, ?_⟩
  ·rw [ev_base_Cmp]; exact spec_base_Cmp y0 y1 z0 z1 hp
  ·rw [lp_base_Cmp]; trivial
 ·cases h
def S97 : Sum := addS S96 40 con_base_Cmp
theorem VS97 : Valid Tryd.prog S97 := Valid.add VS96 ok_base_Cmp
def vc_base_Mod (a : Int) (c : Int) (post : DV → Prop) : Prop := lt (Int.tmod a c) fun x1 => (IntKind.i64 = IntKind.i64 ∧ c ≠ 0) ∧ (cond (decide (x1 < (0 : Int))) (lt (IntKind.i64.wrap (x1 + c)) fun x2 => post (.t (.c (.v (.int .i64 x2))))) (post (.t (.c (.v (.int .i64 x1))))))
def ann_base_Mod : Ann := ⟨fun _ => none, fun _ => none, fun _ => [], noIt, false, fun _ => none, fun _ => none⟩
theorem ev_base_Mod (J : Inv) (a : Int) (c : Int) (post : DV → Prop) : evFn Tryd.prog tab S97 ann_base_Mod J Tryd.f41 [.t (.c (.v (.int .i64 a))), .t (.c (.v (.int .i64 c)))] post = vc_base_Mod a c post := by kernel_rfl
theorem fit_base_Mod : okFn ann_base_Mod Tryd.f41 = true := by kernel_rfl
theorem lp_base_Mod (J : Inv) (post : DV → Prop) : AllG J (loopsFn Tryd.prog tab S97 ann_base_Mod J Tryd.f41 post) = (True) := by kernel_rfl
theorem spec_base_Mod (a : Int) (c : Int) (hp : c ≠ 0) : vc_base_Mod a c (fun r => LeD r (.t (.c (.v (.int .i64 (mdF a c)))))) := by
 unfold vc_base_Mod mdF
 refine lt_i fun x1 h1 => ⟨⟨rfl, hp⟩, ?_⟩
 rw [h1]
 refine cond_i (fun h => lt_i fun x2 h2 => leI ?_) (fun h => leI ?_)
 ·rw [if_pos (of_decide_eq_true h)]; exact h2.symm
 ·rw [if_neg (of_decide_eq_false h)]
def con_base_Mod : Con := fun args => match args with
 | [.t (.c (.v (.int .i64 a))), .t (.c (.v (.int .i64 c)))] => some (.t (.c (.v (.int .i64 (mdF a c)))), some (c ≠ 0), false)
 | _ => none
theorem ok_base_Mod : Ok Tryd.prog 41 con_base_Mod := by
 refine Ok.fn (ann := ann_base_Mod) mixed tabOK VS97 ValidIt.no (fn := Tryd.f41) (by kernel_rfl) (by kernel_rfl) fit_base_Mod fun args r pre fresh h hp => ?_
 unfold con_base_Mod at h
 split at h
 ·rename_i a c
  cases h
  refine ⟨rfl, fun _ _ _ => False, _, LeA.refl _, Nat.le_of_ble_eq_true (by kernel_rfl), ?_, ?_⟩
  ·rw [ev_base_Mod]; exact spec_base_Mod a c hp
  ·rw [lp_base_Mod]; trivial
 ·cases h
def S98 : Sum := addS S97 41 con_base_Mod
theorem VS98 : Valid Tryd.prog S98 := Valid.add VS97 ok_base_Mod
def con2_ref06_CopyVeto : Con := fun args => match args with
 | [.t (.a [.v (.int .i64 f), .sl 1 n_v c_v])] => some (.t (.a [.v (.int .i64 f), .sl 1 ((listC n_v mkInt c_v).length) (intsC (listC n_v mkInt c_v))]), some (numsP 1 n_v c_v ∧ ((listC n_v mkInt c_v)).length ≤ 1000000), true)
 | _ => none
theorem ok2_ref06_CopyVeto : Ok Tryd.prog 44 con2_ref06_CopyVeto := by
 intro args r pre fresh h hp
 unfold con2_ref06_CopyVeto at h
 split at h
 ·rename_i f n_v c_v
  cases h
  refine ⟨Enters.of (fn := Tryd.f44) (by kernel_rfl) (by kernel_rfl) (by kernel_rfl), fun W N vs hG hv => ?_⟩
  have hv : All2 (RelD (RelF W N)) [.t (.a [.v (.int .i64 f), .sl 1 n_v c_v])] vs := hv
  obtain ⟨u0, ws0, e0, g0, hv0⟩ := hv.cons_inv
  subst e0
  have ev := hv0.nil_inv
  subst ev
  obtain ⟨x, rfl, hx⟩ := agg_two g0
  exact walk_CopyVeto W N hG f n_v c_v x hp hx
 ·cases h
def S99 : Sum := addS S98 44 con2_ref06_CopyVeto
theorem VS99 : Valid Tryd.prog S99 := Valid.add VS98 ok2_ref06_CopyVeto
noncomputable def conh_flash_PassingOf : Con := fun args => match args with
 | [.t (.c (.sl 2 n_m c_m)), .t (.a [.v (.int .i64 f), .sl 1 n_v c_v])] => some (.tu [.c (.sl 1 ((hd (pasV (muOf n_m c_m) f (listC n_v mkInt c_v))).length) (intsC (hd (pasV (muOf n_m c_m) f (listC n_v mkInt c_v))))), .c (.v (.int .i64 (hd (vvE (muOf n_m c_m) f (listC n_v mkInt c_v)))))], some (muP n_m c_m ∧ numsP 1 n_v c_v ∧ muSm (muOf n_m c_m) ∧ ((listC n_v mkInt c_v)).length ≤ 1000000), true)
 | _ => none
theorem okh_flash_PassingOf : Ok Tryd.prog 43 conh_flash_PassingOf := by
 refine Ok.over ok_flash_PassingOf fun args r' pre' fresh h hp => ?_
 unfold conh_flash_PassingOf at h
 split at h
 ·cases h
  exact ⟨_, _, rfl, hp, by simp only [hd_eq]⟩
 ·cases h
noncomputable def S100 : Sum := addS S99 43 conh_flash_PassingOf
theorem VS100 : Valid Tryd.prog S100 := Valid.add VS99 okh_flash_PassingOf
noncomputable def conh_flash_PartOf : Con := fun args => match args with
 | [.t (.c (.sl 2 n_m c_m)), .t (.a [.v (.int .i64 f), .sl 1 n_v c_v])] => some (.tu [.a [.v (.int .i64 (hd (prtN (muOf n_m c_m) f (listC n_v mkInt c_v)))), .v (.int .i64 (hd (prtD (muOf n_m c_m) f (listC n_v mkInt c_v))))], .c (.v (.int .i64 (hd (vvE (muOf n_m c_m) f (listC n_v mkInt c_v)))))], some (muP n_m c_m ∧ numsP 1 n_v c_v ∧ muSm (muOf n_m c_m) ∧ ((listC n_v mkInt c_v)).length ≤ 1000000), false)
 | _ => none
theorem okh_flash_PartOf : Ok Tryd.prog 38 conh_flash_PartOf := by
 refine Ok.over ok_flash_PartOf fun args r' pre' fresh h hp => ?_
 unfold conh_flash_PartOf at h
 split at h
 ·cases h
  exact ⟨_, _, rfl, hp, by simp only [hd_eq]⟩
 ·cases h
noncomputable def S101 : Sum := addS S100 38 conh_flash_PartOf
theorem VS101 : Valid Tryd.prog S101 := Valid.add VS100 okh_flash_PartOf
noncomputable def conh_flash_ErrorOf : Con := fun args => match args with
 | [.t (.c (.sl 2 n_m c_m)), .t (.a [.v (.int .i64 f), .sl 1 n_v c_v])] => some (.tu [.a [.v (.int .i64 (hd (erQN (muOf n_m c_m) f (listC n_v mkInt c_v)))), .v (.int .i64 (hd (erQD (muOf n_m c_m) f (listC n_v mkInt c_v))))], .c (.v (.int .i64 (hd (vvE (muOf n_m c_m) f (listC n_v mkInt c_v)))))], some (muP n_m c_m ∧ numsP 1 n_v c_v ∧ muSm (muOf n_m c_m) ∧ ((listC n_v mkInt c_v)).length ≤ 1000000), false)
 | _ => none
theorem okh_flash_ErrorOf : Ok Tryd.prog 45 conh_flash_ErrorOf := by
 refine Ok.over ok_flash_ErrorOf fun args r' pre' fresh h hp => ?_
 unfold conh_flash_ErrorOf at h
 split at h
 ·cases h
  exact ⟨_, _, rfl, hp, by simp only [hd_eq]⟩
 ·cases h
noncomputable def S102 : Sum := addS S101 45 conh_flash_ErrorOf
theorem VS102 : Valid Tryd.prog S102 := Valid.add VS101 okh_flash_ErrorOf
noncomputable def conh_base_IsLowest : Con := fun args => match args with
 | [.t (.a [.v (.int .i64 y0), .v (.int .i64 y1)])] => some (.t (.c (.v (.bool (hd (decide (y1 > 0) && (gcd2 y0 y1 == 1)))))), some ((-1000000000 ≤ y0 ∧ y0 ≤ 1000000000) ∧ -1000000000 ≤ y1 ∧ y1 ≤ 1000000000), false)
 | _ => none
theorem okh_base_IsLowest : Ok Tryd.prog 51 conh_base_IsLowest := by
 refine Ok.over ok_base_IsLowest fun args r' pre' fresh h hp => ?_
 unfold conh_base_IsLowest at h
 split at h
 ·cases h
  exact ⟨_, _, rfl, hp, by simp only [hd_eq]⟩
 ·cases h
noncomputable def S103 : Sum := addS S102 51 conh_base_IsLowest
theorem VS103 : Valid Tryd.prog S103 := Valid.add VS102 okh_base_IsLowest
noncomputable def conh_base_IsSmall : Con := fun args => match args with
 | [.t (.a [.v (.int .i64 y0), .v (.int .i64 y1)])] => some (.t (.c (.v (.bool (hd (inB y0 (-1000000000) 1000000000 && inB y1 1 1000000000))))), none, false)
 | _ => none
theorem okh_base_IsSmall : Ok Tryd.prog 39 conh_base_IsSmall := by
 refine Ok.over ok_base_IsSmall fun args r' pre' fresh h hp => ?_
 unfold conh_base_IsSmall at h
 split at h
 ·cases h
  exact ⟨_, _, rfl, hp, by simp only [hd_eq]⟩
 ·cases h
noncomputable def S104 : Sum := addS S103 39 conh_base_IsSmall
theorem VS104 : Valid Tryd.prog S104 := Valid.add VS103 okh_base_IsSmall
noncomputable def conh_base_Cmp : Con := fun args => match args with
 | [.t (.a [.v (.int .i64 y0), .v (.int .i64 y1)]), .t (.a [.v (.int .i64 z0), .v (.int .i64 z1)])] => some (.t (.c (.v (.int .i64 (hd (cmpF y0 y1 z0 z1))))), some (((-1000000000 ≤ y0 ∧ y0 ≤ 1000000000) ∧ -1000000000 ≤ y1 ∧ y1 ≤ 1000000000) ∧ (-1000000000 ≤ z0 ∧ z0 ≤ 1000000000) ∧ -1000000000 ≤ z1 ∧ z1 ≤ 1000000000), false)
 | _ => none
theorem okh_base_Cmp : Ok Tryd.prog 40 conh_base_Cmp := by
 refine Ok.over ok_base_Cmp fun args r' pre' fresh h hp => ?_
 unfold conh_base_Cmp at h
 split at h
 ·cases h
  exact ⟨_, _, rfl, hp, by simp only [hd_eq]⟩
 ·cases h
noncomputable def S105 : Sum := addS S104 40 conh_base_Cmp
theorem VS105 : Valid Tryd.prog S105 := Valid.add VS104 okh_base_Cmp
end Go.Proofs.YtmhgjlapkhdlmaaDoor