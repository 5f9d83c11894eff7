/- Texts of this claim, together. -/
import Derived.Test.YtmhgjlapkhdlmaaDoorSM9

set_option linter.unusedVariables false
set_option linter.unusedSimpArgs false
namespace Go.Proofs.YtmhgjlapkhdlmaaDoor
open Go.RowKit Ev
def vc_flash_VolumeOf_1 (i : Int) (a : Int) (b : Int) (g0 g1 g2 g3 g4 : Int) (post : DV → Prop) : Prop := (latE (⟨⟨g0, g1, g2⟩, g3, g4⟩ : Lat) = 0) ∧ (lt (IntKind.i64.wrap ((((⟨⟨g0, g1, g2⟩, g3, g4⟩ : Lat)).sz) - (1 : Int))) fun x1 => cond (i == (0 : Int)) ((true = true) ∧ ((numsP 1 2 (genC [[.v (.int .i64 (unl (inB b (0 : Int) x1) (6 : Int)))], [.v (.int .i64 (unl true (9 : Int)))]]) ∧ (([(unl (inB b (0 : Int) x1) (6 : Int)), (unl true (9 : Int))] : List Int)).length ≤ 100) ∧ (post (.t (.c (.v (.int .i64 (firstNZ ([(unl (inB b (0 : Int) x1) (6 : Int)), (unl true (9 : Int))] : List Int))))))))) ((numsP 1 2 (genC [[.v (.int .i64 (unl (inB b (0 : Int) x1) (6 : Int)))], [.v (.int .i64 (unl (decide (b > a)) (9 : Int)))]]) ∧ (([(unl (inB b (0 : Int) x1) (6 : Int)), (unl (decide (b > a)) (9 : Int))] : List Int)).length ≤ 100) ∧ (post (.t (.c (.v (.int .i64 (firstNZ ([(unl (inB b (0 : Int) x1) (6 : Int)), (unl (decide (b > a)) (9 : Int))] : List Int)))))))))
def ann_flash_VolumeOf_1 : Ann := ⟨fun _ => none, fun _ => none, fun _ => [], noIt, false, fun _ => none, fun _ => none⟩
theorem ev_flash_VolumeOf_1 (J : Inv) (i : Int) (a : Int) (b : Int) (g0 g1 g2 g3 g4 : Int) (post : DV → Prop) : evFn Tryd.prog tab S105 ann_flash_VolumeOf_1 J Tryd.f101 [.t (.c (.v (.int .i64 i))), .t (.c (.v (.int .i64 a))), .t (.c (.v (.int .i64 b))), .t (.c (.px 5 0 (boxC [.v (.int .i64 g0), .v (.int .i64 g1), .v (.int .i64 g2), .v (.int .i64 g3), .v (.int .i64 g4)])))] post = vc_flash_VolumeOf_1 i a b g0 g1 g2 g3 g4 post := by kernel_rfl
theorem fit_flash_VolumeOf_1 : okFn ann_flash_VolumeOf_1 Tryd.f101 = true := by kernel_rfl
theorem lp_flash_VolumeOf_1 (J : Inv) (post : DV → Prop) : AllG J (loopsFn Tryd.prog tab S105 ann_flash_VolumeOf_1 J Tryd.f101 post) = (True) := by kernel_rfl
theorem spec_flash_VolumeOf_1 (i : Int) (a : Int) (b : Int) (g0 g1 g2 g3 g4 : Int) (hp : latE (⟨⟨g0, g1, g2⟩, g3, g4⟩ : Lat) = 0) : vc_flash_VolumeOf_1 i a b g0 g1 g2 g3 g4 (fun r => LeD r (.t (.c (.v (.int .i64 (acS ((⟨⟨g0, g1, g2⟩, g3, g4⟩ : Lat)).sz i a b)))))) := by
 have hz := sz_rg hp
 unfold vc_flash_VolumeOf_1
 refine ⟨hp, lt_i fun x1 h1 => ?_⟩
 rw [wi (by omega)] at h1
 subst h1
 unfold acS
 refine cond_i (fun h => ⟨rfl, ⟨numsP_gen [_, _], Nat.le_of_ble_eq_true rfl⟩, leI ?_⟩) (fun h => ⟨⟨numsP_gen [_, _], Nat.le_of_ble_eq_true rfl⟩, leI ?_⟩)
 ·have h : i = 0 := by simpa using h
  rw [decide_eq_true h]; rfl
 ·have h : i ≠ 0 := by simpa using h
  rw [decide_eq_false h]; rfl
def con_flash_VolumeOf_1 : Con := fun args => match args with
 | [.t (.c (.v (.int .i64 i))), .t (.c (.v (.int .i64 a))), .t (.c (.v (.int .i64 b))), .t (.c (.px 5 0 c_px))] => some (.t (.c (.v (.int .i64 (acS ((⟨⟨(cvInt (c_px 0)), (cvInt (c_px 1)), (cvInt (c_px 2))⟩, (cvInt (c_px 3)), (cvInt (c_px 4))⟩ : Lat)).sz i a b)))), some (intsB [0, 1, 2, 3, 4] c_px = true ∧ latE (⟨⟨(cvInt (c_px 0)), (cvInt (c_px 1)), (cvInt (c_px 2))⟩, (cvInt (c_px 3)), (cvInt (c_px 4))⟩ : Lat) = 0), false)
 | _ => none
theorem ok_flash_VolumeOf_1 : Ok Tryd.prog 101 con_flash_VolumeOf_1 := by
 refine Ok.fn (ann := ann_flash_VolumeOf_1) mixed tabOK VS105 ValidIt.no (fn := Tryd.f101) (by kernel_rfl) (by kernel_rfl) fit_flash_VolumeOf_1 fun args r pre fresh h hp => ?_
 unfold con_flash_VolumeOf_1 at h
 split at h
 ·rename_i i a b c_px
  cases h
  obtain ⟨hp0, hp⟩ := hp
  refine ⟨rfl, fun _ _ _ => False, [.t (.c (.v (.int .i64 i))), .t (.c (.v (.int .i64 a))), .t (.c (.v (.int .i64 b))), .t (.c (.px 5 0 (boxC [.v (.int .i64 (cvInt (c_px 0))), .v (.int .i64 (cvInt (c_px 1))), .v (.int .i64 (cvInt (c_px 2))), .v (.int .i64 (cvInt (c_px 3))), .v (.int .i64 (cvInt (c_px 4)))])))], ?_, Nat.le_of_ble_eq_true (by kernel_rfl), ?_, ?_⟩
  ·exact (LeA_cons (LeD.refl _) (LeA_cons (LeD.refl _) (LeA_cons (LeD.refl _) (LeA_cons (leT_c (leC_p (LeCs.cons (leC_i (intsB_get hp0 0 (by decide))) (LeCs.cons (leC_i (intsB_get hp0 1 (by decide))) (LeCs.cons (leC_i (intsB_get hp0 2 (by decide))) (LeCs.cons (leC_i (intsB_get hp0 3 (by decide))) (LeCs.cons (leC_i (intsB_get hp0 4 (by decide))) LeCs.nil))))))) LeA_nil))))
  ·rw [ev_flash_VolumeOf_1]; exact spec_flash_VolumeOf_1 i a b (cvInt (c_px 0)) (cvInt (c_px 1)) (cvInt (c_px 2)) (cvInt (c_px 3)) (cvInt (c_px 4)) hp
  ·rw [lp_flash_VolumeOf_1]; trivial
 ·cases h
noncomputable def Sr106 : Sum := addS S105 101 con_flash_VolumeOf_1
theorem VSr106 : Valid Tryd.prog Sr106 := Valid.add VS105 ok_flash_VolumeOf_1
def mk_cherenkov_flash_each_int_b_0 (l : List Int) (g0 g1 g2 g3 g4 : Int) (v0_0 : Int) : DS := ⟨[some (.t (.c (.sl 1 l.length (intsC l)))), some (.t (.fn 101 [.px 5 0 (boxC [.v (.int .i64 g0), .v (.int .i64 g1), .v (.int .i64 g2), .v (.int .i64 g3), .v (.int .i64 g4)])])), none, none, none, none, none, none, none, some (.t (.c (.sl 1 l.length (intsC l)))), some (.t (.c (.v (.int .i64 ((l.length : Nat) : Int))))), some (.t (.c (.v (.int .i64 v0_0)))), none, none, none, none, none, none, none, none, none, none, none, none, none, none, none, none, none, none, none], [none, none, none, none, none, none, none, none, none, none, none, none, none, none, none, none, none, none, none, none, none, none, none, none, none, none, none, none, none, none, none]⟩
def vc_cherenkov_flash_each_int_b (J : Inv) (l : List Int) (g0 g1 g2 g3 g4 : Int) (post : DV → Prop) : Prop := ∃ n, J 0 (n :: []) (mk_cherenkov_flash_each_int_b_0 l g0 g1 g2 g3 g4 0)
def ann_cherenkov_flash_each_int_b : Ann := ⟨fun _ => none, fun b => lookA b [(0, (none, some ⟨[0, 1, 9, 10, 11], [], []⟩))], fun _ => [], noIt, false, fun _ => none, fun _ => none⟩
theorem ev_cherenkov_flash_each_int_b (J : Inv) (l : List Int) (g0 g1 g2 g3 g4 : Int) (post : DV → Prop) : evFn Tryd.prog tab Sr106 ann_cherenkov_flash_each_int_b J Tryd.f100 [.t (.c (.sl 1 l.length (intsC l))), .t (.fn 101 [.px 5 0 (boxC [.v (.int .i64 g0), .v (.int .i64 g1), .v (.int .i64 g2), .v (.int .i64 g3), .v (.int .i64 g4)])])] post = vc_cherenkov_flash_each_int_b J l g0 g1 g2 g3 g4 post := by kernel_rfl
theorem fit_cherenkov_flash_each_int_b : okFn ann_cherenkov_flash_each_int_b Tryd.f100 = true := by kernel_rfl
def rd_cherenkov_flash_each_int_b_0 (J : Inv) (l : List Int) (g0 g1 g2 g3 g4 : Int) (v0_0 : Int) (nn0 : Nat) (post : DV → Prop) : Prop := cond (decide (v0_0 < ((l.length : Nat) : Int))) ((0 ≤ v0_0 ∧ v0_0 < ((l.length : Nat) : Int)) ∧ (lt (IntKind.i64.wrap (v0_0 - (1 : Int))) fun x1 => lt ((if x1 > (0 : Int) then x1 else (0 : Int))) fun x2 => (0 ≤ x2 ∧ x2 < ((l.length : Nat) : Int)) ∧ ((intsB [0, 1, 2, 3, 4] (boxC [.v (.int .i64 g0), .v (.int .i64 g1), .v (.int .i64 g2), .v (.int .i64 g3), .v (.int .i64 g4)]) = true ∧ latE (⟨⟨g0, g1, g2⟩, g3, g4⟩ : Lat) = 0) ∧ (cond ((acS ((⟨⟨g0, g1, g2⟩, g3, g4⟩ : Lat)).sz v0_0 (l.getD x2.toNat 0) (l.getD v0_0.toNat 0)) != (0 : Int)) (post (.tu [.c (.v (.int .i64 v0_0)), .c (.v (.int .i64 (acS ((⟨⟨g0, g1, g2⟩, g3, g4⟩ : Lat)).sz v0_0 (l.getD x2.toNat 0) (l.getD v0_0.toNat 0))))])) (lt (IntKind.i64.wrap (v0_0 + (1 : Int))) fun x3 => J 0 (nn0 :: []) (mk_cherenkov_flash_each_int_b_0 l g0 g1 g2 g3 g4 x3)))))) (post (.tu [.c (.v (.int .i64 0)), .c (.v (.int .i64 0))]))
theorem er_cherenkov_flash_each_int_b_0 (J : Inv) (l : List Int) (g0 g1 g2 g3 g4 : Int) (v0_0 : Int) (nn0 : Nat) (post : DV → Prop) : round Tryd.prog tab Sr106 ann_cherenkov_flash_each_int_b J Tryd.f100 post 0 (nn0 :: []) (mk_cherenkov_flash_each_int_b_0 l g0 g1 g2 g3 g4 v0_0) = rd_cherenkov_flash_each_int_b_0 J l g0 g1 g2 g3 g4 v0_0 nn0 post := by kernel_rfl
theorem lp_cherenkov_flash_each_int_b (J : Inv) (post : DV → Prop) : AllG J (loopsFn Tryd.prog tab Sr106 ann_cherenkov_flash_each_int_b J Tryd.f100 post) = (((∀ F s, ¬ J 0 (0 :: F) s) ∧ ∀ n F s, J 0 ((n + 1) :: F) s → round Tryd.prog tab Sr106 ann_cherenkov_flash_each_int_b J Tryd.f100 post 0 (n :: F) s) ∧ True) := by kernel_rfl
def J_cherenkov_flash_each_int_b (l : List Int) (g0 g1 g2 g3 g4 : Int) : Inv := fun b F s => match b, F with
 | 0, [nn0] => ∃ (v0_0 : Int), s = mk_cherenkov_flash_each_int_b_0 l g0 g1 g2 g3 g4 v0_0 ∧ (l.length ≤ 1000000 ∧ 0 ≤ v0_0 ∧ v0_0 ≤ l.length ∧ (nn0 : Int) + v0_0 = l.length + 1 ∧ ∀ k : Nat, (k : Int) < v0_0 → acS (⟨⟨g0, g1, g2⟩, g3, g4⟩ : Lat).sz (k : Int) (l.getD (k - 1) 0) (l.getD k 0) = 0)
 | _, _ => False
theorem rnd_cherenkov_flash_each_int_b_0 (l : List Int) (g0 g1 g2 g3 g4 : Int) (v0_0 : Int) (nn0 : Nat) (hp : latE (⟨⟨g0, g1, g2⟩, g3, g4⟩ : Lat) = 0 ∧ (l).length ≤ 1000000) (hi : l.length ≤ 1000000 ∧ 0 ≤ v0_0 ∧ v0_0 ≤ l.length ∧ ((nn0 + 1) : Int) + v0_0 = l.length + 1 ∧ ∀ k : Nat, (k : Int) < v0_0 → acS (⟨⟨g0, g1, g2⟩, g3, g4⟩ : Lat).sz (k : Int) (l.getD (k - 1) 0) (l.getD k 0) = 0) : rd_cherenkov_flash_each_int_b_0 (J_cherenkov_flash_each_int_b l g0 g1 g2 g3 g4) l g0 g1 g2 g3 g4 v0_0 nn0 (fun r => LeD r (.tu [.c (.v (.int .i64 (scanI (acE ((⟨⟨g0, g1, g2⟩, g3, g4⟩ : Lat)).sz l) (l).length))), .c (.v (.int .i64 (scan (acE ((⟨⟨g0, g1, g2⟩, g3, g4⟩ : Lat)).sz l) (l).length)))])) := by
 obtain ⟨i0, i1, i2, i3, i4⟩ := hi
 obtain ⟨k, rfl⟩ : ∃ k : Nat, v0_0 = k := ⟨v0_0.toNat, by omega⟩
 have hk : (k : Int).toNat = k := rfl
 unfold rd_cherenkov_flash_each_int_b_0
 rw [hk]
 refine cond_i (fun h => ?_) (fun h => ?_)
 ·have h := of_decide_eq_true h
  refine ⟨by omega, lt_i fun x1 h1 => lt_i fun x2 h2 => ?_⟩
  rw [wi (by omega)] at h1
  obtain ⟨m, hm⟩ : ∃ m : Nat, x2 = m := ⟨x2.toNat, by split at h2 <;> omega⟩
  have hm2 : m = k - 1 := by split at h2 <;> omega
  subst hm
  subst hm2
  clear h2
  refine ⟨by omega, ⟨rfl, hp.1⟩, cond_i (fun e => ?_) (fun e => lt_i fun x hx => ?_)⟩
  ·have e : acS (⟨⟨g0, g1, g2⟩, g3, g4⟩ : Lat).sz (k : Int) (l.getD (k - 1) 0) (l.getD k 0) ≠ 0 := by simpa using e
   have hlt : k < l.length := by omega
   exact le2 (scanI_at (f := fun k => acS (⟨⟨g0, g1, g2⟩, g3, g4⟩ : Lat).sz (k : Int) (l.getD (k - 1) 0) (l.getD k 0)) (fun j hj => i4 j (by omega)) hlt e).symm (scan_at (f := fun k => acS (⟨⟨g0, g1, g2⟩, g3, g4⟩ : Lat).sz (k : Int) (l.getD (k - 1) 0) (l.getD k 0)) (fun j hj => i4 j (by omega)) hlt e).symm
  ·have e : acS (⟨⟨g0, g1, g2⟩, g3, g4⟩ : Lat).sz (k : Int) (l.getD (k - 1) 0) (l.getD k 0) = 0 := by simpa using e
   rw [wi (by omega)] at hx
   subst hx
   refine ⟨_, rfl, i0, by omega, by omega, by omega, fun j hj => ?_⟩
   by_cases q : j = k
   ·rw [q]; exact e
   ·exact i4 j (by omega)
 ·have h := of_decide_eq_false h
  exact le2 (scanI_end (f := fun k => acS (⟨⟨g0, g1, g2⟩, g3, g4⟩ : Lat).sz (k : Int) (l.getD (k - 1) 0) (l.getD k 0)) fun j hj => i4 j (by omega)).symm (scan_end (f := fun k => acS (⟨⟨g0, g1, g2⟩, g3, g4⟩ : Lat).sz (k : Int) (l.getD (k - 1) 0) (l.getD k 0)) fun j hj => i4 j (by omega)).symm
theorem zero_cherenkov_flash_each_int_b_0 (l : List Int) (g0 g1 g2 g3 g4 : Int) (v0_0 : Int)  (hi : l.length ≤ 1000000 ∧ 0 ≤ v0_0 ∧ v0_0 ≤ l.length ∧ (0 : Int) + v0_0 = l.length + 1 ∧ ∀ k : Nat, (k : Int) < v0_0 → acS (⟨⟨g0, g1, g2⟩, g3, g4⟩ : Lat).sz (k : Int) (l.getD (k - 1) 0) (l.getD k 0) = 0) : False := by
 omega
theorem spec_cherenkov_flash_each_int_b (l : List Int) (g0 g1 g2 g3 g4 : Int) (hp : latE (⟨⟨g0, g1, g2⟩, g3, g4⟩ : Lat) = 0 ∧ (l).length ≤ 1000000) : vc_cherenkov_flash_each_int_b (J_cherenkov_flash_each_int_b l g0 g1 g2 g3 g4) l g0 g1 g2 g3 g4 (fun r => LeD r (.tu [.c (.v (.int .i64 (scanI (acE ((⟨⟨g0, g1, g2⟩, g3, g4⟩ : Lat)).sz l) (l).length))), .c (.v (.int .i64 (scan (acE ((⟨⟨g0, g1, g2⟩, g3, g4⟩ : Lat)).sz l) (l).length)))])) := by
 unfold vc_cherenkov_flash_each_int_b
 exact ⟨l.length + 1, 0, rfl, hp.2, by omega, by omega, by omega, fun j hj => by omega⟩
theorem all_cherenkov_flash_each_int_b (l : List Int) (g0 g1 g2 g3 g4 : Int) (hp : latE (⟨⟨g0, g1, g2⟩, g3, g4⟩ : Lat) = 0 ∧ (l).length ≤ 1000000) : AllG (J_cherenkov_flash_each_int_b l g0 g1 g2 g3 g4) (loopsFn Tryd.prog tab Sr106 ann_cherenkov_flash_each_int_b (J_cherenkov_flash_each_int_b l g0 g1 g2 g3 g4) Tryd.f100 (fun r => LeD r (.tu [.c (.v (.int .i64 (scanI (acE ((⟨⟨g0, g1, g2⟩, g3, g4⟩ : Lat)).sz l) (l).length))), .c (.v (.int .i64 (scan (acE ((⟨⟨g0, g1, g2⟩, g3, g4⟩ : Lat)).sz l) (l).length)))]))) := by
 rw [lp_cherenkov_flash_each_int_b]
 refine ⟨⟨?_, ?_⟩, trivial⟩
 ·intro F s h
  obtain _ | ⟨g, F⟩ := F
  case cons => exact h.elim
  obtain ⟨w0, rfl, hi⟩ := h
  exact zero_cherenkov_flash_each_int_b_0 l g0 g1 g2 g3 g4 w0 hi
 ·intro n F s h
  obtain _ | ⟨g, F⟩ := F
  case cons => exact h.elim
  obtain ⟨w0, rfl, hi⟩ := h
  rw [er_cherenkov_flash_each_int_b_0]
  exact rnd_cherenkov_flash_each_int_b_0 l g0 g1 g2 g3 g4 _ _ hp hi
def con_cherenkov_flash_each_int_b : Con := fun args => match args with
 | [.t (.c (.sl 1 n_l c_l)), .t (.fn 101 [.px 5 0 c_px])] => some (.tu [.c (.v (.int .i64 (scanI (acE ((⟨⟨(cvInt (c_px 0)), (cvInt (c_px 1)), (cvInt (c_px 2))⟩, (cvInt (c_px 3)), (cvInt (c_px 4))⟩ : Lat)).sz (listC n_l mkInt c_l)) ((listC n_l mkInt c_l)).length))), .c (.v (.int .i64 (scan (acE ((⟨⟨(cvInt (c_px 0)), (cvInt (c_px 1)), (cvInt (c_px 2))⟩, (cvInt (c_px 3)), (cvInt (c_px 4))⟩ : Lat)).sz (listC n_l mkInt c_l)) ((listC n_l mkInt c_l)).length)))], some (numsP 1 n_l c_l ∧ intsB [0, 1, 2, 3, 4] c_px = true ∧ latE (⟨⟨(cvInt (c_px 0)), (cvInt (c_px 1)), (cvInt (c_px 2))⟩, (cvInt (c_px 3)), (cvInt (c_px 4))⟩ : Lat) = 0 ∧ ((listC n_l mkInt c_l)).length ≤ 1000000), false)
 | _ => none
theorem ok_cherenkov_flash_each_int_b : Ok Tryd.prog 100 con_cherenkov_flash_each_int_b := by
 refine Ok.fn (ann := ann_cherenkov_flash_each_int_b) mixed tabOK VSr106 ValidIt.no (fn := Tryd.f100) (by kernel_rfl) (by kernel_rfl) fit_cherenkov_flash_each_int_b fun args r pre fresh h hp => ?_
 unfold con_cherenkov_flash_each_int_b at h
 split at h
 ·rename_i n_l c_l c_px
  cases h
  obtain ⟨hp0, hp1, hp⟩ := hp
  refine ⟨rfl, J_cherenkov_flash_each_int_b (listC n_l mkInt c_l) (cvInt (c_px 0)) (cvInt (c_px 1)) (cvInt (c_px 2)) (cvInt (c_px 3)) (cvInt (c_px 4)), [.t (.c (.sl 1 ((listC n_l mkInt c_l).length) (intsC (listC n_l mkInt c_l)))), .t (.fn 101 [.px 5 0 (boxC [.v (.int .i64 (cvInt (c_px 0))), .v (.int .i64 (cvInt (c_px 1))), .v (.int .i64 (cvInt (c_px 2))), .v (.int .i64 (cvInt (c_px 3))), .v (.int .i64 (cvInt (c_px 4)))])])], ?_, Nat.le_of_ble_eq_true (by kernel_rfl), ?_, ?_⟩
  ·exact (LeA_cons (leT_c ((leL_int hp0))) (LeA_cons (leT_f (LeCs.cons (leC_p (LeCs.cons (leC_i (intsB_get hp1 0 (by decide))) (LeCs.cons (leC_i (intsB_get hp1 1 (by decide))) (LeCs.cons (leC_i (intsB_get hp1 2 (by decide))) (LeCs.cons (leC_i (intsB_get hp1 3 (by decide))) (LeCs.cons (leC_i (intsB_get hp1 4 (by decide))) LeCs.nil)))))) LeCs.nil)) LeA_nil))
  ·rw [ev_cherenkov_flash_each_int_b]; exact spec_cherenkov_flash_each_int_b (listC n_l mkInt c_l) (cvInt (c_px 0)) (cvInt (c_px 1)) (cvInt (c_px 2)) (cvInt (c_px 3)) (cvInt (c_px 4)) hp
  ·exact all_cherenkov_flash_each_int_b (listC n_l mkInt c_l) (cvInt (c_px 0)) (cvInt (c_px 1)) (cvInt (c_px 2)) (cvInt (c_px 3)) (cvInt (c_px 4)) hp
 ·cases h
noncomputable def Sr107 : Sum := addF Sr106 100 con_cherenkov_flash_each_int_b
theorem VSr107 : Valid Tryd.prog Sr107 := Valid.addF VSr106 ok_cherenkov_flash_each_int_b
def vc_flash_VolumeOf (g0 g1 g2 g3 g4 : Int) (l : List Int) (post : DV → Prop) : Prop := (cond ((latE (⟨⟨g0, g1, g2⟩, g3, g4⟩ : Lat)) == (0 : Int)) ((numsP 1 l.length (intsC l) ∧ intsB [0, 1, 2, 3, 4] (boxC [.v (.int .i64 g0), .v (.int .i64 g1), .v (.int .i64 g2), .v (.int .i64 g3), .v (.int .i64 g4)]) = true ∧ latE (⟨⟨g0, g1, g2⟩, g3, g4⟩ : Lat) = 0 ∧ ((listC l.length mkInt (intsC l))).length ≤ 1000000) ∧ (True)) (True)) ∧ (lt ((bif ((latE (⟨⟨g0, g1, g2⟩, g3, g4⟩ : Lat)) == (0 : Int)) then scan (acE ((⟨⟨g0, g1, g2⟩, g3, g4⟩ : Lat)).sz (listC l.length mkInt (intsC l))) ((listC l.length mkInt (intsC l))).length else latE (⟨⟨g0, g1, g2⟩, g3, g4⟩ : Lat))) fun x1 => cond (x1 != (0 : Int)) (post (.tu [.c (.v (.int .i64 0)), .c (.v (.int .i64 x1))])) (lt (IntKind.i64.wrap (((l.length : Nat) : Int) * g3)) fun x2 => lt (IntKind.i64.wrap (x2 * g3)) fun x3 => lt (IntKind.i64.wrap (x3 * g3)) fun x4 => post (.tu [.c (.v (.int .i64 x4)), .c (.v (.int .i64 0))])))
def ann_flash_VolumeOf : Ann := ⟨fun _ => none, fun _ => none, fun _ => [], noIt, false, fun _ => none, fun r => lookA r [(3, [6])]⟩
theorem ev_flash_VolumeOf (J : Inv) (g0 g1 g2 g3 g4 : Int) (l : List Int) (post : DV → Prop) : evFn Tryd.prog tab Sr107 ann_flash_VolumeOf J Tryd.f28 [.t (.a [.v (.int .i64 g0), .v (.int .i64 g1), .v (.int .i64 g2), .v (.int .i64 g3), .v (.int .i64 g4)]), .t (.c (.sl 1 l.length (intsC l)))] post = vc_flash_VolumeOf g0 g1 g2 g3 g4 l post := by kernel_rfl
theorem fit_flash_VolumeOf : okFn ann_flash_VolumeOf Tryd.f28 = true := by kernel_rfl
theorem lp_flash_VolumeOf (J : Inv) (post : DV → Prop) : AllG J (loopsFn Tryd.prog tab Sr107 ann_flash_VolumeOf J Tryd.f28 post) = (True) := by kernel_rfl
theorem spec_flash_VolumeOf (g0 g1 g2 g3 g4 : Int) (l : List Int) (hp : (l).length ≤ 1000) : vc_flash_VolumeOf g0 g1 g2 g3 g4 l (fun r => LeD r (.tu [.c (.v (.int .i64 (voV (⟨⟨g0, g1, g2⟩, g3, g4⟩ : Lat) l))), .c (.v (.int .i64 (voE (⟨⟨g0, g1, g2⟩, g3, g4⟩ : Lat) l)))])) := by
 unfold vc_flash_VolumeOf
 simp only [ints_listC]
 refine ⟨cond_i (fun h => ⟨⟨numsP_ints l, rfl, by simpa using h, by omega⟩, trivial⟩) (fun _ => trivial), lt_i fun x1 h1 => ?_⟩
 have e1 : x1 = voE (⟨⟨g0, g1, g2⟩, g3, g4⟩ : Lat) l := by
  rw [← h1]; unfold voE accE
  by_cases q : latE (⟨⟨g0, g1, g2⟩, g3, g4⟩ : Lat) = 0
  ·rw [if_pos q, q]; rfl
  ·rw [if_neg q, show (latE (⟨⟨g0, g1, g2⟩, g3, g4⟩ : Lat) == (0 : Int)) = false by simpa using q]; rfl
 rw [e1]
 refine cond_i (fun h => ?_) (fun h => ?_)
 ·have h : voE (⟨⟨g0, g1, g2⟩, g3, g4⟩ : Lat) l ≠ 0 := by simpa using h
  exact le2 (if_neg h).symm rfl
 ·have h : voE (⟨⟨g0, g1, g2⟩, g3, g4⟩ : Lat) l = 0 := by simpa using h
  have hl : latE (⟨⟨g0, g1, g2⟩, g3, g4⟩ : Lat) = 0 := by
   by_cases q : latE (⟨⟨g0, g1, g2⟩, g3, g4⟩ : Lat) = 0
   ·exact q
   ·unfold voE at h; rwa [if_neg q] at h
  obtain ⟨_, q1, _⟩ := lat_ok hl
  simp only at q1
  have m1 := mul_rg (x := (l.length : Int)) (y := g3) (A := 1000) (B := 1000) (C := 1000000) (by omega) (by omega) (by decide)
  have m2 := mul_rg (x := (l.length : Int) * g3) (y := g3) (A := 1000000) (B := 1000) (C := 1000000000) (by omega) (by omega) (by decide)
  have m3 := mul_rg (x := (l.length : Int) * g3 * g3) (y := g3) (A := 1000000000) (B := 1000) (C := 1000000000000) (by omega) (by omega) (by decide)
  refine lt_i fun x2 h2 => lt_i fun x3 h3 => lt_i fun x4 h4 => ?_
  rw [wi (by omega)] at h2
  subst h2
  rw [wi (by omega)] at h3
  subst h3
  rw [wi (by omega)] at h4
  subst h4
  exact le2 (if_pos h).symm h.symm
def con_flash_VolumeOf : Con := fun args => match args with
 | [.t (.a [.v (.int .i64 g0), .v (.int .i64 g1), .v (.int .i64 g2), .v (.int .i64 g3), .v (.int .i64 g4)]), .t (.c (.sl 1 n_l c_l))] => some (.tu [.c (.v (.int .i64 (voV (⟨⟨g0, g1, g2⟩, g3, g4⟩ : Lat) (listC n_l mkInt c_l)))), .c (.v (.int .i64 (voE (⟨⟨g0, g1, g2⟩, g3, g4⟩ : Lat) (listC n_l mkInt c_l))))], some (numsP 1 n_l c_l ∧ ((listC n_l mkInt c_l)).length ≤ 1000), false)
 | _ => none
theorem ok_flash_VolumeOf : Ok Tryd.prog 28 con_flash_VolumeOf := by
 refine Ok.fn (ann := ann_flash_VolumeOf) mixed tabOK VSr107 ValidIt.no (fn := Tryd.f28) (by kernel_rfl) (by kernel_rfl) fit_flash_VolumeOf fun args r pre fresh h hp => ?_
 unfold con_flash_VolumeOf at h
 split at h
 ·rename_i g0 g1 g2 g3 g4 n_l c_l
  cases h
  obtain ⟨hp0, hp⟩ := hp
  refine ⟨rfl, fun _ _ _ => False, [.t (.a [.v (.int .i64 g0), .v (.int .i64 g1), .v (.int .i64 g2), .v (.int .i64 g3), .v (.int .i64 g4)]), .t (.c (.sl 1 ((listC n_l mkInt c_l).length) (intsC (listC n_l mkInt c_l))))], ?_, Nat.le_of_ble_eq_true (by kernel_rfl), ?_, ?_⟩
  ·exact (LeA_cons (LeD.refl _) (LeA_cons (leT_c ((leL_int hp0))) LeA_nil))
  ·rw [ev_flash_VolumeOf]; exact spec_flash_VolumeOf g0 g1 g2 g3 g4 (listC n_l mkInt c_l) hp
  ·rw [lp_flash_VolumeOf]; trivial
 ·cases h
noncomputable def Sr108 : Sum := addS Sr107 28 con_flash_VolumeOf
theorem VSr108 : Valid Tryd.prog Sr108 := Valid.add VSr107 ok_flash_VolumeOf
def vc_ref06_Volume (g0 g1 g2 g3 g4 : Int) (l : List Int) (post : DV → Prop) : Prop := lt (IntKind.i64.wrap (((l.length : Nat) : Int) * g3)) fun x1 => lt (IntKind.i64.wrap (x1 * g3)) fun x2 => lt (IntKind.i64.wrap (x2 * g3)) fun x3 => post (.t (.c (.v (.int .i64 x3))))
def ann_ref06_Volume : Ann := ⟨fun _ => none, fun _ => none, fun _ => [], noIt, false, fun _ => none, fun _ => none⟩
theorem ev_ref06_Volume (J : Inv) (g0 g1 g2 g3 g4 : Int) (l : List Int) (post : DV → Prop) : evFn Tryd.prog tab Sr108 ann_ref06_Volume J Tryd.f31 [.t (.a [.v (.int .i64 g0), .v (.int .i64 g1), .v (.int .i64 g2), .v (.int .i64 g3), .v (.int .i64 g4)]), .t (.c (.sl 1 l.length (intsC l)))] post = vc_ref06_Volume g0 g1 g2 g3 g4 l post := by kernel_rfl
theorem fit_ref06_Volume : okFn ann_ref06_Volume Tryd.f31 = true := by kernel_rfl
theorem lp_ref06_Volume (J : Inv) (post : DV → Prop) : AllG J (loopsFn Tryd.prog tab Sr108 ann_ref06_Volume J Tryd.f31 post) = (True) := by kernel_rfl
theorem spec_ref06_Volume (g0 g1 g2 g3 g4 : Int) (l : List Int) (hp : (l).length ≤ 1000 ∧ 1 ≤ g3 ∧ g3 ≤ 1000) : vc_ref06_Volume g0 g1 g2 g3 g4 l (fun r => LeD r (.t (.c (.v (.int .i64 (volV (⟨⟨g0, g1, g2⟩, g3, g4⟩ : Lat) l)))))) := by
 obtain ⟨hp, q1⟩ := hp
 unfold vc_ref06_Volume
 ·skip
  have m1 := mul_rg (x := (l.length : Int)) (y := g3) (A := 1000) (B := 1000) (C := 1000000) (by omega) (by omega) (by decide)
  have m2 := mul_rg (x := (l.length : Int) * g3) (y := g3) (A := 1000000) (B := 1000) (C := 1000000000) (by omega) (by omega) (by decide)
  have m3 := mul_rg (x := (l.length : Int) * g3 * g3) (y := g3) (A := 1000000000) (B := 1000) (C := 1000000000000) (by omega) (by omega) (by decide)
  refine lt_i fun x2 h2 => lt_i fun x3 h3 => lt_i fun x4 h4 => ?_
  rw [wi (by omega)] at h2
  subst h2
  rw [wi (by omega)] at h3
  subst h3
  rw [wi (by omega)] at h4
  subst h4
  exact leI rfl
def con_ref06_Volume : Con := fun args => match args with
 | [.t (.a [.v (.int .i64 g0), .v (.int .i64 g1), .v (.int .i64 g2), .v (.int .i64 g3), .v (.int .i64 g4)]), .t (.c (.sl 1 n_l c_l))] => some (.t (.c (.v (.int .i64 (volV (⟨⟨g0, g1, g2⟩, g3, g4⟩ : Lat) (listC n_l mkInt c_l))))), some (numsP 1 n_l c_l ∧ ((listC n_l mkInt c_l)).length ≤ 1000 ∧ 1 ≤ g3 ∧ g3 ≤ 1000), false)
 | _ => none
theorem ok_ref06_Volume : Ok Tryd.prog 31 con_ref06_Volume := by
 refine Ok.fn (ann := ann_ref06_Volume) mixed tabOK VSr108 ValidIt.no (fn := Tryd.f31) (by kernel_rfl) (by kernel_rfl) fit_ref06_Volume fun args r pre fresh h hp => ?_
 unfold con_ref06_Volume at h
 split at h
 ·rename_i g0 g1 g2 g3 g4 n_l c_l
  cases h
  obtain ⟨hp0, hp⟩ := hp
  refine ⟨rfl, fun _ _ _ => False, [.t (.a [.v (.int .i64 g0), .v (.int .i64 g1), .v (.int .i64 g2), .v (.int .i64 g3), .v (.int .i64 g4)]), .t (.c (.sl 1 ((listC n_l mkInt c_l).length) (intsC (listC n_l mkInt c_l))))], ?_, Nat.le_of_ble_eq_true (by kernel_rfl), ?_, ?_⟩
  ·exact (LeA_cons (LeD.refl _) (LeA_cons (leT_c ((leL_int hp0))) LeA_nil))
  ·rw [ev_ref06_Volume]; exact spec_ref06_Volume g0 g1 g2 g3 g4 (listC n_l mkInt c_l) hp
  ·rw [lp_ref06_Volume]; trivial
 ·cases h
noncomputable def Sr109 : Sum := addS Sr108 31 con_ref06_Volume
theorem VSr109 : Valid Tryd.prog Sr109 := Valid.add VSr108 ok_ref06_Volume
def mk_ref06_AcceptedErr_0 (g0 g1 g2 g3 g4 : Int) (l : List Int) (v0_0 : Int) : DS := ⟨[none, some (.t (.c (.sl 1 l.length (intsC l)))), some (.t (.c (.p 2 0))), none, none, some (.t (.c (.v (.int .i64 v0_0)))), none, none, none, none, none, none, none, none, none, none, none, none, none, none, none, none, none, none, none, none, none, none, none, none, none, none, none, none, none, none, none, none, none, none, none], [none, none, some (.box 26 [.v (.int .i64 g0), .v (.int .i64 g1), .v (.int .i64 g2), .v (.int .i64 g3), .v (.int .i64 g4)]), none, none, none, none, none, none, none, none, none, none, none, none, none, none, none, none, none, none, none, none, none, none, none, none, none, none, none, none, none, none, none, none, none, none, none, none, none, none]⟩
def vc_ref06_AcceptedErr (J : Inv) (g0 g1 g2 g3 g4 : Int) (l : List Int) (post : DV → Prop) : Prop := ∃ n, J 0 (n :: []) (mk_ref06_AcceptedErr_0 g0 g1 g2 g3 g4 l 0)
def ann_ref06_AcceptedErr : Ann := ⟨fun r => lookA r [(4, ([[], [], [0, 1], [0, 1, 2], [], [4], [], [6], [4, 5, 6, 7], [], [9], [4, 5, 6, 7, 8, 9, 10], [4, 5, 6, 7, 8, 9, 10, 11], [0, 1, 2, 3, 4, 5, 6, 7, 8, 9, 10, 11, 12], [0, 1, 2, 3, 4, 5, 6, 7, 8, 9, 10, 11, 12, 13]], [[25], [25], [25], [25], [25], [25], [25], [25], [25], [25], [25], [25], [25], [], []])), (6, ([[], [0], [0, 1], [0, 1, 2], [0, 1, 2], [0, 1, 2, 3, 4], [0, 1, 2, 3, 4, 5], [0, 1, 2], [0, 1, 2], [0, 1, 2, 8], [0, 1, 2, 7, 8, 9], [0, 1, 2, 7, 8, 9, 10], [0, 1, 2, 3, 4, 5, 6, 7, 8, 9, 10, 11], [0, 1, 2, 3, 4, 5, 6, 7, 8, 9, 10, 11, 12]], [[], [], [], [], [], [], [], [], [], [], [], [], [], []]))], fun b => lookA b [(0, (none, some ⟨[1, 2, 5], [2], []⟩))], fun _ => [], noIt, false, fun r => lookA r [(6, (3, [40]))], fun _ => none⟩
theorem ev_ref06_AcceptedErr (J : Inv) (g0 g1 g2 g3 g4 : Int) (l : List Int) (post : DV → Prop) : evFn Tryd.prog tab Sr109 ann_ref06_AcceptedErr J Tryd.f30 [.t (.a [.v (.int .i64 g0), .v (.int .i64 g1), .v (.int .i64 g2), .v (.int .i64 g3), .v (.int .i64 g4)]), .t (.c (.sl 1 l.length (intsC l)))] post = vc_ref06_AcceptedErr J g0 g1 g2 g3 g4 l post := by kernel_rfl
theorem fit_ref06_AcceptedErr : okFn ann_ref06_AcceptedErr Tryd.f30 = true := by kernel_rfl
def rd_ref06_AcceptedErr_0 (J : Inv) (g0 g1 g2 g3 g4 : Int) (l : List Int) (v0_0 : Int) (nn0 : Nat) (post : DV → Prop) : Prop := cond (decide (v0_0 < ((l.length : Nat) : Int))) ((0 ≤ v0_0 ∧ v0_0 < ((l.length : Nat) : Int)) ∧ (lt (IntKind.i64.wrap (g4 * g4)) fun x1 => lt (IntKind.i64.wrap (x1 * g4)) fun x2 => lt (IntKind.i64.wrap (x2 - (1 : Int))) fun x3 => cond (!(inB (l.getD v0_0.toNat 0) (0 : Int) x3)) (post (.t (.c (.v (.int .i64 6))))) ((cond (decide (v0_0 > (0 : Int))) ((0 ≤ v0_0 ∧ v0_0 < ((l.length : Nat) : Int)) ∧ (lt (IntKind.i64.wrap (v0_0 - (1 : Int))) fun x5 => (0 ≤ x5 ∧ x5 < ((l.length : Nat) : Int)) ∧ (True))) ((false = false) ∧ (True))) ∧ (lt ((bif decide (v0_0 > (0 : Int)) then decide ((l.getD v0_0.toNat 0) ≤ (l.getD ((IntKind.i64.wrap (v0_0 - (1 : Int))).toNat) 0)) else false)) fun x6 => cond x6 (post (.t (.c (.v (.int .i64 9))))) (lt (IntKind.i64.wrap (v0_0 + (1 : Int))) fun x7 => J 0 (nn0 :: []) (mk_ref06_AcceptedErr_0 g0 g1 g2 g3 g4 l x7)))))) (post (.t (.c (.v (.int .i64 0)))))
theorem er_ref06_AcceptedErr_0 (J : Inv) (g0 g1 g2 g3 g4 : Int) (l : List Int) (v0_0 : Int) (nn0 : Nat) (post : DV → Prop) : round Tryd.prog tab Sr109 ann_ref06_AcceptedErr J Tryd.f30 post 0 (nn0 :: []) (mk_ref06_AcceptedErr_0 g0 g1 g2 g3 g4 l v0_0) = rd_ref06_AcceptedErr_0 J g0 g1 g2 g3 g4 l v0_0 nn0 post := by kernel_rfl
theorem lp_ref06_AcceptedErr (J : Inv) (post : DV → Prop) : AllG J (loopsFn Tryd.prog tab Sr109 ann_ref06_AcceptedErr J Tryd.f30 post) = (((∀ F s, ¬ J 0 (0 :: F) s) ∧ ∀ n F s, J 0 ((n + 1) :: F) s → round Tryd.prog tab Sr109 ann_ref06_AcceptedErr J Tryd.f30 post 0 (n :: F) s) ∧ True) := by kernel_rfl
def J_ref06_AcceptedErr (g0 g1 g2 g3 g4 : Int) (l : List Int) : Inv := fun b F s => match b, F with
 | 0, [nn0] => ∃ (v0_0 : Int), s = mk_ref06_AcceptedErr_0 g0 g1 g2 g3 g4 l v0_0 ∧ (0 ≤ v0_0 ∧ v0_0 ≤ l.length ∧ (nn0 : Int) + v0_0 = l.length + 1 ∧ ∀ j : Nat, (j : Int) < v0_0 → acE (⟨⟨g0, g1, g2⟩, g3, g4⟩ : Lat).sz l j = 0)
 | _, _ => False
theorem rnd_ref06_AcceptedErr_0 (g0 g1 g2 g3 g4 : Int) (l : List Int) (v0_0 : Int) (nn0 : Nat) (hp : latE (⟨⟨g0, g1, g2⟩, g3, g4⟩ : Lat) = 0 ∧ (l).length ≤ 1000000) (hi : 0 ≤ v0_0 ∧ v0_0 ≤ l.length ∧ ((nn0 + 1) : Int) + v0_0 = l.length + 1 ∧ ∀ j : Nat, (j : Int) < v0_0 → acE (⟨⟨g0, g1, g2⟩, g3, g4⟩ : Lat).sz l j = 0) : rd_ref06_AcceptedErr_0 (J_ref06_AcceptedErr g0 g1 g2 g3 g4 l) g0 g1 g2 g3 g4 l v0_0 nn0 (fun r => LeD r (.t (.c (.v (.int .i64 (accE (⟨⟨g0, g1, g2⟩, g3, g4⟩ : Lat) l)))))) := by
 obtain ⟨i0, i1, i2, i3⟩ := hi
 obtain ⟨k, rfl⟩ : ∃ k : Nat, v0_0 = k := ⟨v0_0.toNat, by omega⟩
 have hk : (k : Int).toNat = k := rfl
 obtain ⟨p1, p2⟩ := hp
 obtain ⟨_, _, q1⟩ := lat_ok p1
 simp only at q1
 have hz := sz_rg p1
 have ez : g4 * g4 * g4 = (⟨⟨g0, g1, g2⟩, g3, g4⟩ : Lat).sz := rfl
 have m1 := mul_rg (x := g4) (y := g4) (A := 6) (B := 6) (C := 36) (by omega) (by omega) (by decide)
 unfold rd_ref06_AcceptedErr_0
 rw [hk]
 refine cond_i (fun h => ?_) (fun h => leI ?_)
 ·have hlt : k < l.length := by have := of_decide_eq_true h; omega
  refine ⟨by omega, lt_i fun x1 h1 => lt_i fun x2 h2 => lt_i fun x3 h3 => ?_⟩
  rw [wi (by omega)] at h1
  subst h1
  rw [wi (by omega), ez] at h2
  subst h2
  rw [wi (by omega)] at h3
  subst h3
  have eA : acE (⟨⟨g0, g1, g2⟩, g3, g4⟩ : Lat).sz l k = acS (⟨⟨g0, g1, g2⟩, g3, g4⟩ : Lat).sz k (l.getD (k - 1) 0) (l.getD k 0) := rfl
  refine cond_i (fun e => leI ?_) (fun e => ?_)
  ·have v : acE (⟨⟨g0, g1, g2⟩, g3, g4⟩ : Lat).sz l k = 6 := by
    have e : inB (l.getD k 0) 0 ((⟨⟨g0, g1, g2⟩, g3, g4⟩ : Lat).sz - 1) = false := by simpa using e
    rw [eA]; unfold acS; rw [e]; rfl
   exact ((scan_at (fun j hj => i3 j (by omega)) hlt (by rw [v]; decide)).trans v).symm
  ·have e : inB (l.getD k 0) 0 ((⟨⟨g0, g1, g2⟩, g3, g4⟩ : Lat).sz - 1) = true := by simpa using e
   have eA2 : acE (⟨⟨g0, g1, g2⟩, g3, g4⟩ : Lat).sz l k = unl (decide ((k : Int) = 0) || decide (l.getD k 0 > l.getD (k - 1) 0)) 9 := by
    rw [eA]; unfold acS; rw [e]
    cases (decide ((k : Int) = 0) || decide (l.getD k 0 > l.getD (k - 1) 0)) <;> rfl
   refine ⟨cond_i (fun p => ⟨by omega, lt_i fun x5 h5 => ?_⟩) (fun _ => ⟨rfl, trivial⟩), lt_i fun x6 h6 => cond_i (fun c => leI ?_) (fun c => lt_i fun x hx => ?_)⟩
   ·have p := of_decide_eq_true p
    rw [wi (by omega)] at h5
    exact ⟨by omega, trivial⟩
   ·have hp0 : (k : Int) > 0 := by
     by_cases z : (k : Int) > 0
     ·exact z
     ·rw [decide_eq_false z] at h6; rw [← h6] at c; cases c
    rw [decide_eq_true hp0, wi (by omega), show ((k : Int) - 1).toNat = k - 1 by omega] at h6
    have h6 : decide (l.getD k 0 ≤ l.getD (k - 1) 0) = x6 := h6
    rw [← h6] at c
    have c := of_decide_eq_true c
    have v : acE (⟨⟨g0, g1, g2⟩, g3, g4⟩ : Lat).sz l k = 9 := by
     rw [eA2, decide_eq_false (show ¬ (k : Int) = 0 by omega), decide_eq_false (show ¬ l.getD k 0 > l.getD (k - 1) 0 by omega)]; rfl
    exact ((scan_at (fun j hj => i3 j (by omega)) hlt (by rw [v]; decide)).trans v).symm
   ·have v : acE (⟨⟨g0, g1, g2⟩, g3, g4⟩ : Lat).sz l k = 0 := by
     rw [eA2]
     by_cases z : (k : Int) > 0
     ·rw [decide_eq_true z, wi (by omega), show ((k : Int) - 1).toNat = k - 1 by omega] at h6
      have h6 : decide (l.getD k 0 ≤ l.getD (k - 1) 0) = x6 := h6
      rw [← h6] at c
      have c := of_decide_eq_false c
      rw [decide_eq_true (show l.getD k 0 > l.getD (k - 1) 0 by omega), Bool.or_true]; rfl
     ·rw [decide_eq_true (show (k : Int) = 0 by omega)]; rfl
    rw [wi (by omega)] at hx
    subst hx
    refine ⟨_, rfl, by omega, by omega, by omega, fun j hj => ?_⟩
    by_cases q : j = k
    ·rw [q]; exact v
    ·exact i3 j (by omega)
 ·have hge : k = l.length := by have := of_decide_eq_false h; omega
  exact (scan_end fun j hj => i3 j (by omega)).symm
theorem zero_ref06_AcceptedErr_0 (g0 g1 g2 g3 g4 : Int) (l : List Int) (v0_0 : Int)  (hi : 0 ≤ v0_0 ∧ v0_0 ≤ l.length ∧ (0 : Int) + v0_0 = l.length + 1 ∧ ∀ j : Nat, (j : Int) < v0_0 → acE (⟨⟨g0, g1, g2⟩, g3, g4⟩ : Lat).sz l j = 0) : False := by
 omega
theorem spec_ref06_AcceptedErr (g0 g1 g2 g3 g4 : Int) (l : List Int) (hp : latE (⟨⟨g0, g1, g2⟩, g3, g4⟩ : Lat) = 0 ∧ (l).length ≤ 1000000) : vc_ref06_AcceptedErr (J_ref06_AcceptedErr g0 g1 g2 g3 g4 l) g0 g1 g2 g3 g4 l (fun r => LeD r (.t (.c (.v (.int .i64 (accE (⟨⟨g0, g1, g2⟩, g3, g4⟩ : Lat) l)))))) := by
 unfold vc_ref06_AcceptedErr
 exact ⟨l.length + 1, 0, rfl, by omega, by omega, by omega, fun j hj => by omega⟩
theorem all_ref06_AcceptedErr (g0 g1 g2 g3 g4 : Int) (l : List Int) (hp : latE (⟨⟨g0, g1, g2⟩, g3, g4⟩ : Lat) = 0 ∧ (l).length ≤ 1000000) : AllG (J_ref06_AcceptedErr g0 g1 g2 g3 g4 l) (loopsFn Tryd.prog tab Sr109 ann_ref06_AcceptedErr (J_ref06_AcceptedErr g0 g1 g2 g3 g4 l) Tryd.f30 (fun r => LeD r (.t (.c (.v (.int .i64 (accE (⟨⟨g0, g1, g2⟩, g3, g4⟩ : Lat) l))))))) := by
 rw [lp_ref06_AcceptedErr]
 refine ⟨⟨?_, ?_⟩, trivial⟩
 ·intro F s h
  obtain _ | ⟨g, F⟩ := F
  case cons => exact h.elim
  obtain ⟨w0, rfl, hi⟩ := h
  exact zero_ref06_AcceptedErr_0 g0 g1 g2 g3 g4 l w0 hi
 ·intro n F s h
  obtain _ | ⟨g, F⟩ := F
  case cons => exact h.elim
  obtain ⟨w0, rfl, hi⟩ := h
  rw [er_ref06_AcceptedErr_0]
  exact rnd_ref06_AcceptedErr_0 g0 g1 g2 g3 g4 l _ _ hp hi
def con_ref06_AcceptedErr : Con := fun args => match args with
 | [.t (.a [.v (.int .i64 g0), .v (.int .i64 g1), .v (.int .i64 g2), .v (.int .i64 g3), .v (.int .i64 g4)]), .t (.c (.sl 1 n_l c_l))] => some (.t (.c (.v (.int .i64 (accE (⟨⟨g0, g1, g2⟩, g3, g4⟩ : Lat) (listC n_l mkInt c_l))))), some (numsP 1 n_l c_l ∧ latE (⟨⟨g0, g1, g2⟩, g3, g4⟩ : Lat) = 0 ∧ ((listC n_l mkInt c_l)).length ≤ 1000000), false)
 | _ => none
theorem ok_ref06_AcceptedErr : Ok Tryd.prog 30 con_ref06_AcceptedErr := by
 refine Ok.fn (ann := ann_ref06_AcceptedErr) mixed tabOK VSr109 ValidIt.no (fn := Tryd.f30) (by kernel_rfl) (by kernel_rfl) fit_ref06_AcceptedErr fun args r pre fresh h hp => ?_
 unfold con_ref06_AcceptedErr at h
 split at h
 ·rename_i g0 g1 g2 g3 g4 n_l c_l
  cases h
  obtain ⟨hp0, hp⟩ := hp
  refine ⟨rfl, J_ref06_AcceptedErr g0 g1 g2 g3 g4 (listC n_l mkInt c_l), [.t (.a [.v (.int .i64 g0), .v (.int .i64 g1), .v (.int .i64 g2), .v (.int .i64 g3), .v (.int .i64 g4)]), .t (.c (.sl 1 ((listC n_l mkInt c_l).length) (intsC (listC n_l mkInt c_l))))], ?_, Nat.le_of_ble_eq_true (by kernel_rfl), ?_, ?_⟩
  ·exact (LeA_cons (LeD.refl _) (LeA_cons (leT_c ((leL_int hp0))) LeA_nil))
  ·rw [ev_ref06_AcceptedErr]; exact spec_ref06_AcceptedErr g0 g1 g2 g3 g4 (listC n_l mkInt c_l) hp
  ·exact all_ref06_AcceptedErr g0 g1 g2 g3 g4 (listC n_l mkInt c_l) hp
 ·cases h
noncomputable def Sr110 : Sum := addS Sr109 30 con_ref06_AcceptedErr
theorem VSr110 : Valid Tryd.prog Sr110 := Valid.add VSr109 ok_ref06_AcceptedErr
def vc_base_IsLowest_b (y0 y1 : Int) (post : DV → Prop) : Prop := cond (decide (y1 > (0 : Int))) (((-9223372036854775808 ≤ y0 ∧ y0 ≤ 9223372036854775807) ∧ (-9223372036854775807 ≤ y1 ∧ y1 ≤ 9223372036854775807) ∧ (y1 ≠ 0 ∨ -9223372036854775807 ≤ y0)) ∧ (post (.t (.c (.v (.bool ((gcd2 y0 y1) == (1 : Int)))))))) ((false = false) ∧ (post (.t (.c (.v (.bool false))))))
def ann_base_IsLowest_b : Ann := ⟨fun _ => none, fun _ => none, fun _ => [], noIt, false, fun _ => none, fun _ => none⟩
theorem ev_base_IsLowest_b (J : Inv) (y0 y1 : Int) (post : DV → Prop) : evFn Tryd.prog tab Sr110 ann_base_IsLowest_b J Tryd.f51 [.t (.a [.v (.int .i64 y0), .v (.int .i64 y1)])] post = vc_base_IsLowest_b y0 y1 post := by kernel_rfl
theorem fit_base_IsLowest_b : okFn ann_base_IsLowest_b Tryd.f51 = true := by kernel_rfl
theorem lp_base_IsLowest_b (J : Inv) (post : DV → Prop) : AllG J (loopsFn Tryd.prog tab Sr110 ann_base_IsLowest_b J Tryd.f51 post) = (True) := by kernel_rfl
theorem spec_base_IsLowest_b (y0 y1 : Int) (hp : (-9223372036854775808 ≤ y0 ∧ y0 ≤ 9223372036854775807) ∧ (-9223372036854775808 ≤ y1 ∧ y1 ≤ 9223372036854775807)) : vc_base_IsLowest_b y0 y1 (fun r => LeD r (.t (.c (.v (.bool (decide (y1 > 0) && (gcd2 y0 y1 == 1))))))) := by
 unfold vc_base_IsLowest_b
 refine cond_i (fun h => ⟨by have := of_decide_eq_true h; omega, leB ?_⟩) (fun h => ⟨rfl, leB ?_⟩)
 ·rw [h]; rfl
 ·rw [h]; rfl
def con_base_IsLowest_b : Con := fun args => match args with
 | [.t (.a [.v (.int .i64 y0), .v (.int .i64 y1)])] => some (.t (.c (.v (.bool (decide (y1 > 0) && (gcd2 y0 y1 == 1))))), some ((-9223372036854775808 ≤ y0 ∧ y0 ≤ 9223372036854775807) ∧ (-9223372036854775808 ≤ y1 ∧ y1 ≤ 9223372036854775807)), false)
 | _ => none
theorem ok_base_IsLowest_b : Ok Tryd.prog 51 con_base_IsLowest_b := by
 refine Ok.fn (ann := ann_base_IsLowest_b) mixed tabOK VSr110 ValidIt.no (fn := Tryd.f51) (by kernel_rfl) (by kernel_rfl) fit_base_IsLowest_b fun args r pre fresh h hp => ?_
 unfold con_base_IsLowest_b at h
 split at h
 ·rename_i y0 y1
  cases h
  refine ⟨rfl, fun _ _ _ => False, _, LeA.refl _, Nat.le_of_ble_eq_true (by kernel_rfl), ?_, ?_⟩
  ·rw [ev_base_IsLowest_b]; exact spec_base_IsLowest_b y0 y1 hp
  ·rw [lp_base_IsLowest_b]; trivial
 ·cases h
noncomputable def Sr111 : Sum := addF Sr110 51 con_base_IsLowest_b
theorem VSr111 : Valid Tryd.prog Sr111 := Valid.addF VSr110 ok_base_IsLowest_b
def vc_ref06_PromiseErr (f : Int) (y0 y1 : Int) (post : DV → Prop) : Prop := cond (!(inB f (0 : Int) (8 : Int))) (post (.t (.c (.v (.int .i64 2))))) (((-9223372036854775808 ≤ y0 ∧ y0 ≤ 9223372036854775807) ∧ (-9223372036854775808 ≤ y1 ∧ y1 ≤ 9223372036854775807)) ∧ (cond (!(decide (y1 > 0) && (gcd2 y0 y1 == 1))) (post (.t (.c (.v (.int .i64 3))))) ((cond (decide (y0 < (0 : Int))) ((true = true) ∧ ((true = true) ∧ (True))) (cond (decide (y0 > y1)) ((true = true) ∧ (True)) (True))) ∧ (lt ((bif decide (y0 < (0 : Int)) then true else (bif decide (y0 > y1) then true else decide (y1 > (1000000000 : Int))))) fun x1 => cond x1 (post (.t (.c (.v (.int .i64 2))))) (post (.t (.c (.v (.int .i64 0)))))))))
def ann_ref06_PromiseErr : Ann := ⟨fun _ => none, fun _ => none, fun _ => [], noIt, false, fun r => lookA r [(5, (5, [29]))], fun _ => none⟩
theorem ev_ref06_PromiseErr (J : Inv) (f : Int) (y0 y1 : Int) (post : DV → Prop) : evFn Tryd.prog tab Sr111 ann_ref06_PromiseErr J Tryd.f35 [.t (.a [.v (.int .i64 f), .v (.int .i64 y0), .v (.int .i64 y1)])] post = vc_ref06_PromiseErr f y0 y1 post := by kernel_rfl
theorem fit_ref06_PromiseErr : okFn ann_ref06_PromiseErr Tryd.f35 = true := by kernel_rfl
theorem lp_ref06_PromiseErr (J : Inv) (post : DV → Prop) : AllG J (loopsFn Tryd.prog tab Sr111 ann_ref06_PromiseErr J Tryd.f35 post) = (True) := by kernel_rfl
theorem spec_ref06_PromiseErr (f : Int) (y0 y1 : Int) (hp : (-9223372036854775808 ≤ y0 ∧ y0 ≤ 9223372036854775807) ∧ (-9223372036854775808 ≤ y1 ∧ y1 ≤ 9223372036854775807)) : vc_ref06_PromiseErr f y0 y1 (fun r => LeD r (.t (.c (.v (.int .i64 (prmE f y0 y1)))))) := by
 unfold vc_ref06_PromiseErr prmE
 refine cond_i (fun h => leI ?_) (fun h => ⟨hp, cond_i (fun h2 => leI ?_) (fun h2 => ⟨?_, lt_i fun x1 h1 => cond_i (fun c => leI ?_) (fun c => leI ?_)⟩)⟩)
 ·have h : inB f 0 8 = false := by simpa using h
  rw [h]; rfl
 ·have h : inB f 0 8 = true := by simpa using h
  have h2 : (decide (y1 > 0) && (gcd2 y0 y1 == 1)) = false := by rwa [Bool.not_eq_true'] at h2
  rw [h, h2]; rfl
 ·(repeat' with_reducible first | trivial | (refine cond_i ?_ ?_ <;> intro _) | (refine And.intro ?_ ?_))
 all_goals
  have h : inB f 0 8 = true := by simpa using h
  have h2 : (decide (y1 > 0) && (gcd2 y0 y1 == 1)) = true := by rwa [Bool.not_eq_false'] at h2
  rw [h, h2]
  have e : (inB y0 0 y1 && decide (y1 ≤ 1000000000)) = !x1 := by
   rw [← h1, Bool.eq_iff_iff]
   simp only [Bool.and_eq_true, inB_true, decide_eq_true_eq, Bool.not_eq_true']
   by_cases a : y0 < 0
   ·rw [decide_eq_true a]; simp; omega
   ·by_cases b : y0 > y1
    ·rw [decide_eq_true b]; simp; omega
    ·rw [decide_eq_false a, decide_eq_false b]; simp; omega
  rw [e, c]; rfl
def con_ref06_PromiseErr : Con := fun args => match args with
 | [.t (.a [.v (.int .i64 f), .v (.int .i64 y0), .v (.int .i64 y1)])] => some (.t (.c (.v (.int .i64 (prmE f y0 y1)))), some ((-9223372036854775808 ≤ y0 ∧ y0 ≤ 9223372036854775807) ∧ (-9223372036854775808 ≤ y1 ∧ y1 ≤ 9223372036854775807)), false)
 | _ => none
theorem ok_ref06_PromiseErr : Ok Tryd.prog 35 con_ref06_PromiseErr := by
 refine Ok.fn (ann := ann_ref06_PromiseErr) mixed tabOK VSr111 ValidIt.no (fn := Tryd.f35) (by kernel_rfl) (by kernel_rfl) fit_ref06_PromiseErr fun args r pre fresh h hp => ?_
 unfold con_ref06_PromiseErr at h
 split at h
 ·rename_i f y0 y1
  cases h
  refine ⟨rfl, fun _ _ _ => False, _, LeA.refl _, Nat.le_of_ble_eq_true (by kernel_rfl), ?_, ?_⟩
  ·rw [ev_ref06_PromiseErr]; exact spec_ref06_PromiseErr f y0 y1 hp
  ·rw [lp_ref06_PromiseErr]; trivial
 ·cases h
noncomputable def Sr112 : Sum := addS Sr111 35 con_ref06_PromiseErr
theorem VSr112 : Valid Tryd.prog Sr112 := Valid.add VSr111 ok_ref06_PromiseErr
def mk_base_Before_0 (l : List Int) (l2 : List Int) (v0_0 : Int) : DS := ⟨[some (.t (.c (.sl 1 l.length (intsC l)))), some (.t (.c (.sl 1 l2.length (intsC l2)))), none, none, none, some (.t (.c (.v (.int .i64 v0_0)))), none, none, none, none, none, none, none, none, none, none, none, none, none, none, none, none, none, none, none, none, none, none, none, none, none, none, none, none, none, none, none, none, none, none, none], [none, none, none, none, none, none, none, none, none, none, none, none, none, none, none, none, none, none, none, none, none, none, none, none, none, none, none, none, none, none, none, none, none, none, none, none, none, none, none, none, none]⟩
def vc_base_Before (J : Inv) (l : List Int) (l2 : List Int) (post : DV → Prop) : Prop := ∃ n, J 0 (n :: []) (mk_base_Before_0 l l2 0)
def ann_base_Before : Ann := ⟨fun r => lookA r [(4, ([[], [], [0, 1], [0, 1, 2], [], [], [4, 5], [4, 5, 6], [0, 1, 2, 3, 4, 5, 6, 7]], [[], [], [], [], [], [], [], [], []])), (5, ([[], [], [0, 1], [0, 1, 2], [], [], [4, 5], [4, 5, 6], [0, 1, 2, 3, 4, 5, 6, 7], [0, 1, 2, 3, 4, 5, 6, 7, 8]], [[], [], [], [], [], [], [], [], [], []]))], fun b => lookA b [(0, (none, some ⟨[0, 1, 5], [], []⟩))], fun _ => [], noIt, false, fun r => lookA r [(2, (5, [15]))], fun _ => none⟩
theorem ev_base_Before (J : Inv) (l : List Int) (l2 : List Int) (post : DV → Prop) : evFn Tryd.prog tab Sr112 ann_base_Before J Tryd.f81 [.t (.c (.sl 1 l.length (intsC l))), .t (.c (.sl 1 l2.length (intsC l2)))] post = vc_base_Before J l l2 post := by kernel_rfl
theorem fit_base_Before : okFn ann_base_Before Tryd.f81 = true := by kernel_rfl
def rd_base_Before_0 (J : Inv) (l : List Int) (l2 : List Int) (v0_0 : Int) (nn0 : Nat) (post : DV → Prop) : Prop := (cond (decide (v0_0 < ((l.length : Nat) : Int))) (True) ((false = false) ∧ (True))) ∧ (lt ((bif decide (v0_0 < ((l.length : Nat) : Int)) then decide (v0_0 < ((l2.length : Nat) : Int)) else false)) fun x1 => cond x1 ((0 ≤ v0_0 ∧ v0_0 < ((l.length : Nat) : Int)) ∧ ((0 ≤ v0_0 ∧ v0_0 < ((l2.length : Nat) : Int)) ∧ (cond ((l.getD v0_0.toNat 0) != (l2.getD v0_0.toNat 0)) ((0 ≤ v0_0 ∧ v0_0 < ((l.length : Nat) : Int)) ∧ ((0 ≤ v0_0 ∧ v0_0 < ((l2.length : Nat) : Int)) ∧ (post (.t (.c (.v (.bool (decide ((l.getD v0_0.toNat 0) < (l2.getD v0_0.toNat 0)))))))))) (lt (IntKind.i64.wrap (v0_0 + (1 : Int))) fun x2 => J 0 (nn0 :: []) (mk_base_Before_0 l l2 x2))))) (post (.t (.c (.v (.bool (decide (((l.length : Nat) : Int) < ((l2.length : Nat) : Int)))))))))
theorem er_base_Before_0 (J : Inv) (l : List Int) (l2 : List Int) (v0_0 : Int) (nn0 : Nat) (post : DV → Prop) : round Tryd.prog tab Sr112 ann_base_Before J Tryd.f81 post 0 (nn0 :: []) (mk_base_Before_0 l l2 v0_0) = rd_base_Before_0 J l l2 v0_0 nn0 post := by kernel_rfl
theorem lp_base_Before (J : Inv) (post : DV → Prop) : AllG J (loopsFn Tryd.prog tab Sr112 ann_base_Before J Tryd.f81 post) = (((∀ F s, ¬ J 0 (0 :: F) s) ∧ ∀ n F s, J 0 ((n + 1) :: F) s → round Tryd.prog tab Sr112 ann_base_Before J Tryd.f81 post 0 (n :: F) s) ∧ True) := by kernel_rfl
def J_base_Before (l : List Int) (l2 : List Int) : Inv := fun b F s => match b, F with
 | 0, [nn0] => ∃ (v0_0 : Int), s = mk_base_Before_0 l l2 v0_0 ∧ (l.length ≤ 1000000 ∧ 0 ≤ v0_0 ∧ v0_0 ≤ l.length ∧ v0_0 ≤ l2.length ∧ (nn0 : Int) + v0_0 = l.length + 1 ∧ befL (l.drop v0_0.toNat) (l2.drop v0_0.toNat) = befL l l2)
 | _, _ => False
theorem rnd_base_Before_0 (l : List Int) (l2 : List Int) (v0_0 : Int) (nn0 : Nat) (hp : (l).length ≤ 1000000) (hi : l.length ≤ 1000000 ∧ 0 ≤ v0_0 ∧ v0_0 ≤ l.length ∧ v0_0 ≤ l2.length ∧ ((nn0 + 1) : Int) + v0_0 = l.length + 1 ∧ befL (l.drop v0_0.toNat) (l2.drop v0_0.toNat) = befL l l2) : rd_base_Before_0 (J_base_Before l l2) l l2 v0_0 nn0 (fun r => LeD r (.t (.c (.v (.bool (befL l l2)))))) := by
 obtain ⟨i0, i1, i2, i3, i4, i5⟩ := hi
 obtain ⟨k, rfl⟩ : ∃ k : Nat, v0_0 = k := ⟨v0_0.toNat, by omega⟩
 have hk : (k : Int).toNat = k := rfl
 rw [hk] at i5
 unfold rd_base_Before_0
 rw [hk]
 refine ⟨cond_i (fun _ => trivial) (fun _ => ⟨rfl, trivial⟩), lt_i fun x1 h1 => cond_i (fun c => ?_) (fun c => leB ?_)⟩
 ·have hl : k < l.length ∧ k < l2.length := by
   rw [← h1] at c
   by_cases a : (k : Int) < l.length
   ·rw [decide_eq_true a] at c
    have := of_decide_eq_true c
    omega
   ·rw [decide_eq_false a] at c; cases c
  have el : l.drop k = l.getD k 0 :: l.drop (k + 1) := by rw [List.drop_eq_getElem_cons hl.1]; simp [List.getD, hl.1]
  have er : l2.drop k = l2.getD k 0 :: l2.drop (k + 1) := by rw [List.drop_eq_getElem_cons hl.2]; simp [List.getD, hl.2]
  rw [el, er] at i5
  refine ⟨by omega, by omega, cond_i (fun q => ⟨by omega, by omega, leB ?_⟩) (fun q => lt_i fun x hx => ?_)⟩
  ·have q : l.getD k 0 ≠ l2.getD k 0 := by simpa using q
   rw [← i5, befL, decide_eq_false q, Bool.false_and, Bool.or_false]
  ·have q : l.getD k 0 = l2.getD k 0 := by simpa using q
   rw [wi (by omega)] at hx
   subst hx
   refine ⟨_, rfl, i0, by omega, by omega, by omega, by omega, ?_⟩
   rw [show ((k : Int) + 1).toNat = k + 1 by omega, ← i5, befL, q, decide_eq_true rfl, decide_eq_false (Int.lt_irrefl _)]; rfl
 ·rw [← i5]
  by_cases a : k < l.length
  ·have b : ¬ k < l2.length := fun b => by
    rw [← h1, decide_eq_true (show (k : Int) < l.length by omega)] at c
    have := of_decide_eq_false c
    omega
   have el : l.drop k = l.getD k 0 :: l.drop (k + 1) := by rw [List.drop_eq_getElem_cons a]; simp [List.getD, a]
   rw [el, List.drop_eq_nil_of_le (show l2.length ≤ k by omega), decide_eq_false (by omega)]; rfl
  ·rw [List.drop_eq_nil_of_le (show l.length ≤ k by omega)]
   by_cases b : k < l2.length
   ·have er : l2.drop k = l2.getD k 0 :: l2.drop (k + 1) := by rw [List.drop_eq_getElem_cons b]; simp [List.getD, b]
    rw [er, decide_eq_true (by omega)]; rfl
   ·rw [List.drop_eq_nil_of_le (show l2.length ≤ k by omega), decide_eq_false (by omega)]; rfl
theorem zero_base_Before_0 (l : List Int) (l2 : List Int) (v0_0 : Int)  (hi : l.length ≤ 1000000 ∧ 0 ≤ v0_0 ∧ v0_0 ≤ l.length ∧ v0_0 ≤ l2.length ∧ (0 : Int) + v0_0 = l.length + 1 ∧ befL (l.drop v0_0.toNat) (l2.drop v0_0.toNat) = befL l l2) : False := by
 omega
theorem spec_base_Before (l : List Int) (l2 : List Int) (hp : (l).length ≤ 1000000) : vc_base_Before (J_base_Before l l2) l l2 (fun r => LeD r (.t (.c (.v (.bool (befL l l2)))))) := by
 unfold vc_base_Before
 exact ⟨l.length + 1, 0, rfl, hp, by omega, by omega, by omega, by omega, rfl⟩
theorem all_base_Before (l : List Int) (l2 : List Int) (hp : (l).length ≤ 1000000) : AllG (J_base_Before l l2) (loopsFn Tryd.prog tab Sr112 ann_base_Before (J_base_Before l l2) Tryd.f81 (fun r => LeD r (.t (.c (.v (.bool (befL l l2))))))) := by
 rw [lp_base_Before]
 refine ⟨⟨?_, ?_⟩, trivial⟩
 ·intro F s h
  obtain _ | ⟨g, F⟩ := F
  case cons => exact h.elim
  obtain ⟨w0, rfl, hi⟩ := h
  exact zero_base_Before_0 l l2 w0 hi
 ·intro n F s h
  obtain _ | ⟨g, F⟩ := F
  case cons => exact h.elim
  obtain ⟨w0, rfl, hi⟩ := h
  rw [er_base_Before_0]
  exact rnd_base_Before_0 l l2 _ _ hp hi
def con_base_Before : Con := fun args => match args with
 | [.t (.c (.sl 1 n_l c_l)), .t (.c (.sl 1 n_l2 c_l2))] => some (.t (.c (.v (.bool (befL (listC n_l mkInt c_l) (listC n_l2 mkInt c_l2))))), some (numsP 1 n_l c_l ∧ numsP 1 n_l2 c_l2 ∧ ((listC n_l mkInt c_l)).length ≤ 1000000), false)
 | _ => none
theorem ok_base_Before : Ok Tryd.prog 81 con_base_Before := by
 refine Ok.fn (ann := ann_base_Before) mixed tabOK VSr112 ValidIt.no (fn := Tryd.f81) (by kernel_rfl) (by kernel_rfl) fit_base_Before fun args r pre fresh h hp => ?_
 unfold con_base_Before at h
 split at h
 ·rename_i n_l c_l n_l2 c_l2
  cases h
  obtain ⟨hp0, hp1, hp⟩ := hp
  refine ⟨rfl, J_base_Before (listC n_l mkInt c_l) (listC n_l2 mkInt c_l2), [.t (.c (.sl 1 ((listC n_l mkInt c_l).length) (intsC (listC n_l mkInt c_l)))), .t (.c (.sl 1 ((listC n_l2 mkInt c_l2).length) (intsC (listC n_l2 mkInt c_l2))))], ?_, Nat.le_of_ble_eq_true (by kernel_rfl), ?_, ?_⟩
  ·exact (LeA_cons (leT_c ((leL_int hp0))) (LeA_cons (leT_c ((leL_int hp1))) LeA_nil))
  ·rw [ev_base_Before]; exact spec_base_Before (listC n_l mkInt c_l) (listC n_l2 mkInt c_l2) hp
  ·exact all_base_Before (listC n_l mkInt c_l) (listC n_l2 mkInt c_l2) hp
 ·cases h
noncomputable def Sr113 : Sum := addS Sr112 81 con_base_Before
theorem VSr113 : Valid Tryd.prog Sr113 := Valid.add VSr112 ok_base_Before
def mk_ref06_Smallest_0 (m : List Muon) (f : Int) (y0 y1 : Int) (v0_0 : List Int) (v0_1 : Bool) (v0_2 : Int) : DS := ⟨[some (.t (.c (.sl 2 m.length (musC m)))), none, none, some (.t (.c (.p 3 0))), none, none, some (.t (.c (.os 6))), some (.t (.c (.v (.bool v0_1)))), some (.t (.c (.v (.int .i64 v0_2)))), none, none, none, none, none, none, none, none, none, none, none, none, none, none, none, none, none, none, none, none, none, none, none, none, none, none, none, none, none, none, none, none, none, none, none, none, none, none, none, none, none, none, none, none, none, none, none, none, none, none, none, none, none, none, none], [none, none, none, some (.box 52 [.v (.int .i64 f), .v (.int .i64 y0), .v (.int .i64 y1)]), none, none, some (.num 3 .i64 v0_0), none, none, none, none, none, none, none, none, none, none, none, none, none, none, none, none, none, none, none, none, none, none, none, none, none, none, none, none, none, none, none, none, none, none, none, none, none, none, none, none, none, none, none, none, none, none, none, none, none, none, none, none, none, none, none, none, none]⟩
def mk_ref06_Smallest_2 (m : List Muon) (f : Int) (y0 y1 : Int) (v2_0 : List Int) (v2_1 : List Int) (v2_2 : Int) (v2_3 : Bool) (v2_4 : Int) : DS := ⟨[some (.t (.c (.sl 2 m.length (musC m)))), none, none, some (.t (.c (.p 3 0))), none, none, some (.t (.c (.os 6))), some (.t (.c (.v (.bool v2_3)))), some (.t (.c (.v (.int .i64 v2_4)))), some (.t (.c (.os 9))), some (.t (.c (.v (.int .i64 v2_2)))), none, none, none, none, none, none, none, none, none, none, none, none, none, none, none, none, none, none, none, none, none, none, none, none, none, none, none, none, none, none, none, none, none, none, none, none, none, none, none, none, none, none, none, none, none, none, none, none, none, none, none, none, none], [none, none, none, some (.box 52 [.v (.int .i64 f), .v (.int .i64 y0), .v (.int .i64 y1)]), none, none, some (.num 3 .i64 v2_0), none, none, some (.num 3 .i64 v2_1), none, none, none, none, none, none, none, none, none, none, none, none, none, none, none, none, none, none, none, none, none, none, none, none, none, none, none, none, none, none, none, none, none, none, none, none, none, none, none, none, none, none, none, none, none, none, none, none, none, none, none, none, none, none]⟩
def vc_ref06_Smallest (J : Inv) (m : List Muon) (f : Int) (y0 y1 : Int) (post : DV → Prop) : Prop := ∃ n, J 0 (n :: []) (mk_ref06_Smallest_0 m f y0 y1 ([]) false 0)
def ann_ref06_Smallest : Ann := ⟨fun r => lookA r [(12, ([[], [], [1], [], [1, 2, 3], [0, 1, 2, 3, 4], [], [6], [0, 1, 2, 3, 4, 5, 6, 7], [0, 1, 2, 3, 4, 5, 6, 7, 8], [0, 1, 2, 3, 4, 5, 6, 7, 8, 9], [0, 1, 2, 3, 4, 5, 6, 7, 8, 9, 10], [0, 1, 2, 3, 4, 5, 6, 7, 8, 9, 10, 11], [0, 1, 2, 3, 4, 5, 6, 7, 8, 9, 10, 11, 12], [0, 1, 2, 3, 4, 5, 6, 7, 8, 9, 10, 11, 12, 13], [0, 1, 2, 3, 4, 5, 6, 7, 8, 9, 10, 11, 12, 13, 14], [0, 1, 2, 3, 4, 5, 6, 7, 8, 9, 10, 11, 12, 13], [0, 1, 2, 3, 4, 5, 6, 7, 8, 9, 10, 11, 12, 13, 16], [0, 1, 2, 3, 4, 5, 6, 7, 8, 9, 10, 11, 12, 13, 14, 15, 16, 17], [0, 1, 2, 3, 4, 5, 6, 7, 8, 9, 10, 11, 12, 13, 14, 15, 16, 17, 18], [0, 1, 2, 3, 4, 5, 6, 7, 8, 9, 10, 11, 12, 13, 14, 15, 16, 17, 18, 19], [0, 1, 2, 3, 4, 5, 6, 7, 8, 9, 10, 11, 12, 13, 14, 15, 16, 17, 18, 19, 20], [0, 1, 2, 3, 4, 5, 6, 7, 8, 9, 10, 11, 12, 13, 14, 15, 16, 17, 18, 19, 20, 21], [0, 1, 2, 3, 4, 5, 6, 7, 8, 9, 10, 11, 12, 13, 14, 15, 16, 17, 18, 19, 20], [0, 1, 2, 3, 4, 5, 6, 7, 8, 9, 10, 11, 12, 13, 14, 15, 16, 17, 18, 19, 20, 23], [0, 1, 2, 3, 4, 5, 6, 7, 8, 9, 10, 11, 12, 13, 14, 15, 16, 17, 18, 19, 20, 21, 22, 23, 24], [0, 1, 2, 3, 4, 5, 6, 7, 8, 9, 10, 11, 12, 13, 14, 15, 16, 17, 18, 19, 20, 21, 22, 23, 24, 25], [0, 1, 2, 3, 4, 5, 6, 7, 8, 9, 10, 11, 12, 13, 14, 15, 16, 17, 18, 19, 20, 21, 22, 23, 24, 25, 26], [0, 1, 2, 3, 4, 5, 6, 7, 8, 9, 10, 11, 12, 13, 14, 15, 16, 17, 18, 19, 20, 21, 22, 23, 24, 25, 26], [0, 1, 2, 3, 4, 5, 6, 7, 8, 9, 10, 11, 12, 13, 14, 15, 16, 17, 18, 19, 20, 21, 22, 23, 24, 25, 26, 27, 28], [0, 1, 2, 3, 4, 5, 6, 7, 8, 9, 10, 11, 12, 13, 14, 15, 16, 17, 18, 19, 20, 21, 22, 23, 24, 25, 26, 27, 28, 29], [0, 1, 2, 3, 4, 5, 6, 7, 8, 9, 10, 11, 12, 13, 14, 15, 16, 17, 18, 19, 20, 21, 22, 23, 24, 25, 26, 27, 28, 29, 30], [0, 1, 2, 3, 4, 5, 6, 7, 8, 9, 10, 11, 12, 13, 14, 15, 16, 17, 18, 19, 20, 21, 22, 23, 24, 25, 26, 27, 28, 29, 30, 31]], [[33, 36, 57], [33, 36, 57], [33, 36, 57], [33, 36, 57], [33, 36, 57], [36, 57], [33, 36, 57], [33, 36, 57], [57], [57], [57], [57], [57], [57], [57], [57], [57], [57], [57], [57], [57], [57], [57], [57], [57], [57], [57], [57], [57], [], [], [], []]))], fun b => lookA b [(0, (none, some ⟨[0, 3, 7, 8], [3], [(6, .num 3 .i64 ([]))]⟩)), (2, (none, some ⟨[0, 3, 7, 8, 10], [3], [(6, .num 3 .i64 ([])), (9, .num 3 .i64 ([]))]⟩))], fun _ => [], noIt, false, fun r => lookA r [(12, (11, [60]))], fun _ => none⟩
theorem ev_ref06_Smallest (J : Inv) (m : List Muon) (f : Int) (y0 y1 : Int) (post : DV → Prop) : evFn Tryd.prog tab Sr113 ann_ref06_Smallest J Tryd.f36 [.t (.c (.sl 2 m.length (musC m))), .t (.a [.v (.int .i64 f), .v (.int .i64 y0), .v (.int .i64 y1)])] post = vc_ref06_Smallest J m f y0 y1 post := by kernel_rfl
theorem fit_ref06_Smallest : okFn ann_ref06_Smallest Tryd.f36 = true := by kernel_rfl
def rd_ref06_Smallest_0 (J : Inv) (m : List Muon) (f : Int) (y0 y1 : Int) (v0_0 : List Int) (v0_1 : Bool) (v0_2 : Int) (nn0 : Nat) (post : DV → Prop) : Prop := cond (decide (v0_2 < (256 : Int))) (∃ n, J 2 (n :: nn0 :: []) (mk_ref06_Smallest_2 m f y0 y1 v0_0 ([]) 0 v0_1 v0_2)) (post (.tu [.c (.sl 1 v0_0.length (numsC .i64 v0_0)), .c (.v (.bool v0_1))]))
theorem er_ref06_Smallest_0 (J : Inv) (m : List Muon) (f : Int) (y0 y1 : Int) (v0_0 : List Int) (v0_1 : Bool) (v0_2 : Int) (nn0 : Nat) (post : DV → Prop) : round Tryd.prog tab Sr113 ann_ref06_Smallest J Tryd.f36 post 0 (nn0 :: []) (mk_ref06_Smallest_0 m f y0 y1 v0_0 v0_1 v0_2) = rd_ref06_Smallest_0 J m f y0 y1 v0_0 v0_1 v0_2 nn0 post := by kernel_rfl
def rd_ref06_Smallest_2 (J : Inv) (m : List Muon) (f : Int) (y0 y1 : Int) (v2_0 : List Int) (v2_1 : List Int) (v2_2 : Int) (v2_3 : Bool) (v2_4 : Int) (nn2 nn0 : Nat) (post : DV → Prop) : Prop := cond (decide (v2_2 < (8 : Int))) (lt (Int.fdiv v2_4 (2 ^ (min (v2_2).toNat 64))) fun x1 => (0 ≤ v2_2) ∧ (lt (IntKind.i64.wrap ((BitVec.ofInt 64 x1 &&& BitVec.ofInt 64 (1 : Int)).toNat : Int)) fun x2 => cond (x2 == (1 : Int)) (((IntKind.i64 = IntKind.i64 ∧ True) ∧ roomP 8 (v2_1.length + ([v2_2] : List Int).length)) ∧ (lt (IntKind.i64.wrap (v2_2 + (1 : Int))) fun x3 => J 2 (nn2 :: nn0 :: []) (mk_ref06_Smallest_2 m f y0 y1 v2_0 (v2_1 ++ ([v2_2])) x3 v2_3 v2_4))) (lt (IntKind.i64.wrap (v2_2 + (1 : Int))) fun x4 => J 2 (nn2 :: nn0 :: []) (mk_ref06_Smallest_2 m f y0 y1 v2_0 v2_1 x4 v2_3 v2_4)))) ((muP m.length (musC m) ∧ numsP 1 v2_1.length (numsC .i64 v2_1) ∧ musE (muOf m.length (musC m)) = 0 ∧ 0 ≤ f ∧ ((listC v2_1.length mkInt (numsC .i64 v2_1))).length ≤ 1000000) ∧ ((((-1000000000 ≤ (lowN (sumW (passL f (listC v2_1.length mkInt (numsC .i64 v2_1)) (muOf m.length (musC m)))) (sumW (muOf m.length (musC m)))) ∧ (lowN (sumW (passL f (listC v2_1.length mkInt (numsC .i64 v2_1)) (muOf m.length (musC m)))) (sumW (muOf m.length (musC m)))) ≤ 1000000000) ∧ -1000000000 ≤ (lowD (sumW (passL f (listC v2_1.length mkInt (numsC .i64 v2_1)) (muOf m.length (musC m)))) (sumW (muOf m.length (musC m)))) ∧ (lowD (sumW (passL f (listC v2_1.length mkInt (numsC .i64 v2_1)) (muOf m.length (musC m)))) (sumW (muOf m.length (musC m)))) ≤ 1000000000) ∧ (-1000000000 ≤ y0 ∧ y0 ≤ 1000000000) ∧ -1000000000 ≤ y1 ∧ y1 ≤ 1000000000) ∧ ((cond (decide ((hd (cmpF (lowN (sumW (passL f (listC v2_1.length mkInt (numsC .i64 v2_1)) (muOf m.length (musC m)))) (sumW (muOf m.length (musC m)))) (lowD (sumW (passL f (listC v2_1.length mkInt (numsC .i64 v2_1)) (muOf m.length (musC m)))) (sumW (muOf m.length (musC m)))) y0 y1)) ≤ (0 : Int))) (cond (!v2_3) ((true = true) ∧ ((true = true) ∧ (True))) (cond (decide (((v2_1.length : Nat) : Int) < ((v2_0.length : Nat) : Int))) ((true = true) ∧ (True)) (cond (((v2_1.length : Nat) : Int) == ((v2_0.length : Nat) : Int)) ((numsP 1 v2_1.length (numsC .i64 v2_1) ∧ numsP 1 v2_0.length (numsC .i64 v2_0) ∧ ((listC v2_1.length mkInt (numsC .i64 v2_1))).length ≤ 1000000) ∧ (True)) ((false = false) ∧ (True))))) ((false = false) ∧ (True))) ∧ (lt ((bif decide ((hd (cmpF (lowN (sumW (passL f (listC v2_1.length mkInt (numsC .i64 v2_1)) (muOf m.length (musC m)))) (sumW (muOf m.length (musC m)))) (lowD (sumW (passL f (listC v2_1.length mkInt (numsC .i64 v2_1)) (muOf m.length (musC m)))) (sumW (muOf m.length (musC m)))) y0 y1)) ≤ (0 : Int)) then (bif (!v2_3) then true else (bif decide (((v2_1.length : Nat) : Int) < ((v2_0.length : Nat) : Int)) then true else (bif (((v2_1.length : Nat) : Int) == ((v2_0.length : Nat) : Int)) then befL (listC v2_1.length mkInt (numsC .i64 v2_1)) (listC v2_0.length mkInt (numsC .i64 v2_0)) else false))) else false)) fun x5 => cond x5 (lt (IntKind.i64.wrap (v2_4 + (1 : Int))) fun x6 => J 0 (nn0 :: []) (mk_ref06_Smallest_0 m f y0 y1 v2_1 true x6)) (lt (IntKind.i64.wrap (v2_4 + (1 : Int))) fun x7 => J 0 (nn0 :: []) (mk_ref06_Smallest_0 m f y0 y1 v2_0 v2_3 x7))))))
theorem er_ref06_Smallest_2 (J : Inv) (m : List Muon) (f : Int) (y0 y1 : Int) (v2_0 : List Int) (v2_1 : List Int) (v2_2 : Int) (v2_3 : Bool) (v2_4 : Int) (nn2 nn0 : Nat) (post : DV → Prop) : round Tryd.prog tab Sr113 ann_ref06_Smallest J Tryd.f36 post 1 (nn2 :: nn0 :: []) (mk_ref06_Smallest_2 m f y0 y1 v2_0 v2_1 v2_2 v2_3 v2_4) = rd_ref06_Smallest_2 J m f y0 y1 v2_0 v2_1 v2_2 v2_3 v2_4 nn2 nn0 post := by kernel_rfl
theorem lp_ref06_Smallest (J : Inv) (post : DV → Prop) : AllG J (loopsFn Tryd.prog tab Sr113 ann_ref06_Smallest J Tryd.f36 post) = (((∀ F s, ¬ J 0 (0 :: F) s) ∧ ∀ n F s, J 0 ((n + 1) :: F) s → round Tryd.prog tab Sr113 ann_ref06_Smallest J Tryd.f36 post 0 (n :: F) s) ∧ ((∀ F s, ¬ J 2 (0 :: F) s) ∧ ∀ n F s, J 2 ((n + 1) :: F) s → round Tryd.prog tab Sr113 ann_ref06_Smallest J Tryd.f36 post 1 (n :: F) s) ∧ True) := by kernel_rfl
def J_ref06_Smallest (m : List Muon) (f : Int) (y0 y1 : Int) : Inv := fun b F s => match b, F with
 | 0, [nn0] => ∃ (v0_0 : List Int) (v0_1 : Bool) (v0_2 : Int), s = mk_ref06_Smallest_0 m f y0 y1 v0_0 v0_1 v0_2 ∧ ((musE m = 0 ∧ prmE f y0 y1 = 0) ∧ 0 ≤ v0_2 ∧ v0_2 ≤ 256 ∧ (nn0 : Int) + v0_2 = 257 ∧ v0_1 = (foldS (keepB m f y0 y1) v0_2.toNat).isSome ∧ v0_0 = (foldS (keepB m f y0 y1) v0_2.toNat).getD [])
 | 2, [nn2, nn0] => ∃ (v2_0 : List Int) (v2_1 : List Int) (v2_2 : Int) (v2_3 : Bool) (v2_4 : Int), s = mk_ref06_Smallest_2 m f y0 y1 v2_0 v2_1 v2_2 v2_3 v2_4 ∧ ((musE m = 0 ∧ prmE f y0 y1 = 0) ∧ (0 ≤ v2_4 ∧ v2_4 < 256 ∧ (nn0 : Int) + v2_4 = 256) ∧ (0 ≤ v2_2 ∧ v2_2 ≤ 8 ∧ (nn2 : Int) + v2_2 = 9) ∧ v2_3 = (foldS (keepB m f y0 y1) v2_4.toNat).isSome ∧ v2_0 = (foldS (keepB m f y0 y1) v2_4.toNat).getD [] ∧ v2_1 = membs v2_2.toNat v2_4.toNat)
 | _, _ => False
set_option maxHeartbeats 8000000 in
set_option maxRecDepth 100000 in
theorem rnd_ref06_Smallest_0 (m : List Muon) (f : Int) (y0 y1 : Int) (v0_0 : List Int) (v0_1 : Bool) (v0_2 : Int) (nn0 : Nat) (hp : musE m = 0 ∧ prmE f y0 y1 = 0) (hi : (musE m = 0 ∧ prmE f y0 y1 = 0) ∧ 0 ≤ v0_2 ∧ v0_2 ≤ 256 ∧ ((nn0 + 1) : Int) + v0_2 = 257 ∧ v0_1 = (foldS (keepB m f y0 y1) v0_2.toNat).isSome ∧ v0_0 = (foldS (keepB m f y0 y1) v0_2.toNat).getD []) : rd_ref06_Smallest_0 (J_ref06_Smallest m f y0 y1) m f y0 y1 v0_0 v0_1 v0_2 nn0 (fun r => LeD r (.tu [.c (.sl 1 (((smallF 8 (keepB m f y0 y1)).getD []).length) (intsC ((smallF 8 (keepB m f y0 y1)).getD []))), .c (.v (.bool ((smallF 8 (keepB m f y0 y1)).isSome)))])) := by
 obtain ⟨i0, i1, i2, i3, i4, i5⟩ := hi
 obtain ⟨k, rfl⟩ : ∃ k : Nat, v0_2 = k := ⟨v0_2.toNat, by omega⟩
 have hk : (k : Int).toNat = k := rfl
 rw [hk] at i4 i5
 unfold rd_ref06_Smallest_0
 refine cond_i (fun h => ?_) (fun h => ?_)
 ·have h := of_decide_eq_true h
  exact ⟨9, _, _, _, _, _, rfl, i0, by omega, by omega, i4, i5, rfl⟩
 ·have h := of_decide_eq_false h
  have e : k = 256 := by omega
  subst e
  subst i4 i5
  exact LeD.refl _
theorem zero_ref06_Smallest_0 (m : List Muon) (f : Int) (y0 y1 : Int) (v0_0 : List Int) (v0_1 : Bool) (v0_2 : Int)  (hi : (musE m = 0 ∧ prmE f y0 y1 = 0) ∧ 0 ≤ v0_2 ∧ v0_2 ≤ 256 ∧ (0 : Int) + v0_2 = 257 ∧ v0_1 = (foldS (keepB m f y0 y1) v0_2.toNat).isSome ∧ v0_0 = (foldS (keepB m f y0 y1) v0_2.toNat).getD []) : False := by
 omega
set_option maxHeartbeats 8000000 in
set_option maxRecDepth 100000 in
theorem rnd_ref06_Smallest_2 (m : List Muon) (f : Int) (y0 y1 : Int) (v2_0 : List Int) (v2_1 : List Int) (v2_2 : Int) (v2_3 : Bool) (v2_4 : Int) (nn2 nn0 : Nat) (hp : musE m = 0 ∧ prmE f y0 y1 = 0) (hi : (musE m = 0 ∧ prmE f y0 y1 = 0) ∧ (0 ≤ v2_4 ∧ v2_4 < 256 ∧ (nn0 : Int) + v2_4 = 256) ∧ (0 ≤ v2_2 ∧ v2_2 ≤ 8 ∧ ((nn2 + 1) : Int) + v2_2 = 9) ∧ v2_3 = (foldS (keepB m f y0 y1) v2_4.toNat).isSome ∧ v2_0 = (foldS (keepB m f y0 y1) v2_4.toNat).getD [] ∧ v2_1 = membs v2_2.toNat v2_4.toNat) : rd_ref06_Smallest_2 (J_ref06_Smallest m f y0 y1) m f y0 y1 v2_0 v2_1 v2_2 v2_3 v2_4 nn2 nn0 (fun r => LeD r (.tu [.c (.sl 1 (((smallF 8 (keepB m f y0 y1)).getD []).length) (intsC ((smallF 8 (keepB m f y0 y1)).getD []))), .c (.v (.bool ((smallF 8 (keepB m f y0 y1)).isSome)))])) := by
 obtain ⟨i0, i1, i2, i3, i4, i5⟩ := hi
 obtain ⟨k, rfl⟩ : ∃ k : Nat, v2_4 = k := ⟨v2_4.toNat, by omega⟩
 have hk : (k : Int).toNat = k := rfl
 obtain ⟨j, rfl⟩ : ∃ j : Nat, v2_2 = j := ⟨v2_2.toNat, by omega⟩
 have hj : (j : Int).toNat = j := rfl
 rw [hk] at i3 i4 i5
 rw [hj] at i5
 unfold rd_ref06_Smallest_2
 simp only [nums_ints, hd_eq, mus_of, ints_listC]
 rw [hj]
 refine cond_i (fun h => ?_) (fun h => ?_)
 ·have h := of_decide_eq_true h
  have hb := bit_ok (k := k) (i := j) (by omega) (by omega)
  have hl := membs_lt j k
  refine lt_i fun x1 h1 => ⟨by omega, lt_i fun x2 h2 => ?_⟩
  rw [h1, h2] at hb
  rw [hb]
  refine cond_i (fun e => ⟨⟨by trivial, ?_⟩, lt_i fun x hx => ?_⟩) (fun e => lt_i fun x hx => ?_)
  ·rw [i5]; unfold roomP maxLen; simp; omega
  all_goals
   rw [wi (by omega)] at hx
   subst hx
   refine ⟨_, _, _, _, _, rfl, i0, by omega, by omega, i3, i4, ?_⟩
   rw [show ((j : Int) + 1).toNat = j + 1 by omega, hk, membs_succ, i5, e]
   simp
 ·have h := of_decide_eq_false h
  have e : j = 8 := by omega
  subst e
  have hl := membs_lt 8 k
  rw [← i5] at hl
  obtain ⟨q1, q2⟩ := i0
  obtain ⟨p1, p2, p3, p4⟩ := prm_ok q2
  obtain ⟨r1, r2, _⟩ := pass_rg q1 f v2_1
  have z := (mus_ok q1).1
  have sp : 0 < sumW m := by omega
  obtain ⟨a1, a2, a3, a4, a5⟩ := lowF (a := sumW (passL f v2_1 m)) sp
  have a5 := a5 r2.1
  have ek := keep_iff (f := f) (v := v2_1) (y0 := y0) sp p3
  rw [ek, rfB_if (s := v2_1) i3 i4]
  have c0 := muP_mus m
  have c1 := numsP_ints v2_1
  have c2 := numsP_ints v2_0
  have c3 : v2_1.length ≤ 1000000 := by omega
  have c4 := p1.1
  have fs := foldS_succ (keepB m f y0 y1) k
  rw [← i5] at fs
  refine ⟨⟨c0, c1, q1, c4, c3⟩, ⟨⟨⟨by omega, by omega⟩, by omega, by omega⟩, ⟨by omega, by omega⟩, by omega, by omega⟩, ?_, lt_i fun x1 h1 => ?_⟩
  ·(repeat' with_reducible first | assumption | trivial | (refine cond_i ?_ ?_ <;> intro _) | (refine And.intro ?_ ?_))
  ·rw [h1] at fs
   refine cond_i (fun c => lt_i fun x hx => ?_) (fun c => lt_i fun x hx => ?_)
   all_goals
    rw [wi (by omega)] at hx
    subst hx
    rw [c] at fs
    refine ⟨_, _, _, rfl, ⟨q1, q2⟩, by omega, by omega, by omega, ?_, ?_⟩
   all_goals
    rw [show ((k : Int) + 1).toNat = k + 1 by omega, fs]
    first | rfl | assumption | simp [i3, i4]
theorem zero_ref06_Smallest_2 (m : List Muon) (f : Int) (y0 y1 : Int) (v2_0 : List Int) (v2_1 : List Int) (v2_2 : Int) (v2_3 : Bool) (v2_4 : Int) (nn0 : Nat) (hi : (musE m = 0 ∧ prmE f y0 y1 = 0) ∧ (0 ≤ v2_4 ∧ v2_4 < 256 ∧ (nn0 : Int) + v2_4 = 256) ∧ (0 ≤ v2_2 ∧ v2_2 ≤ 8 ∧ (0 : Int) + v2_2 = 9) ∧ v2_3 = (foldS (keepB m f y0 y1) v2_4.toNat).isSome ∧ v2_0 = (foldS (keepB m f y0 y1) v2_4.toNat).getD [] ∧ v2_1 = membs v2_2.toNat v2_4.toNat) : False := by
 omega
set_option maxHeartbeats 8000000 in
set_option maxRecDepth 100000 in
theorem spec_ref06_Smallest (m : List Muon) (f : Int) (y0 y1 : Int) (hp : musE m = 0 ∧ prmE f y0 y1 = 0) : vc_ref06_Smallest (J_ref06_Smallest m f y0 y1) m f y0 y1 (fun r => LeD r (.tu [.c (.sl 1 (((smallF 8 (keepB m f y0 y1)).getD []).length) (intsC ((smallF 8 (keepB m f y0 y1)).getD []))), .c (.v (.bool ((smallF 8 (keepB m f y0 y1)).isSome)))])) := by
 unfold vc_ref06_Smallest
 exact ⟨257, [], false, 0, rfl, hp, by omega, by omega, by omega, rfl, rfl⟩
theorem all_ref06_Smallest (m : List Muon) (f : Int) (y0 y1 : Int) (hp : musE m = 0 ∧ prmE f y0 y1 = 0) : AllG (J_ref06_Smallest m f y0 y1) (loopsFn Tryd.prog tab Sr113 ann_ref06_Smallest (J_ref06_Smallest m f y0 y1) Tryd.f36 (fun r => LeD r (.tu [.c (.sl 1 (((smallF 8 (keepB m f y0 y1)).getD []).length) (intsC ((smallF 8 (keepB m f y0 y1)).getD []))), .c (.v (.bool ((smallF 8 (keepB m f y0 y1)).isSome)))]))) := by
 rw [lp_ref06_Smallest]
 refine ⟨⟨?_, ?_⟩, ⟨?_, ?_⟩, trivial⟩
 ·intro F s h
  obtain _ | ⟨g, F⟩ := F
  case cons => exact h.elim
  obtain ⟨w0, w1, w2, rfl, hi⟩ := h
  exact zero_ref06_Smallest_0 m f y0 y1 w0 w1 w2 hi
 ·intro n F s h
  obtain _ | ⟨g, F⟩ := F
  case cons => exact h.elim
  obtain ⟨w0, w1, w2, rfl, hi⟩ := h
  rw [er_ref06_Smallest_0]
  exact rnd_ref06_Smallest_0 m f y0 y1 _ _ _ _ hp hi
 ·intro F s h
  obtain _ | ⟨f0, F⟩ := F
  ·exact h.elim
  obtain _ | ⟨g, F⟩ := F
  case cons => exact h.elim
  obtain ⟨w0, w1, w2, w3, w4, rfl, hi⟩ := h
  exact zero_ref06_Smallest_2 m f y0 y1 w0 w1 w2 w3 w4 _ hi
 ·intro n F s h
  obtain _ | ⟨f0, F⟩ := F
  ·exact h.elim
  obtain _ | ⟨g, F⟩ := F
  case cons => exact h.elim
  obtain ⟨w0, w1, w2, w3, w4, rfl, hi⟩ := h
  rw [er_ref06_Smallest_2]
  exact rnd_ref06_Smallest_2 m f y0 y1 _ _ _ _ _ _ _ hp hi
def con_ref06_Smallest : Con := fun args => match args with
 | [.t (.c (.sl 2 n_m c_m)), .t (.a [.v (.int .i64 f), .v (.int .i64 y0), .v (.int .i64 y1)])] => some (.tu [.c (.sl 1 (((smallF 8 (keepB (muOf n_m c_m) f y0 y1)).getD []).length) (intsC ((smallF 8 (keepB (muOf n_m c_m) f y0 y1)).getD []))), .c (.v (.bool ((smallF 8 (keepB (muOf n_m c_m) f y0 y1)).isSome)))], some (muP n_m c_m ∧ musE (muOf n_m c_m) = 0 ∧ prmE f y0 y1 = 0), false)
 | _ => none
theorem ok_ref06_Smallest : Ok Tryd.prog 36 con_ref06_Smallest := by
 refine Ok.fn (ann := ann_ref06_Smallest) mixed tabOK VSr113 ValidIt.no (fn := Tryd.f36) (by kernel_rfl) (by kernel_rfl) fit_ref06_Smallest fun args r pre fresh h hp => ?_
 unfold con_ref06_Smallest at h
 split at h
 ·rename_i n_m c_m f y0 y1
  cases h
  obtain ⟨hp0, hp⟩ := hp
  refine ⟨rfl, J_ref06_Smallest (muOf n_m c_m) f y0 y1, [.t (.c (.sl 2 ((muOf n_m c_m).length) (musC (muOf n_m c_m)))), .t (.a [.v (.int .i64 f), .v (.int .i64 y0), .v (.int .i64 y1)])], ?_, Nat.le_of_ble_eq_true (by kernel_rfl), ?_, ?_⟩
  ·exact (LeA_cons (leT_c ((leL_Muon hp0))) (LeA_cons (leT_a (LeCs.cons (LeC1.refl _) (LeCs.cons (LeC1.refl _) (LeCs.cons (LeC1.refl _) LeCs.nil)))) LeA_nil))
  ·rw [ev_ref06_Smallest]; exact spec_ref06_Smallest (muOf n_m c_m) f y0 y1 hp
  ·exact all_ref06_Smallest (muOf n_m c_m) f y0 y1 hp
 ·cases h
noncomputable def Sr114 : Sum := addS Sr113 36 con_ref06_Smallest
theorem VSr114 : Valid Tryd.prog Sr114 := Valid.add VSr113 ok_ref06_Smallest
end Go.Proofs.YtmhgjlapkhdlmaaDoor