/- Texts of this claim, together. -/
import Derived.Test.YtmhgjlapkhdlmaaDoorOT5

set_option linter.unusedVariables false
set_option linter.unusedSimpArgs false
namespace Go.Proofs.YtmhgjlapkhdlmaaDoor
open Go.RowKit Ev
def delE (a b : P3) : Int := firstNZ [posE a, posE b]
def delV (a b : P3) : Int := if delE a b = 0 then dly a b else 0
theorem le2 {a b a' b' : Int} (h1 : a = a') (h2 : b = b') : LeD (.tu [.c (.v (.int .i64 a)), .c (.v (.int .i64 b))]) (.tu [.c (.v (.int .i64 a')), .c (.v (.int .i64 b'))]) := LeD.of (by rw [h1, h2])
def vc_flash_DelayOf (a0 a1 a2 : Int) (b0 b1 b2 : Int) (post : DV → Prop) : Prop := (numsP 1 2 (genC [[.v (.int .i64 (posE (⟨a0, a1, a2⟩ : P3)))], [.v (.int .i64 (posE (⟨b0, b1, b2⟩ : P3)))]]) ∧ (([(posE (⟨a0, a1, a2⟩ : P3)), (posE (⟨b0, b1, b2⟩ : P3))] : List Int)).length ≤ 100) ∧ (cond ((firstNZ ([(posE (⟨a0, a1, a2⟩ : P3)), (posE (⟨b0, b1, b2⟩ : P3))] : List Int)) != (0 : Int)) (post (.tu [.c (.v (.int .i64 0)), .c (.v (.int .i64 (firstNZ ([(posE (⟨a0, a1, a2⟩ : P3)), (posE (⟨b0, b1, b2⟩ : P3))] : List Int))))])) ((((⟨a0, a1, a2⟩ : P3)).bd 15000 ∧ ((⟨b0, b1, b2⟩ : P3)).bd 15000) ∧ (post (.tu [.c (.v (.int .i64 (dly (⟨a0, a1, a2⟩ : P3) (⟨b0, b1, b2⟩ : P3)))), .c (.v (.int .i64 0))]))))
def ann_flash_DelayOf : Ann := ⟨fun r => lookA r [(1, ([[], [0], [], [0, 1, 2], [0, 1, 2, 3], [0, 1, 2, 3, 4], [0, 1, 2, 3, 4, 5]], [[8, 10, 11, 12], [10, 11, 12], [8, 10, 11, 12], [11, 12], [12], [], []]))], fun _ => none, fun _ => [], noIt, false, fun _ => none, fun _ => none⟩
theorem ev_flash_DelayOf (J : Inv) (a0 a1 a2 : Int) (b0 b1 b2 : Int) (post : DV → Prop) : evFn Tryd.prog tab S12 ann_flash_DelayOf J Tryd.f16 [.t (.a [.v (.int .i64 a0), .v (.int .i64 a1), .v (.int .i64 a2)]), .t (.a [.v (.int .i64 b0), .v (.int .i64 b1), .v (.int .i64 b2)])] post = vc_flash_DelayOf a0 a1 a2 b0 b1 b2 post := by kernel_rfl
theorem fit_flash_DelayOf : okFn ann_flash_DelayOf Tryd.f16 = true := by kernel_rfl
theorem lp_flash_DelayOf (J : Inv) (post : DV → Prop) : AllG J (loopsFn Tryd.prog tab S12 ann_flash_DelayOf J Tryd.f16 post) = (True) := by kernel_rfl
theorem spec_flash_DelayOf (a0 a1 a2 : Int) (b0 b1 b2 : Int) : vc_flash_DelayOf a0 a1 a2 b0 b1 b2 (fun r => LeD r (.tu [.c (.v (.int .i64 (delV (⟨a0, a1, a2⟩ : P3) (⟨b0, b1, b2⟩ : P3)))), .c (.v (.int .i64 (delE (⟨a0, a1, a2⟩ : P3) (⟨b0, b1, b2⟩ : P3))))])) := by
 unfold vc_flash_DelayOf
 refine ⟨⟨numsP_gen [_, _], Nat.le_of_ble_eq_true rfl⟩, cond_i (fun h => ?_) (fun h => ⟨?_, ?_⟩)⟩
 ·exact le2 (if_neg (by unfold delE; simpa using h)).symm rfl
 ·have h := fn2 (by simpa using h)
  exact ⟨(posE_0.1 h.1).mono (by decide), (posE_0.1 h.2).mono (by decide)⟩
 ·have h : delE (⟨a0, a1, a2⟩ : P3) (⟨b0, b1, b2⟩ : P3) = 0 := by unfold delE; simpa using h
  exact le2 (if_pos h).symm h.symm
def con_flash_DelayOf : Con := fun args => match args with
 | [.t (.a [.v (.int .i64 a0), .v (.int .i64 a1), .v (.int .i64 a2)]), .t (.a [.v (.int .i64 b0), .v (.int .i64 b1), .v (.int .i64 b2)])] => some (.tu [.c (.v (.int .i64 (delV (⟨a0, a1, a2⟩ : P3) (⟨b0, b1, b2⟩ : P3)))), .c (.v (.int .i64 (delE (⟨a0, a1, a2⟩ : P3) (⟨b0, b1, b2⟩ : P3))))], none, false)
 | _ => none
theorem ok_flash_DelayOf : Ok Tryd.prog 16 con_flash_DelayOf := by
 refine Ok.fn (ann := ann_flash_DelayOf) mixed tabOK VS12 ValidIt.no (fn := Tryd.f16) (by kernel_rfl) (by kernel_rfl) fit_flash_DelayOf fun args r pre fresh h hp => ?_
 unfold con_flash_DelayOf at h
 split at h
 ·rename_i a0 a1 a2 b0 b1 b2
  cases h
  refine ⟨rfl, fun _ _ _ => False, _, LeA.refl _, Nat.le_of_ble_eq_true (by kernel_rfl), ?_, ?_⟩
  ·rw [ev_flash_DelayOf]; exact spec_flash_DelayOf a0 a1 a2 b0 b1 b2
  ·rw [lp_flash_DelayOf]; trivial
 ·cases h
def S13 : Sum := addS S12 16 con_flash_DelayOf
theorem VS13 : Valid Tryd.prog S13 := Valid.add VS12 ok_flash_DelayOf
def vc_flash_CheckHits_1 (r0 r1 : Int) (m : Int) (post : DV → Prop) : Prop := cond (inB r0 (0 : Int) m) (post (.t (.c (.v (.bool (inB r1 (0 : Int) m)))))) ((false = false) ∧ (post (.t (.c (.v (.bool false))))))
def ann_flash_CheckHits_1 : Ann := ⟨fun _ => none, fun _ => none, fun _ => [], noIt, false, fun _ => none, fun _ => none⟩
theorem ev_flash_CheckHits_1 (J : Inv) (r0 r1 : Int) (m : Int) (post : DV → Prop) : evFn Tryd.prog tab S13 ann_flash_CheckHits_1 J Tryd.f91 [.t (.a [.v (.int .i64 r0), .v (.int .i64 r1)]), .t (.c (.v (.int .i64 m)))] post = vc_flash_CheckHits_1 r0 r1 m post := by kernel_rfl
theorem fit_flash_CheckHits_1 : okFn ann_flash_CheckHits_1 Tryd.f91 = true := by kernel_rfl
theorem lp_flash_CheckHits_1 (J : Inv) (post : DV → Prop) : AllG J (loopsFn Tryd.prog tab S13 ann_flash_CheckHits_1 J Tryd.f91 post) = (True) := by kernel_rfl
theorem spec_flash_CheckHits_1 (r0 r1 : Int) (m : Int) : vc_flash_CheckHits_1 r0 r1 m (fun r => LeD r (.t (.c (.v (.bool (rgIn (⟨r0, r1⟩ : Rg) m)))))) := by
 unfold vc_flash_CheckHits_1
 unfold rgIn
 refine cond_i (fun h => leB ?_) (fun h => ⟨rfl, leB ?_⟩)
 ·simp only; rw [h]; rfl
 ·simp only; rw [h]; rfl
def con_flash_CheckHits_1 : Con := fun args => match args with
 | [.t (.a [.v (.int .i64 r0), .v (.int .i64 r1)]), .t (.c (.v (.int .i64 m)))] => some (.t (.c (.v (.bool (rgIn (⟨r0, r1⟩ : Rg) m)))), none, false)
 | _ => none
theorem ok_flash_CheckHits_1 : Ok Tryd.prog 91 con_flash_CheckHits_1 := by
 refine Ok.fn (ann := ann_flash_CheckHits_1) mixed tabOK VS13 ValidIt.no (fn := Tryd.f91) (by kernel_rfl) (by kernel_rfl) fit_flash_CheckHits_1 fun args r pre fresh h hp => ?_
 unfold con_flash_CheckHits_1 at h
 split at h
 ·rename_i r0 r1 m
  cases h
  refine ⟨rfl, fun _ _ _ => False, _, LeA.refl _, Nat.le_of_ble_eq_true (by kernel_rfl), ?_, ?_⟩
  ·rw [ev_flash_CheckHits_1]; exact spec_flash_CheckHits_1 r0 r1 m
  ·rw [lp_flash_CheckHits_1]; trivial
 ·cases h
def S14 : Sum := addS S13 91 con_flash_CheckHits_1
theorem VS14 : Valid Tryd.prog S14 := Valid.add VS13 ok_flash_CheckHits_1
def vc_flash_CheckHits_2 (i : Int) (g0 g1 g2 g3 g4 g5 g6 : Int) (h0 h1 h2 h3 h4 h5 h6 : Int) (post : DV → Prop) : Prop := cond (rgIn (⟨h3, h4⟩ : Rg) (1000000000 : Int)) ((numsP 1 4 (genC [[.v (.int .i64 (posE (⟨h0, h1, h2⟩ : P3)))], [.v (.int .i64 (unl (rgIn (⟨h5, h6⟩ : Rg) (1000000 : Int)) (2 : Int)))], [.v (.int .i64 (rgE (⟨h3, h4⟩ : Rg)))], [.v (.int .i64 (rgE (⟨h5, h6⟩ : Rg)))]]) ∧ (([(posE (⟨h0, h1, h2⟩ : P3)), (unl (rgIn (⟨h5, h6⟩ : Rg) (1000000 : Int)) (2 : Int)), (rgE (⟨h3, h4⟩ : Rg)), (rgE (⟨h5, h6⟩ : Rg))] : List Int)).length ≤ 100) ∧ (post (.t (.c (.v (.int .i64 (firstNZ ([(posE (⟨h0, h1, h2⟩ : P3)), (unl (rgIn (⟨h5, h6⟩ : Rg) (1000000 : Int)) (2 : Int)), (rgE (⟨h3, h4⟩ : Rg)), (rgE (⟨h5, h6⟩ : Rg))] : List Int)))))))) ((false = false) ∧ ((numsP 1 4 (genC [[.v (.int .i64 (posE (⟨h0, h1, h2⟩ : P3)))], [.v (.int .i64 (unl false (2 : Int)))], [.v (.int .i64 (rgE (⟨h3, h4⟩ : Rg)))], [.v (.int .i64 (rgE (⟨h5, h6⟩ : Rg)))]]) ∧ (([(posE (⟨h0, h1, h2⟩ : P3)), (unl false (2 : Int)), (rgE (⟨h3, h4⟩ : Rg)), (rgE (⟨h5, h6⟩ : Rg))] : List Int)).length ≤ 100) ∧ (post (.t (.c (.v (.int .i64 (firstNZ ([(posE (⟨h0, h1, h2⟩ : P3)), (unl false (2 : Int)), (rgE (⟨h3, h4⟩ : Rg)), (rgE (⟨h5, h6⟩ : Rg))] : List Int)))))))))
def ann_flash_CheckHits_2 : Ann := ⟨fun r => lookA r [(2, ([[], [0], [0, 1], [], [0, 1, 2, 3], [], [5], [0, 1, 2, 3, 4, 5, 6], [], [8], [0, 1, 2, 3, 4, 5, 6, 7, 8, 9], [0, 1, 2, 3, 4, 5, 6, 7, 8, 9, 10], [0, 1, 2, 3, 4, 5, 6, 7, 8, 9, 10, 11], [0, 1, 2, 3, 4, 5, 6, 7, 8, 9, 10, 11, 12]], [[21, 23, 26, 29, 30, 31], [21, 23, 26, 29, 30, 31], [23, 26, 29, 30, 31], [21, 23, 26, 29, 30, 31], [26, 29, 30, 31], [21, 23, 26, 29, 30, 31], [21, 23, 26, 29, 30, 31], [29, 30, 31], [21, 23, 26, 29, 30, 31], [21, 23, 26, 29, 30, 31], [30, 31], [31], [], []]))], fun _ => none, fun _ => [], noIt, false, fun _ => none, fun _ => none⟩
theorem ev_flash_CheckHits_2 (J : Inv) (i : Int) (g0 g1 g2 g3 g4 g5 g6 : Int) (h0 h1 h2 h3 h4 h5 h6 : Int) (post : DV → Prop) : evFn Tryd.prog tab S14 ann_flash_CheckHits_2 J Tryd.f94 [.t (.c (.v (.int .i64 i))), .t (.a [.v (.int .i64 g0), .v (.int .i64 g1), .v (.int .i64 g2), .v (.int .i64 g3), .v (.int .i64 g4), .v (.int .i64 g5), .v (.int .i64 g6)]), .t (.a [.v (.int .i64 h0), .v (.int .i64 h1), .v (.int .i64 h2), .v (.int .i64 h3), .v (.int .i64 h4), .v (.int .i64 h5), .v (.int .i64 h6)]), .t (.c (.px 1 0 (boxC [.v (.func (.func 91) ⟨[]⟩ ⟨[]⟩)])))] post = vc_flash_CheckHits_2 i g0 g1 g2 g3 g4 g5 g6 h0 h1 h2 h3 h4 h5 h6 post := by kernel_rfl
theorem fit_flash_CheckHits_2 : okFn ann_flash_CheckHits_2 Tryd.f94 = true := by kernel_rfl
theorem lp_flash_CheckHits_2 (J : Inv) (post : DV → Prop) : AllG J (loopsFn Tryd.prog tab S14 ann_flash_CheckHits_2 J Tryd.f94 post) = (True) := by kernel_rfl
theorem spec_flash_CheckHits_2 (i : Int) (g0 g1 g2 g3 g4 g5 g6 : Int) (h0 h1 h2 h3 h4 h5 h6 : Int) : vc_flash_CheckHits_2 i g0 g1 g2 g3 g4 g5 g6 h0 h1 h2 h3 h4 h5 h6 (fun r => LeD r (.t (.c (.v (.int .i64 (((⟨⟨h0, h1, h2⟩, ⟨h3, h4⟩, ⟨h5, h6⟩⟩ : FHit)).err)))))) := by
 unfold vc_flash_CheckHits_2
 unfold FHit.err
 refine cond_i (fun h => ⟨⟨numsP_gen [_, _, _, _], Nat.le_of_ble_eq_true rfl⟩, leI ?_⟩) (fun h => ⟨rfl, ⟨numsP_gen [_, _, _, _], Nat.le_of_ble_eq_true rfl⟩, leI ?_⟩)
 ·simp only; rw [h]; rfl
 ·simp only; rw [h]; rfl
def con_flash_CheckHits_2 : Con := fun args => match args with
 | [.t (.c (.v (.int .i64 i))), .t (.a [.v (.int .i64 g0), .v (.int .i64 g1), .v (.int .i64 g2), .v (.int .i64 g3), .v (.int .i64 g4), .v (.int .i64 g5), .v (.int .i64 g6)]), .t (.a [.v (.int .i64 h0), .v (.int .i64 h1), .v (.int .i64 h2), .v (.int .i64 h3), .v (.int .i64 h4), .v (.int .i64 h5), .v (.int .i64 h6)]), .t (.c (.px 1 0 c_q))] => some (.t (.c (.v (.int .i64 (((⟨⟨h0, h1, h2⟩, ⟨h3, h4⟩, ⟨h5, h6⟩⟩ : FHit)).err)))), some (intsB [] c_q = true ∧ c_q 0 = .v (.func (.func 91) ⟨[]⟩ ⟨[]⟩)), false)
 | _ => none
theorem ok_flash_CheckHits_2 : Ok Tryd.prog 94 con_flash_CheckHits_2 := by
 refine Ok.fn (ann := ann_flash_CheckHits_2) mixed tabOK VS14 ValidIt.no (fn := Tryd.f94) (by kernel_rfl) (by kernel_rfl) fit_flash_CheckHits_2 fun args r pre fresh h hp => ?_
 unfold con_flash_CheckHits_2 at h
 split at h
 ·rename_i i g0 g1 g2 g3 g4 g5 g6 h0 h1 h2 h3 h4 h5 h6 c_q
  cases h
  obtain ⟨hp0, hp1⟩ := hp
  refine ⟨rfl, fun _ _ _ => False, [.t (.c (.v (.int .i64 i))), .t (.a [.v (.int .i64 g0), .v (.int .i64 g1), .v (.int .i64 g2), .v (.int .i64 g3), .v (.int .i64 g4), .v (.int .i64 g5), .v (.int .i64 g6)]), .t (.a [.v (.int .i64 h0), .v (.int .i64 h1), .v (.int .i64 h2), .v (.int .i64 h3), .v (.int .i64 h4), .v (.int .i64 h5), .v (.int .i64 h6)]), .t (.c (.px 1 0 (boxC [.v (.func (.func 91) ⟨[]⟩ ⟨[]⟩)])))], ?_, Nat.le_of_ble_eq_true (by kernel_rfl), ?_, ?_⟩
  ·exact (LeA_cons (LeD.refl _) (LeA_cons (LeD.refl _) (LeA_cons (LeD.refl _) (LeA_cons (leT_c (leC_p (LeCs.cons (leC_k hp1) LeCs.nil))) LeA_nil))))
  ·rw [ev_flash_CheckHits_2]; exact spec_flash_CheckHits_2 i g0 g1 g2 g3 g4 g5 g6 h0 h1 h2 h3 h4 h5 h6
  ·rw [lp_flash_CheckHits_2]; trivial
 ·cases h
def S15 : Sum := addS S14 94 con_flash_CheckHits_2
theorem VS15 : Valid Tryd.prog S15 := Valid.add VS14 ok_flash_CheckHits_2
def mk_cherenkov_flash_each_cherenkov_api_FlashHit_0 (l : List FHit) (v0_0 : Int) : DS := ⟨[some (.t (.c (.sl 7 l.length (hitsC l)))), some (.t (.fn 94 [.px 1 0 (boxC [.v (.func (.func 91) ⟨[]⟩ ⟨[]⟩)])])), none, none, none, none, none, none, none, some (.t (.c (.sl 7 l.length (hitsC l)))), some (.t (.c (.v (.int .i64 ((l.length : Nat) : Int))))), some (.t (.c (.v (.int .i64 v0_0)))), none, none, none, none, none, none, none, none, none, none, none, none, none, none, none, none, none, none, none], [none, none, none, none, none, none, none, none, none, none, none, none, none, none, none, none, none, none, none, none, none, none, none, none, none, none, none, none, none, none, none]⟩
def vc_cherenkov_flash_each_cherenkov_api_FlashHit (J : Inv) (l : List FHit) (post : DV → Prop) : Prop := ∃ n, J 0 (n :: []) (mk_cherenkov_flash_each_cherenkov_api_FlashHit_0 l 0)
def ann_cherenkov_flash_each_cherenkov_api_FlashHit : Ann := ⟨fun r => lookA r [(4, ([[], [], [], [], [3], [3, 4], [2, 3, 4, 5], [2, 3, 4, 5, 6], [], [0, 1, 2, 3, 4, 5, 6, 7, 8], [0, 1, 2, 3, 4, 5, 6, 7, 8, 9]], [[25], [25], [25], [25], [25], [25], [25], [25], [25], [], []]))], fun b => lookA b [(0, (none, some ⟨[0, 1, 9, 10, 11], [], []⟩))], fun _ => [], noIt, false, fun _ => none, fun _ => none⟩
theorem ev_cherenkov_flash_each_cherenkov_api_FlashHit (J : Inv) (l : List FHit) (post : DV → Prop) : evFn Tryd.prog tab S15 ann_cherenkov_flash_each_cherenkov_api_FlashHit J Tryd.f93 [.t (.c (.sl 7 l.length (hitsC l))), .t (.fn 94 [.px 1 0 (boxC [.v (.func (.func 91) ⟨[]⟩ ⟨[]⟩)])])] post = vc_cherenkov_flash_each_cherenkov_api_FlashHit J l post := by kernel_rfl
theorem fit_cherenkov_flash_each_cherenkov_api_FlashHit : okFn ann_cherenkov_flash_each_cherenkov_api_FlashHit Tryd.f93 = true := by kernel_rfl
def rd_cherenkov_flash_each_cherenkov_api_FlashHit_0 (J : Inv) (l : List FHit) (v0_0 : Int) (nn0 : Nat) (post : DV → Prop) : Prop := cond (decide (v0_0 < ((l.length : Nat) : Int))) ((0 ≤ v0_0 ∧ v0_0 < ((l.length : Nat) : Int)) ∧ (lt (IntKind.i64.wrap (v0_0 - (1 : Int))) fun x1 => lt ((if x1 > (0 : Int) then x1 else (0 : Int))) fun x2 => (0 ≤ x2 ∧ x2 < ((l.length : Nat) : Int)) ∧ ((intsB [] (boxC [.v (.func (.func 91) ⟨[]⟩ ⟨[]⟩)]) = true ∧ (boxC [.v (.func (.func 91) ⟨[]⟩ ⟨[]⟩)]) 0 = .v (.func (.func 91) ⟨[]⟩ ⟨[]⟩)) ∧ (cond ((((hitAt l v0_0.toNat)).err) != (0 : Int)) (post (.tu [.c (.v (.int .i64 v0_0)), .c (.v (.int .i64 (((hitAt l v0_0.toNat)).err)))])) (lt (IntKind.i64.wrap (v0_0 + (1 : Int))) fun x3 => J 0 (nn0 :: []) (mk_cherenkov_flash_each_cherenkov_api_FlashHit_0 l x3)))))) (post (.tu [.c (.v (.int .i64 0)), .c (.v (.int .i64 0))]))
theorem er_cherenkov_flash_each_cherenkov_api_FlashHit_0 (J : Inv) (l : List FHit) (v0_0 : Int) (nn0 : Nat) (post : DV → Prop) : round Tryd.prog tab S15 ann_cherenkov_flash_each_cherenkov_api_FlashHit J Tryd.f93 post 0 (nn0 :: []) (mk_cherenkov_flash_each_cherenkov_api_FlashHit_0 l v0_0) = rd_cherenkov_flash_each_cherenkov_api_FlashHit_0 J l v0_0 nn0 post := by kernel_rfl
theorem lp_cherenkov_flash_each_cherenkov_api_FlashHit (J : Inv) (post : DV → Prop) : AllG J (loopsFn Tryd.prog tab S15 ann_cherenkov_flash_each_cherenkov_api_FlashHit J Tryd.f93 post) = (((∀ F s, ¬ J 0 (0 :: F) s) ∧ ∀ n F s, J 0 ((n + 1) :: F) s → round Tryd.prog tab S15 ann_cherenkov_flash_each_cherenkov_api_FlashHit J Tryd.f93 post 0 (n :: F) s) ∧ True) := by kernel_rfl
def J_cherenkov_flash_each_cherenkov_api_FlashHit (l : List FHit) : Inv := fun b F s => match b, F with
 | 0, [nn0] => ∃ (v0_0 : Int), s = mk_cherenkov_flash_each_cherenkov_api_FlashHit_0 l v0_0 ∧ (l.length ≤ 1000000 ∧ 0 ≤ v0_0 ∧ v0_0 ≤ l.length ∧ (nn0 : Int) + v0_0 = l.length + 1 ∧ ∀ k : Nat, (k : Int) < v0_0 → (hitAt l k).err = 0)
 | _, _ => False
theorem rnd_cherenkov_flash_each_cherenkov_api_FlashHit_0 (l : List FHit) (v0_0 : Int) (nn0 : Nat) (hp : (l).length ≤ 1000000) (hi : l.length ≤ 1000000 ∧ 0 ≤ v0_0 ∧ v0_0 ≤ l.length ∧ ((nn0 + 1) : Int) + v0_0 = l.length + 1 ∧ ∀ k : Nat, (k : Int) < v0_0 → (hitAt l k).err = 0) : rd_cherenkov_flash_each_cherenkov_api_FlashHit_0 (J_cherenkov_flash_each_cherenkov_api_FlashHit l) l v0_0 nn0 (fun r => LeD r (.tu [.c (.v (.int .i64 (scanI (fun k => (hitAt l k).err) (l).length))), .c (.v (.int .i64 (scan (fun k => (hitAt l k).err) (l).length)))])) := by
 obtain ⟨i0, i1, i2, i3, i4⟩ := hi
 obtain ⟨k, rfl⟩ : ∃ k : Nat, v0_0 = k := ⟨v0_0.toNat, by omega⟩
 have hk : (k : Int).toNat = k := rfl
 unfold rd_cherenkov_flash_each_cherenkov_api_FlashHit_0
 rw [hk]
 refine cond_i (fun h => ?_) (fun h => ?_)
 ·have h := of_decide_eq_true h
  refine ⟨by omega, lt_i fun x1 h1 => lt_i fun x2 h2 => ?_⟩
  rw [wi (by omega)] at h1
  obtain ⟨m, hm⟩ : ∃ m : Nat, x2 = m := ⟨x2.toNat, by split at h2 <;> omega⟩
  have hm2 : m = k - 1 := by split at h2 <;> omega
  subst hm
  subst hm2
  clear h2
  refine ⟨by omega, ⟨rfl, rfl⟩, cond_i (fun e => ?_) (fun e => lt_i fun x hx => ?_)⟩
  ·have e : (hitAt l k).err ≠ 0 := by simpa using e
   have hlt : k < l.length := by omega
   exact le2 (scanI_at (f := fun k => (hitAt l k).err) (fun j hj => i4 j (by omega)) hlt e).symm (scan_at (f := fun k => (hitAt l k).err) (fun j hj => i4 j (by omega)) hlt e).symm
  ·have e : (hitAt l k).err = 0 := by simpa using e
   rw [wi (by omega)] at hx
   subst hx
   refine ⟨_, rfl, i0, by omega, by omega, by omega, fun j hj => ?_⟩
   by_cases q : j = k
   ·rw [q]; exact e
   ·exact i4 j (by omega)
 ·have h := of_decide_eq_false h
  exact le2 (scanI_end (f := fun k => (hitAt l k).err) fun j hj => i4 j (by omega)).symm (scan_end (f := fun k => (hitAt l k).err) fun j hj => i4 j (by omega)).symm
theorem zero_cherenkov_flash_each_cherenkov_api_FlashHit_0 (l : List FHit) (v0_0 : Int)  (hi : l.length ≤ 1000000 ∧ 0 ≤ v0_0 ∧ v0_0 ≤ l.length ∧ (0 : Int) + v0_0 = l.length + 1 ∧ ∀ k : Nat, (k : Int) < v0_0 → (hitAt l k).err = 0) : False := by
 omega
theorem spec_cherenkov_flash_each_cherenkov_api_FlashHit (l : List FHit) (hp : (l).length ≤ 1000000) : vc_cherenkov_flash_each_cherenkov_api_FlashHit (J_cherenkov_flash_each_cherenkov_api_FlashHit l) l (fun r => LeD r (.tu [.c (.v (.int .i64 (scanI (fun k => (hitAt l k).err) (l).length))), .c (.v (.int .i64 (scan (fun k => (hitAt l k).err) (l).length)))])) := by
 unfold vc_cherenkov_flash_each_cherenkov_api_FlashHit
 exact ⟨l.length + 1, 0, rfl, hp, by omega, by omega, by omega, fun j hj => by omega⟩
theorem all_cherenkov_flash_each_cherenkov_api_FlashHit (l : List FHit) (hp : (l).length ≤ 1000000) : AllG (J_cherenkov_flash_each_cherenkov_api_FlashHit l) (loopsFn Tryd.prog tab S15 ann_cherenkov_flash_each_cherenkov_api_FlashHit (J_cherenkov_flash_each_cherenkov_api_FlashHit l) Tryd.f93 (fun r => LeD r (.tu [.c (.v (.int .i64 (scanI (fun k => (hitAt l k).err) (l).length))), .c (.v (.int .i64 (scan (fun k => (hitAt l k).err) (l).length)))]))) := by
 rw [lp_cherenkov_flash_each_cherenkov_api_FlashHit]
 refine ⟨⟨?_, ?_⟩, trivial⟩
 ·intro F s h
  obtain _ | ⟨g, F⟩ := F
  case cons => exact h.elim
  obtain ⟨w0, rfl, hi⟩ := h
  exact zero_cherenkov_flash_each_cherenkov_api_FlashHit_0 l _ hi
 ·intro n F s h
  obtain _ | ⟨g, F⟩ := F
  case cons => exact h.elim
  obtain ⟨w0, rfl, hi⟩ := h
  rw [er_cherenkov_flash_each_cherenkov_api_FlashHit_0]
  exact rnd_cherenkov_flash_each_cherenkov_api_FlashHit_0 l _ _ hp hi
def con_cherenkov_flash_each_cherenkov_api_FlashHit : Con := fun args => match args with
 | [.t (.c (.sl 7 n_l c_l)), .t (.fn 94 [.px 1 0 c_q])] => some (.tu [.c (.v (.int .i64 (scanI (fun k => (hitAt (listC n_l mkHit c_l) k).err) ((listC n_l mkHit c_l)).length))), .c (.v (.int .i64 (scan (fun k => (hitAt (listC n_l mkHit c_l) k).err) ((listC n_l mkHit c_l)).length)))], some (numsP 7 n_l c_l ∧ intsB [] c_q = true ∧ c_q 0 = .v (.func (.func 91) ⟨[]⟩ ⟨[]⟩) ∧ ((listC n_l mkHit c_l)).length ≤ 1000000), false)
 | _ => none
theorem ok_cherenkov_flash_each_cherenkov_api_FlashHit : Ok Tryd.prog 93 con_cherenkov_flash_each_cherenkov_api_FlashHit := by
 refine Ok.fn (ann := ann_cherenkov_flash_each_cherenkov_api_FlashHit) mixed tabOK VS15 ValidIt.no (fn := Tryd.f93) (by kernel_rfl) (by kernel_rfl) fit_cherenkov_flash_each_cherenkov_api_FlashHit fun args r pre fresh h hp => ?_
 unfold con_cherenkov_flash_each_cherenkov_api_FlashHit at h
 split at h
 ·rename_i n_l c_l c_q
  cases h
  obtain ⟨hp0, hp1, hp2, hp⟩ := hp
  refine ⟨rfl, J_cherenkov_flash_each_cherenkov_api_FlashHit (listC n_l mkHit c_l), [.t (.c (.sl 7 ((listC n_l mkHit c_l).length) (hitsC (listC n_l mkHit c_l)))), .t (.fn 94 [.px 1 0 (boxC [.v (.func (.func 91) ⟨[]⟩ ⟨[]⟩)])])], ?_, Nat.le_of_ble_eq_true (by kernel_rfl), ?_, ?_⟩
  ·exact (LeA_cons (leT_c ((leL_FHit hp0))) (LeA_cons (leT_f (LeCs.cons (leC_p (LeCs.cons (leC_k hp2) LeCs.nil)) LeCs.nil)) LeA_nil))
  ·rw [ev_cherenkov_flash_each_cherenkov_api_FlashHit]; exact spec_cherenkov_flash_each_cherenkov_api_FlashHit (listC n_l mkHit c_l) hp
  ·exact all_cherenkov_flash_each_cherenkov_api_FlashHit (listC n_l mkHit c_l) hp
 ·cases h
def S16 : Sum := addS S15 93 con_cherenkov_flash_each_cherenkov_api_FlashHit
theorem VS16 : Valid Tryd.prog S16 := Valid.add VS15 ok_cherenkov_flash_each_cherenkov_api_FlashHit
def vc_flash_CheckHits (l : List FHit) (post : DV → Prop) : Prop := cond ((cntW ((l.length : Nat) : Int) (8 : Int)) != (0 : Int)) (post (.tu [.c (.v (.int .i64 0)), .c (.v (.int .i64 (cntW ((l.length : Nat) : Int) (8 : Int))))])) ((numsP 7 l.length (hitsC l) ∧ intsB [] (boxC [.v (.func (.func 91) ⟨[]⟩ ⟨[]⟩)]) = true ∧ (boxC [.v (.func (.func 91) ⟨[]⟩ ⟨[]⟩)]) 0 = .v (.func (.func 91) ⟨[]⟩ ⟨[]⟩) ∧ ((listC l.length mkHit (hitsC l))).length ≤ 1000000) ∧ (post (.tu [.c (.v (.int .i64 (scanI (fun k => (hitAt (listC l.length mkHit (hitsC l)) k).err) ((listC l.length mkHit (hitsC l))).length))), .c (.v (.int .i64 (scan (fun k => (hitAt (listC l.length mkHit (hitsC l)) k).err) ((listC l.length mkHit (hitsC l))).length)))])))
def ann_flash_CheckHits : Ann := ⟨fun _ => none, fun _ => none, fun _ => [], noIt, false, fun _ => none, fun _ => none⟩
theorem ev_flash_CheckHits (J : Inv) (l : List FHit) (post : DV → Prop) : evFn Tryd.prog tab S16 ann_flash_CheckHits J Tryd.f17 [.t (.c (.sl 7 l.length (hitsC l)))] post = vc_flash_CheckHits l post := by kernel_rfl
theorem fit_flash_CheckHits : okFn ann_flash_CheckHits Tryd.f17 = true := by kernel_rfl
theorem lp_flash_CheckHits (J : Inv) (post : DV → Prop) : AllG J (loopsFn Tryd.prog tab S16 ann_flash_CheckHits J Tryd.f17 post) = (True) := by kernel_rfl
theorem spec_flash_CheckHits (l : List FHit) : vc_flash_CheckHits l (fun r => LeD r (.tu [.c (.v (.int .i64 (hitsI l))), .c (.v (.int .i64 (hitsE l)))])) := by
 unfold vc_flash_CheckHits
 rw [hits_listC]
 refine cond_i (fun h => ?_) (fun h => ?_)
 ·have h : cntE l.length 8 ≠ 0 := by simpa [cntW, cntE] using h
  exact le2 (if_neg h).symm (if_neg h).symm
 ·have h : cntE l.length 8 = 0 := by simpa [cntW, cntE] using h
  refine ⟨⟨numsP_hits l, rfl, rfl, ?_⟩, le2 (if_pos h).symm (if_pos h).symm⟩
  have h2 := (fn2 h).2
  rw [unl_0 (by decide)] at h2
  have := of_decide_eq_true h2
  omega
def con_flash_CheckHits : Con := fun args => match args with
 | [.t (.c (.sl 7 n_l c_l))] => some (.tu [.c (.v (.int .i64 (hitsI (listC n_l mkHit c_l)))), .c (.v (.int .i64 (hitsE (listC n_l mkHit c_l))))], some (numsP 7 n_l c_l), false)
 | _ => none
theorem ok_flash_CheckHits : Ok Tryd.prog 17 con_flash_CheckHits := by
 refine Ok.fn (ann := ann_flash_CheckHits) mixed tabOK VS16 ValidIt.no (fn := Tryd.f17) (by kernel_rfl) (by kernel_rfl) fit_flash_CheckHits fun args r pre fresh h hp => ?_
 unfold con_flash_CheckHits at h
 split at h
 ·rename_i n_l c_l
  cases h
  have hp0 := hp
  refine ⟨rfl, fun _ _ _ => False, [.t (.c (.sl 7 ((listC n_l mkHit c_l).length) (hitsC (listC n_l mkHit c_l))))], ?_, Nat.le_of_ble_eq_true (by kernel_rfl), ?_, ?_⟩
  ·exact (LeA_cons (leT_c ((leL_FHit hp0))) LeA_nil)
  ·rw [ev_flash_CheckHits]; exact spec_flash_CheckHits (listC n_l mkHit c_l)
  ·rw [lp_flash_CheckHits]; trivial
 ·cases h
def S17 : Sum := addS S16 17 con_flash_CheckHits
theorem VS17 : Valid Tryd.prog S17 := Valid.add VS16 ok_flash_CheckHits
def vc_flash_hitsErr (l : List FHit) (post : DV → Prop) : Prop := (numsP 7 l.length (hitsC l)) ∧ (post (.t (.c (.v (.int .i64 (hitsE (listC l.length mkHit (hitsC l))))))))
def ann_flash_hitsErr : Ann := ⟨fun _ => none, fun _ => none, fun _ => [], noIt, false, fun _ => none, fun _ => none⟩
theorem ev_flash_hitsErr (J : Inv) (l : List FHit) (post : DV → Prop) : evFn Tryd.prog tab S17 ann_flash_hitsErr J Tryd.f121 [.t (.c (.sl 7 l.length (hitsC l)))] post = vc_flash_hitsErr l post := by kernel_rfl
theorem fit_flash_hitsErr : okFn ann_flash_hitsErr Tryd.f121 = true := by kernel_rfl
theorem lp_flash_hitsErr (J : Inv) (post : DV → Prop) : AllG J (loopsFn Tryd.prog tab S17 ann_flash_hitsErr J Tryd.f121 post) = (True) := by kernel_rfl
theorem spec_flash_hitsErr (l : List FHit) : vc_flash_hitsErr l (fun r => LeD r (.t (.c (.v (.int .i64 (hitsE l)))))) := by
 unfold vc_flash_hitsErr
 rw [hits_listC]
 exact ⟨numsP_hits l, LeD.refl _⟩
def con_flash_hitsErr : Con := fun args => match args with
 | [.t (.c (.sl 7 n_l c_l))] => some (.t (.c (.v (.int .i64 (hitsE (listC n_l mkHit c_l))))), some (numsP 7 n_l c_l), false)
 | _ => none
theorem ok_flash_hitsErr : Ok Tryd.prog 121 con_flash_hitsErr := by
 refine Ok.fn (ann := ann_flash_hitsErr) mixed tabOK VS17 ValidIt.no (fn := Tryd.f121) (by kernel_rfl) (by kernel_rfl) fit_flash_hitsErr fun args r pre fresh h hp => ?_
 unfold con_flash_hitsErr at h
 split at h
 ·rename_i n_l c_l
  cases h
  have hp0 := hp
  refine ⟨rfl, fun _ _ _ => False, [.t (.c (.sl 7 ((listC n_l mkHit c_l).length) (hitsC (listC n_l mkHit c_l))))], ?_, Nat.le_of_ble_eq_true (by kernel_rfl), ?_, ?_⟩
  ·exact (LeA_cons (leT_c ((leL_FHit hp0))) LeA_nil)
  ·rw [ev_flash_hitsErr]; exact spec_flash_hitsErr (listC n_l mkHit c_l)
  ·rw [lp_flash_hitsErr]; trivial
 ·cases h
def S18 : Sum := addS S17 121 con_flash_hitsErr
theorem VS18 : Valid Tryd.prog S18 := Valid.add VS17 ok_flash_hitsErr
def vc_flash_CheckLattice (g0 g1 g2 g3 g4 : Int) (post : DV → Prop) : Prop := cond (inB g3 (1 : Int) (1000 : Int)) ((numsP 1 2 (genC [[.v (.int .i64 (posE (⟨g0, g1, g2⟩ : P3)))], [.v (.int .i64 (unl (inB g4 (1 : Int) (6 : Int)) (2 : Int)))]]) ∧ (([(posE (⟨g0, g1, g2⟩ : P3)), (unl (inB g4 (1 : Int) (6 : Int)) (2 : Int))] : List Int)).length ≤ 100) ∧ (post (.t (.c (.v (.int .i64 (firstNZ ([(posE (⟨g0, g1, g2⟩ : P3)), (unl (inB g4 (1 : Int) (6 : Int)) (2 : Int))] : List Int)))))))) ((false = false) ∧ ((numsP 1 2 (genC [[.v (.int .i64 (posE (⟨g0, g1, g2⟩ : P3)))], [.v (.int .i64 (unl false (2 : Int)))]]) ∧ (([(posE (⟨g0, g1, g2⟩ : P3)), (unl false (2 : Int))] : List Int)).length ≤ 100) ∧ (post (.t (.c (.v (.int .i64 (firstNZ ([(posE (⟨g0, g1, g2⟩ : P3)), (unl false (2 : Int))] : List Int)))))))))
def ann_flash_CheckLattice : Ann := ⟨fun r => lookA r [(1, ([[], [0], [0, 1], [], [3], [0, 1, 2, 3, 4], [0, 1, 2, 3, 4, 5], [0, 1, 2, 3, 4, 5, 6], [0, 1, 2, 3, 4, 5, 6, 7], [0, 1, 2, 3, 4, 5, 6, 7, 8], [0, 1, 2, 3, 4, 5, 6, 7, 8, 9], [0, 1, 2, 3, 4, 5, 6, 7, 8, 9, 10], [0, 1, 2, 3, 4, 5, 6, 7, 8, 9, 10, 11], [0, 1, 2, 3, 4, 5, 6, 7, 8, 9, 10, 11, 12], [0, 1, 2, 3, 4, 5, 6, 7, 8, 9, 10, 11, 12, 13]], [[5, 8, 12, 14, 15, 16], [5, 8, 12, 14, 15, 16], [8, 12, 14, 15, 16], [5, 8, 12, 14, 15, 16], [5, 8, 12, 14, 15, 16], [12, 14, 15, 16], [12, 14, 15, 16], [12, 14, 15, 16], [12, 14, 15, 16], [14, 15, 16], [14, 15, 16], [15, 16], [16], [], []]))], fun _ => none, fun _ => [], noIt, false, fun _ => none, fun _ => none⟩
theorem ev_flash_CheckLattice (J : Inv) (g0 g1 g2 g3 g4 : Int) (post : DV → Prop) : evFn Tryd.prog tab S18 ann_flash_CheckLattice J Tryd.f24 [.t (.a [.v (.int .i64 g0), .v (.int .i64 g1), .v (.int .i64 g2), .v (.int .i64 g3), .v (.int .i64 g4)])] post = vc_flash_CheckLattice g0 g1 g2 g3 g4 post := by kernel_rfl
theorem fit_flash_CheckLattice : okFn ann_flash_CheckLattice Tryd.f24 = true := by kernel_rfl
theorem lp_flash_CheckLattice (J : Inv) (post : DV → Prop) : AllG J (loopsFn Tryd.prog tab S18 ann_flash_CheckLattice J Tryd.f24 post) = (True) := by kernel_rfl
theorem spec_flash_CheckLattice (g0 g1 g2 g3 g4 : Int) : vc_flash_CheckLattice g0 g1 g2 g3 g4 (fun r => LeD r (.t (.c (.v (.int .i64 (latE (⟨⟨g0, g1, g2⟩, g3, g4⟩ : Lat))))))) := by
 unfold vc_flash_CheckLattice
 unfold latE
 refine cond_i (fun h => ⟨⟨numsP_gen [_, _], Nat.le_of_ble_eq_true rfl⟩, leI ?_⟩) (fun h => ⟨rfl, ⟨numsP_gen [_, _], Nat.le_of_ble_eq_true rfl⟩, leI ?_⟩)
 ·simp only; rw [h]; rfl
 ·simp only; rw [h]; rfl
def con_flash_CheckLattice : Con := fun args => match args with
 | [.t (.a [.v (.int .i64 g0), .v (.int .i64 g1), .v (.int .i64 g2), .v (.int .i64 g3), .v (.int .i64 g4)])] => some (.t (.c (.v (.int .i64 (latE (⟨⟨g0, g1, g2⟩, g3, g4⟩ : Lat))))), none, false)
 | _ => none
theorem ok_flash_CheckLattice : Ok Tryd.prog 24 con_flash_CheckLattice := by
 refine Ok.fn (ann := ann_flash_CheckLattice) mixed tabOK VS18 ValidIt.no (fn := Tryd.f24) (by kernel_rfl) (by kernel_rfl) fit_flash_CheckLattice fun args r pre fresh h hp => ?_
 unfold con_flash_CheckLattice at h
 split at h
 ·rename_i g0 g1 g2 g3 g4
  cases h
  refine ⟨rfl, fun _ _ _ => False, _, LeA.refl _, Nat.le_of_ble_eq_true (by kernel_rfl), ?_, ?_⟩
  ·rw [ev_flash_CheckLattice]; exact spec_flash_CheckLattice g0 g1 g2 g3 g4
  ·rw [lp_flash_CheckLattice]; trivial
 ·cases h
def S19 : Sum := addS S18 24 con_flash_CheckLattice
theorem VS19 : Valid Tryd.prog S19 := Valid.add VS18 ok_flash_CheckLattice
def vc_flash_size (g0 g1 g2 g3 g4 : Int) (post : DV → Prop) : Prop := lt (IntKind.i64.wrap (g4 * g4)) fun x1 => lt (IntKind.i64.wrap (x1 * g4)) fun x2 => post (.t (.c (.v (.int .i64 x2))))
def ann_flash_size : Ann := ⟨fun _ => none, fun _ => none, fun _ => [], noIt, false, fun _ => none, fun _ => none⟩
theorem ev_flash_size (J : Inv) (g0 g1 g2 g3 g4 : Int) (post : DV → Prop) : evFn Tryd.prog tab S19 ann_flash_size J Tryd.f97 [.t (.a [.v (.int .i64 g0), .v (.int .i64 g1), .v (.int .i64 g2), .v (.int .i64 g3), .v (.int .i64 g4)])] post = vc_flash_size g0 g1 g2 g3 g4 post := by kernel_rfl
theorem fit_flash_size : okFn ann_flash_size Tryd.f97 = true := by kernel_rfl
theorem lp_flash_size (J : Inv) (post : DV → Prop) : AllG J (loopsFn Tryd.prog tab S19 ann_flash_size J Tryd.f97 post) = (True) := by kernel_rfl
theorem spec_flash_size (g0 g1 g2 g3 g4 : Int) (hp : latE (⟨⟨g0, g1, g2⟩, g3, g4⟩ : Lat) = 0) : vc_flash_size g0 g1 g2 g3 g4 (fun r => LeD r (.t (.c (.v (.int .i64 (((⟨⟨g0, g1, g2⟩, g3, g4⟩ : Lat)).sz)))))) := by
 have hz := (sz_rg hp).2
 obtain ⟨_, _, q1, q2⟩ := lat_ok hp
 simp only at q1 q2
 have m1 := mul_rg (x := g4) (y := g4) (A := 6) (B := 6) (C := 36) (by omega) (by omega) (by decide)
 have m2 := mul_rg (x := g4 * g4) (y := g4) (A := 36) (B := 6) (C := 216) m1 (by omega) (by decide)
 unfold vc_flash_size
 refine lt_i fun x1 h1 => lt_i fun x2 h2 => ?_
 rw [wi (by omega)] at h1
 subst h1
 rw [wi (by omega)] at h2
 subst h2
 exact LeD.refl _
def con_flash_size : Con := fun args => match args with
 | [.t (.a [.v (.int .i64 g0), .v (.int .i64 g1), .v (.int .i64 g2), .v (.int .i64 g3), .v (.int .i64 g4)])] => some (.t (.c (.v (.int .i64 (((⟨⟨g0, g1, g2⟩, g3, g4⟩ : Lat)).sz)))), some (latE (⟨⟨g0, g1, g2⟩, g3, g4⟩ : Lat) = 0), false)
 | _ => none
theorem ok_flash_size : Ok Tryd.prog 97 con_flash_size := by
 refine Ok.fn (ann := ann_flash_size) mixed tabOK VS19 ValidIt.no (fn := Tryd.f97) (by kernel_rfl) (by kernel_rfl) fit_flash_size fun args r pre fresh h hp => ?_
 unfold con_flash_size at h
 split at h
 ·rename_i g0 g1 g2 g3 g4
  cases h
  refine ⟨rfl, fun _ _ _ => False, _, LeA.refl _, Nat.le_of_ble_eq_true (by kernel_rfl), ?_, ?_⟩
  ·rw [ev_flash_size]; exact spec_flash_size g0 g1 g2 g3 g4 hp
  ·rw [lp_flash_size]; trivial
 ·cases h
def S20 : Sum := addS S19 97 con_flash_size
theorem VS20 : Valid Tryd.prog S20 := Valid.add VS19 ok_flash_size
def vc_flash_position (g0 g1 g2 g3 g4 : Int) (k : Int) (post : DV → Prop) : Prop := lt (IntKind.i64.wrap (Int.tdiv k g4)) fun x1 => (IntKind.i64 = IntKind.i64 ∧ g4 ≠ 0) ∧ (lt (IntKind.i64.wrap (Int.tdiv x1 g4)) fun x2 => (IntKind.i64 = IntKind.i64 ∧ g4 ≠ 0) ∧ (lt (IntKind.i64.wrap (Int.tdiv k g4)) fun x3 => (IntKind.i64 = IntKind.i64 ∧ g4 ≠ 0) ∧ (lt (Int.tmod x3 g4) fun x4 => (IntKind.i64 = IntKind.i64 ∧ g4 ≠ 0) ∧ (lt (Int.tmod k g4) fun x5 => (IntKind.i64 = IntKind.i64 ∧ g4 ≠ 0) ∧ (lt (IntKind.i64.wrap (g3 * x2)) fun x6 => lt (IntKind.i64.wrap (g0 + x6)) fun x7 => lt (IntKind.i64.wrap (g3 * x4)) fun x8 => lt (IntKind.i64.wrap (g1 + x8)) fun x9 => lt (IntKind.i64.wrap (g3 * x5)) fun x10 => lt (IntKind.i64.wrap (g2 + x10)) fun x11 => post (.t (.a [.v (.int .i64 x7), .v (.int .i64 x9), .v (.int .i64 x11)])))))))
def ann_flash_position : Ann := ⟨fun r => lookA r [(1, ([[], [], [1], [0, 1, 2], [], [4], [0, 1, 2, 3, 4, 5], [], [], [8], [7, 8, 9], [], [11], [7, 8, 9, 10, 11, 12], [], [], [15], [14, 15, 16], [0, 1, 2, 3, 4, 5, 6], [0, 1, 2, 3, 4, 5, 6, 7, 8, 9, 10, 11, 12, 13, 18], [0, 1, 2, 3, 4, 5, 6, 7, 8, 9, 10, 11, 12, 13, 14, 15, 16, 17, 18, 19]], [[], [], [], [], [], [], [], [], [], [], [], [], [], [], [], [], [], [], [], [], []]))], fun _ => none, fun _ => [], noIt, false, fun _ => none, fun _ => none⟩
theorem ev_flash_position (J : Inv) (g0 g1 g2 g3 g4 : Int) (k : Int) (post : DV → Prop) : evFn Tryd.prog tab S20 ann_flash_position J Tryd.f98 [.t (.a [.v (.int .i64 g0), .v (.int .i64 g1), .v (.int .i64 g2), .v (.int .i64 g3), .v (.int .i64 g4)]), .t (.c (.v (.int .i64 k)))] post = vc_flash_position g0 g1 g2 g3 g4 k post := by kernel_rfl
theorem fit_flash_position : okFn ann_flash_position Tryd.f98 = true := by kernel_rfl
theorem lp_flash_position (J : Inv) (post : DV → Prop) : AllG J (loopsFn Tryd.prog tab S20 ann_flash_position J Tryd.f98 post) = (True) := by kernel_rfl
theorem spec_flash_position (g0 g1 g2 g3 g4 : Int) (k : Int) (hp : latE (⟨⟨g0, g1, g2⟩, g3, g4⟩ : Lat) = 0 ∧ 0 ≤ k ∧ k < ((⟨⟨g0, g1, g2⟩, g3, g4⟩ : Lat)).sz) : vc_flash_position g0 g1 g2 g3 g4 k (fun r => LeD r (.t (.a [.v (.int .i64 ((posAt (⟨⟨g0, g1, g2⟩, g3, g4⟩ : Lat) k).x)), .v (.int .i64 ((posAt (⟨⟨g0, g1, g2⟩, g3, g4⟩ : Lat) k).y)), .v (.int .i64 ((posAt (⟨⟨g0, g1, g2⟩, g3, g4⟩ : Lat) k).z))]))) := by
 obtain ⟨hl, hk, hk2⟩ := hp
 obtain ⟨⟨a1, a2, a3⟩, hs, q1, q2⟩ := lat_ok hl
 simp only at a1 a2 a3 hs q1 q2
 have hz := (sz_rg hl).2
 obtain ⟨d1, d2, d3⟩ := digits q1 hk hk2
 have e1 := step_rg hs q2 d1
 have e2 := step_rg hs q2 d2
 have e3 := step_rg hs q2 d3
 have e0 : 0 ≤ k / g4 := Int.ediv_nonneg hk (by omega)
 have e4 : k / g4 ≤ k := Int.ediv_le_self _ hk
 have t0 : Int.tdiv k g4 = k / g4 := Int.tdiv_eq_ediv_of_nonneg hk
 have t1 : Int.tdiv (k / g4) g4 = k / g4 / g4 := Int.tdiv_eq_ediv_of_nonneg e0
 have t2 : Int.tmod (k / g4) g4 = k / g4 % g4 := Int.tmod_eq_emod_of_nonneg e0
 have t3 : Int.tmod k g4 = k % g4 := Int.tmod_eq_emod_of_nonneg hk
 have n0 : g4 ≠ 0 := by omega
 unfold vc_flash_position
 rw [t0, t3]
 refine lt_i fun x1 h1 => ⟨⟨rfl, n0⟩, ?_⟩
 rw [wi (by omega)] at h1
 subst h1
 rw [t1]
 refine lt_i fun x2 h2 => ⟨⟨rfl, n0⟩, lt_i fun x3 h3 => ⟨⟨rfl, n0⟩, ?_⟩⟩
 rw [wi (by omega)] at h2 h3
 subst h2 h3
 rw [t2]
 refine lt_i fun x4 h4 => ⟨⟨rfl, n0⟩, lt_i fun x5 h5 => ⟨⟨rfl, n0⟩, ?_⟩⟩
 subst h4 h5
 refine lt_i fun x6 h6 => lt_i fun x7 h7 => lt_i fun x8 h8 => lt_i fun x9 h9 => lt_i fun x10 h10 => lt_i fun x11 h11 => ?_
 rw [wi (by omega)] at h6 h8 h10
 subst h6 h8 h10
 rw [wi (by omega)] at h7 h9 h11
 subst h7 h9 h11
 exact LeD.refl _
def con_flash_position : Con := fun args => match args with
 | [.t (.a [.v (.int .i64 g0), .v (.int .i64 g1), .v (.int .i64 g2), .v (.int .i64 g3), .v (.int .i64 g4)]), .t (.c (.v (.int .i64 k)))] => some (.t (.a [.v (.int .i64 ((posAt (⟨⟨g0, g1, g2⟩, g3, g4⟩ : Lat) k).x)), .v (.int .i64 ((posAt (⟨⟨g0, g1, g2⟩, g3, g4⟩ : Lat) k).y)), .v (.int .i64 ((posAt (⟨⟨g0, g1, g2⟩, g3, g4⟩ : Lat) k).z))]), some (latE (⟨⟨g0, g1, g2⟩, g3, g4⟩ : Lat) = 0 ∧ 0 ≤ k ∧ k < ((⟨⟨g0, g1, g2⟩, g3, g4⟩ : Lat)).sz), false)
 | _ => none
theorem ok_flash_position : Ok Tryd.prog 98 con_flash_position := by
 refine Ok.fn (ann := ann_flash_position) mixed tabOK VS20 ValidIt.no (fn := Tryd.f98) (by kernel_rfl) (by kernel_rfl) fit_flash_position fun args r pre fresh h hp => ?_
 unfold con_flash_position at h
 split at h
 ·rename_i g0 g1 g2 g3 g4 k
  cases h
  refine ⟨rfl, fun _ _ _ => False, _, LeA.refl _, Nat.le_of_ble_eq_true (by kernel_rfl), ?_, ?_⟩
  ·rw [ev_flash_position]; exact spec_flash_position g0 g1 g2 g3 g4 k hp
  ·rw [lp_flash_position]; trivial
 ·cases h
def S21 : Sum := addS S20 98 con_flash_position
theorem VS21 : Valid Tryd.prog S21 := Valid.add VS20 ok_flash_position
def S22 : Sum := S21
theorem VS22 : Valid Tryd.prog S22 := VS21
def mk_flash_starts_0 (l : List FHit) (p0 p1 p2 : Int) (v0_0 : List (List CV)) (v0_1 : Int) : DS := ⟨[none, none, none, some (.t (.c (.p 3 0))), none, some (.t (.c (.os 5))), none, none, none, some (.t (.c (.sl 7 l.length (hitsC l)))), some (.t (.c (.v (.int .i64 ((l.length : Nat) : Int))))), some (.t (.c (.v (.int .i64 v0_1)))), none, none, none, none, none, none, none, none, none, none, none, none, none, none, none, none, none, none, none, none, none, none, none], [none, none, none, some (.box 24 [.v (.int .i64 p0), .v (.int .i64 p1), .v (.int .i64 p2)]), none, some (.gen 94 2 v0_0), none, none, none, none, none, none, none, none, none, none, none, none, none, none, none, none, none, none, none, none, none, none, none, none, none, none, none, none, none]⟩
def vc_flash_starts (J : Inv) (l : List FHit) (p0 p1 p2 : Int) (post : DV → Prop) : Prop := ∃ n, J 0 (n :: []) (mk_flash_starts_0 l p0 p1 p2 ([]) 0)
def ann_flash_starts : Ann := ⟨fun _ => none, fun b => lookA b [(0, (none, some ⟨[3, 9, 10, 11], [3], [(5, .gen 94 2 [])]⟩))], fun _ => [], noIt, true, fun _ => none, fun _ => none⟩
theorem ev_flash_starts (J : Inv) (l : List FHit) (p0 p1 p2 : Int) (post : DV → Prop) : evFn Tryd.prog tab S22 ann_flash_starts J Tryd.f133 [.t (.c (.sl 7 l.length (hitsC l))), .t (.a [.v (.int .i64 p0), .v (.int .i64 p1), .v (.int .i64 p2)])] post = vc_flash_starts J l p0 p1 p2 post := by kernel_rfl
theorem fit_flash_starts : okFn ann_flash_starts Tryd.f133 = true := by kernel_rfl
def rd_flash_starts_0 (J : Inv) (l : List FHit) (p0 p1 p2 : Int) (v0_0 : List (List CV)) (v0_1 : Int) (nn0 : Nat) (post : DV → Prop) : Prop := cond (decide (v0_1 < ((l.length : Nat) : Int))) ((0 ≤ v0_1 ∧ v0_1 < ((l.length : Nat) : Int)) ∧ ((((⟨p0, p1, p2⟩ : P3)).bd 15000 ∧ ((hitAt l v0_1.toNat).p).bd 15000) ∧ (lt (IntKind.i64.wrap (((hitAt l v0_1.toNat).t.lo) - (dly (⟨p0, p1, p2⟩ : P3) (hitAt l v0_1.toNat).p))) fun x1 => lt (IntKind.i64.wrap (((hitAt l v0_1.toNat).t.hi) - (dly (⟨p0, p1, p2⟩ : P3) (hitAt l v0_1.toNat).p))) fun x2 => (roomP 16 (v0_0.length + ([[.v (.int .i64 x1), .v (.int .i64 x2)]] : List (List CV)).length)) ∧ (lt (IntKind.i64.wrap (v0_1 + (1 : Int))) fun x3 => J 0 (nn0 :: []) (mk_flash_starts_0 l p0 p1 p2 (v0_0 ++ ([[.v (.int .i64 x1), .v (.int .i64 x2)]] : List (List CV))) x3))))) (post (.t (.c (.sl 2 v0_0.length (genC v0_0)))))
theorem er_flash_starts_0 (J : Inv) (l : List FHit) (p0 p1 p2 : Int) (v0_0 : List (List CV)) (v0_1 : Int) (nn0 : Nat) (post : DV → Prop) : round Tryd.prog tab S22 ann_flash_starts J Tryd.f133 post 0 (nn0 :: []) (mk_flash_starts_0 l p0 p1 p2 v0_0 v0_1) = rd_flash_starts_0 J l p0 p1 p2 v0_0 v0_1 nn0 post := by kernel_rfl
theorem lp_flash_starts (J : Inv) (post : DV → Prop) : AllG J (loopsFn Tryd.prog tab S22 ann_flash_starts J Tryd.f133 post) = (((∀ F s, ¬ J 0 (0 :: F) s) ∧ ∀ n F s, J 0 ((n + 1) :: F) s → round Tryd.prog tab S22 ann_flash_starts J Tryd.f133 post 0 (n :: F) s) ∧ True) := by kernel_rfl
def J_flash_starts (l : List FHit) (p0 p1 p2 : Int) : Inv := fun b F s => match b, F with
 | 0, [nn0] => ∃ (v0_0 : List (List CV)) (v0_1 : Int), s = mk_flash_starts_0 l p0 p1 p2 v0_0 v0_1 ∧ ((hitsE l = 0 ∧ (⟨p0, p1, p2⟩ : P3).bd 15000) ∧ 0 ≤ v0_1 ∧ v0_1 ≤ l.length ∧ (nn0 : Int) + v0_1 = l.length + 1 ∧ v0_0 = ((l.take v0_1.toNat).map (stR (⟨p0, p1, p2⟩ : P3))).map rgCv)
 | _, _ => False
theorem rnd_flash_starts_0 (l : List FHit) (p0 p1 p2 : Int) (v0_0 : List (List CV)) (v0_1 : Int) (nn0 : Nat) (hp : hitsE l = 0 ∧ ((⟨p0, p1, p2⟩ : P3)).bd 15000) (hi : (hitsE l = 0 ∧ (⟨p0, p1, p2⟩ : P3).bd 15000) ∧ 0 ≤ v0_1 ∧ v0_1 ≤ l.length ∧ ((nn0 + 1) : Int) + v0_1 = l.length + 1 ∧ v0_0 = ((l.take v0_1.toNat).map (stR (⟨p0, p1, p2⟩ : P3))).map rgCv) : rd_flash_starts_0 (J_flash_starts l p0 p1 p2) l p0 p1 p2 v0_0 v0_1 nn0 (fun r => LeD r (.t (.c (.sl 2 ((sts l (⟨p0, p1, p2⟩ : P3)).length) (rgsC (sts l (⟨p0, p1, p2⟩ : P3))))))) := by
 obtain ⟨⟨q1, q2⟩, i1, i2, i3, i4⟩ := hi
 obtain ⟨k, rfl⟩ : ∃ k : Nat, v0_1 = k := ⟨v0_1.toNat, by omega⟩
 have hk : (k : Int).toNat = k := rfl
 rw [hk] at i4
 obtain ⟨⟨z1, z2⟩, z3⟩ := hitsE_ok q1
 unfold rd_flash_starts_0
 rw [hk]
 refine cond_i (fun h => ?_) (fun h => ?_)
 ·have hlt : k < l.length := by have := of_decide_eq_true h; omega
  obtain ⟨b1, b2, b3⟩ := hit_ok (z3 k hlt)
  have b4 := b1.mono (B := 15000) (by decide)
  have dd := dly_rg q2 b4
  refine ⟨by omega, ⟨q2, b4⟩, lt_i fun x1 h1 => lt_i fun x2 h2 => ⟨?_, lt_i fun x hx => ?_⟩⟩
  ·rw [i4]; unfold roomP maxLen; simp; omega
  ·rw [wi (by omega)] at h1 h2 hx
   subst h1 h2 hx
   refine ⟨_, _, rfl, ⟨q1, q2⟩, by omega, by omega, by omega, ?_⟩
   rw [show ((k : Int) + 1).toNat = k + 1 by omega, i4, hitAt_take hlt, List.map_append, List.map_append]; rfl
 ·have hge : k = l.length := by have := of_decide_eq_false h; omega
  rw [i4, hge, List.take_length]
  exact le_rgs _
theorem zero_flash_starts_0 (l : List FHit) (p0 p1 p2 : Int) (v0_0 : List (List CV)) (v0_1 : Int)  (hi : (hitsE l = 0 ∧ (⟨p0, p1, p2⟩ : P3).bd 15000) ∧ 0 ≤ v0_1 ∧ v0_1 ≤ l.length ∧ (0 : Int) + v0_1 = l.length + 1 ∧ v0_0 = ((l.take v0_1.toNat).map (stR (⟨p0, p1, p2⟩ : P3))).map rgCv) : False := by
 omega
theorem spec_flash_starts (l : List FHit) (p0 p1 p2 : Int) (hp : hitsE l = 0 ∧ ((⟨p0, p1, p2⟩ : P3)).bd 15000) : vc_flash_starts (J_flash_starts l p0 p1 p2) l p0 p1 p2 (fun r => LeD r (.t (.c (.sl 2 ((sts l (⟨p0, p1, p2⟩ : P3)).length) (rgsC (sts l (⟨p0, p1, p2⟩ : P3))))))) := by
 unfold vc_flash_starts
 exact ⟨l.length + 1, [], 0, rfl, hp, by omega, by omega, by omega, rfl⟩
theorem all_flash_starts (l : List FHit) (p0 p1 p2 : Int) (hp : hitsE l = 0 ∧ ((⟨p0, p1, p2⟩ : P3)).bd 15000) : AllG (J_flash_starts l p0 p1 p2) (loopsFn Tryd.prog tab S22 ann_flash_starts (J_flash_starts l p0 p1 p2) Tryd.f133 (fun r => LeD r (.t (.c (.sl 2 ((sts l (⟨p0, p1, p2⟩ : P3)).length) (rgsC (sts l (⟨p0, p1, p2⟩ : P3)))))))) := by
 rw [lp_flash_starts]
 refine ⟨⟨?_, ?_⟩, trivial⟩
 ·intro F s h
  obtain _ | ⟨g, F⟩ := F
  case cons => exact h.elim
  obtain ⟨w0, w1, rfl, hi⟩ := h
  exact zero_flash_starts_0 l p0 p1 p2 _ _ hi
 ·intro n F s h
  obtain _ | ⟨g, F⟩ := F
  case cons => exact h.elim
  obtain ⟨w0, w1, rfl, hi⟩ := h
  rw [er_flash_starts_0]
  exact rnd_flash_starts_0 l p0 p1 p2 _ _ _ hp hi
def con_flash_starts : Con := fun args => match args with
 | [.t (.c (.sl 7 n_l c_l)), .t (.a [.v (.int .i64 p0), .v (.int .i64 p1), .v (.int .i64 p2)])] => some (.t (.c (.sl 2 ((sts (listC n_l mkHit c_l) (⟨p0, p1, p2⟩ : P3)).length) (rgsC (sts (listC n_l mkHit c_l) (⟨p0, p1, p2⟩ : P3))))), some (numsP 7 n_l c_l ∧ hitsE (listC n_l mkHit c_l) = 0 ∧ ((⟨p0, p1, p2⟩ : P3)).bd 15000), true)
 | _ => none
theorem ok_flash_starts : Ok Tryd.prog 133 con_flash_starts := by
 refine Ok.fnFr (ann := ann_flash_starts) mixed tabOK VS22 ValidIt.no rfl (fn := Tryd.f133) (by kernel_rfl) (by kernel_rfl) fit_flash_starts fun args r pre fresh h hp => ?_
 unfold con_flash_starts at h
 split at h
 ·rename_i n_l c_l p0 p1 p2
  cases h
  obtain ⟨hp0, hp⟩ := hp
  refine ⟨rfl, (fun i j _ hj => plain_Rg _ i j), J_flash_starts (listC n_l mkHit c_l) p0 p1 p2, [.t (.c (.sl 7 ((listC n_l mkHit c_l).length) (hitsC (listC n_l mkHit c_l)))), .t (.a [.v (.int .i64 p0), .v (.int .i64 p1), .v (.int .i64 p2)])], ?_, Nat.le_of_ble_eq_true (by kernel_rfl), ?_, ?_⟩
  ·exact (LeA_cons (leT_c ((leL_FHit hp0))) (LeA_cons (LeD.refl _) LeA_nil))
  ·rw [ev_flash_starts]; exact spec_flash_starts (listC n_l mkHit c_l) p0 p1 p2 hp
  ·exact all_flash_starts (listC n_l mkHit c_l) p0 p1 p2 hp
 ·cases h
def S23 : Sum := addS S22 133 con_flash_starts
theorem VS23 : Valid Tryd.prog S23 := Valid.add VS22 ok_flash_starts
def mk_flash_common_0 (l : List Rg) (v0_0 : Int) (v0_1 : Int) (v0_2 : Int) : DS := ⟨[none, none, some (.t (.c (.p 2 0))), some (.t (.c (.p 3 0))), none, none, none, none, none, none, some (.t (.c (.sl 2 ((((l.length : Nat) : Int) - (1 : Int)).toNat) (fun i j => (rgsC l) (((1 : Int)).toNat + i) j)))), some (.t (.c (.v (.int .i64 (((((l.length : Nat) : Int) - (1 : Int)).toNat : Nat) : Int))))), some (.t (.c (.v (.int .i64 v0_2)))), none, none, none, none, none, none, none, none, none, none, none, none, none, none, none, none], [none, none, some (.box 94 [.v (.int .i64 0), .v (.int .i64 0)]), some (.box 94 [.v (.int .i64 v0_0), .v (.int .i64 v0_1)]), none, none, none, none, none, none, none, none, none, none, none, none, none, none, none, none, none, none, none, none, none, none, none, none, none]⟩
def vc_flash_common (J : Inv) (l : List Rg) (post : DV → Prop) : Prop := (0 ≤ (0 : Int) ∧ (0 : Int) < ((l.length : Nat) : Int)) ∧ ((0 ≤ (1 : Int) ∧ (1 : Int) ≤ ((l.length : Nat) : Int) ∧ ((l.length : Nat) : Int) ≤ ((l.length : Nat) : Int)) ∧ (∃ n, J 0 (n :: []) (mk_flash_common_0 l ((rgAt l 0).lo) ((rgAt l 0).hi) 0)))
def ann_flash_common : Ann := ⟨fun _ => none, fun b => lookA b [(0, (none, some ⟨[2, 3, 10, 11, 12], [2, 3], []⟩))], fun _ => [], noIt, false, fun _ => none, fun _ => none⟩
theorem ev_flash_common (J : Inv) (l : List Rg) (post : DV → Prop) : evFn Tryd.prog tab S23 ann_flash_common J Tryd.f125 [.t (.c (.sl 2 l.length (rgsC l)))] post = vc_flash_common J l post := by kernel_rfl
theorem fit_flash_common : okFn ann_flash_common Tryd.f125 = true := by kernel_rfl
def rd_flash_common_0 (J : Inv) (l : List Rg) (v0_0 : Int) (v0_1 : Int) (v0_2 : Int) (nn0 : Nat) (post : DV → Prop) : Prop := cond (decide (v0_2 < (((((l.length : Nat) : Int) - (1 : Int)).toNat : Nat) : Int))) ((0 ≤ v0_2 ∧ v0_2 < (((((l.length : Nat) : Int) - (1 : Int)).toNat : Nat) : Int)) ∧ (lt ((if ((rgAt l (((1 : Int)).toNat + v0_2.toNat)).lo) > v0_0 then ((rgAt l (((1 : Int)).toNat + v0_2.toNat)).lo) else v0_0)) fun x1 => lt ((if ((rgAt l (((1 : Int)).toNat + v0_2.toNat)).hi) < v0_1 then ((rgAt l (((1 : Int)).toNat + v0_2.toNat)).hi) else v0_1)) fun x2 => lt (IntKind.i64.wrap (v0_2 + (1 : Int))) fun x3 => J 0 (nn0 :: []) (mk_flash_common_0 l x1 x2 x3))) (post (.t (.a [.v (.int .i64 v0_0), .v (.int .i64 v0_1)])))
theorem er_flash_common_0 (J : Inv) (l : List Rg) (v0_0 : Int) (v0_1 : Int) (v0_2 : Int) (nn0 : Nat) (post : DV → Prop) : round Tryd.prog tab S23 ann_flash_common J Tryd.f125 post 0 (nn0 :: []) (mk_flash_common_0 l v0_0 v0_1 v0_2) = rd_flash_common_0 J l v0_0 v0_1 v0_2 nn0 post := by kernel_rfl
theorem lp_flash_common (J : Inv) (post : DV → Prop) : AllG J (loopsFn Tryd.prog tab S23 ann_flash_common J Tryd.f125 post) = (((∀ F s, ¬ J 0 (0 :: F) s) ∧ ∀ n F s, J 0 ((n + 1) :: F) s → round Tryd.prog tab S23 ann_flash_common J Tryd.f125 post 0 (n :: F) s) ∧ True) := by kernel_rfl
def J_flash_common (l : List Rg) : Inv := fun b F s => match b, F with
 | 0, [nn0] => ∃ (v0_0 : Int) (v0_1 : Int) (v0_2 : Int), s = mk_flash_common_0 l v0_0 v0_1 v0_2 ∧ ((0 < l.length ∧ l.length ≤ 1000000) ∧ 0 ≤ v0_2 ∧ v0_2 < l.length ∧ (nn0 : Int) + v0_2 = l.length ∧ (⟨v0_0, v0_1⟩ : Rg) = ((l.drop 1).take v0_2.toNat).foldl meetR (rgAt l 0))
 | _, _ => False
theorem rnd_flash_common_0 (l : List Rg) (v0_0 : Int) (v0_1 : Int) (v0_2 : Int) (nn0 : Nat) (hp : 0 < (l).length ∧ (l).length ≤ 1000000) (hi : (0 < l.length ∧ l.length ≤ 1000000) ∧ 0 ≤ v0_2 ∧ v0_2 < l.length ∧ ((nn0 + 1) : Int) + v0_2 = l.length ∧ (⟨v0_0, v0_1⟩ : Rg) = ((l.drop 1).take v0_2.toNat).foldl meetR (rgAt l 0)) : rd_flash_common_0 (J_flash_common l) l v0_0 v0_1 v0_2 nn0 (fun r => LeD r (.t (.a [.v (.int .i64 ((comm l).lo)), .v (.int .i64 ((comm l).hi))]))) := by
 obtain ⟨⟨q1, q2⟩, i1, i2, i3, i4⟩ := hi
 obtain ⟨k, rfl⟩ : ∃ k : Nat, v0_2 = k := ⟨v0_2.toNat, by omega⟩
 have hk : (k : Int).toNat = k := rfl
 rw [hk] at i4
 unfold rd_flash_common_0
 rw [hk, show ((1 : Int)).toNat = 1 from rfl]
 refine cond_i (fun h => ?_) (fun h => ?_)
 ·have h := of_decide_eq_true h
  refine ⟨by omega, lt_i fun x1 h1 => lt_i fun x2 h2 => lt_i fun x hx => ?_⟩
  rw [mx_if] at h1
  rw [mn_if] at h2
  rw [wi (by omega)] at hx
  subst h1 h2 hx
  refine ⟨_, _, _, rfl, ⟨q1, q2⟩, by omega, by omega, by omega, ?_⟩
  have hd : k < (l.drop 1).length := by rw [List.length_drop]; omega
  rw [show ((k : Int) + 1).toNat = k + 1 by omega, rgAt_take hd, List.foldl_append, ← i4]
  have e : rgAt (l.drop 1) k = rgAt l (1 + k) := by simp [rgAt, List.getD, Nat.add_comm]
  rw [e]; rfl
 ·have h := of_decide_eq_false h
  have e : (l.drop 1).take k = l.drop 1 := List.take_of_length_le (by rw [List.length_drop]; omega)
  rw [e] at i4
  have e2 : comm l = ⟨v0_0, v0_1⟩ := i4.symm
  rw [e2]
  exact LeD.refl _
theorem zero_flash_common_0 (l : List Rg) (v0_0 : Int) (v0_1 : Int) (v0_2 : Int)  (hi : (0 < l.length ∧ l.length ≤ 1000000) ∧ 0 ≤ v0_2 ∧ v0_2 < l.length ∧ (0 : Int) + v0_2 = l.length ∧ (⟨v0_0, v0_1⟩ : Rg) = ((l.drop 1).take v0_2.toNat).foldl meetR (rgAt l 0)) : False := by
 omega
theorem spec_flash_common (l : List Rg) (hp : 0 < (l).length ∧ (l).length ≤ 1000000) : vc_flash_common (J_flash_common l) l (fun r => LeD r (.t (.a [.v (.int .i64 ((comm l).lo)), .v (.int .i64 ((comm l).hi))]))) := by
 unfold vc_flash_common
 refine ⟨by omega, by omega, l.length, _, _, 0, rfl, hp, by omega, by omega, by omega, rfl⟩
theorem all_flash_common (l : List Rg) (hp : 0 < (l).length ∧ (l).length ≤ 1000000) : AllG (J_flash_common l) (loopsFn Tryd.prog tab S23 ann_flash_common (J_flash_common l) Tryd.f125 (fun r => LeD r (.t (.a [.v (.int .i64 ((comm l).lo)), .v (.int .i64 ((comm l).hi))])))) := by
 rw [lp_flash_common]
 refine ⟨⟨?_, ?_⟩, trivial⟩
 ·intro F s h
  obtain _ | ⟨g, F⟩ := F
  case cons => exact h.elim
  obtain ⟨w0, w1, w2, rfl, hi⟩ := h
  exact zero_flash_common_0 l _ _ _ hi
 ·intro n F s h
  obtain _ | ⟨g, F⟩ := F
  case cons => exact h.elim
  obtain ⟨w0, w1, w2, rfl, hi⟩ := h
  rw [er_flash_common_0]
  exact rnd_flash_common_0 l _ _ _ _ hp hi
def con_flash_common : Con := fun args => match args with
 | [.t (.c (.sl 2 n_l c_l))] => some (.t (.a [.v (.int .i64 ((comm (listC n_l mkRg c_l)).lo)), .v (.int .i64 ((comm (listC n_l mkRg c_l)).hi))]), some (numsP 2 n_l c_l ∧ 0 < ((listC n_l mkRg c_l)).length ∧ ((listC n_l mkRg c_l)).length ≤ 1000000), false)
 | _ => none
theorem ok_flash_common : Ok Tryd.prog 125 con_flash_common := by
 refine Ok.fn (ann := ann_flash_common) mixed tabOK VS23 ValidIt.no (fn := Tryd.f125) (by kernel_rfl) (by kernel_rfl) fit_flash_common fun args r pre fresh h hp => ?_
 unfold con_flash_common at h
 split at h
 ·rename_i n_l c_l
  cases h
  obtain ⟨hp0, hp⟩ := hp
  refine ⟨rfl, J_flash_common (listC n_l mkRg c_l), [.t (.c (.sl 2 ((listC n_l mkRg c_l).length) (rgsC (listC n_l mkRg c_l))))], ?_, Nat.le_of_ble_eq_true (by kernel_rfl), ?_, ?_⟩
  ·exact (LeA_cons (leT_c ((leL_Rg hp0))) LeA_nil)
  ·rw [ev_flash_common]; exact spec_flash_common (listC n_l mkRg c_l) hp
  ·exact all_flash_common (listC n_l mkRg c_l) hp
 ·cases h
def S24 : Sum := addS S23 125 con_flash_common
theorem VS24 : Valid Tryd.prog S24 := Valid.add VS23 ok_flash_common
def vc_flash_TimesAt (l : List FHit) (p0 p1 p2 : Int) (post : DV → Prop) : Prop := (numsP 7 l.length (hitsC l)) ∧ ((numsP 1 2 (genC [[.v (.int .i64 (hitsE (listC l.length mkHit (hitsC l))))], [.v (.int .i64 (posE (⟨p0, p1, p2⟩ : P3)))]]) ∧ (([(hitsE (listC l.length mkHit (hitsC l))), (posE (⟨p0, p1, p2⟩ : P3))] : List Int)).length ≤ 100) ∧ (cond ((firstNZ ([(hitsE (listC l.length mkHit (hitsC l))), (posE (⟨p0, p1, p2⟩ : P3))] : List Int)) != (0 : Int)) (post (.tu [.a [.v (.int .i64 0), .v (.int .i64 0)], .c (.v (.int .i64 (firstNZ ([(hitsE (listC l.length mkHit (hitsC l))), (posE (⟨p0, p1, p2⟩ : P3))] : List Int))))])) ((numsP 7 l.length (hitsC l) ∧ hitsE (listC l.length mkHit (hitsC l)) = 0 ∧ ((⟨p0, p1, p2⟩ : P3)).bd 15000) ∧ ((numsP 2 ((sts (listC l.length mkHit (hitsC l)) (⟨p0, p1, p2⟩ : P3)).length) (rgsC (sts (listC l.length mkHit (hitsC l)) (⟨p0, p1, p2⟩ : P3))) ∧ 0 < ((listC ((sts (listC l.length mkHit (hitsC l)) (⟨p0, p1, p2⟩ : P3)).length) mkRg (rgsC (sts (listC l.length mkHit (hitsC l)) (⟨p0, p1, p2⟩ : P3))))).length ∧ ((listC ((sts (listC l.length mkHit (hitsC l)) (⟨p0, p1, p2⟩ : P3)).length) mkRg (rgsC (sts (listC l.length mkHit (hitsC l)) (⟨p0, p1, p2⟩ : P3))))).length ≤ 1000000) ∧ (cond (decide (((comm (listC ((sts (listC l.length mkHit (hitsC l)) (⟨p0, p1, p2⟩ : P3)).length) mkRg (rgsC (sts (listC l.length mkHit (hitsC l)) (⟨p0, p1, p2⟩ : P3))))).lo) > ((comm (listC ((sts (listC l.length mkHit (hitsC l)) (⟨p0, p1, p2⟩ : P3)).length) mkRg (rgsC (sts (listC l.length mkHit (hitsC l)) (⟨p0, p1, p2⟩ : P3))))).hi))) (post (.tu [.a [.v (.int .i64 0), .v (.int .i64 0)], .c (.v (.int .i64 12))])) (post (.tu [.a [.v (.int .i64 ((comm (listC ((sts (listC l.length mkHit (hitsC l)) (⟨p0, p1, p2⟩ : P3)).length) mkRg (rgsC (sts (listC l.length mkHit (hitsC l)) (⟨p0, p1, p2⟩ : P3))))).lo)), .v (.int .i64 ((comm (listC ((sts (listC l.length mkHit (hitsC l)) (⟨p0, p1, p2⟩ : P3)).length) mkRg (rgsC (sts (listC l.length mkHit (hitsC l)) (⟨p0, p1, p2⟩ : P3))))).hi))], .c (.v (.int .i64 0))])))))))
def ann_flash_TimesAt : Ann := ⟨fun r => lookA r [(1, ([[], [0], [], [0, 1, 2], [0, 1, 2, 3], [0, 1, 2, 3, 4], [0, 1, 2, 3, 4, 5]], [[9, 11, 12, 13], [11, 12, 13], [9, 11, 12, 13], [12, 13], [13], [], []]))], fun _ => none, fun _ => [], noIt, false, fun _ => none, fun _ => none⟩
theorem ev_flash_TimesAt (J : Inv) (l : List FHit) (p0 p1 p2 : Int) (post : DV → Prop) : evFn Tryd.prog tab S24 ann_flash_TimesAt J Tryd.f69 [.t (.c (.sl 7 l.length (hitsC l))), .t (.a [.v (.int .i64 p0), .v (.int .i64 p1), .v (.int .i64 p2)])] post = vc_flash_TimesAt l p0 p1 p2 post := by kernel_rfl
theorem fit_flash_TimesAt : okFn ann_flash_TimesAt Tryd.f69 = true := by kernel_rfl
theorem lp_flash_TimesAt (J : Inv) (post : DV → Prop) : AllG J (loopsFn Tryd.prog tab S24 ann_flash_TimesAt J Tryd.f69 post) = (True) := by kernel_rfl
theorem spec_flash_TimesAt (l : List FHit) (p0 p1 p2 : Int) : vc_flash_TimesAt l p0 p1 p2 (fun r => LeD r (.tu [.a [.v (.int .i64 ((tmsV l (⟨p0, p1, p2⟩ : P3)).lo)), .v (.int .i64 ((tmsV l (⟨p0, p1, p2⟩ : P3)).hi))], .c (.v (.int .i64 (tmsE l (⟨p0, p1, p2⟩ : P3))))])) := by
 unfold vc_flash_TimesAt
 simp only [hits_listC, rgs_listC]
 refine ⟨numsP_hits l, ⟨numsP_gen [_, _], Nat.le_of_ble_eq_true rfl⟩, cond_i (fun h => ?_) (fun h => ⟨⟨numsP_hits l, ?_⟩, ⟨numsP_rgs _, ?_⟩, cond_i (fun q => ?_) (fun q => ?_)⟩)⟩
 ·have h : firstNZ [hitsE l, posE (⟨p0, p1, p2⟩ : P3)] ≠ 0 := by simpa using h
  have e : tmsE l (⟨p0, p1, p2⟩ : P3) = firstNZ [hitsE l, posE (⟨p0, p1, p2⟩ : P3)] := if_neg h
  rw [show tmsV l (⟨p0, p1, p2⟩ : P3) = ⟨0, 0⟩ from if_neg (by rw [e]; exact h), e]
  exact LeD.refl _
 ·have h := fn2 (by simpa using h)
  exact ⟨h.1, (posE_0.1 h.2).mono (by decide)⟩
 ·have h := fn2 (by simpa using h)
  have := (hitsE_ok h.1).1
  simp only [sts, List.length_map]
  omega
 all_goals
  have h : firstNZ [hitsE l, posE (⟨p0, p1, p2⟩ : P3)] = 0 := by simpa using h
  have e : tmsE l (⟨p0, p1, p2⟩ : P3) = unl (decide ((tms l (⟨p0, p1, p2⟩ : P3)).lo ≤ (tms l (⟨p0, p1, p2⟩ : P3)).hi)) 12 := if_pos h
 ·have q := of_decide_eq_true q
  have q2 : ¬ (tms l (⟨p0, p1, p2⟩ : P3)).lo ≤ (tms l (⟨p0, p1, p2⟩ : P3)).hi := by unfold tms; omega
  rw [decide_eq_false q2] at e
  rw [show tmsV l (⟨p0, p1, p2⟩ : P3) = ⟨0, 0⟩ from if_neg (by rw [e]; decide), e]
  exact LeD.refl _
 ·have q := of_decide_eq_false q
  have q2 : (tms l (⟨p0, p1, p2⟩ : P3)).lo ≤ (tms l (⟨p0, p1, p2⟩ : P3)).hi := by unfold tms; omega
  rw [decide_eq_true q2] at e
  rw [show tmsV l (⟨p0, p1, p2⟩ : P3) = tms l (⟨p0, p1, p2⟩ : P3) from if_pos e, e]
  exact LeD.refl _
def con_flash_TimesAt : Con := fun args => match args with
 | [.t (.c (.sl 7 n_l c_l)), .t (.a [.v (.int .i64 p0), .v (.int .i64 p1), .v (.int .i64 p2)])] => some (.tu [.a [.v (.int .i64 ((tmsV (listC n_l mkHit c_l) (⟨p0, p1, p2⟩ : P3)).lo)), .v (.int .i64 ((tmsV (listC n_l mkHit c_l) (⟨p0, p1, p2⟩ : P3)).hi))], .c (.v (.int .i64 (tmsE (listC n_l mkHit c_l) (⟨p0, p1, p2⟩ : P3))))], some (numsP 7 n_l c_l), false)
 | _ => none
theorem ok_flash_TimesAt : Ok Tryd.prog 69 con_flash_TimesAt := by
 refine Ok.fn (ann := ann_flash_TimesAt) mixed tabOK VS24 ValidIt.no (fn := Tryd.f69) (by kernel_rfl) (by kernel_rfl) fit_flash_TimesAt fun args r pre fresh h hp => ?_
 unfold con_flash_TimesAt at h
 split at h
 ·rename_i n_l c_l p0 p1 p2
  cases h
  have hp0 := hp
  refine ⟨rfl, fun _ _ _ => False, [.t (.c (.sl 7 ((listC n_l mkHit c_l).length) (hitsC (listC n_l mkHit c_l)))), .t (.a [.v (.int .i64 p0), .v (.int .i64 p1), .v (.int .i64 p2)])], ?_, Nat.le_of_ble_eq_true (by kernel_rfl), ?_, ?_⟩
  ·exact (LeA_cons (leT_c ((leL_FHit hp0))) (LeA_cons (LeD.refl _) LeA_nil))
  ·rw [ev_flash_TimesAt]; exact spec_flash_TimesAt (listC n_l mkHit c_l) p0 p1 p2
  ·rw [lp_flash_TimesAt]; trivial
 ·cases h
def S25 : Sum := addS S24 69 con_flash_TimesAt
theorem VS25 : Valid Tryd.prog S25 := Valid.add VS24 ok_flash_TimesAt
end Go.Proofs.YtmhgjlapkhdlmaaDoor
set_option linter.unusedVariables false
set_option linter.unusedSimpArgs false
namespace Go.Proofs.YtmhgjlapkhdlmaaDoor
open Go.RowKit Ev
def mk_flash_open_0 (l : List FHit) (g0 g1 g2 g3 g4 : Int) (v0_0 : List (List CV)) (v0_1 : List (List CV)) (v0_2 : Int) : DS := ⟨[some (.t (.c (.sl 7 l.length (hitsC l)))), none, none, some (.t (.c (.p 3 0))), some (.t (.c (.p 4 0))), none, none, some (.t (.c (.p 7 0))), none, none, none, none, none, none, none, none, none, none, none, none, none, none, none, some (.t (.c (.v (.int .i64 (((⟨⟨g0, g1, g2⟩, g3, g4⟩ : Lat)).sz))))), some (.t (.c (.v (.int .i64 v0_2)))), none, none, none, none, none, none, none, none, none, none, none, none, none, none], [some (.gen 178 1 v0_0), some (.gen 178 1 v0_1), none, some (.box 26 [.v (.int .i64 g0), .v (.int .i64 g1), .v (.int .i64 g2), .v (.int .i64 g3), .v (.int .i64 g4)]), some (.box 183 [.v (.slice none 0 0), .v (.int .i64 0), .v (.int .i64 0), .v (.int .i64 0), .v (.int .i64 0), .v (.int .i64 0), .os 0]), none, none, some (.box 183 [.sl 7 l.length (hitsC l), .v (.int .i64 g0), .v (.int .i64 g1), .v (.int .i64 g2), .v (.int .i64 g3), .v (.int .i64 g4), .os 1]), none, none, none, none, none, none, none, none, none, none, none, none, none, none, none, none, none, none, none, none, none, none, none, none, none, none, none, none, none, none, none]⟩
def vc_flash_open (J : Inv) (l : List FHit) (g0 g1 g2 g3 g4 : Int) (post : DV → Prop) : Prop := (numsP 7 l.length (hitsC l)) ∧ ((numsP 1 2 (genC [[.v (.int .i64 (hitsE (listC l.length mkHit (hitsC l))))], [.v (.int .i64 (latE (⟨⟨g0, g1, g2⟩, g3, g4⟩ : Lat)))]]) ∧ (([(hitsE (listC l.length mkHit (hitsC l))), (latE (⟨⟨g0, g1, g2⟩, g3, g4⟩ : Lat))] : List Int)).length ≤ 100) ∧ (cond ((firstNZ ([(hitsE (listC l.length mkHit (hitsC l))), (latE (⟨⟨g0, g1, g2⟩, g3, g4⟩ : Lat))] : List Int)) != (0 : Int)) (post (.tu [.a [.v (.slice none 0 0), .v (.int .i64 0), .v (.int .i64 0), .v (.int .i64 0), .v (.int .i64 0), .v (.int .i64 0), .v (.slice none 0 0)], .c (.v (.int .i64 (firstNZ ([(hitsE (listC l.length mkHit (hitsC l))), (latE (⟨⟨g0, g1, g2⟩, g3, g4⟩ : Lat))] : List Int))))])) ((latE (⟨⟨g0, g1, g2⟩, g3, g4⟩ : Lat) = 0) ∧ (∃ n, J 0 (n :: []) (mk_flash_open_0 l g0 g1 g2 g3 g4 ([]) ([]) 0)))))
def ann_flash_open : Ann := ⟨fun r => lookA r [(1, ([[], [0], [], [0, 1, 2], [0, 1, 2, 3], [0, 1, 2, 3, 4], [0, 1, 2, 3, 4, 5]], [[10, 12, 13, 14], [12, 13, 14], [10, 12, 13, 14], [13, 14], [14], [], []])), (8, ([[], [0], [], [], [], [3, 4], [2, 3, 4, 5], [2, 3, 4, 5, 6], [0, 1, 2, 3, 4, 5, 6, 7], [0, 1, 2, 3, 4, 5, 6, 7, 8], [0, 1, 2, 3, 4, 5, 6, 7, 8, 9]], [[32, 33, 34], [32, 33, 34], [32, 33, 34], [32, 33, 34], [32, 33, 34], [33, 34], [34], [], [], [], []]))], fun b => lookA b [(0, (none, some ⟨[0, 3, 4, 7, 23, 24], [3, 4, 7], []⟩))], fun b => (lookA b [(0, [(4, 6, 0, .gen 178 1 []), (7, 6, 1, .gen 178 1 [])])]).getD [], noIt, false, fun _ => none, fun _ => none⟩
theorem ev_flash_open (J : Inv) (l : List FHit) (g0 g1 g2 g3 g4 : Int) (post : DV → Prop) : evFn Tryd.prog tab S25 ann_flash_open J Tryd.f128 [.t (.c (.sl 7 l.length (hitsC l))), .t (.a [.v (.int .i64 g0), .v (.int .i64 g1), .v (.int .i64 g2), .v (.int .i64 g3), .v (.int .i64 g4)])] post = vc_flash_open J l g0 g1 g2 g3 g4 post := by kernel_rfl
theorem fit_flash_open : okFn ann_flash_open Tryd.f128 = true := by kernel_rfl
def rd_flash_open_0 (J : Inv) (l : List FHit) (g0 g1 g2 g3 g4 : Int) (v0_0 : List (List CV)) (v0_1 : List (List CV)) (v0_2 : Int) (nn0 : Nat) (post : DV → Prop) : Prop := cond (decide (v0_2 < (((⟨⟨g0, g1, g2⟩, g3, g4⟩ : Lat)).sz))) ((latE (⟨⟨g0, g1, g2⟩, g3, g4⟩ : Lat) = 0 ∧ 0 ≤ v0_2 ∧ v0_2 < ((⟨⟨g0, g1, g2⟩, g3, g4⟩ : Lat)).sz) ∧ ((numsP 7 l.length (hitsC l) ∧ hitsE (listC l.length mkHit (hitsC l)) = 0 ∧ ((posAt (⟨⟨g0, g1, g2⟩, g3, g4⟩ : Lat) v0_2)).bd 15000) ∧ ((roomP 24 (v0_1.length + ([[.sl 2 ((sts (listC l.length mkHit (hitsC l)) (posAt (⟨⟨g0, g1, g2⟩, g3, g4⟩ : Lat) v0_2)).length) (rgsC (sts (listC l.length mkHit (hitsC l)) (posAt (⟨⟨g0, g1, g2⟩, g3, g4⟩ : Lat) v0_2)))]] : List (List CV)).length)) ∧ (lt (IntKind.i64.wrap (v0_2 + (1 : Int))) fun x1 => J 0 (nn0 :: []) (mk_flash_open_0 l g0 g1 g2 g3 g4 v0_0 (v0_1 ++ ([[.sl 2 ((sts (listC l.length mkHit (hitsC l)) (posAt (⟨⟨g0, g1, g2⟩, g3, g4⟩ : Lat) v0_2)).length) (rgsC (sts (listC l.length mkHit (hitsC l)) (posAt (⟨⟨g0, g1, g2⟩, g3, g4⟩ : Lat) v0_2)))]] : List (List CV))) x1))))) (post (.tu [.a [.sl 7 l.length (hitsC l), .v (.int .i64 g0), .v (.int .i64 g1), .v (.int .i64 g2), .v (.int .i64 g3), .v (.int .i64 g4), .sl 1 v0_1.length (genC v0_1)], .c (.v (.int .i64 0))]))
theorem er_flash_open_0 (J : Inv) (l : List FHit) (g0 g1 g2 g3 g4 : Int) (v0_0 : List (List CV)) (v0_1 : List (List CV)) (v0_2 : Int) (nn0 : Nat) (post : DV → Prop) : round Tryd.prog tab S25 ann_flash_open J Tryd.f128 post 0 (nn0 :: []) (mk_flash_open_0 l g0 g1 g2 g3 g4 v0_0 v0_1 v0_2) = rd_flash_open_0 J l g0 g1 g2 g3 g4 v0_0 v0_1 v0_2 nn0 post := by kernel_rfl
theorem lp_flash_open (J : Inv) (post : DV → Prop) : AllG J (loopsFn Tryd.prog tab S25 ann_flash_open J Tryd.f128 post) = (((∀ F s, ¬ J 0 (0 :: F) s) ∧ ∀ n F s, J 0 ((n + 1) :: F) s → round Tryd.prog tab S25 ann_flash_open J Tryd.f128 post 0 (n :: F) s) ∧ True) := by kernel_rfl
def J_flash_open (l : List FHit) (g0 g1 g2 g3 g4 : Int) : Inv := fun b F s => match b, F with
 | 0, [nn0] => ∃ (v0_0 : List (List CV)) (v0_1 : List (List CV)) (v0_2 : Int), s = mk_flash_open_0 l g0 g1 g2 g3 g4 v0_0 v0_1 v0_2 ∧ (bothE l (⟨⟨g0, g1, g2⟩, g3, g4⟩ : Lat) = 0 ∧ 0 ≤ v0_2 ∧ v0_2 ≤ (⟨⟨g0, g1, g2⟩, g3, g4⟩ : Lat).sz ∧ (nn0 : Int) + v0_2 = (⟨⟨g0, g1, g2⟩, g3, g4⟩ : Lat).sz + 1 ∧ v0_1 = ((List.range v0_2.toNat).map fun k : Nat => sts l (posAt (⟨⟨g0, g1, g2⟩, g3, g4⟩ : Lat) k)).map rlCv)
 | _, _ => False
set_option maxHeartbeats 8000000 in
set_option maxRecDepth 100000 in
theorem rnd_flash_open_0 (l : List FHit) (g0 g1 g2 g3 g4 : Int) (v0_0 : List (List CV)) (v0_1 : List (List CV)) (v0_2 : Int) (nn0 : Nat) (hi : bothE l (⟨⟨g0, g1, g2⟩, g3, g4⟩ : Lat) = 0 ∧ 0 ≤ v0_2 ∧ v0_2 ≤ (⟨⟨g0, g1, g2⟩, g3, g4⟩ : Lat).sz ∧ ((nn0 + 1) : Int) + v0_2 = (⟨⟨g0, g1, g2⟩, g3, g4⟩ : Lat).sz + 1 ∧ v0_1 = ((List.range v0_2.toNat).map fun k : Nat => sts l (posAt (⟨⟨g0, g1, g2⟩, g3, g4⟩ : Lat) k)).map rlCv) : rd_flash_open_0 (J_flash_open l g0 g1 g2 g3 g4) l g0 g1 g2 g3 g4 v0_0 v0_1 v0_2 nn0 (fun r => LeD r (.tu [.a [.sl 7 ((opnH l (⟨⟨g0, g1, g2⟩, g3, g4⟩ : Lat)).length) (hitsC (opnH l (⟨⟨g0, g1, g2⟩, g3, g4⟩ : Lat))), .v (.int .i64 ((opnX l (⟨⟨g0, g1, g2⟩, g3, g4⟩ : Lat)).o.x)), .v (.int .i64 ((opnX l (⟨⟨g0, g1, g2⟩, g3, g4⟩ : Lat)).o.y)), .v (.int .i64 ((opnX l (⟨⟨g0, g1, g2⟩, g3, g4⟩ : Lat)).o.z)), .v (.int .i64 ((opnX l (⟨⟨g0, g1, g2⟩, g3, g4⟩ : Lat)).st)), .v (.int .i64 ((opnX l (⟨⟨g0, g1, g2⟩, g3, g4⟩ : Lat)).n)), .sl 1 ((opnS l (⟨⟨g0, g1, g2⟩, g3, g4⟩ : Lat)).length) (rlsC (opnS l (⟨⟨g0, g1, g2⟩, g3, g4⟩ : Lat)))], .c (.v (.int .i64 (bothE l (⟨⟨g0, g1, g2⟩, g3, g4⟩ : Lat))))])) := by
 obtain ⟨q, i1, i2, i3, i4⟩ := hi
 obtain ⟨k, rfl⟩ : ∃ k : Nat, v0_2 = k := ⟨v0_2.toNat, by omega⟩
 have hk : (k : Int).toNat = k := rfl
 rw [hk] at i4
 have hl := (fn2 q).2
 have hz := sz_rg hl
 unfold rd_flash_open_0
 rw [hits_listC]
 refine cond_i (fun h => ?_) (fun h => ?_)
 ·have h := of_decide_eq_true h
  refine ⟨⟨hl, i1, h⟩, ⟨numsP_hits l, (fn2 q).1, posAt_bd hl i1 h⟩, ?_, lt_i fun x hx => ?_⟩
  ·rw [i4]; unfold roomP maxLen; simp; omega
  ·rw [wi (by omega)] at hx
   subst hx
   refine ⟨_, _, _, rfl, q, by omega, by omega, by omega, ?_⟩
   rw [show ((k : Int) + 1).toNat = k + 1 by omega, i4, List.range_succ, List.map_append, List.map_append]; rfl
 ·have h := of_decide_eq_false h
  have e : k = (⟨⟨g0, g1, g2⟩, g3, g4⟩ : Lat).sz.toNat := by omega
  rw [show opnH l (⟨⟨g0, g1, g2⟩, g3, g4⟩ : Lat) = l from if_pos q, show opnX l (⟨⟨g0, g1, g2⟩, g3, g4⟩ : Lat) = (⟨⟨g0, g1, g2⟩, g3, g4⟩ : Lat) from if_pos q, q]
  have e2 : opnS l (⟨⟨g0, g1, g2⟩, g3, g4⟩ : Lat) = (List.range k).map fun k : Nat => sts l (posAt (⟨⟨g0, g1, g2⟩, g3, g4⟩ : Lat) k) := by rw [show opnS l (⟨⟨g0, g1, g2⟩, g3, g4⟩ : Lat) = (allP (⟨⟨g0, g1, g2⟩, g3, g4⟩ : Lat)).map (sts l) from if_pos q, e, allP, List.map_map]; rfl
  rw [e2, i4]
  exact le_tu (leT_a (LeCs.cons (LeC1.refl _) (LeCs.cons (LeC1.refl _) (LeCs.cons (LeC1.refl _) (LeCs.cons (LeC1.refl _) (LeCs.cons (LeC1.refl _) (LeCs.cons (LeC1.refl _) (LeCs.cons (leC_rls _) LeCs.nil)))))))) (LeD.refl _)
theorem zero_flash_open_0 (l : List FHit) (g0 g1 g2 g3 g4 : Int) (v0_0 : List (List CV)) (v0_1 : List (List CV)) (v0_2 : Int)  (hi : bothE l (⟨⟨g0, g1, g2⟩, g3, g4⟩ : Lat) = 0 ∧ 0 ≤ v0_2 ∧ v0_2 ≤ (⟨⟨g0, g1, g2⟩, g3, g4⟩ : Lat).sz ∧ (0 : Int) + v0_2 = (⟨⟨g0, g1, g2⟩, g3, g4⟩ : Lat).sz + 1 ∧ v0_1 = ((List.range v0_2.toNat).map fun k : Nat => sts l (posAt (⟨⟨g0, g1, g2⟩, g3, g4⟩ : Lat) k)).map rlCv) : False := by
 omega
set_option maxHeartbeats 8000000 in
set_option maxRecDepth 100000 in
theorem spec_flash_open (l : List FHit) (g0 g1 g2 g3 g4 : Int) : vc_flash_open (J_flash_open l g0 g1 g2 g3 g4) l g0 g1 g2 g3 g4 (fun r => LeD r (.tu [.a [.sl 7 ((opnH l (⟨⟨g0, g1, g2⟩, g3, g4⟩ : Lat)).length) (hitsC (opnH l (⟨⟨g0, g1, g2⟩, g3, g4⟩ : Lat))), .v (.int .i64 ((opnX l (⟨⟨g0, g1, g2⟩, g3, g4⟩ : Lat)).o.x)), .v (.int .i64 ((opnX l (⟨⟨g0, g1, g2⟩, g3, g4⟩ : Lat)).o.y)), .v (.int .i64 ((opnX l (⟨⟨g0, g1, g2⟩, g3, g4⟩ : Lat)).o.z)), .v (.int .i64 ((opnX l (⟨⟨g0, g1, g2⟩, g3, g4⟩ : Lat)).st)), .v (.int .i64 ((opnX l (⟨⟨g0, g1, g2⟩, g3, g4⟩ : Lat)).n)), .sl 1 ((opnS l (⟨⟨g0, g1, g2⟩, g3, g4⟩ : Lat)).length) (rlsC (opnS l (⟨⟨g0, g1, g2⟩, g3, g4⟩ : Lat)))], .c (.v (.int .i64 (bothE l (⟨⟨g0, g1, g2⟩, g3, g4⟩ : Lat))))])) := by
 unfold vc_flash_open
 rw [hits_listC]
 refine ⟨numsP_hits l, ⟨numsP_gen [_, _], Nat.le_of_ble_eq_true rfl⟩, cond_i (fun h => ?_) (fun h => ?_)⟩
 ·have h : bothE l (⟨⟨g0, g1, g2⟩, g3, g4⟩ : Lat) ≠ 0 := by unfold bothE; simpa using h
  rw [show opnH l (⟨⟨g0, g1, g2⟩, g3, g4⟩ : Lat) = [] from if_neg h, show opnX l (⟨⟨g0, g1, g2⟩, g3, g4⟩ : Lat) = Lat.zero from if_neg h, show opnS l (⟨⟨g0, g1, g2⟩, g3, g4⟩ : Lat) = [] from if_neg h]
  exact le_tu (leT_a (LeCs.cons leC_nil (LeCs.cons (LeC1.refl _) (LeCs.cons (LeC1.refl _) (LeCs.cons (LeC1.refl _) (LeCs.cons (LeC1.refl _) (LeCs.cons (LeC1.refl _) (LeCs.cons leC_nil LeCs.nil)))))))) (LeD.refl _)
 ·have h : bothE l (⟨⟨g0, g1, g2⟩, g3, g4⟩ : Lat) = 0 := by unfold bothE; simpa using h
  have hz := sz_rg (fn2 h).2
  exact ⟨(fn2 h).2, (⟨⟨g0, g1, g2⟩, g3, g4⟩ : Lat).sz.toNat + 1, [], [], 0, rfl, h, by omega, by omega, by omega, rfl⟩
theorem all_flash_open (l : List FHit) (g0 g1 g2 g3 g4 : Int) : AllG (J_flash_open l g0 g1 g2 g3 g4) (loopsFn Tryd.prog tab S25 ann_flash_open (J_flash_open l g0 g1 g2 g3 g4) Tryd.f128 (fun r => LeD r (.tu [.a [.sl 7 ((opnH l (⟨⟨g0, g1, g2⟩, g3, g4⟩ : Lat)).length) (hitsC (opnH l (⟨⟨g0, g1, g2⟩, g3, g4⟩ : Lat))), .v (.int .i64 ((opnX l (⟨⟨g0, g1, g2⟩, g3, g4⟩ : Lat)).o.x)), .v (.int .i64 ((opnX l (⟨⟨g0, g1, g2⟩, g3, g4⟩ : Lat)).o.y)), .v (.int .i64 ((opnX l (⟨⟨g0, g1, g2⟩, g3, g4⟩ : Lat)).o.z)), .v (.int .i64 ((opnX l (⟨⟨g0, g1, g2⟩, g3, g4⟩ : Lat)).st)), .v (.int .i64 ((opnX l (⟨⟨g0, g1, g2⟩, g3, g4⟩ : Lat)).n)), .sl 1 ((opnS l (⟨⟨g0, g1, g2⟩, g3, g4⟩ : Lat)).length) (rlsC (opnS l (⟨⟨g0, g1, g2⟩, g3, g4⟩ : Lat)))], .c (.v (.int .i64 (bothE l (⟨⟨g0, g1, g2⟩, g3, g4⟩ : Lat))))]))) := by
 rw [lp_flash_open]
 refine ⟨⟨?_, ?_⟩, trivial⟩
 ·intro F s h
  obtain _ | ⟨g, F⟩ := F
  case cons => exact h.elim
  obtain ⟨w0, w1, w2, rfl, hi⟩ := h
  exact zero_flash_open_0 l g0 g1 g2 g3 g4 w0 w1 w2 hi
 ·intro n F s h
  obtain _ | ⟨g, F⟩ := F
  case cons => exact h.elim
  obtain ⟨w0, w1, w2, rfl, hi⟩ := h
  rw [er_flash_open_0]
  exact rnd_flash_open_0 l g0 g1 g2 g3 g4 _ _ _ _ hi
def con_flash_open : Con := fun args => match args with
 | [.t (.c (.sl 7 n_l c_l)), .t (.a [.v (.int .i64 g0), .v (.int .i64 g1), .v (.int .i64 g2), .v (.int .i64 g3), .v (.int .i64 g4)])] => some (.tu [.a [.sl 7 ((opnH (listC n_l mkHit c_l) (⟨⟨g0, g1, g2⟩, g3, g4⟩ : Lat)).length) (hitsC (opnH (listC n_l mkHit c_l) (⟨⟨g0, g1, g2⟩, g3, g4⟩ : Lat))), .v (.int .i64 ((opnX (listC n_l mkHit c_l) (⟨⟨g0, g1, g2⟩, g3, g4⟩ : Lat)).o.x)), .v (.int .i64 ((opnX (listC n_l mkHit c_l) (⟨⟨g0, g1, g2⟩, g3, g4⟩ : Lat)).o.y)), .v (.int .i64 ((opnX (listC n_l mkHit c_l) (⟨⟨g0, g1, g2⟩, g3, g4⟩ : Lat)).o.z)), .v (.int .i64 ((opnX (listC n_l mkHit c_l) (⟨⟨g0, g1, g2⟩, g3, g4⟩ : Lat)).st)), .v (.int .i64 ((opnX (listC n_l mkHit c_l) (⟨⟨g0, g1, g2⟩, g3, g4⟩ : Lat)).n)), .sl 1 ((opnS (listC n_l mkHit c_l) (⟨⟨g0, g1, g2⟩, g3, g4⟩ : Lat)).length) (rlsC (opnS (listC n_l mkHit c_l) (⟨⟨g0, g1, g2⟩, g3, g4⟩ : Lat)))], .c (.v (.int .i64 (bothE (listC n_l mkHit c_l) (⟨⟨g0, g1, g2⟩, g3, g4⟩ : Lat))))], some (numsP 7 n_l c_l), false)
 | _ => none
theorem ok_flash_open : Ok Tryd.prog 128 con_flash_open := by
 refine Ok.fn (ann := ann_flash_open) mixed tabOK VS25 ValidIt.no (fn := Tryd.f128) (by kernel_rfl) (by kernel_rfl) fit_flash_open fun args r pre fresh h hp => ?_
 unfold con_flash_open at h
 split at h
 ·rename_i n_l c_l g0 g1 g2 g3 g4
  cases h
  have hp0 := hp
  refine ⟨rfl, J_flash_open (listC n_l mkHit c_l) g0 g1 g2 g3 g4, [.t (.c (.sl 7 ((listC n_l mkHit c_l).length) (hitsC (listC n_l mkHit c_l)))), .t (.a [.v (.int .i64 g0), .v (.int .i64 g1), .v (.int .i64 g2), .v (.int .i64 g3), .v (.int .i64 g4)])], ?_, Nat.le_of_ble_eq_true (by kernel_rfl), ?_, ?_⟩
  ·exact (LeA_cons (leT_c ((leL_FHit hp0))) (LeA_cons (LeD.refl _) LeA_nil))
  ·rw [ev_flash_open]; exact spec_flash_open (listC n_l mkHit c_l) g0 g1 g2 g3 g4
  ·exact all_flash_open (listC n_l mkHit c_l) g0 g1 g2 g3 g4
 ·cases h
def S26 : Sum := addS S25 128 con_flash_open
theorem VS26 : Valid Tryd.prog S26 := Valid.add VS25 ok_flash_open
def vc_flash_has (r0 r1 : Int) (a : Int) (post : DV → Prop) : Prop := post (.t (.c (.v (.bool (inB a r0 r1)))))
def ann_flash_has : Ann := ⟨fun _ => none, fun _ => none, fun _ => [], noIt, false, fun _ => none, fun _ => none⟩
theorem ev_flash_has (J : Inv) (r0 r1 : Int) (a : Int) (post : DV → Prop) : evFn Tryd.prog tab S26 ann_flash_has J Tryd.f140 [.t (.a [.v (.int .i64 r0), .v (.int .i64 r1)]), .t (.c (.v (.int .i64 a)))] post = vc_flash_has r0 r1 a post := by kernel_rfl
theorem fit_flash_has : okFn ann_flash_has Tryd.f140 = true := by kernel_rfl
theorem lp_flash_has (J : Inv) (post : DV → Prop) : AllG J (loopsFn Tryd.prog tab S26 ann_flash_has J Tryd.f140 post) = (True) := by kernel_rfl
theorem spec_flash_has (r0 r1 : Int) (a : Int) : vc_flash_has r0 r1 a (fun r => LeD r (.t (.c (.v (.bool (inB a r0 r1)))))) := by
 exact LeD.refl _
def con_flash_has : Con := fun args => match args with
 | [.t (.a [.v (.int .i64 r0), .v (.int .i64 r1)]), .t (.c (.v (.int .i64 a)))] => some (.t (.c (.v (.bool (inB a r0 r1)))), none, false)
 | _ => none
theorem ok_flash_has : Ok Tryd.prog 140 con_flash_has := by
 refine Ok.fn (ann := ann_flash_has) mixed tabOK VS26 ValidIt.no (fn := Tryd.f140) (by kernel_rfl) (by kernel_rfl) fit_flash_has fun args r pre fresh h hp => ?_
 unfold con_flash_has at h
 split at h
 ·rename_i r0 r1 a
  cases h
  refine ⟨rfl, fun _ _ _ => False, _, LeA.refl _, Nat.le_of_ble_eq_true (by kernel_rfl), ?_, ?_⟩
  ·rw [ev_flash_has]; exact spec_flash_has r0 r1 a
  ·rw [lp_flash_has]; trivial
 ·cases h
def S27 : Sum := addS S26 140 con_flash_has
theorem VS27 : Valid Tryd.prog S27 := Valid.add VS26 ok_flash_has
def vc_flash_CheckPair_1 (a : Int) (post : DV → Prop) : Prop := (0 ≤ (2000000000 : Int) ∧ (2000000000 : Int) ≤ 1000000000000) ∧ (post (.t (.c (.v (.bool (inB a (-(2000000000 : Int)) (2000000000 : Int)))))))
def ann_flash_CheckPair_1 : Ann := ⟨fun _ => none, fun _ => none, fun _ => [], noIt, false, fun _ => none, fun _ => none⟩
theorem ev_flash_CheckPair_1 (J : Inv) (a : Int) (post : DV → Prop) : evFn Tryd.prog tab S27 ann_flash_CheckPair_1 J Tryd.f137 [.t (.c (.v (.int .i64 a)))] post = vc_flash_CheckPair_1 a post := by kernel_rfl
theorem fit_flash_CheckPair_1 : okFn ann_flash_CheckPair_1 Tryd.f137 = true := by kernel_rfl
theorem lp_flash_CheckPair_1 (J : Inv) (post : DV → Prop) : AllG J (loopsFn Tryd.prog tab S27 ann_flash_CheckPair_1 J Tryd.f137 post) = (True) := by kernel_rfl
theorem spec_flash_CheckPair_1 (a : Int) : vc_flash_CheckPair_1 a (fun r => LeD r (.t (.c (.v (.bool (inB a (-2000000000) 2000000000)))))) := by
 exact ⟨by decide, LeD.refl _⟩
def con_flash_CheckPair_1 : Con := fun args => match args with
 | [.t (.c (.v (.int .i64 a)))] => some (.t (.c (.v (.bool (inB a (-2000000000) 2000000000)))), none, false)
 | _ => none
theorem ok_flash_CheckPair_1 : Ok Tryd.prog 137 con_flash_CheckPair_1 := by
 refine Ok.fn (ann := ann_flash_CheckPair_1) mixed tabOK VS27 ValidIt.no (fn := Tryd.f137) (by kernel_rfl) (by kernel_rfl) fit_flash_CheckPair_1 fun args r pre fresh h hp => ?_
 unfold con_flash_CheckPair_1 at h
 split at h
 ·rename_i a
  cases h
  refine ⟨rfl, fun _ _ _ => False, _, LeA.refl _, Nat.le_of_ble_eq_true (by kernel_rfl), ?_, ?_⟩
  ·rw [ev_flash_CheckPair_1]; exact spec_flash_CheckPair_1 a
  ·rw [lp_flash_CheckPair_1]; trivial
 ·cases h
def S28 : Sum := addS S27 137 con_flash_CheckPair_1
theorem VS28 : Valid Tryd.prog S28 := Valid.add VS27 ok_flash_CheckPair_1
def vc_flash_CheckPair_2 (a : Int) (g0 g1 g2 g3 g4 : Int) (post : DV → Prop) : Prop := (latE (⟨⟨g0, g1, g2⟩, g3, g4⟩ : Lat) = 0) ∧ (lt (IntKind.i64.wrap ((((⟨⟨g0, g1, g2⟩, g3, g4⟩ : Lat)).sz) - (1 : Int))) fun x1 => post (.t (.c (.v (.bool (inB a (0 : Int) x1))))))
def ann_flash_CheckPair_2 : Ann := ⟨fun _ => none, fun _ => none, fun _ => [], noIt, false, fun _ => none, fun _ => none⟩
theorem ev_flash_CheckPair_2 (J : Inv) (a : Int) (g0 g1 g2 g3 g4 : Int) (post : DV → Prop) : evFn Tryd.prog tab S28 ann_flash_CheckPair_2 J Tryd.f139 [.t (.c (.v (.int .i64 a))), .t (.c (.px 5 0 (boxC [.v (.int .i64 g0), .v (.int .i64 g1), .v (.int .i64 g2), .v (.int .i64 g3), .v (.int .i64 g4)])))] post = vc_flash_CheckPair_2 a g0 g1 g2 g3 g4 post := by kernel_rfl
theorem fit_flash_CheckPair_2 : okFn ann_flash_CheckPair_2 Tryd.f139 = true := by kernel_rfl
theorem lp_flash_CheckPair_2 (J : Inv) (post : DV → Prop) : AllG J (loopsFn Tryd.prog tab S28 ann_flash_CheckPair_2 J Tryd.f139 post) = (True) := by kernel_rfl
theorem spec_flash_CheckPair_2 (a : Int) (g0 g1 g2 g3 g4 : Int) (hp : latE (⟨⟨g0, g1, g2⟩, g3, g4⟩ : Lat) = 0) : vc_flash_CheckPair_2 a g0 g1 g2 g3 g4 (fun r => LeD r (.t (.c (.v (.bool (inB a 0 (((⟨⟨g0, g1, g2⟩, g3, g4⟩ : Lat)).sz - 1))))))) := by
 unfold vc_flash_CheckPair_2
 refine ⟨hp, lt_i fun x hx => leB ?_⟩
 have hz := sz_rg hp
 rw [wi (by omega)] at hx
 rw [← hx]
def con_flash_CheckPair_2 : Con := fun args => match args with
 | [.t (.c (.v (.int .i64 a))), .t (.c (.px 5 0 c_q))] => some (.t (.c (.v (.bool (inB a 0 (((⟨⟨(cvInt (c_q 0)), (cvInt (c_q 1)), (cvInt (c_q 2))⟩, (cvInt (c_q 3)), (cvInt (c_q 4))⟩ : Lat)).sz - 1))))), some (intsB [0, 1, 2, 3, 4] c_q = true ∧ latE (⟨⟨(cvInt (c_q 0)), (cvInt (c_q 1)), (cvInt (c_q 2))⟩, (cvInt (c_q 3)), (cvInt (c_q 4))⟩ : Lat) = 0), false)
 | _ => none
theorem ok_flash_CheckPair_2 : Ok Tryd.prog 139 con_flash_CheckPair_2 := by
 refine Ok.fn (ann := ann_flash_CheckPair_2) mixed tabOK VS28 ValidIt.no (fn := Tryd.f139) (by kernel_rfl) (by kernel_rfl) fit_flash_CheckPair_2 fun args r pre fresh h hp => ?_
 unfold con_flash_CheckPair_2 at h
 split at h
 ·rename_i a c_q
  cases h
  obtain ⟨hp0, hp⟩ := hp
  refine ⟨rfl, fun _ _ _ => False, [.t (.c (.v (.int .i64 a))), .t (.c (.px 5 0 (boxC [.v (.int .i64 (cvInt (c_q 0))), .v (.int .i64 (cvInt (c_q 1))), .v (.int .i64 (cvInt (c_q 2))), .v (.int .i64 (cvInt (c_q 3))), .v (.int .i64 (cvInt (c_q 4)))])))], ?_, Nat.le_of_ble_eq_true (by kernel_rfl), ?_, ?_⟩
  ·exact (LeA_cons (LeD.refl _) (LeA_cons (leT_c (leC_p (LeCs.cons (leC_i (intsB_get hp0 0 (by decide))) (LeCs.cons (leC_i (intsB_get hp0 1 (by decide))) (LeCs.cons (leC_i (intsB_get hp0 2 (by decide))) (LeCs.cons (leC_i (intsB_get hp0 3 (by decide))) (LeCs.cons (leC_i (intsB_get hp0 4 (by decide))) LeCs.nil))))))) LeA_nil))
  ·rw [ev_flash_CheckPair_2]; exact spec_flash_CheckPair_2 a (cvInt (c_q 0)) (cvInt (c_q 1)) (cvInt (c_q 2)) (cvInt (c_q 3)) (cvInt (c_q 4)) hp
  ·rw [lp_flash_CheckPair_2]; trivial
 ·cases h
def S29 : Sum := addS S28 139 con_flash_CheckPair_2
theorem VS29 : Valid Tryd.prog S29 := Valid.add VS28 ok_flash_CheckPair_2
def mk_flash_CheckPair_0 (l : List FHit) (g0 g1 g2 g3 g4 : Int) (qa : Int) (qb : Int) (qs : Int) (qt : Int) (v0_0 : Int) (v0_1 : Int) (v0_2 : Int) : DS := ⟨[none, none, none, none, none, some (.t (.c (.p 5 0))), none, none, some (.t (.c (.p 8 0))), none, none, none, some (.t (.c (.v (.int .i64 v0_0)))), some (.t (.c (.v (.int .i64 v0_1)))), none, none, none, none, none, none, none, none, none, none, none, none, none, none, none, none, none, none, none, none, none, none, none, none, none, none, none, none, none, none, none, none, none, none, none, none, none, none, none, none, none, none, none, none, none, none, some (.t (.c (.v (.int .i64 ((l.length : Nat) : Int))))), some (.t (.c (.v (.int .i64 v0_2)))), none, none, none, none, none, none, none, none, none, none, none, none, none, none, none, none, none, none, none, none, none, none, none, none, none, none, none, none, none, none, none, none, none, none, none, none, none, none, none, none, none, none, none, none, none, none, none], [none, none, none, none, none, some (.box 129 [.v (.int .i64 qa), .v (.int .i64 qb), .v (.int .i64 qs), .v (.int .i64 qt)]), none, none, some (.box 183 [.sl 7 ((opnH (listC l.length mkHit (hitsC l)) (⟨⟨g0, g1, g2⟩, g3, g4⟩ : Lat)).length) (hitsC (opnH (listC l.length mkHit (hitsC l)) (⟨⟨g0, g1, g2⟩, g3, g4⟩ : Lat))), .v (.int .i64 ((opnX (listC l.length mkHit (hitsC l)) (⟨⟨g0, g1, g2⟩, g3, g4⟩ : Lat)).o.x)), .v (.int .i64 ((opnX (listC l.length mkHit (hitsC l)) (⟨⟨g0, g1, g2⟩, g3, g4⟩ : Lat)).o.y)), .v (.int .i64 ((opnX (listC l.length mkHit (hitsC l)) (⟨⟨g0, g1, g2⟩, g3, g4⟩ : Lat)).o.z)), .v (.int .i64 ((opnX (listC l.length mkHit (hitsC l)) (⟨⟨g0, g1, g2⟩, g3, g4⟩ : Lat)).st)), .v (.int .i64 ((opnX (listC l.length mkHit (hitsC l)) (⟨⟨g0, g1, g2⟩, g3, g4⟩ : Lat)).n)), .sl 1 ((opnS (listC l.length mkHit (hitsC l)) (⟨⟨g0, g1, g2⟩, g3, g4⟩ : Lat)).length) (rlsC (opnS (listC l.length mkHit (hitsC l)) (⟨⟨g0, g1, g2⟩, g3, g4⟩ : Lat)))]), none, none, none, none, none, none, none, none, none, none, none, none, none, none, none, none, none, none, none, none, none, none, none, none, none, none, none, none, none, none, none, none, none, none, none, none, none, none, none, none, none, none, none, none, none, none, none, none, none, none, none, none, none, none, none, none, none, none, none, none, none, none, none, none, none, none, none, none, none, none, none, none, none, none, none, none, none, none, none, none, none, none, none, none, none, none, none, none, none, none, none, none, none, none, none, none, none, none, none, none]⟩
def vc_flash_CheckPair (J : Inv) (l : List FHit) (g0 g1 g2 g3 g4 : Int) (qa : Int) (qb : Int) (qs : Int) (qt : Int) (post : DV → Prop) : Prop := (numsP 7 l.length (hitsC l)) ∧ (cond ((bothE (listC l.length mkHit (hitsC l)) (⟨⟨g0, g1, g2⟩, g3, g4⟩ : Lat)) == (0 : Int)) ((intsB [0, 1, 2, 3, 4] (boxC [.v (.int .i64 g0), .v (.int .i64 g1), .v (.int .i64 g2), .v (.int .i64 g3), .v (.int .i64 g4)]) = true ∧ latE (⟨⟨g0, g1, g2⟩, g3, g4⟩ : Lat) = 0) ∧ (cond (inB qa 0 (((⟨⟨g0, g1, g2⟩, g3, g4⟩ : Lat)).sz - 1)) ((intsB [0, 1, 2, 3, 4] (boxC [.v (.int .i64 g0), .v (.int .i64 g1), .v (.int .i64 g2), .v (.int .i64 g3), .v (.int .i64 g4)]) = true ∧ latE (⟨⟨g0, g1, g2⟩, g3, g4⟩ : Lat) = 0) ∧ (cond (inB qs (-2000000000) 2000000000) ((numsP 1 3 (genC [[.v (.int .i64 (unl (inB qb 0 (((⟨⟨g0, g1, g2⟩, g3, g4⟩ : Lat)).sz - 1)) (6 : Int)))], [.v (.int .i64 (unl (decide (qa ≤ qb)) (9 : Int)))], [.v (.int .i64 (unl (inB qt (-2000000000) 2000000000) (2 : Int)))]]) ∧ (([(unl (inB qb 0 (((⟨⟨g0, g1, g2⟩, g3, g4⟩ : Lat)).sz - 1)) (6 : Int)), (unl (decide (qa ≤ qb)) (9 : Int)), (unl (inB qt (-2000000000) 2000000000) (2 : Int))] : List Int)).length ≤ 100) ∧ (cond ((firstNZ ([(unl (inB qb 0 (((⟨⟨g0, g1, g2⟩, g3, g4⟩ : Lat)).sz - 1)) (6 : Int)), (unl (decide (qa ≤ qb)) (9 : Int)), (unl (inB qt (-2000000000) 2000000000) (2 : Int))] : List Int)) != (0 : Int)) (post (.tu [.c (.v (.int .i64 0)), .c (.v (.int .i64 (firstNZ ([(unl (inB qb 0 (((⟨⟨g0, g1, g2⟩, g3, g4⟩ : Lat)).sz - 1)) (6 : Int)), (unl (decide (qa ≤ qb)) (9 : Int)), (unl (inB qt (-2000000000) 2000000000) (2 : Int))] : List Int))))])) (∃ n, J 0 (n :: []) (mk_flash_CheckPair_0 l g0 g1 g2 g3 g4 qa qb qs qt 0 0 0)))) ((false = false) ∧ ((numsP 1 3 (genC [[.v (.int .i64 (unl (inB qb 0 (((⟨⟨g0, g1, g2⟩, g3, g4⟩ : Lat)).sz - 1)) (6 : Int)))], [.v (.int .i64 (unl (decide (qa ≤ qb)) (9 : Int)))], [.v (.int .i64 (unl false (2 : Int)))]]) ∧ (([(unl (inB qb 0 (((⟨⟨g0, g1, g2⟩, g3, g4⟩ : Lat)).sz - 1)) (6 : Int)), (unl (decide (qa ≤ qb)) (9 : Int)), (unl false (2 : Int))] : List Int)).length ≤ 100) ∧ (cond ((firstNZ ([(unl (inB qb 0 (((⟨⟨g0, g1, g2⟩, g3, g4⟩ : Lat)).sz - 1)) (6 : Int)), (unl (decide (qa ≤ qb)) (9 : Int)), (unl false (2 : Int))] : List Int)) != (0 : Int)) (post (.tu [.c (.v (.int .i64 0)), .c (.v (.int .i64 (firstNZ ([(unl (inB qb 0 (((⟨⟨g0, g1, g2⟩, g3, g4⟩ : Lat)).sz - 1)) (6 : Int)), (unl (decide (qa ≤ qb)) (9 : Int)), (unl false (2 : Int))] : List Int))))])) (∃ n, J 0 (n :: []) (mk_flash_CheckPair_0 l g0 g1 g2 g3 g4 qa qb qs qt 0 0 0))))))) ((false = false) ∧ (cond (inB qs (-2000000000) 2000000000) ((numsP 1 3 (genC [[.v (.int .i64 (unl false (6 : Int)))], [.v (.int .i64 (unl (decide (qa ≤ qb)) (9 : Int)))], [.v (.int .i64 (unl (inB qt (-2000000000) 2000000000) (2 : Int)))]]) ∧ (([(unl false (6 : Int)), (unl (decide (qa ≤ qb)) (9 : Int)), (unl (inB qt (-2000000000) 2000000000) (2 : Int))] : List Int)).length ≤ 100) ∧ (cond ((firstNZ ([(unl false (6 : Int)), (unl (decide (qa ≤ qb)) (9 : Int)), (unl (inB qt (-2000000000) 2000000000) (2 : Int))] : List Int)) != (0 : Int)) (post (.tu [.c (.v (.int .i64 0)), .c (.v (.int .i64 (firstNZ ([(unl false (6 : Int)), (unl (decide (qa ≤ qb)) (9 : Int)), (unl (inB qt (-2000000000) 2000000000) (2 : Int))] : List Int))))])) (∃ n, J 0 (n :: []) (mk_flash_CheckPair_0 l g0 g1 g2 g3 g4 qa qb qs qt 0 0 0)))) ((false = false) ∧ ((numsP 1 3 (genC [[.v (.int .i64 (unl false (6 : Int)))], [.v (.int .i64 (unl (decide (qa ≤ qb)) (9 : Int)))], [.v (.int .i64 (unl false (2 : Int)))]]) ∧ (([(unl false (6 : Int)), (unl (decide (qa ≤ qb)) (9 : Int)), (unl false (2 : Int))] : List Int)).length ≤ 100) ∧ (cond ((firstNZ ([(unl false (6 : Int)), (unl (decide (qa ≤ qb)) (9 : Int)), (unl false (2 : Int))] : List Int)) != (0 : Int)) (post (.tu [.c (.v (.int .i64 0)), .c (.v (.int .i64 (firstNZ ([(unl false (6 : Int)), (unl (decide (qa ≤ qb)) (9 : Int)), (unl false (2 : Int))] : List Int))))])) (∃ n, J 0 (n :: []) (mk_flash_CheckPair_0 l g0 g1 g2 g3 g4 qa qb qs qt 0 0 0))))))))) (cond ((bothE (listC l.length mkHit (hitsC l)) (⟨⟨g0, g1, g2⟩, g3, g4⟩ : Lat)) != (0 : Int)) (post (.tu [.c (.v (.int .i64 0)), .c (.v (.int .i64 (bothE (listC l.length mkHit (hitsC l)) (⟨⟨g0, g1, g2⟩, g3, g4⟩ : Lat))))])) (∃ n, J 0 (n :: []) (mk_flash_CheckPair_0 l g0 g1 g2 g3 g4 qa qb qs qt 0 0 0))))
def ann_flash_CheckPair : Ann := ⟨fun r => lookA r [(5, ([[], [], [1], [0, 1, 2], [0, 1, 2, 3], [0, 1, 2, 3, 4], [0, 1, 2, 3, 4], [0, 1, 2, 3, 4, 6], [0, 1, 2, 3, 4, 5, 6, 7], [0, 1, 2, 3, 4, 5, 6, 7, 8], [0, 1, 2, 3, 4, 5, 6, 7, 8, 9], [], [11], [], [13], [11, 12, 13, 14], [0, 1, 2, 3, 4, 5, 6, 7, 8, 9, 10, 11, 12, 13, 14, 15], [], [], [18], [0, 1, 2, 3, 4, 5, 6, 7, 8, 9, 10, 11, 12, 13, 14, 15, 16, 17, 18, 19], [0, 1, 2, 3, 4, 5, 6, 7, 8, 9, 10, 11, 12, 13, 14, 15, 16, 17, 18, 19, 20], [0, 1, 2, 3, 4, 5, 6, 7, 8, 9, 10, 11, 12, 13, 14, 15, 16, 17, 18, 19, 20, 21], [0, 1, 2, 3, 4, 5, 6, 7, 8, 9, 10, 11, 12, 13, 14, 15, 16, 17, 18, 19, 20, 21], [0, 1, 2, 3, 4, 5, 6, 7, 8, 9, 10, 11, 12, 13, 14, 15, 16, 17, 18, 19, 20, 21, 23], [0, 1, 2, 3, 4, 5, 6, 7, 8, 9, 10, 11, 12, 13, 14, 15, 16, 17, 18, 19, 20, 21, 22, 23, 24], [0, 1, 2, 3, 4, 5, 6, 7, 8, 9, 10, 11, 12, 13, 14, 15, 16, 17, 18, 19, 20, 21, 22, 23, 24, 25], [0, 1, 2, 3, 4, 5, 6, 7, 8, 9, 10, 11, 12, 13, 14, 15, 16, 17, 18, 19, 20, 21, 22, 23, 24, 25, 26], [0, 1, 2, 3, 4, 5, 6, 7, 8, 9, 10, 11, 12, 13, 14, 15, 16, 17, 18, 19, 20, 21, 22, 23, 24, 25, 26, 27], [0, 1, 2, 3, 4, 5, 6, 7, 8, 9, 10, 11, 12, 13, 14, 15, 16, 17, 18, 19, 20, 21, 22, 23, 24, 25, 26, 27, 28], [0, 1, 2, 3, 4, 5, 6, 7, 8, 9, 10, 11, 12, 13, 14, 15, 16, 17, 18, 19, 20, 21, 22, 23, 24, 25, 26, 27, 28, 29]], [[29, 34, 36, 42, 46, 51, 53, 54, 55], [29, 34, 36, 42, 46, 51, 53, 54, 55], [29, 34, 36, 42, 46, 51, 53, 54, 55], [34, 36, 42, 46, 51, 53, 54, 55], [34, 36, 42, 46, 51, 53, 54, 55], [34, 36, 42, 46, 51, 53, 54, 55], [34, 36, 42, 46, 51, 53, 54, 55], [34, 36, 42, 46, 51, 53, 54, 55], [36, 42, 46, 51, 53, 54, 55], [36, 42, 46, 51, 53, 54, 55], [42, 46, 51, 53, 54, 55], [29, 34, 36, 42, 46, 51, 53, 54, 55], [29, 34, 36, 42, 46, 51, 53, 54, 55], [29, 34, 36, 42, 46, 51, 53, 54, 55], [29, 34, 36, 42, 46, 51, 53, 54, 55], [29, 34, 36, 42, 46, 51, 53, 54, 55], [46, 51, 53, 54, 55], [29, 34, 36, 42, 46, 51, 53, 54, 55], [29, 34, 36, 42, 46, 51, 53, 54, 55], [29, 34, 36, 42, 46, 51, 53, 54, 55], [51, 53, 54, 55], [51, 53, 54, 55], [51, 53, 54, 55], [51, 53, 54, 55], [51, 53, 54, 55], [53, 54, 55], [53, 54, 55], [54, 55], [55], [], []])), (12, ([[], [0], [], [2], [0, 1, 2, 3], [0, 1, 2, 3, 4], [], [0, 1, 2, 3, 4, 5, 6], [0, 1, 2, 3, 4, 5, 6, 7], [], [9], [0, 1, 2, 3, 4, 5, 6, 7, 8, 9, 10], [], [12], [], [14], [12, 13, 14, 15], [12, 13, 14, 15, 16], [], [12, 13, 14, 15, 16, 17, 18], [12, 13, 14, 15, 16, 17, 18, 19], [], [21], [0, 1, 2, 3, 4, 5, 6, 7, 8, 9, 10, 11, 12, 13, 14, 15, 16, 17, 18, 19, 20, 21, 22], [0, 1, 2, 3, 4, 5, 6, 7, 8, 9, 10, 11, 12, 13, 14, 15, 16, 17, 18, 19, 20, 21, 22, 23], [0, 1, 2, 3, 4, 5, 6, 7, 8, 9, 10, 11, 12, 13, 14, 15, 16, 17, 18, 19, 20, 21, 22, 23, 24]], [[75, 87], [75, 87], [75, 87], [75, 87], [75, 87], [75, 87], [75, 87], [75, 87], [75, 87], [75, 87], [75, 87], [87], [75, 87], [75, 87], [75, 87], [75, 87], [75, 87], [75, 87], [75, 87], [75, 87], [75, 87], [75, 87], [75, 87], [], [], []]))], fun b => lookA b [(0, (none, some ⟨[5, 8, 12, 13, 60, 61], [5, 8], []⟩))], fun _ => [], noIt, false, fun r => lookA r [(13, (3, [93])), (20, (3, [107]))], fun r => lookA r [(16, [12]), (18, [13])]⟩
theorem ev_flash_CheckPair (J : Inv) (l : List FHit) (g0 g1 g2 g3 g4 : Int) (qa : Int) (qb : Int) (qs : Int) (qt : Int) (post : DV → Prop) : evFn Tryd.prog tab S29 ann_flash_CheckPair J Tryd.f77 [.t (.c (.sl 7 l.length (hitsC l))), .t (.a [.v (.int .i64 g0), .v (.int .i64 g1), .v (.int .i64 g2), .v (.int .i64 g3), .v (.int .i64 g4)]), .t (.a [.v (.int .i64 qa), .v (.int .i64 qb), .v (.int .i64 qs), .v (.int .i64 qt)])] post = vc_flash_CheckPair J l g0 g1 g2 g3 g4 qa qb qs qt post := by kernel_rfl
theorem fit_flash_CheckPair : okFn ann_flash_CheckPair Tryd.f77 = true := by kernel_rfl
def rd_flash_CheckPair_0 (J : Inv) (l : List FHit) (g0 g1 g2 g3 g4 : Int) (qa : Int) (qb : Int) (qs : Int) (qt : Int) (v0_0 : Int) (v0_1 : Int) (v0_2 : Int) (nn0 : Nat) (post : DV → Prop) : Prop := cond (decide (v0_2 < ((l.length : Nat) : Int))) ((0 ≤ qa ∧ qa < (((opnS (listC l.length mkHit (hitsC l)) (⟨⟨g0, g1, g2⟩, g3, g4⟩ : Lat)).length : Nat) : Int)) ∧ ((0 ≤ v0_2 ∧ v0_2 < (((rlAt (opnS (listC l.length mkHit (hitsC l)) (⟨⟨g0, g1, g2⟩, g3, g4⟩ : Lat)) qa.toNat).length : Nat) : Int)) ∧ ((0 ≤ qb ∧ qb < (((opnS (listC l.length mkHit (hitsC l)) (⟨⟨g0, g1, g2⟩, g3, g4⟩ : Lat)).length : Nat) : Int)) ∧ ((0 ≤ v0_2 ∧ v0_2 < (((rlAt (opnS (listC l.length mkHit (hitsC l)) (⟨⟨g0, g1, g2⟩, g3, g4⟩ : Lat)) qb.toNat).length : Nat) : Int)) ∧ ((cond (!(inB qs ((rgAt (rlAt (opnS (listC l.length mkHit (hitsC l)) (⟨⟨g0, g1, g2⟩, g3, g4⟩ : Lat)) qa.toNat) v0_2.toNat).lo) ((rgAt (rlAt (opnS (listC l.length mkHit (hitsC l)) (⟨⟨g0, g1, g2⟩, g3, g4⟩ : Lat)) qa.toNat) v0_2.toNat).hi))) (True) ((false = false) ∧ (True))) ∧ (lt ((bif (!(inB qs ((rgAt (rlAt (opnS (listC l.length mkHit (hitsC l)) (⟨⟨g0, g1, g2⟩, g3, g4⟩ : Lat)) qa.toNat) v0_2.toNat).lo) ((rgAt (rlAt (opnS (listC l.length mkHit (hitsC l)) (⟨⟨g0, g1, g2⟩, g3, g4⟩ : Lat)) qa.toNat) v0_2.toNat).hi))) then (!(inB qt ((rgAt (rlAt (opnS (listC l.length mkHit (hitsC l)) (⟨⟨g0, g1, g2⟩, g3, g4⟩ : Lat)) qb.toNat) v0_2.toNat).lo) ((rgAt (rlAt (opnS (listC l.length mkHit (hitsC l)) (⟨⟨g0, g1, g2⟩, g3, g4⟩ : Lat)) qb.toNat) v0_2.toNat).hi))) else false)) fun x1 => cond x1 (post (.tu [.c (.v (.int .i64 v0_2)), .c (.v (.int .i64 19))])) ((cond (inB qs ((rgAt (rlAt (opnS (listC l.length mkHit (hitsC l)) (⟨⟨g0, g1, g2⟩, g3, g4⟩ : Lat)) qa.toNat) v0_2.toNat).lo) ((rgAt (rlAt (opnS (listC l.length mkHit (hitsC l)) (⟨⟨g0, g1, g2⟩, g3, g4⟩ : Lat)) qa.toNat) v0_2.toNat).hi)) (lt (IntKind.i64.wrap (v0_0 + (1 : Int))) fun x3 => True) (True)) ∧ (lt ((bif inB qs ((rgAt (rlAt (opnS (listC l.length mkHit (hitsC l)) (⟨⟨g0, g1, g2⟩, g3, g4⟩ : Lat)) qa.toNat) v0_2.toNat).lo) ((rgAt (rlAt (opnS (listC l.length mkHit (hitsC l)) (⟨⟨g0, g1, g2⟩, g3, g4⟩ : Lat)) qa.toNat) v0_2.toNat).hi) then (IntKind.i64.wrap (v0_0 + (1 : Int))) else v0_0)) fun x4 => (cond (inB qt ((rgAt (rlAt (opnS (listC l.length mkHit (hitsC l)) (⟨⟨g0, g1, g2⟩, g3, g4⟩ : Lat)) qb.toNat) v0_2.toNat).lo) ((rgAt (rlAt (opnS (listC l.length mkHit (hitsC l)) (⟨⟨g0, g1, g2⟩, g3, g4⟩ : Lat)) qb.toNat) v0_2.toNat).hi)) (lt (IntKind.i64.wrap (v0_1 + (1 : Int))) fun x6 => True) (True)) ∧ (lt ((bif inB qt ((rgAt (rlAt (opnS (listC l.length mkHit (hitsC l)) (⟨⟨g0, g1, g2⟩, g3, g4⟩ : Lat)) qb.toNat) v0_2.toNat).lo) ((rgAt (rlAt (opnS (listC l.length mkHit (hitsC l)) (⟨⟨g0, g1, g2⟩, g3, g4⟩ : Lat)) qb.toNat) v0_2.toNat).hi) then (IntKind.i64.wrap (v0_1 + (1 : Int))) else v0_1)) fun x7 => lt (IntKind.i64.wrap (v0_2 + (1 : Int))) fun x8 => J 0 (nn0 :: []) (mk_flash_CheckPair_0 l g0 g1 g2 g3 g4 qa qb qs qt x4 x7 x8)))))))))) ((cond (v0_0 == (0 : Int)) ((true = true) ∧ (True)) (True)) ∧ (lt ((bif (v0_0 == (0 : Int)) then true else (v0_1 == (0 : Int)))) fun x9 => cond x9 (post (.tu [.c (.v (.int .i64 0)), .c (.v (.int .i64 3))])) (post (.tu [.c (.v (.int .i64 v0_0)), .c (.v (.int .i64 0))]))))
theorem er_flash_CheckPair_0 (J : Inv) (l : List FHit) (g0 g1 g2 g3 g4 : Int) (qa : Int) (qb : Int) (qs : Int) (qt : Int) (v0_0 : Int) (v0_1 : Int) (v0_2 : Int) (nn0 : Nat) (post : DV → Prop) : round Tryd.prog tab S29 ann_flash_CheckPair J Tryd.f77 post 0 (nn0 :: []) (mk_flash_CheckPair_0 l g0 g1 g2 g3 g4 qa qb qs qt v0_0 v0_1 v0_2) = rd_flash_CheckPair_0 J l g0 g1 g2 g3 g4 qa qb qs qt v0_0 v0_1 v0_2 nn0 post := by kernel_rfl
theorem lp_flash_CheckPair (J : Inv) (post : DV → Prop) : AllG J (loopsFn Tryd.prog tab S29 ann_flash_CheckPair J Tryd.f77 post) = (((∀ F s, ¬ J 0 (0 :: F) s) ∧ ∀ n F s, J 0 ((n + 1) :: F) s → round Tryd.prog tab S29 ann_flash_CheckPair J Tryd.f77 post 0 (n :: F) s) ∧ True) := by kernel_rfl
def J_flash_CheckPair (l : List FHit) (g0 g1 g2 g3 g4 : Int) (qa : Int) (qb : Int) (qs : Int) (qt : Int) : Inv := fun b F s => match b, F with
 | 0, [nn0] => ∃ (v0_0 : Int) (v0_1 : Int) (v0_2 : Int), s = mk_flash_CheckPair_0 l g0 g1 g2 g3 g4 qa qb qs qt v0_0 v0_1 v0_2 ∧ ((bothE l (⟨⟨g0, g1, g2⟩, g3, g4⟩ : Lat) = 0 ∧ cpF (⟨⟨g0, g1, g2⟩, g3, g4⟩ : Lat) qa qb qs qt = 0) ∧ 0 ≤ v0_2 ∧ v0_2 ≤ l.length ∧ (nn0 : Int) + v0_2 = l.length + 1 ∧ (∀ j : Nat, (j : Int) < v0_2 → badB (exF l (⟨⟨g0, g1, g2⟩, g3, g4⟩ : Lat) qa qs) (exF l (⟨⟨g0, g1, g2⟩, g3, g4⟩ : Lat) qb qt) j = 0) ∧ v0_0 = cntB (exF l (⟨⟨g0, g1, g2⟩, g3, g4⟩ : Lat) qa qs) v0_2.toNat ∧ v0_1 = cntB (exF l (⟨⟨g0, g1, g2⟩, g3, g4⟩ : Lat) qb qt) v0_2.toNat)
 | _, _ => False
set_option maxHeartbeats 8000000 in
set_option maxRecDepth 100000 in
theorem rnd_flash_CheckPair_0 (l : List FHit) (g0 g1 g2 g3 g4 : Int) (qa : Int) (qb : Int) (qs : Int) (qt : Int) (v0_0 : Int) (v0_1 : Int) (v0_2 : Int) (nn0 : Nat) (hi : (bothE l (⟨⟨g0, g1, g2⟩, g3, g4⟩ : Lat) = 0 ∧ cpF (⟨⟨g0, g1, g2⟩, g3, g4⟩ : Lat) qa qb qs qt = 0) ∧ 0 ≤ v0_2 ∧ v0_2 ≤ l.length ∧ ((nn0 + 1) : Int) + v0_2 = l.length + 1 ∧ (∀ j : Nat, (j : Int) < v0_2 → badB (exF l (⟨⟨g0, g1, g2⟩, g3, g4⟩ : Lat) qa qs) (exF l (⟨⟨g0, g1, g2⟩, g3, g4⟩ : Lat) qb qt) j = 0) ∧ v0_0 = cntB (exF l (⟨⟨g0, g1, g2⟩, g3, g4⟩ : Lat) qa qs) v0_2.toNat ∧ v0_1 = cntB (exF l (⟨⟨g0, g1, g2⟩, g3, g4⟩ : Lat) qb qt) v0_2.toNat) : rd_flash_CheckPair_0 (J_flash_CheckPair l g0 g1 g2 g3 g4 qa qb qs qt) l g0 g1 g2 g3 g4 qa qb qs qt v0_0 v0_1 v0_2 nn0 (fun r => LeD r (.tu [.c (.v (.int .i64 (cpV l (⟨⟨g0, g1, g2⟩, g3, g4⟩ : Lat) qa qb qs qt))), .c (.v (.int .i64 (cpE l (⟨⟨g0, g1, g2⟩, g3, g4⟩ : Lat) qa qb qs qt)))])) := by
 obtain ⟨⟨q1, q2⟩, i1, i2, i3, i4, i5, i6⟩ := hi
 obtain ⟨k, rfl⟩ : ∃ k : Nat, v0_2 = k := ⟨v0_2.toNat, by omega⟩
 have hk : (k : Int).toNat = k := rfl
 rw [hk] at i5 i6
 have hl := (fn2 q1).2
 have hz := sz_rg hl
 obtain ⟨⟨z1, z2⟩, _⟩ := hitsE_ok (fn2 q1).1
 have eO : opnS l (⟨⟨g0, g1, g2⟩, g3, g4⟩ : Lat) = (allP (⟨⟨g0, g1, g2⟩, g3, g4⟩ : Lat)).map (sts l) := if_pos q1
 have eL : (opnS l (⟨⟨g0, g1, g2⟩, g3, g4⟩ : Lat)).length = (⟨⟨g0, g1, g2⟩, g3, g4⟩ : Lat).sz.toNat := by rw [eO, List.length_map, allP_len]
 have hq := q2
 unfold cpF at hq
 rw [firstNZ_zero] at hq
 have h6 := hq _ (List.mem_cons_self ..)
 rw [unl_0 (by decide), Bool.and_eq_true, inB_true, inB_true] at h6
 have at_ : ∀ q : Int, 0 ≤ q ∧ q ≤ (⟨⟨g0, g1, g2⟩, g3, g4⟩ : Lat).sz - 1 → rlAt (opnS l (⟨⟨g0, g1, g2⟩, g3, g4⟩ : Lat)) q.toNat = sts l (posAt (⟨⟨g0, g1, g2⟩, g3, g4⟩ : Lat) q) := fun q hq => by
  rw [rlAt_lt (by omega)]
  simp only [eO, allP, List.getElem_map, List.getElem_range]
  rw [show ((q.toNat : Nat) : Int) = q by omega]
 have eV : cpV l (⟨⟨g0, g1, g2⟩, g3, g4⟩ : Lat) qa qb qs qt = jdV (exF l (⟨⟨g0, g1, g2⟩, g3, g4⟩ : Lat) qa qs) (exF l (⟨⟨g0, g1, g2⟩, g3, g4⟩ : Lat) qb qt) l.length := (if_neg (by rw [q1]; simp)).trans (if_neg (by rw [q2]; simp))
 have eE : cpE l (⟨⟨g0, g1, g2⟩, g3, g4⟩ : Lat) qa qb qs qt = jdE (exF l (⟨⟨g0, g1, g2⟩, g3, g4⟩ : Lat) qa qs) (exF l (⟨⟨g0, g1, g2⟩, g3, g4⟩ : Lat) qb qt) l.length := (if_neg (by rw [q1]; simp)).trans (if_neg (by rw [q2]; simp))
 unfold rd_flash_CheckPair_0
 rw [hits_listC]
 rw [hk, at_ qa h6.1, at_ qb h6.2, sts_len, sts_len, eL]
 refine cond_i (fun h => ?_) (fun h => ⟨cond_i (fun _ => ⟨rfl, trivial⟩) (fun _ => trivial), lt_i fun x9 h9 => ?_⟩)
 ·have hlt : k < l.length := by have := of_decide_eq_true h; omega
  rw [sts_at hlt, sts_at hlt]
  have ea : inB qs (stR (posAt (⟨⟨g0, g1, g2⟩, g3, g4⟩ : Lat) qa) (hitAt l k)).lo (stR (posAt (⟨⟨g0, g1, g2⟩, g3, g4⟩ : Lat) qa) (hitAt l k)).hi = (exF l (⟨⟨g0, g1, g2⟩, g3, g4⟩ : Lat) qa qs) k := rfl
  have eb : inB qt (stR (posAt (⟨⟨g0, g1, g2⟩, g3, g4⟩ : Lat) qb) (hitAt l k)).lo (stR (posAt (⟨⟨g0, g1, g2⟩, g3, g4⟩ : Lat) qb) (hitAt l k)).hi = (exF l (⟨⟨g0, g1, g2⟩, g3, g4⟩ : Lat) qb qt) k := rfl
  rw [ea, eb]
  have n1 := cntB_succ (f := (exF l (⟨⟨g0, g1, g2⟩, g3, g4⟩ : Lat) qa qs)) (k := k)
  have n2 := cntB_succ (f := (exF l (⟨⟨g0, g1, g2⟩, g3, g4⟩ : Lat) qb qt)) (k := k)
  have b1 := cntB_rg (exF l (⟨⟨g0, g1, g2⟩, g3, g4⟩ : Lat) qa qs) k
  have b2 := cntB_rg (exF l (⟨⟨g0, g1, g2⟩, g3, g4⟩ : Lat) qb qt) k
  refine ⟨by omega, by omega, by omega, by omega, cond_i (fun _ => trivial) (fun _ => ⟨rfl, trivial⟩), lt_i fun x1 h1 => cond_i (fun e => ?_) (fun e => ⟨cond_i (fun _ => lt_i fun _ _ => trivial) (fun _ => trivial), lt_i fun x4 h4 => ⟨cond_i (fun _ => lt_i fun _ _ => trivial) (fun _ => trivial), lt_i fun x7 h7 => lt_i fun x8 h8 => ?_⟩⟩)⟩
  ·have hb : badB (exF l (⟨⟨g0, g1, g2⟩, g3, g4⟩ : Lat) qa qs) (exF l (⟨⟨g0, g1, g2⟩, g3, g4⟩ : Lat) qb qt) k = 19 := by
    unfold badB
    subst h1
    cases hf : (exF l (⟨⟨g0, g1, g2⟩, g3, g4⟩ : Lat) qa qs) k <;> cases hg : (exF l (⟨⟨g0, g1, g2⟩, g3, g4⟩ : Lat) qb qt) k <;> simp_all
   have s1 := scan_at (f := badB (exF l (⟨⟨g0, g1, g2⟩, g3, g4⟩ : Lat) qa qs) (exF l (⟨⟨g0, g1, g2⟩, g3, g4⟩ : Lat) qb qt)) (fun j hj => i4 j (by omega)) hlt (by rw [hb]; decide)
   have s2 := scanI_at (f := badB (exF l (⟨⟨g0, g1, g2⟩, g3, g4⟩ : Lat) qa qs) (exF l (⟨⟨g0, g1, g2⟩, g3, g4⟩ : Lat) qb qt)) (fun j hj => i4 j (by omega)) hlt (by rw [hb]; decide)
   rw [hb] at s1
   have hne : scan (badB (exF l (⟨⟨g0, g1, g2⟩, g3, g4⟩ : Lat) qa qs) (exF l (⟨⟨g0, g1, g2⟩, g3, g4⟩ : Lat) qb qt)) l.length ≠ 0 := by rw [s1]; decide
   refine le2 ?_ ?_
   ·rw [eV, show jdV (exF l (⟨⟨g0, g1, g2⟩, g3, g4⟩ : Lat) qa qs) (exF l (⟨⟨g0, g1, g2⟩, g3, g4⟩ : Lat) qb qt) l.length = scanI (badB (exF l (⟨⟨g0, g1, g2⟩, g3, g4⟩ : Lat) qa qs) (exF l (⟨⟨g0, g1, g2⟩, g3, g4⟩ : Lat) qb qt)) l.length from if_pos hne, s2]
   ·rw [eE, show jdE (exF l (⟨⟨g0, g1, g2⟩, g3, g4⟩ : Lat) qa qs) (exF l (⟨⟨g0, g1, g2⟩, g3, g4⟩ : Lat) qb qt) l.length = scan (badB (exF l (⟨⟨g0, g1, g2⟩, g3, g4⟩ : Lat) qa qs) (exF l (⟨⟨g0, g1, g2⟩, g3, g4⟩ : Lat) qb qt)) l.length from if_pos hne, s1]
  ·have hb : badB (exF l (⟨⟨g0, g1, g2⟩, g3, g4⟩ : Lat) qa qs) (exF l (⟨⟨g0, g1, g2⟩, g3, g4⟩ : Lat) qb qt) k = 0 := by
    unfold badB
    subst h1
    cases hf : (exF l (⟨⟨g0, g1, g2⟩, g3, g4⟩ : Lat) qa qs) k <;> cases hg : (exF l (⟨⟨g0, g1, g2⟩, g3, g4⟩ : Lat) qb qt) k <;> simp_all
   rw [wi (by omega)] at h8
   rw [wi (by omega)] at h4 h7
   subst h8
   refine ⟨_, _, _, rfl, ⟨q1, q2⟩, by omega, by omega, by omega, fun j hj => ?_, ?_, ?_⟩
   ·by_cases e : j = k
    ·rw [e]; exact hb
    ·exact i4 j (by omega)
   ·rw [show ((k : Int) + 1).toNat = k + 1 by omega, n1, ← h4, i5]
    cases (exF l (⟨⟨g0, g1, g2⟩, g3, g4⟩ : Lat) qa qs) k <;> simp
   ·rw [show ((k : Int) + 1).toNat = k + 1 by omega, n2, ← h7, i6]
    cases (exF l (⟨⟨g0, g1, g2⟩, g3, g4⟩ : Lat) qb qt) k <;> simp
 ·have hge : k = l.length := by have := of_decide_eq_false h; omega
  subst hge
  have s1 := scan_end (f := badB (exF l (⟨⟨g0, g1, g2⟩, g3, g4⟩ : Lat) qa qs) (exF l (⟨⟨g0, g1, g2⟩, g3, g4⟩ : Lat) qb qt)) (n := l.length) fun j hj => i4 j (by omega)
  have jV : jdV (exF l (⟨⟨g0, g1, g2⟩, g3, g4⟩ : Lat) qa qs) (exF l (⟨⟨g0, g1, g2⟩, g3, g4⟩ : Lat) qb qt) l.length = _ := if_neg (by rw [s1]; simp)
  have jE : jdE (exF l (⟨⟨g0, g1, g2⟩, g3, g4⟩ : Lat) qa qs) (exF l (⟨⟨g0, g1, g2⟩, g3, g4⟩ : Lat) qb qt) l.length = _ := if_neg (by rw [s1]; simp)
  rw [eV, eE, jV, jE]
  subst i5 i6
  refine cond_i (fun e => ?_) (fun e => ?_)
  ·have hz : cntB (exF l (⟨⟨g0, g1, g2⟩, g3, g4⟩ : Lat) qa qs) l.length = 0 ∨ cntB (exF l (⟨⟨g0, g1, g2⟩, g3, g4⟩ : Lat) qb qt) l.length = 0 := by
    subst h9
    by_cases c : cntB (exF l (⟨⟨g0, g1, g2⟩, g3, g4⟩ : Lat) qa qs) l.length = 0 <;> simp_all
   exact le2 (if_pos hz).symm (if_pos hz).symm
  ·have hz : ¬ (cntB (exF l (⟨⟨g0, g1, g2⟩, g3, g4⟩ : Lat) qa qs) l.length = 0 ∨ cntB (exF l (⟨⟨g0, g1, g2⟩, g3, g4⟩ : Lat) qb qt) l.length = 0) := by
    subst h9
    by_cases c : cntB (exF l (⟨⟨g0, g1, g2⟩, g3, g4⟩ : Lat) qa qs) l.length = 0 <;> simp_all
   exact le2 (if_neg hz).symm (if_neg hz).symm
theorem zero_flash_CheckPair_0 (l : List FHit) (g0 g1 g2 g3 g4 : Int) (qa : Int) (qb : Int) (qs : Int) (qt : Int) (v0_0 : Int) (v0_1 : Int) (v0_2 : Int)  (hi : (bothE l (⟨⟨g0, g1, g2⟩, g3, g4⟩ : Lat) = 0 ∧ cpF (⟨⟨g0, g1, g2⟩, g3, g4⟩ : Lat) qa qb qs qt = 0) ∧ 0 ≤ v0_2 ∧ v0_2 ≤ l.length ∧ (0 : Int) + v0_2 = l.length + 1 ∧ (∀ j : Nat, (j : Int) < v0_2 → badB (exF l (⟨⟨g0, g1, g2⟩, g3, g4⟩ : Lat) qa qs) (exF l (⟨⟨g0, g1, g2⟩, g3, g4⟩ : Lat) qb qt) j = 0) ∧ v0_0 = cntB (exF l (⟨⟨g0, g1, g2⟩, g3, g4⟩ : Lat) qa qs) v0_2.toNat ∧ v0_1 = cntB (exF l (⟨⟨g0, g1, g2⟩, g3, g4⟩ : Lat) qb qt) v0_2.toNat) : False := by
 omega
set_option maxHeartbeats 8000000 in
set_option maxRecDepth 100000 in
theorem spec_flash_CheckPair (l : List FHit) (g0 g1 g2 g3 g4 : Int) (qa : Int) (qb : Int) (qs : Int) (qt : Int) : vc_flash_CheckPair (J_flash_CheckPair l g0 g1 g2 g3 g4 qa qb qs qt) l g0 g1 g2 g3 g4 qa qb qs qt (fun r => LeD r (.tu [.c (.v (.int .i64 (cpV l (⟨⟨g0, g1, g2⟩, g3, g4⟩ : Lat) qa qb qs qt))), .c (.v (.int .i64 (cpE l (⟨⟨g0, g1, g2⟩, g3, g4⟩ : Lat) qa qb qs qt)))])) := by
 unfold vc_flash_CheckPair
 rw [hits_listC]
 have start : bothE l (⟨⟨g0, g1, g2⟩, g3, g4⟩ : Lat) = 0 → cpF (⟨⟨g0, g1, g2⟩, g3, g4⟩ : Lat) qa qb qs qt = 0 → ∃ n, J_flash_CheckPair l g0 g1 g2 g3 g4 qa qb qs qt 0 (n :: []) (mk_flash_CheckPair_0 l g0 g1 g2 g3 g4 qa qb qs qt 0 0 0) := fun h1 h2 => ⟨l.length + 1, 0, 0, 0, rfl, ⟨h1, h2⟩, by omega, by omega, by omega, fun j hj => by omega, rfl, rfl⟩
 have bad : bothE l (⟨⟨g0, g1, g2⟩, g3, g4⟩ : Lat) = 0 → cpF (⟨⟨g0, g1, g2⟩, g3, g4⟩ : Lat) qa qb qs qt ≠ 0 → LeD (.tu [.c (.v (.int .i64 0)), .c (.v (.int .i64 (cpF (⟨⟨g0, g1, g2⟩, g3, g4⟩ : Lat) qa qb qs qt)))]) (.tu [.c (.v (.int .i64 (cpV l (⟨⟨g0, g1, g2⟩, g3, g4⟩ : Lat) qa qb qs qt))), .c (.v (.int .i64 (cpE l (⟨⟨g0, g1, g2⟩, g3, g4⟩ : Lat) qa qb qs qt)))]) := fun h1 h2 =>
  le2 ((if_neg (by rw [h1]; simp)).trans (if_pos h2)).symm ((if_neg (by rw [h1]; simp)).trans (if_pos h2)).symm
 refine ⟨numsP_hits l, cond_i (fun h => ?_) (fun h => cond_i (fun _ => ?_) (fun e => ?_))⟩
 ·have h : bothE l (⟨⟨g0, g1, g2⟩, g3, g4⟩ : Lat) = 0 := by simpa using h
  have hl := (fn2 h).2
  refine ⟨⟨rfl, hl⟩, cond_i (fun a1 => ⟨⟨rfl, hl⟩, cond_i (fun a2 => ⟨⟨numsP_gen [_, _, _], Nat.le_of_ble_eq_true rfl⟩, ?_⟩) (fun a2 => ⟨rfl, ⟨numsP_gen [_, _, _], Nat.le_of_ble_eq_true rfl⟩, ?_⟩)⟩) (fun a1 => ⟨rfl, cond_i (fun a2 => ⟨⟨numsP_gen [_, _, _], Nat.le_of_ble_eq_true rfl⟩, ?_⟩) (fun a2 => ⟨rfl, ⟨numsP_gen [_, _, _], Nat.le_of_ble_eq_true rfl⟩, ?_⟩)⟩)⟩
  all_goals
   have e : cpF (⟨⟨g0, g1, g2⟩, g3, g4⟩ : Lat) qa qb qs qt = firstNZ [unl (inB qa 0 ((⟨⟨g0, g1, g2⟩, g3, g4⟩ : Lat).sz - 1) && inB qb 0 ((⟨⟨g0, g1, g2⟩, g3, g4⟩ : Lat).sz - 1)) 6, unl (decide (qa ≤ qb)) 9, unl (inB qs (-2000000000) 2000000000 && inB qt (-2000000000) 2000000000) 2] := rfl
   rw [a1, a2] at e
   simp only [Bool.true_and, Bool.false_and] at e
   rw [← e]
   exact cond_i (fun q => bad h (by simpa using q)) (fun q => start h (by simpa using q))
 ·have h : bothE l (⟨⟨g0, g1, g2⟩, g3, g4⟩ : Lat) ≠ 0 := by simpa using h
  exact le2 (if_pos h).symm (if_pos h).symm
 ·have h : bothE l (⟨⟨g0, g1, g2⟩, g3, g4⟩ : Lat) ≠ 0 := by simpa using h
  have e : bothE l (⟨⟨g0, g1, g2⟩, g3, g4⟩ : Lat) = 0 := by simpa using e
  exact (h e).elim
theorem all_flash_CheckPair (l : List FHit) (g0 g1 g2 g3 g4 : Int) (qa : Int) (qb : Int) (qs : Int) (qt : Int) : AllG (J_flash_CheckPair l g0 g1 g2 g3 g4 qa qb qs qt) (loopsFn Tryd.prog tab S29 ann_flash_CheckPair (J_flash_CheckPair l g0 g1 g2 g3 g4 qa qb qs qt) Tryd.f77 (fun r => LeD r (.tu [.c (.v (.int .i64 (cpV l (⟨⟨g0, g1, g2⟩, g3, g4⟩ : Lat) qa qb qs qt))), .c (.v (.int .i64 (cpE l (⟨⟨g0, g1, g2⟩, g3, g4⟩ : Lat) qa qb qs qt)))]))) := by
 rw [lp_flash_CheckPair]
 refine ⟨⟨?_, ?_⟩, trivial⟩
 ·intro F s h
  obtain _ | ⟨g, F⟩ := F
  case cons => exact h.elim
  obtain ⟨w0, w1, w2, rfl, hi⟩ := h
  exact zero_flash_CheckPair_0 l g0 g1 g2 g3 g4 qa qb qs qt w0 w1 w2 hi
 ·intro n F s h
  obtain _ | ⟨g, F⟩ := F
  case cons => exact h.elim
  obtain ⟨w0, w1, w2, rfl, hi⟩ := h
  rw [er_flash_CheckPair_0]
  exact rnd_flash_CheckPair_0 l g0 g1 g2 g3 g4 qa qb qs qt _ _ _ _ hi
def con_flash_CheckPair : Con := fun args => match args with
 | [.t (.c (.sl 7 n_l c_l)), .t (.a [.v (.int .i64 g0), .v (.int .i64 g1), .v (.int .i64 g2), .v (.int .i64 g3), .v (.int .i64 g4)]), .t (.a [.v (.int .i64 qa), .v (.int .i64 qb), .v (.int .i64 qs), .v (.int .i64 qt)])] => some (.tu [.c (.v (.int .i64 (cpV (listC n_l mkHit c_l) (⟨⟨g0, g1, g2⟩, g3, g4⟩ : Lat) qa qb qs qt))), .c (.v (.int .i64 (cpE (listC n_l mkHit c_l) (⟨⟨g0, g1, g2⟩, g3, g4⟩ : Lat) qa qb qs qt)))], some (numsP 7 n_l c_l), false)
 | _ => none
theorem ok_flash_CheckPair : Ok Tryd.prog 77 con_flash_CheckPair := by
 refine Ok.fn (ann := ann_flash_CheckPair) mixed tabOK VS29 ValidIt.no (fn := Tryd.f77) (by kernel_rfl) (by kernel_rfl) fit_flash_CheckPair fun args r pre fresh h hp => ?_
 unfold con_flash_CheckPair at h
 split at h
 ·rename_i n_l c_l g0 g1 g2 g3 g4 qa qb qs qt
  cases h
  have hp0 := hp
  refine ⟨rfl, J_flash_CheckPair (listC n_l mkHit c_l) g0 g1 g2 g3 g4 qa qb qs qt, [.t (.c (.sl 7 ((listC n_l mkHit c_l).length) (hitsC (listC n_l mkHit c_l)))), .t (.a [.v (.int .i64 g0), .v (.int .i64 g1), .v (.int .i64 g2), .v (.int .i64 g3), .v (.int .i64 g4)]), .t (.a [.v (.int .i64 qa), .v (.int .i64 qb), .v (.int .i64 qs), .v (.int .i64 qt)])], ?_, Nat.le_of_ble_eq_true (by kernel_rfl), ?_, ?_⟩
  ·exact (LeA_cons (leT_c ((leL_FHit hp0))) (LeA_cons (LeD.refl _) (LeA_cons (leT_a (LeCs.cons (LeC1.refl _) (LeCs.cons (LeC1.refl _) (LeCs.cons (LeC1.refl _) (LeCs.cons (LeC1.refl _) LeCs.nil))))) LeA_nil)))
  ·rw [ev_flash_CheckPair]; exact spec_flash_CheckPair (listC n_l mkHit c_l) g0 g1 g2 g3 g4 qa qb qs qt
  ·exact all_flash_CheckPair (listC n_l mkHit c_l) g0 g1 g2 g3 g4 qa qb qs qt
 ·cases h
def S30 : Sum := addS S29 77 con_flash_CheckPair
theorem VS30 : Valid Tryd.prog S30 := Valid.add VS29 ok_flash_CheckPair
end Go.Proofs.YtmhgjlapkhdlmaaDoor