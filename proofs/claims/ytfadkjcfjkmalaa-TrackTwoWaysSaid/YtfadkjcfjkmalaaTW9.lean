/- Texts of this claim, together. -/
import Derived.Test.YtfadkjcfjkmalaaTW8

set_option linter.unusedVariables false
set_option linter.unusedSimpArgs false
namespace Go.Proofs.Ytfadkjcfjkmalaa
open Go.RowKit Ev
def TMod.fE (m : TMod) (s p : V3) : Int := firstNZ [firstNZ [m.both s, plE p], unl (inB (m.first s p) (-1000000) 1000000) 8]
def TMod.fV (m : TMod) (s p : V3) : Int := if m.fE s p = 0 then m.first s p else 0
def TMod.nE (m : TMod) (s p : V3) : Int := firstNZ [firstNZ [m.both s, plE p], unl (decide (rN (m.num s p) (s.dot s) ≤ 1000000000)) 8]
def TMod.nN (m : TMod) (s p : V3) : Int := if m.nE s p = 0 then rN (m.num s p) (s.dot s) else 0
def TMod.nD (m : TMod) (s p : V3) : Int := if m.nE s p = 0 then rD (m.num s p) (s.dot s) else 0
theorem fz1 {a b : Int} (h : a ≠ 0) : firstNZ [a, b] = a := by simp [firstNZ, h]
theorem fz1' {b : Int} {k : Bool} (hk : k = true) : firstNZ [0, unl k b] = 0 := by subst hk; simp [firstNZ, unl]
theorem fz1f {b : Int} {k : Bool} (hk : k = false) (hb : b ≠ 0) : firstNZ [0, unl k b] = b := by subst hk; simp [firstNZ, unl, hb]
theorem half_u {a b : Int} (h0 : 0 ≤ a) (h1 : a < b) (h2 : b ≤ 2000002) : IntKind.i64.wrap (Int.fdiv (IntKind.u64.wrap (a + b)) (2 ^ (min 1 64))) = (a + b) / 2 := by
 have e : IntKind.u64.wrap (a + b) = a + b := IntWalk.u64_in _ (by omega)
 rw [e]
 have e2 : Int.fdiv (a + b) (2 ^ (min 1 64)) = (a + b) / 2 := Int.fdiv_eq_ediv_of_nonneg _ (by decide)
 rw [e2]
 exact wi (by omega)
def vc_track_model_firstAt_1 (i : Int) (m0 m1 m2 m3 m4 m5 m6 m7 m8 m9 m10 m11 : Int) (s0 s1 s2 : Int) (p0 p1 p2 : Int) (post : DV → Prop) : Prop := lt (IntKind.i64.wrap (i - (1000000 : Int))) fun x1 => lt (IntKind.i64.wrap (x1 - (1 : Int))) fun x2 => (((⟨m0, m1, m2, m3, m4, m5, m6, m7, m8, m9, m10, m11⟩ : TMod)).Ok ∧ ((⟨s0, s1, s2⟩ : V3) : V3).inS 20 = true ∧ ((⟨m0, m1, m2, m3, m4, m5, m6, m7, m8, m9, m10, m11⟩ : TMod)).permit (⟨s0, s1, s2⟩ : V3) ∧ (⟨p0, p1, p2⟩ : V3).inS 1000 = true ∧ -1000101 ≤ x2 ∧ x2 ≤ 1000100) ∧ (post (.t (.c (.v (.bool (((⟨m0, m1, m2, m3, m4, m5, m6, m7, m8, m9, m10, m11⟩ : TMod)).reached (⟨s0, s1, s2⟩ : V3) ⟨p0, p1, p2⟩ x2))))))
def ann_track_model_firstAt_1 : Ann := ⟨fun _ => none, fun _ => none, fun _ => [], noIt, false, fun _ => none, fun _ => none⟩
theorem ev_track_model_firstAt_1 (J : Inv) (i : Int) (m0 m1 m2 m3 m4 m5 m6 m7 m8 m9 m10 m11 : Int) (s0 s1 s2 : Int) (p0 p1 p2 : Int) (post : DV → Prop) : evFn Try.prog tab Skp17 ann_track_model_firstAt_1 J Try.f78 [.t (.c (.v (.int .i64 i))), .t (.c (.px 12 0 (boxC [.v (.int .i64 m0), .v (.int .i64 m1), .v (.int .i64 m2), .v (.int .i64 m3), .v (.int .i64 m4), .v (.int .i64 m5), .v (.int .i64 m6), .v (.int .i64 m7), .v (.int .i64 m8), .v (.int .i64 m9), .v (.int .i64 m10), .v (.int .i64 m11)]))), .t (.c (.px 3 0 (boxC [.v (.int .i64 s0), .v (.int .i64 s1), .v (.int .i64 s2)]))), .t (.c (.px 3 0 (boxC [.v (.int .i64 p0), .v (.int .i64 p1), .v (.int .i64 p2)])))] post = vc_track_model_firstAt_1 i m0 m1 m2 m3 m4 m5 m6 m7 m8 m9 m10 m11 s0 s1 s2 p0 p1 p2 post := by kernel_rfl
theorem fit_track_model_firstAt_1 : okFn ann_track_model_firstAt_1 Try.f78 = true := by kernel_rfl
theorem lp_track_model_firstAt_1 (J : Inv) (post : DV → Prop) : AllG J (loopsFn Try.prog tab Skp17 ann_track_model_firstAt_1 J Try.f78 post) = (True) := by kernel_rfl
theorem spec_track_model_firstAt_1 (i : Int) (m0 m1 m2 m3 m4 m5 m6 m7 m8 m9 m10 m11 : Int) (s0 s1 s2 : Int) (p0 p1 p2 : Int) (hp : ((⟨m0, m1, m2, m3, m4, m5, m6, m7, m8, m9, m10, m11⟩ : TMod)).Ok ∧ ((⟨s0, s1, s2⟩ : V3) : V3).inS 20 = true ∧ ((⟨m0, m1, m2, m3, m4, m5, m6, m7, m8, m9, m10, m11⟩ : TMod)).permit (⟨s0, s1, s2⟩ : V3) ∧ ((⟨p0, p1, p2⟩ : V3) : V3).inS 1000 = true ∧ 0 ≤ i ∧ i ≤ 2000001) : vc_track_model_firstAt_1 i m0 m1 m2 m3 m4 m5 m6 m7 m8 m9 m10 m11 s0 s1 s2 p0 p1 p2 (fun r => LeD r (.t (.c (.v (.bool (decide (((⟨m0, m1, m2, m3, m4, m5, m6, m7, m8, m9, m10, m11⟩ : TMod)).first (⟨s0, s1, s2⟩ : V3) (⟨p0, p1, p2⟩ : V3) + 1000001 ≤ i))))))) := by
 obtain ⟨ho, hs, hpm, hp, h1, h2⟩ := hp
 have hsl : ((⟨m0, m1, m2, m3, m4, m5, m6, m7, m8, m9, m10, m11⟩ : TMod)).slow < (⟨s0, s1, s2⟩ : V3).dot ⟨s0, s1, s2⟩ := by have := ho.slo; have := hpm.1; omega
 unfold vc_track_model_firstAt_1
 refine lt_i fun x1 e1 => lt_i fun x2 e2 => ?_
 rw [wi (by omega)] at e1
 subst e1
 rw [wi (by omega)] at e2
 subst e2
 refine ⟨⟨ho, hs, hpm, hp, by omega, by omega⟩, leB ?_⟩
 rw [first_spec ((⟨m0, m1, m2, m3, m4, m5, m6, m7, m8, m9, m10, m11⟩ : TMod)) ⟨s0, s1, s2⟩ ⟨p0, p1, p2⟩ ho.slp hsl (by omega) (by omega)]
 exact decide_eq_decide.2 (by omega)
def con_track_model_firstAt_1 : Con := fun args => match args with
 | [.t (.c (.v (.int .i64 i))), .t (.c (.px 12 0 c_pm)), .t (.c (.px 3 0 c_ps)), .t (.c (.px 3 0 c_pq))] => some (.t (.c (.v (.bool (decide (((⟨(cvInt (c_pm 0)), (cvInt (c_pm 1)), (cvInt (c_pm 2)), (cvInt (c_pm 3)), (cvInt (c_pm 4)), (cvInt (c_pm 5)), (cvInt (c_pm 6)), (cvInt (c_pm 7)), (cvInt (c_pm 8)), (cvInt (c_pm 9)), (cvInt (c_pm 10)), (cvInt (c_pm 11))⟩ : TMod)).first (⟨(cvInt (c_ps 0)), (cvInt (c_ps 1)), (cvInt (c_ps 2))⟩ : V3) (⟨(cvInt (c_pq 0)), (cvInt (c_pq 1)), (cvInt (c_pq 2))⟩ : V3) + 1000001 ≤ i))))), some (intsB [0, 1, 2, 3, 4, 5, 6, 7, 8, 9, 10, 11] c_pm = true ∧ intsB [0, 1, 2] c_ps = true ∧ intsB [0, 1, 2] c_pq = true ∧ ((⟨(cvInt (c_pm 0)), (cvInt (c_pm 1)), (cvInt (c_pm 2)), (cvInt (c_pm 3)), (cvInt (c_pm 4)), (cvInt (c_pm 5)), (cvInt (c_pm 6)), (cvInt (c_pm 7)), (cvInt (c_pm 8)), (cvInt (c_pm 9)), (cvInt (c_pm 10)), (cvInt (c_pm 11))⟩ : TMod)).Ok ∧ ((⟨(cvInt (c_ps 0)), (cvInt (c_ps 1)), (cvInt (c_ps 2))⟩ : V3) : V3).inS 20 = true ∧ ((⟨(cvInt (c_pm 0)), (cvInt (c_pm 1)), (cvInt (c_pm 2)), (cvInt (c_pm 3)), (cvInt (c_pm 4)), (cvInt (c_pm 5)), (cvInt (c_pm 6)), (cvInt (c_pm 7)), (cvInt (c_pm 8)), (cvInt (c_pm 9)), (cvInt (c_pm 10)), (cvInt (c_pm 11))⟩ : TMod)).permit (⟨(cvInt (c_ps 0)), (cvInt (c_ps 1)), (cvInt (c_ps 2))⟩ : V3) ∧ ((⟨(cvInt (c_pq 0)), (cvInt (c_pq 1)), (cvInt (c_pq 2))⟩ : V3) : V3).inS 1000 = true ∧ 0 ≤ i ∧ i ≤ 2000001), false)
 | _ => none
theorem ok_track_model_firstAt_1 : Ok Try.prog 78 con_track_model_firstAt_1 := by
 refine Ok.fn (ann := ann_track_model_firstAt_1) mixed tabOK VSkp17 ValidIt.no (fn := Try.f78) (by kernel_rfl) (by kernel_rfl) fit_track_model_firstAt_1 fun args r pre fresh h hp => ?_
 unfold con_track_model_firstAt_1 at h
 split at h
 ·rename_i i c_pm c_ps c_pq
  cases h
  obtain ⟨hp0, hp1, hp2, hp⟩ := hp
  refine ⟨rfl, fun _ _ _ => False, [.t (.c (.v (.int .i64 i))), .t (.c (.px 12 0 (boxC [.v (.int .i64 (cvInt (c_pm 0))), .v (.int .i64 (cvInt (c_pm 1))), .v (.int .i64 (cvInt (c_pm 2))), .v (.int .i64 (cvInt (c_pm 3))), .v (.int .i64 (cvInt (c_pm 4))), .v (.int .i64 (cvInt (c_pm 5))), .v (.int .i64 (cvInt (c_pm 6))), .v (.int .i64 (cvInt (c_pm 7))), .v (.int .i64 (cvInt (c_pm 8))), .v (.int .i64 (cvInt (c_pm 9))), .v (.int .i64 (cvInt (c_pm 10))), .v (.int .i64 (cvInt (c_pm 11)))]))), .t (.c (.px 3 0 (boxC [.v (.int .i64 (cvInt (c_ps 0))), .v (.int .i64 (cvInt (c_ps 1))), .v (.int .i64 (cvInt (c_ps 2)))]))), .t (.c (.px 3 0 (boxC [.v (.int .i64 (cvInt (c_pq 0))), .v (.int .i64 (cvInt (c_pq 1))), .v (.int .i64 (cvInt (c_pq 2)))])))], ?_, Nat.le_of_ble_eq_true (by kernel_rfl), ?_, ?_⟩
  ·exact (LeA_cons (LeD.refl _) (LeA_cons (leT_c (leC_p (LeCs.cons (leC_i (intsB_get hp0 0 (by decide))) (LeCs.cons (leC_i (intsB_get hp0 1 (by decide))) (LeCs.cons (leC_i (intsB_get hp0 2 (by decide))) (LeCs.cons (leC_i (intsB_get hp0 3 (by decide))) (LeCs.cons (leC_i (intsB_get hp0 4 (by decide))) (LeCs.cons (leC_i (intsB_get hp0 5 (by decide))) (LeCs.cons (leC_i (intsB_get hp0 6 (by decide))) (LeCs.cons (leC_i (intsB_get hp0 7 (by decide))) (LeCs.cons (leC_i (intsB_get hp0 8 (by decide))) (LeCs.cons (leC_i (intsB_get hp0 9 (by decide))) (LeCs.cons (leC_i (intsB_get hp0 10 (by decide))) (LeCs.cons (leC_i (intsB_get hp0 11 (by decide))) LeCs.nil)))))))))))))) (LeA_cons (leT_c (leC_p (LeCs.cons (leC_i (intsB_get hp1 0 (by decide))) (LeCs.cons (leC_i (intsB_get hp1 1 (by decide))) (LeCs.cons (leC_i (intsB_get hp1 2 (by decide))) LeCs.nil))))) (LeA_cons (leT_c (leC_p (LeCs.cons (leC_i (intsB_get hp2 0 (by decide))) (LeCs.cons (leC_i (intsB_get hp2 1 (by decide))) (LeCs.cons (leC_i (intsB_get hp2 2 (by decide))) LeCs.nil))))) LeA_nil))))
  ·rw [ev_track_model_firstAt_1]; exact spec_track_model_firstAt_1 i (cvInt (c_pm 0)) (cvInt (c_pm 1)) (cvInt (c_pm 2)) (cvInt (c_pm 3)) (cvInt (c_pm 4)) (cvInt (c_pm 5)) (cvInt (c_pm 6)) (cvInt (c_pm 7)) (cvInt (c_pm 8)) (cvInt (c_pm 9)) (cvInt (c_pm 10)) (cvInt (c_pm 11)) (cvInt (c_ps 0)) (cvInt (c_ps 1)) (cvInt (c_ps 2)) (cvInt (c_pq 0)) (cvInt (c_pq 1)) (cvInt (c_pq 2)) hp
  ·rw [lp_track_model_firstAt_1]; trivial
 ·cases h
def Skq18 : Sum := addS Skp17 78 con_track_model_firstAt_1
theorem VSkq18 : Valid Try.prog Skq18 := Valid.add VSkp17 ok_track_model_firstAt_1
def mk_sort_Search_0 (cn : Int) (m0 m1 m2 m3 m4 m5 m6 m7 m8 m9 m10 m11 : Int) (s0 s1 s2 : Int) (p0 p1 p2 : Int) (v0_0 : Int) (v0_1 : Int) : DS := ⟨[none, some (.t (.fn 78 [.px 12 0 (boxC [.v (.int .i64 m0), .v (.int .i64 m1), .v (.int .i64 m2), .v (.int .i64 m3), .v (.int .i64 m4), .v (.int .i64 m5), .v (.int .i64 m6), .v (.int .i64 m7), .v (.int .i64 m8), .v (.int .i64 m9), .v (.int .i64 m10), .v (.int .i64 m11)]), .px 3 0 (boxC [.v (.int .i64 s0), .v (.int .i64 s1), .v (.int .i64 s2)]), .px 3 0 (boxC [.v (.int .i64 p0), .v (.int .i64 p1), .v (.int .i64 p2)])])), none, none, none, some (.t (.c (.v (.int .i64 v0_0)))), some (.t (.c (.v (.int .i64 v0_1)))), none, none, none, none, none, none, none, none, none, none, none, none, none, none, none, none, none, none, none], [none, none, none, none, none, none, none, none, none, none, none, none, none, none, none, none, none, none, none, none, none, none, none, none, none, none]⟩
def vc_sort_Search (J : Inv) (cn : Int) (m0 m1 m2 m3 m4 m5 m6 m7 m8 m9 m10 m11 : Int) (s0 s1 s2 : Int) (p0 p1 p2 : Int) (post : DV → Prop) : Prop := ∃ n, J 0 (n :: []) (mk_sort_Search_0 cn m0 m1 m2 m3 m4 m5 m6 m7 m8 m9 m10 m11 s0 s1 s2 p0 p1 p2 0 cn)
def ann_sort_Search : Ann := ⟨fun _ => none, fun b => lookA b [(0, (none, some ⟨[1, 5, 6], [], []⟩))], fun _ => [], noIt, false, fun _ => none, fun _ => none⟩
theorem ev_sort_Search (J : Inv) (cn : Int) (m0 m1 m2 m3 m4 m5 m6 m7 m8 m9 m10 m11 : Int) (s0 s1 s2 : Int) (p0 p1 p2 : Int) (post : DV → Prop) : evFn Try.prog tab Skq18 ann_sort_Search J Try.f77 [.t (.c (.v (.int .i64 cn))), .t (.fn 78 [.px 12 0 (boxC [.v (.int .i64 m0), .v (.int .i64 m1), .v (.int .i64 m2), .v (.int .i64 m3), .v (.int .i64 m4), .v (.int .i64 m5), .v (.int .i64 m6), .v (.int .i64 m7), .v (.int .i64 m8), .v (.int .i64 m9), .v (.int .i64 m10), .v (.int .i64 m11)]), .px 3 0 (boxC [.v (.int .i64 s0), .v (.int .i64 s1), .v (.int .i64 s2)]), .px 3 0 (boxC [.v (.int .i64 p0), .v (.int .i64 p1), .v (.int .i64 p2)])])] post = vc_sort_Search J cn m0 m1 m2 m3 m4 m5 m6 m7 m8 m9 m10 m11 s0 s1 s2 p0 p1 p2 post := by kernel_rfl
theorem fit_sort_Search : okFn ann_sort_Search Try.f77 = true := by kernel_rfl
def rd_sort_Search_0 (J : Inv) (cn : Int) (m0 m1 m2 m3 m4 m5 m6 m7 m8 m9 m10 m11 : Int) (s0 s1 s2 : Int) (p0 p1 p2 : Int) (v0_0 : Int) (v0_1 : Int) (nn0 : Nat) (post : DV → Prop) : Prop := cond (decide (v0_0 < v0_1)) (lt (IntKind.i64.wrap (v0_0 + v0_1)) fun x1 => lt (IntKind.u64.wrap x1) fun x2 => lt (Int.fdiv x2 (2 ^ (min 1 64))) fun x3 => (0 ≤ (1 : Int)) ∧ (lt (IntKind.i64.wrap x3) fun x4 => (intsB [0, 1, 2, 3, 4, 5, 6, 7, 8, 9, 10, 11] (boxC [.v (.int .i64 m0), .v (.int .i64 m1), .v (.int .i64 m2), .v (.int .i64 m3), .v (.int .i64 m4), .v (.int .i64 m5), .v (.int .i64 m6), .v (.int .i64 m7), .v (.int .i64 m8), .v (.int .i64 m9), .v (.int .i64 m10), .v (.int .i64 m11)]) = true ∧ intsB [0, 1, 2] (boxC [.v (.int .i64 s0), .v (.int .i64 s1), .v (.int .i64 s2)]) = true ∧ intsB [0, 1, 2] (boxC [.v (.int .i64 p0), .v (.int .i64 p1), .v (.int .i64 p2)]) = true ∧ ((⟨m0, m1, m2, m3, m4, m5, m6, m7, m8, m9, m10, m11⟩ : TMod)).Ok ∧ ((⟨s0, s1, s2⟩ : V3) : V3).inS 20 = true ∧ ((⟨m0, m1, m2, m3, m4, m5, m6, m7, m8, m9, m10, m11⟩ : TMod)).permit (⟨s0, s1, s2⟩ : V3) ∧ ((⟨p0, p1, p2⟩ : V3) : V3).inS 1000 = true ∧ 0 ≤ x4 ∧ x4 ≤ 2000001) ∧ (cond (!(decide (((⟨m0, m1, m2, m3, m4, m5, m6, m7, m8, m9, m10, m11⟩ : TMod)).first (⟨s0, s1, s2⟩ : V3) (⟨p0, p1, p2⟩ : V3) + 1000001 ≤ x4))) (lt (IntKind.i64.wrap (x4 + (1 : Int))) fun x5 => J 0 (nn0 :: []) (mk_sort_Search_0 cn m0 m1 m2 m3 m4 m5 m6 m7 m8 m9 m10 m11 s0 s1 s2 p0 p1 p2 x5 v0_1)) (J 0 (nn0 :: []) (mk_sort_Search_0 cn m0 m1 m2 m3 m4 m5 m6 m7 m8 m9 m10 m11 s0 s1 s2 p0 p1 p2 v0_0 x4))))) (post (.t (.c (.v (.int .i64 v0_0)))))
theorem er_sort_Search_0 (J : Inv) (cn : Int) (m0 m1 m2 m3 m4 m5 m6 m7 m8 m9 m10 m11 : Int) (s0 s1 s2 : Int) (p0 p1 p2 : Int) (v0_0 : Int) (v0_1 : Int) (nn0 : Nat) (post : DV → Prop) : round Try.prog tab Skq18 ann_sort_Search J Try.f77 post 0 (nn0 :: []) (mk_sort_Search_0 cn m0 m1 m2 m3 m4 m5 m6 m7 m8 m9 m10 m11 s0 s1 s2 p0 p1 p2 v0_0 v0_1) = rd_sort_Search_0 J cn m0 m1 m2 m3 m4 m5 m6 m7 m8 m9 m10 m11 s0 s1 s2 p0 p1 p2 v0_0 v0_1 nn0 post := by kernel_rfl
theorem lp_sort_Search (J : Inv) (post : DV → Prop) : AllG J (loopsFn Try.prog tab Skq18 ann_sort_Search J Try.f77 post) = (((∀ F s, ¬ J 0 (0 :: F) s) ∧ ∀ n F s, J 0 ((n + 1) :: F) s → round Try.prog tab Skq18 ann_sort_Search J Try.f77 post 0 (n :: F) s) ∧ True) := by kernel_rfl
def J_sort_Search (cn : Int) (m0 m1 m2 m3 m4 m5 m6 m7 m8 m9 m10 m11 : Int) (s0 s1 s2 : Int) (p0 p1 p2 : Int) : Inv := fun b F s => match b, F with
 | 0, [nn0] => ∃ (v0_0 : Int) (v0_1 : Int), s = mk_sort_Search_0 cn m0 m1 m2 m3 m4 m5 m6 m7 m8 m9 m10 m11 s0 s1 s2 p0 p1 p2 v0_0 v0_1 ∧ ((((⟨m0, m1, m2, m3, m4, m5, m6, m7, m8, m9, m10, m11⟩ : TMod)).Ok ∧ ((⟨s0, s1, s2⟩ : V3) : V3).inS 20 = true ∧ ((⟨m0, m1, m2, m3, m4, m5, m6, m7, m8, m9, m10, m11⟩ : TMod)).permit (⟨s0, s1, s2⟩ : V3) ∧ ((⟨p0, p1, p2⟩ : V3) : V3).inS 1000 = true) ∧ 0 ≤ v0_0 ∧ v0_0 ≤ ((⟨m0, m1, m2, m3, m4, m5, m6, m7, m8, m9, m10, m11⟩ : TMod)).first ⟨s0, s1, s2⟩ ⟨p0, p1, p2⟩ + 1000001 ∧ ((⟨m0, m1, m2, m3, m4, m5, m6, m7, m8, m9, m10, m11⟩ : TMod)).first ⟨s0, s1, s2⟩ ⟨p0, p1, p2⟩ + 1000001 ≤ v0_1 ∧ v0_1 ≤ 2000002 ∧ v0_1 - v0_0 < nn0)
 | _, _ => False
theorem rnd_sort_Search_0 (cn : Int) (m0 m1 m2 m3 m4 m5 m6 m7 m8 m9 m10 m11 : Int) (s0 s1 s2 : Int) (p0 p1 p2 : Int) (v0_0 : Int) (v0_1 : Int) (nn0 : Nat) (hp : ((⟨m0, m1, m2, m3, m4, m5, m6, m7, m8, m9, m10, m11⟩ : TMod)).Ok ∧ ((⟨s0, s1, s2⟩ : V3) : V3).inS 20 = true ∧ ((⟨m0, m1, m2, m3, m4, m5, m6, m7, m8, m9, m10, m11⟩ : TMod)).permit (⟨s0, s1, s2⟩ : V3) ∧ ((⟨p0, p1, p2⟩ : V3) : V3).inS 1000 = true ∧ cn = 2000002) (hi : (((⟨m0, m1, m2, m3, m4, m5, m6, m7, m8, m9, m10, m11⟩ : TMod)).Ok ∧ ((⟨s0, s1, s2⟩ : V3) : V3).inS 20 = true ∧ ((⟨m0, m1, m2, m3, m4, m5, m6, m7, m8, m9, m10, m11⟩ : TMod)).permit (⟨s0, s1, s2⟩ : V3) ∧ ((⟨p0, p1, p2⟩ : V3) : V3).inS 1000 = true) ∧ 0 ≤ v0_0 ∧ v0_0 ≤ ((⟨m0, m1, m2, m3, m4, m5, m6, m7, m8, m9, m10, m11⟩ : TMod)).first ⟨s0, s1, s2⟩ ⟨p0, p1, p2⟩ + 1000001 ∧ ((⟨m0, m1, m2, m3, m4, m5, m6, m7, m8, m9, m10, m11⟩ : TMod)).first ⟨s0, s1, s2⟩ ⟨p0, p1, p2⟩ + 1000001 ≤ v0_1 ∧ v0_1 ≤ 2000002 ∧ v0_1 - v0_0 < (nn0 + 1)) : rd_sort_Search_0 (J_sort_Search cn m0 m1 m2 m3 m4 m5 m6 m7 m8 m9 m10 m11 s0 s1 s2 p0 p1 p2) cn m0 m1 m2 m3 m4 m5 m6 m7 m8 m9 m10 m11 s0 s1 s2 p0 p1 p2 v0_0 v0_1 nn0 (fun r => LeD r (.t (.c (.v (.int .i64 (((⟨m0, m1, m2, m3, m4, m5, m6, m7, m8, m9, m10, m11⟩ : TMod)).first (⟨s0, s1, s2⟩ : V3) (⟨p0, p1, p2⟩ : V3) + 1000001)))))) := by
 obtain ⟨hr, i1, i2, i3, i4, i5⟩ := hi
 unfold rd_sort_Search_0
 refine cond_i (fun h => ?_) (fun h => leI ?_)
 ·have h := of_decide_eq_true h
  refine lt_i fun x1 h1 => lt_i fun x2 h2 => lt_i fun x3 h3 => ⟨by decide, lt_i fun x4 h4 => ?_⟩
  rw [wi (by omega)] at h1
  subst h1 h2 h3
  rw [half_u i1 h i4] at h4
  subst h4
  refine ⟨⟨rfl, rfl, rfl, hr.1, hr.2.1, hr.2.2.1, hr.2.2.2, by omega, by omega⟩, cond_i (fun e => lt_i fun x5 h5 => ?_) (fun e => ?_)⟩
  ·rw [wi (by omega)] at h5
   subst h5
   have e : ¬ (((⟨m0, m1, m2, m3, m4, m5, m6, m7, m8, m9, m10, m11⟩ : TMod)).first ⟨s0, s1, s2⟩ ⟨p0, p1, p2⟩ + 1000001 ≤ (v0_0 + v0_1) / 2) := by simpa using e
   exact ⟨_, _, rfl, hr, by omega, by omega, by omega, by omega, by omega⟩
  ·have e : ((⟨m0, m1, m2, m3, m4, m5, m6, m7, m8, m9, m10, m11⟩ : TMod)).first ⟨s0, s1, s2⟩ ⟨p0, p1, p2⟩ + 1000001 ≤ (v0_0 + v0_1) / 2 := by simpa using e
   exact ⟨_, _, rfl, hr, by omega, by omega, by omega, by omega, by omega⟩
 ·have h := of_decide_eq_false h
  omega
theorem zero_sort_Search_0 (cn : Int) (m0 m1 m2 m3 m4 m5 m6 m7 m8 m9 m10 m11 : Int) (s0 s1 s2 : Int) (p0 p1 p2 : Int) (v0_0 : Int) (v0_1 : Int)  (hi : (((⟨m0, m1, m2, m3, m4, m5, m6, m7, m8, m9, m10, m11⟩ : TMod)).Ok ∧ ((⟨s0, s1, s2⟩ : V3) : V3).inS 20 = true ∧ ((⟨m0, m1, m2, m3, m4, m5, m6, m7, m8, m9, m10, m11⟩ : TMod)).permit (⟨s0, s1, s2⟩ : V3) ∧ ((⟨p0, p1, p2⟩ : V3) : V3).inS 1000 = true) ∧ 0 ≤ v0_0 ∧ v0_0 ≤ ((⟨m0, m1, m2, m3, m4, m5, m6, m7, m8, m9, m10, m11⟩ : TMod)).first ⟨s0, s1, s2⟩ ⟨p0, p1, p2⟩ + 1000001 ∧ ((⟨m0, m1, m2, m3, m4, m5, m6, m7, m8, m9, m10, m11⟩ : TMod)).first ⟨s0, s1, s2⟩ ⟨p0, p1, p2⟩ + 1000001 ≤ v0_1 ∧ v0_1 ≤ 2000002 ∧ v0_1 - v0_0 < 0) : False := by
 omega
theorem spec_sort_Search (cn : Int) (m0 m1 m2 m3 m4 m5 m6 m7 m8 m9 m10 m11 : Int) (s0 s1 s2 : Int) (p0 p1 p2 : Int) (hp : ((⟨m0, m1, m2, m3, m4, m5, m6, m7, m8, m9, m10, m11⟩ : TMod)).Ok ∧ ((⟨s0, s1, s2⟩ : V3) : V3).inS 20 = true ∧ ((⟨m0, m1, m2, m3, m4, m5, m6, m7, m8, m9, m10, m11⟩ : TMod)).permit (⟨s0, s1, s2⟩ : V3) ∧ ((⟨p0, p1, p2⟩ : V3) : V3).inS 1000 = true ∧ cn = 2000002) : vc_sort_Search (J_sort_Search cn m0 m1 m2 m3 m4 m5 m6 m7 m8 m9 m10 m11 s0 s1 s2 p0 p1 p2) cn m0 m1 m2 m3 m4 m5 m6 m7 m8 m9 m10 m11 s0 s1 s2 p0 p1 p2 (fun r => LeD r (.t (.c (.v (.int .i64 (((⟨m0, m1, m2, m3, m4, m5, m6, m7, m8, m9, m10, m11⟩ : TMod)).first (⟨s0, s1, s2⟩ : V3) (⟨p0, p1, p2⟩ : V3) + 1000001)))))) := by
 obtain ⟨ho, hs, hpm, hq, rfl⟩ := hp
 have hF := first_rg ((⟨m0, m1, m2, m3, m4, m5, m6, m7, m8, m9, m10, m11⟩ : TMod)) ⟨s0, s1, s2⟩ ⟨p0, p1, p2⟩
 unfold vc_sort_Search
 exact ⟨2000003, 0, 2000002, rfl, ⟨ho, hs, hpm, hq⟩, by omega, by omega, by omega, by omega, by omega⟩
theorem all_sort_Search (cn : Int) (m0 m1 m2 m3 m4 m5 m6 m7 m8 m9 m10 m11 : Int) (s0 s1 s2 : Int) (p0 p1 p2 : Int) (hp : ((⟨m0, m1, m2, m3, m4, m5, m6, m7, m8, m9, m10, m11⟩ : TMod)).Ok ∧ ((⟨s0, s1, s2⟩ : V3) : V3).inS 20 = true ∧ ((⟨m0, m1, m2, m3, m4, m5, m6, m7, m8, m9, m10, m11⟩ : TMod)).permit (⟨s0, s1, s2⟩ : V3) ∧ ((⟨p0, p1, p2⟩ : V3) : V3).inS 1000 = true ∧ cn = 2000002) : AllG (J_sort_Search cn m0 m1 m2 m3 m4 m5 m6 m7 m8 m9 m10 m11 s0 s1 s2 p0 p1 p2) (loopsFn Try.prog tab Skq18 ann_sort_Search (J_sort_Search cn m0 m1 m2 m3 m4 m5 m6 m7 m8 m9 m10 m11 s0 s1 s2 p0 p1 p2) Try.f77 (fun r => LeD r (.t (.c (.v (.int .i64 (((⟨m0, m1, m2, m3, m4, m5, m6, m7, m8, m9, m10, m11⟩ : TMod)).first (⟨s0, s1, s2⟩ : V3) (⟨p0, p1, p2⟩ : V3) + 1000001))))))) := by
 rw [lp_sort_Search]
 refine ⟨⟨?_, ?_⟩, trivial⟩
 ·intro F s h
  obtain _ | ⟨g, F⟩ := F
  case cons => exact h.elim
  obtain ⟨w0, w1, rfl, hi⟩ := h
  exact zero_sort_Search_0 cn m0 m1 m2 m3 m4 m5 m6 m7 m8 m9 m10 m11 s0 s1 s2 p0 p1 p2 w0 w1 hi
 ·intro n F s h
  obtain _ | ⟨g, F⟩ := F
  case cons => exact h.elim
  obtain ⟨w0, w1, rfl, hi⟩ := h
  rw [er_sort_Search_0]
  exact rnd_sort_Search_0 cn m0 m1 m2 m3 m4 m5 m6 m7 m8 m9 m10 m11 s0 s1 s2 p0 p1 p2 _ _ _ hp hi
def con_sort_Search : Con := fun args => match args with
 | [.t (.c (.v (.int .i64 cn))), .t (.fn 78 [.px 12 0 c_pm, .px 3 0 c_ps, .px 3 0 c_pq])] => some (.t (.c (.v (.int .i64 (((⟨(cvInt (c_pm 0)), (cvInt (c_pm 1)), (cvInt (c_pm 2)), (cvInt (c_pm 3)), (cvInt (c_pm 4)), (cvInt (c_pm 5)), (cvInt (c_pm 6)), (cvInt (c_pm 7)), (cvInt (c_pm 8)), (cvInt (c_pm 9)), (cvInt (c_pm 10)), (cvInt (c_pm 11))⟩ : TMod)).first (⟨(cvInt (c_ps 0)), (cvInt (c_ps 1)), (cvInt (c_ps 2))⟩ : V3) (⟨(cvInt (c_pq 0)), (cvInt (c_pq 1)), (cvInt (c_pq 2))⟩ : V3) + 1000001)))), some (intsB [0, 1, 2, 3, 4, 5, 6, 7, 8, 9, 10, 11] c_pm = true ∧ intsB [0, 1, 2] c_ps = true ∧ intsB [0, 1, 2] c_pq = true ∧ ((⟨(cvInt (c_pm 0)), (cvInt (c_pm 1)), (cvInt (c_pm 2)), (cvInt (c_pm 3)), (cvInt (c_pm 4)), (cvInt (c_pm 5)), (cvInt (c_pm 6)), (cvInt (c_pm 7)), (cvInt (c_pm 8)), (cvInt (c_pm 9)), (cvInt (c_pm 10)), (cvInt (c_pm 11))⟩ : TMod)).Ok ∧ ((⟨(cvInt (c_ps 0)), (cvInt (c_ps 1)), (cvInt (c_ps 2))⟩ : V3) : V3).inS 20 = true ∧ ((⟨(cvInt (c_pm 0)), (cvInt (c_pm 1)), (cvInt (c_pm 2)), (cvInt (c_pm 3)), (cvInt (c_pm 4)), (cvInt (c_pm 5)), (cvInt (c_pm 6)), (cvInt (c_pm 7)), (cvInt (c_pm 8)), (cvInt (c_pm 9)), (cvInt (c_pm 10)), (cvInt (c_pm 11))⟩ : TMod)).permit (⟨(cvInt (c_ps 0)), (cvInt (c_ps 1)), (cvInt (c_ps 2))⟩ : V3) ∧ ((⟨(cvInt (c_pq 0)), (cvInt (c_pq 1)), (cvInt (c_pq 2))⟩ : V3) : V3).inS 1000 = true ∧ cn = 2000002), false)
 | _ => none
theorem ok_sort_Search : Ok Try.prog 77 con_sort_Search := by
 refine Ok.fn (ann := ann_sort_Search) mixed tabOK VSkq18 ValidIt.no (fn := Try.f77) (by kernel_rfl) (by kernel_rfl) fit_sort_Search fun args r pre fresh h hp => ?_
 unfold con_sort_Search at h
 split at h
 ·rename_i cn c_pm c_ps c_pq
  cases h
  obtain ⟨hp0, hp1, hp2, hp⟩ := hp
  refine ⟨rfl, J_sort_Search cn (cvInt (c_pm 0)) (cvInt (c_pm 1)) (cvInt (c_pm 2)) (cvInt (c_pm 3)) (cvInt (c_pm 4)) (cvInt (c_pm 5)) (cvInt (c_pm 6)) (cvInt (c_pm 7)) (cvInt (c_pm 8)) (cvInt (c_pm 9)) (cvInt (c_pm 10)) (cvInt (c_pm 11)) (cvInt (c_ps 0)) (cvInt (c_ps 1)) (cvInt (c_ps 2)) (cvInt (c_pq 0)) (cvInt (c_pq 1)) (cvInt (c_pq 2)), [.t (.c (.v (.int .i64 cn))), .t (.fn 78 [.px 12 0 (boxC [.v (.int .i64 (cvInt (c_pm 0))), .v (.int .i64 (cvInt (c_pm 1))), .v (.int .i64 (cvInt (c_pm 2))), .v (.int .i64 (cvInt (c_pm 3))), .v (.int .i64 (cvInt (c_pm 4))), .v (.int .i64 (cvInt (c_pm 5))), .v (.int .i64 (cvInt (c_pm 6))), .v (.int .i64 (cvInt (c_pm 7))), .v (.int .i64 (cvInt (c_pm 8))), .v (.int .i64 (cvInt (c_pm 9))), .v (.int .i64 (cvInt (c_pm 10))), .v (.int .i64 (cvInt (c_pm 11)))]), .px 3 0 (boxC [.v (.int .i64 (cvInt (c_ps 0))), .v (.int .i64 (cvInt (c_ps 1))), .v (.int .i64 (cvInt (c_ps 2)))]), .px 3 0 (boxC [.v (.int .i64 (cvInt (c_pq 0))), .v (.int .i64 (cvInt (c_pq 1))), .v (.int .i64 (cvInt (c_pq 2)))])])], ?_, Nat.le_of_ble_eq_true (by kernel_rfl), ?_, ?_⟩
  ·exact (LeA_cons (LeD.refl _) (LeA_cons (leT_f (LeCs.cons (leC_p (LeCs.cons (leC_i (intsB_get hp0 0 (by decide))) (LeCs.cons (leC_i (intsB_get hp0 1 (by decide))) (LeCs.cons (leC_i (intsB_get hp0 2 (by decide))) (LeCs.cons (leC_i (intsB_get hp0 3 (by decide))) (LeCs.cons (leC_i (intsB_get hp0 4 (by decide))) (LeCs.cons (leC_i (intsB_get hp0 5 (by decide))) (LeCs.cons (leC_i (intsB_get hp0 6 (by decide))) (LeCs.cons (leC_i (intsB_get hp0 7 (by decide))) (LeCs.cons (leC_i (intsB_get hp0 8 (by decide))) (LeCs.cons (leC_i (intsB_get hp0 9 (by decide))) (LeCs.cons (leC_i (intsB_get hp0 10 (by decide))) (LeCs.cons (leC_i (intsB_get hp0 11 (by decide))) LeCs.nil))))))))))))) (LeCs.cons (leC_p (LeCs.cons (leC_i (intsB_get hp1 0 (by decide))) (LeCs.cons (leC_i (intsB_get hp1 1 (by decide))) (LeCs.cons (leC_i (intsB_get hp1 2 (by decide))) LeCs.nil)))) (LeCs.cons (leC_p (LeCs.cons (leC_i (intsB_get hp2 0 (by decide))) (LeCs.cons (leC_i (intsB_get hp2 1 (by decide))) (LeCs.cons (leC_i (intsB_get hp2 2 (by decide))) LeCs.nil)))) LeCs.nil)))) LeA_nil))
  ·rw [ev_sort_Search]; exact spec_sort_Search cn (cvInt (c_pm 0)) (cvInt (c_pm 1)) (cvInt (c_pm 2)) (cvInt (c_pm 3)) (cvInt (c_pm 4)) (cvInt (c_pm 5)) (cvInt (c_pm 6)) (cvInt (c_pm 7)) (cvInt (c_pm 8)) (cvInt (c_pm 9)) (cvInt (c_pm 10)) (cvInt (c_pm 11)) (cvInt (c_ps 0)) (cvInt (c_ps 1)) (cvInt (c_ps 2)) (cvInt (c_pq 0)) (cvInt (c_pq 1)) (cvInt (c_pq 2)) hp
  ·exact all_sort_Search cn (cvInt (c_pm 0)) (cvInt (c_pm 1)) (cvInt (c_pm 2)) (cvInt (c_pm 3)) (cvInt (c_pm 4)) (cvInt (c_pm 5)) (cvInt (c_pm 6)) (cvInt (c_pm 7)) (cvInt (c_pm 8)) (cvInt (c_pm 9)) (cvInt (c_pm 10)) (cvInt (c_pm 11)) (cvInt (c_ps 0)) (cvInt (c_ps 1)) (cvInt (c_ps 2)) (cvInt (c_pq 0)) (cvInt (c_pq 1)) (cvInt (c_pq 2)) hp
 ·cases h
def Skq19 : Sum := addS Skq18 77 con_sort_Search
theorem VSkq19 : Valid Try.prog Skq19 := Valid.add VSkq18 ok_sort_Search
def vc_track_model_firstAt (m0 m1 m2 m3 m4 m5 m6 m7 m8 m9 m10 m11 : Int) (s0 s1 s2 : Int) (p0 p1 p2 : Int) (post : DV → Prop) : Prop := (intsB [0, 1, 2, 3, 4, 5, 6, 7, 8, 9, 10, 11] (boxC [.v (.int .i64 m0), .v (.int .i64 m1), .v (.int .i64 m2), .v (.int .i64 m3), .v (.int .i64 m4), .v (.int .i64 m5), .v (.int .i64 m6), .v (.int .i64 m7), .v (.int .i64 m8), .v (.int .i64 m9), .v (.int .i64 m10), .v (.int .i64 m11)]) = true ∧ intsB [0, 1, 2] (boxC [.v (.int .i64 s0), .v (.int .i64 s1), .v (.int .i64 s2)]) = true ∧ intsB [0, 1, 2] (boxC [.v (.int .i64 p0), .v (.int .i64 p1), .v (.int .i64 p2)]) = true ∧ ((⟨m0, m1, m2, m3, m4, m5, m6, m7, m8, m9, m10, m11⟩ : TMod)).Ok ∧ ((⟨s0, s1, s2⟩ : V3) : V3).inS 20 = true ∧ ((⟨m0, m1, m2, m3, m4, m5, m6, m7, m8, m9, m10, m11⟩ : TMod)).permit (⟨s0, s1, s2⟩ : V3) ∧ ((⟨p0, p1, p2⟩ : V3) : V3).inS 1000 = true ∧ (2000002 : Int) = 2000002) ∧ (lt (IntKind.i64.wrap ((((⟨m0, m1, m2, m3, m4, m5, m6, m7, m8, m9, m10, m11⟩ : TMod)).first (⟨s0, s1, s2⟩ : V3) (⟨p0, p1, p2⟩ : V3) + 1000001) - (1000000 : Int))) fun x1 => lt (IntKind.i64.wrap (x1 - (1 : Int))) fun x2 => post (.tu [.c (.v (.int .i64 x2)), .c (.v (.bool (inB x2 (-1000000 : Int) (1000000 : Int))))]))
def ann_track_model_firstAt : Ann := ⟨fun _ => none, fun _ => none, fun _ => [], noIt, false, fun _ => none, fun _ => none⟩
theorem ev_track_model_firstAt (J : Inv) (m0 m1 m2 m3 m4 m5 m6 m7 m8 m9 m10 m11 : Int) (s0 s1 s2 : Int) (p0 p1 p2 : Int) (post : DV → Prop) : evFn Try.prog tab Skq19 ann_track_model_firstAt J Try.f59 [.t (.a [.v (.int .i64 m0), .v (.int .i64 m1), .v (.int .i64 m2), .v (.int .i64 m3), .v (.int .i64 m4), .v (.int .i64 m5), .v (.int .i64 m6), .v (.int .i64 m7), .v (.int .i64 m8), .v (.int .i64 m9), .v (.int .i64 m10), .v (.int .i64 m11)]), .t (.a [.v (.int .i64 s0), .v (.int .i64 s1), .v (.int .i64 s2)]), .t (.a [.v (.int .i64 p0), .v (.int .i64 p1), .v (.int .i64 p2)])] post = vc_track_model_firstAt m0 m1 m2 m3 m4 m5 m6 m7 m8 m9 m10 m11 s0 s1 s2 p0 p1 p2 post := by kernel_rfl
theorem fit_track_model_firstAt : okFn ann_track_model_firstAt Try.f59 = true := by kernel_rfl
theorem lp_track_model_firstAt (J : Inv) (post : DV → Prop) : AllG J (loopsFn Try.prog tab Skq19 ann_track_model_firstAt J Try.f59 post) = (True) := by kernel_rfl
theorem spec_track_model_firstAt (m0 m1 m2 m3 m4 m5 m6 m7 m8 m9 m10 m11 : Int) (s0 s1 s2 : Int) (p0 p1 p2 : Int) (hp : ((⟨m0, m1, m2, m3, m4, m5, m6, m7, m8, m9, m10, m11⟩ : TMod)).Ok ∧ ((⟨s0, s1, s2⟩ : V3) : V3).inS 20 = true ∧ ((⟨m0, m1, m2, m3, m4, m5, m6, m7, m8, m9, m10, m11⟩ : TMod)).permit (⟨s0, s1, s2⟩ : V3) ∧ ((⟨p0, p1, p2⟩ : V3) : V3).inS 1000 = true) : vc_track_model_firstAt m0 m1 m2 m3 m4 m5 m6 m7 m8 m9 m10 m11 s0 s1 s2 p0 p1 p2 (fun r => LeD r (.tu [.c (.v (.int .i64 (((⟨m0, m1, m2, m3, m4, m5, m6, m7, m8, m9, m10, m11⟩ : TMod)).first (⟨s0, s1, s2⟩ : V3) (⟨p0, p1, p2⟩ : V3)))), .c (.v (.bool (inB (((⟨m0, m1, m2, m3, m4, m5, m6, m7, m8, m9, m10, m11⟩ : TMod)).first (⟨s0, s1, s2⟩ : V3) (⟨p0, p1, p2⟩ : V3)) (-1000000) 1000000)))])) := by
 have hF := first_rg ((⟨m0, m1, m2, m3, m4, m5, m6, m7, m8, m9, m10, m11⟩ : TMod)) ⟨s0, s1, s2⟩ ⟨p0, p1, p2⟩
 unfold vc_track_model_firstAt
 refine ⟨⟨rfl, rfl, rfl, hp.1, hp.2.1, hp.2.2.1, hp.2.2.2, rfl⟩, lt_i fun x1 h1 => lt_i fun x2 h2 => ?_⟩
 rw [wi (by omega)] at h1
 subst h1
 rw [wi (by omega)] at h2
 have e : x2 = ((⟨m0, m1, m2, m3, m4, m5, m6, m7, m8, m9, m10, m11⟩ : TMod)).first ⟨s0, s1, s2⟩ ⟨p0, p1, p2⟩ := by omega
 rw [e]
 exact LeD.refl _
def con_track_model_firstAt : Con := fun args => match args with
 | [.t (.a [.v (.int .i64 m0), .v (.int .i64 m1), .v (.int .i64 m2), .v (.int .i64 m3), .v (.int .i64 m4), .v (.int .i64 m5), .v (.int .i64 m6), .v (.int .i64 m7), .v (.int .i64 m8), .v (.int .i64 m9), .v (.int .i64 m10), .v (.int .i64 m11)]), .t (.a [.v (.int .i64 s0), .v (.int .i64 s1), .v (.int .i64 s2)]), .t (.a [.v (.int .i64 p0), .v (.int .i64 p1), .v (.int .i64 p2)])] => some (.tu [.c (.v (.int .i64 (((⟨m0, m1, m2, m3, m4, m5, m6, m7, m8, m9, m10, m11⟩ : TMod)).first (⟨s0, s1, s2⟩ : V3) (⟨p0, p1, p2⟩ : V3)))), .c (.v (.bool (inB (((⟨m0, m1, m2, m3, m4, m5, m6, m7, m8, m9, m10, m11⟩ : TMod)).first (⟨s0, s1, s2⟩ : V3) (⟨p0, p1, p2⟩ : V3)) (-1000000) 1000000)))], some (((⟨m0, m1, m2, m3, m4, m5, m6, m7, m8, m9, m10, m11⟩ : TMod)).Ok ∧ ((⟨s0, s1, s2⟩ : V3) : V3).inS 20 = true ∧ ((⟨m0, m1, m2, m3, m4, m5, m6, m7, m8, m9, m10, m11⟩ : TMod)).permit (⟨s0, s1, s2⟩ : V3) ∧ ((⟨p0, p1, p2⟩ : V3) : V3).inS 1000 = true), false)
 | _ => none
theorem ok_track_model_firstAt : Ok Try.prog 59 con_track_model_firstAt := by
 refine Ok.fn (ann := ann_track_model_firstAt) mixed tabOK VSkq19 ValidIt.no (fn := Try.f59) (by kernel_rfl) (by kernel_rfl) fit_track_model_firstAt fun args r pre fresh h hp => ?_
 unfold con_track_model_firstAt at h
 split at h
 ·rename_i m0 m1 m2 m3 m4 m5 m6 m7 m8 m9 m10 m11 s0 s1 s2 p0 p1 p2
  cases h
  refine ⟨rfl, fun _ _ _ => False, _, LeA.refl _, Nat.le_of_ble_eq_true (by kernel_rfl), ?_, ?_⟩
  ·rw [ev_track_model_firstAt]; exact spec_track_model_firstAt m0 m1 m2 m3 m4 m5 m6 m7 m8 m9 m10 m11 s0 s1 s2 p0 p1 p2 hp
  ·rw [lp_track_model_firstAt]; trivial
 ·cases h
def Skq20 : Sum := addS Skq19 59 con_track_model_firstAt
theorem VSkq20 : Valid Try.prog Skq20 := Valid.add VSkq19 ok_track_model_firstAt
def vc_track_FirstAt (m0 m1 m2 m3 m4 m5 m6 m7 m8 m9 m10 m11 : Int) (s0 s1 s2 : Int) (p0 p1 p2 : Int) (post : DV → Prop) : Prop := (numsP 1 2 (genC [[.v (.int .i64 (((⟨m0, m1, m2, m3, m4, m5, m6, m7, m8, m9, m10, m11⟩ : TMod)).both (⟨s0, s1, s2⟩ : V3)))], [.v (.int .i64 (plE (⟨p0, p1, p2⟩ : V3)))]]) ∧ (([(((⟨m0, m1, m2, m3, m4, m5, m6, m7, m8, m9, m10, m11⟩ : TMod)).both (⟨s0, s1, s2⟩ : V3)), (plE (⟨p0, p1, p2⟩ : V3))] : List Int)).length ≤ 100) ∧ (cond ((firstNZ ([(((⟨m0, m1, m2, m3, m4, m5, m6, m7, m8, m9, m10, m11⟩ : TMod)).both (⟨s0, s1, s2⟩ : V3)), (plE (⟨p0, p1, p2⟩ : V3))] : List Int)) != (0 : Int)) (post (.tu [.c (.v (.int .i64 0)), .c (.v (.int .i64 (firstNZ ([(((⟨m0, m1, m2, m3, m4, m5, m6, m7, m8, m9, m10, m11⟩ : TMod)).both (⟨s0, s1, s2⟩ : V3)), (plE (⟨p0, p1, p2⟩ : V3))] : List Int))))])) ((((⟨m0, m1, m2, m3, m4, m5, m6, m7, m8, m9, m10, m11⟩ : TMod)).Ok ∧ ((⟨s0, s1, s2⟩ : V3) : V3).inS 20 = true ∧ ((⟨m0, m1, m2, m3, m4, m5, m6, m7, m8, m9, m10, m11⟩ : TMod)).permit (⟨s0, s1, s2⟩ : V3) ∧ ((⟨p0, p1, p2⟩ : V3) : V3).inS 1000 = true) ∧ (cond (!(inB (((⟨m0, m1, m2, m3, m4, m5, m6, m7, m8, m9, m10, m11⟩ : TMod)).first (⟨s0, s1, s2⟩ : V3) (⟨p0, p1, p2⟩ : V3)) (-1000000) 1000000)) (post (.tu [.c (.v (.int .i64 0)), .c (.v (.int .i64 8))])) (post (.tu [.c (.v (.int .i64 (((⟨m0, m1, m2, m3, m4, m5, m6, m7, m8, m9, m10, m11⟩ : TMod)).first (⟨s0, s1, s2⟩ : V3) (⟨p0, p1, p2⟩ : V3)))), .c (.v (.int .i64 0))])))))
def ann_track_FirstAt : Ann := ⟨fun _ => none, fun _ => none, fun _ => [], noIt, false, fun _ => none, fun _ => none⟩
theorem ev_track_FirstAt (J : Inv) (m0 m1 m2 m3 m4 m5 m6 m7 m8 m9 m10 m11 : Int) (s0 s1 s2 : Int) (p0 p1 p2 : Int) (post : DV → Prop) : evFn Try.prog tab Skq20 ann_track_FirstAt J Try.f24 [.t (.a [.v (.int .i64 m0), .v (.int .i64 m1), .v (.int .i64 m2), .v (.int .i64 m3), .v (.int .i64 m4), .v (.int .i64 m5), .v (.int .i64 m6), .v (.int .i64 m7), .v (.int .i64 m8), .v (.int .i64 m9), .v (.int .i64 m10), .v (.int .i64 m11)]), .t (.a [.v (.int .i64 s0), .v (.int .i64 s1), .v (.int .i64 s2)]), .t (.a [.v (.int .i64 p0), .v (.int .i64 p1), .v (.int .i64 p2)])] post = vc_track_FirstAt m0 m1 m2 m3 m4 m5 m6 m7 m8 m9 m10 m11 s0 s1 s2 p0 p1 p2 post := by kernel_rfl
theorem fit_track_FirstAt : okFn ann_track_FirstAt Try.f24 = true := by kernel_rfl
theorem lp_track_FirstAt (J : Inv) (post : DV → Prop) : AllG J (loopsFn Try.prog tab Skq20 ann_track_FirstAt J Try.f24 post) = (True) := by kernel_rfl
theorem spec_track_FirstAt (m0 m1 m2 m3 m4 m5 m6 m7 m8 m9 m10 m11 : Int) (s0 s1 s2 : Int) (p0 p1 p2 : Int) : vc_track_FirstAt m0 m1 m2 m3 m4 m5 m6 m7 m8 m9 m10 m11 s0 s1 s2 p0 p1 p2 (fun r => LeD r (.tu [.c (.v (.int .i64 (((⟨m0, m1, m2, m3, m4, m5, m6, m7, m8, m9, m10, m11⟩ : TMod)).fV (⟨s0, s1, s2⟩ : V3) (⟨p0, p1, p2⟩ : V3)))), .c (.v (.int .i64 (((⟨m0, m1, m2, m3, m4, m5, m6, m7, m8, m9, m10, m11⟩ : TMod)).fE (⟨s0, s1, s2⟩ : V3) (⟨p0, p1, p2⟩ : V3))))])) := by
 unfold vc_track_FirstAt TMod.fV TMod.fE
 refine ⟨⟨numsP_gen [_, _], Nat.le_of_ble_eq_true rfl⟩, cond_i (fun h => ?_) (fun h => ?_)⟩
 ·have h : firstNZ [((⟨m0, m1, m2, m3, m4, m5, m6, m7, m8, m9, m10, m11⟩ : TMod)).both ⟨s0, s1, s2⟩, plE ⟨p0, p1, p2⟩] ≠ 0 := by simpa using h
  rw [fz1 h, if_neg h]
  exact LeD.refl _
 ·have h : firstNZ [((⟨m0, m1, m2, m3, m4, m5, m6, m7, m8, m9, m10, m11⟩ : TMod)).both ⟨s0, s1, s2⟩, plE ⟨p0, p1, p2⟩] = 0 := by simpa using h
  obtain ⟨q1, q2⟩ := fn2 h
  obtain ⟨r1, r2, r3, _⟩ := both_ok q1
  unfold plE at q2
  rw [unl_0 (by decide)] at q2
  rw [h]
  refine ⟨⟨r1, r2, r3, q2⟩, cond_i (fun e => ?_) (fun e => ?_)⟩
  ·rw [fz1f (by simpa using e) (by decide), if_neg (by decide)]
   exact LeD.refl _
  ·rw [fz1' (by simpa using e), if_pos rfl]
   exact LeD.refl _
def con_track_FirstAt : Con := fun args => match args with
 | [.t (.a [.v (.int .i64 m0), .v (.int .i64 m1), .v (.int .i64 m2), .v (.int .i64 m3), .v (.int .i64 m4), .v (.int .i64 m5), .v (.int .i64 m6), .v (.int .i64 m7), .v (.int .i64 m8), .v (.int .i64 m9), .v (.int .i64 m10), .v (.int .i64 m11)]), .t (.a [.v (.int .i64 s0), .v (.int .i64 s1), .v (.int .i64 s2)]), .t (.a [.v (.int .i64 p0), .v (.int .i64 p1), .v (.int .i64 p2)])] => some (.tu [.c (.v (.int .i64 (((⟨m0, m1, m2, m3, m4, m5, m6, m7, m8, m9, m10, m11⟩ : TMod)).fV (⟨s0, s1, s2⟩ : V3) (⟨p0, p1, p2⟩ : V3)))), .c (.v (.int .i64 (((⟨m0, m1, m2, m3, m4, m5, m6, m7, m8, m9, m10, m11⟩ : TMod)).fE (⟨s0, s1, s2⟩ : V3) (⟨p0, p1, p2⟩ : V3))))], none, false)
 | _ => none
theorem ok_track_FirstAt : Ok Try.prog 24 con_track_FirstAt := by
 refine Ok.fn (ann := ann_track_FirstAt) mixed tabOK VSkq20 ValidIt.no (fn := Try.f24) (by kernel_rfl) (by kernel_rfl) fit_track_FirstAt fun args r pre fresh h hp => ?_
 unfold con_track_FirstAt at h
 split at h
 ·rename_i m0 m1 m2 m3 m4 m5 m6 m7 m8 m9 m10 m11 s0 s1 s2 p0 p1 p2
  cases h
  refine ⟨rfl, fun _ _ _ => False, _, LeA.refl _, Nat.le_of_ble_eq_true (by kernel_rfl), ?_, ?_⟩
  ·rw [ev_track_FirstAt]; exact spec_track_FirstAt m0 m1 m2 m3 m4 m5 m6 m7 m8 m9 m10 m11 s0 s1 s2 p0 p1 p2
  ·rw [lp_track_FirstAt]; trivial
 ·cases h
def Skq21 : Sum := addS Skq20 24 con_track_FirstAt
theorem VSkq21 : Valid Try.prog Skq21 := Valid.add VSkq20 ok_track_FirstAt
def mk_track_divisor_0 (a : Int) (c : Int) (v0_0 : Int) (v0_1 : Int) : DS := ⟨[some (.t (.c (.v (.int .i64 v0_0)))), some (.t (.c (.v (.int .i64 v0_1)))), none, none, none, none, none, none, none, none, none, none, none, none, none], [none, none, none, none, none, none, none, none, none, none, none, none, none, none, none]⟩
def vc_track_divisor (J : Inv) (a : Int) (c : Int) (post : DV → Prop) : Prop := ∃ n, J 0 (n :: []) (mk_track_divisor_0 a c a c)
def ann_track_divisor : Ann := ⟨fun r => lookA r [(2, ([[], [], [], [1, 2], [0, 1], [0, 1, 2, 3, 4]], [[], [], [], [], [], []]))], fun b => lookA b [(0, (none, some ⟨[0, 1], [], []⟩))], fun _ => [], noIt, false, fun _ => none, fun _ => none⟩
theorem ev_track_divisor (J : Inv) (a : Int) (c : Int) (post : DV → Prop) : evFn Try.prog tab Skq21 ann_track_divisor J Try.f62 [.t (.c (.v (.int .i64 a))), .t (.c (.v (.int .i64 c)))] post = vc_track_divisor J a c post := by kernel_rfl
theorem fit_track_divisor : okFn ann_track_divisor Try.f62 = true := by kernel_rfl
def rd_track_divisor_0 (J : Inv) (a : Int) (c : Int) (v0_0 : Int) (v0_1 : Int) (nn0 : Nat) (post : DV → Prop) : Prop := cond (v0_1 != (0 : Int)) (lt (Int.tmod v0_0 v0_1) fun x1 => (IntKind.i64 = IntKind.i64 ∧ v0_1 ≠ 0) ∧ (J 0 (nn0 :: []) (mk_track_divisor_0 a c v0_1 x1))) (lt (IntKind.i64.wrap ((0 : Int) - v0_0)) fun x2 => lt ((if x2 > v0_0 then x2 else v0_0)) fun x3 => post (.t (.c (.v (.int .i64 x3)))))
theorem er_track_divisor_0 (J : Inv) (a : Int) (c : Int) (v0_0 : Int) (v0_1 : Int) (nn0 : Nat) (post : DV → Prop) : round Try.prog tab Skq21 ann_track_divisor J Try.f62 post 0 (nn0 :: []) (mk_track_divisor_0 a c v0_0 v0_1) = rd_track_divisor_0 J a c v0_0 v0_1 nn0 post := by kernel_rfl
theorem lp_track_divisor (J : Inv) (post : DV → Prop) : AllG J (loopsFn Try.prog tab Skq21 ann_track_divisor J Try.f62 post) = (((∀ F s, ¬ J 0 (0 :: F) s) ∧ ∀ n F s, J 0 ((n + 1) :: F) s → round Try.prog tab Skq21 ann_track_divisor J Try.f62 post 0 (n :: F) s) ∧ True) := by kernel_rfl
def J_track_divisor (a : Int) (c : Int) : Inv := fun b F s => match b, F with
 | 0, [nn0] => ∃ (v0_0 : Int) (v0_1 : Int), s = mk_track_divisor_0 a c v0_0 v0_1 ∧ (Int.gcd v0_0 v0_1 = Int.gcd a c ∧ v0_1.natAbs < nn0 ∧ (-9223372036854775808 ≤ v0_0 ∧ v0_0 ≤ 9223372036854775807) ∧ (-9223372036854775807 ≤ v0_1 ∧ v0_1 ≤ 9223372036854775807) ∧ (v0_1 ≠ 0 ∨ -9223372036854775807 ≤ v0_0))
 | _, _ => False
theorem rnd_track_divisor_0 (a : Int) (c : Int) (v0_0 : Int) (v0_1 : Int) (nn0 : Nat) (hp : (-9223372036854775808 ≤ a ∧ a ≤ 9223372036854775807) ∧ (-9223372036854775807 ≤ c ∧ c ≤ 9223372036854775807) ∧ (c ≠ 0 ∨ -9223372036854775807 ≤ a)) (hi : Int.gcd v0_0 v0_1 = Int.gcd a c ∧ v0_1.natAbs < (nn0 + 1) ∧ (-9223372036854775808 ≤ v0_0 ∧ v0_0 ≤ 9223372036854775807) ∧ (-9223372036854775807 ≤ v0_1 ∧ v0_1 ≤ 9223372036854775807) ∧ (v0_1 ≠ 0 ∨ -9223372036854775807 ≤ v0_0)) : rd_track_divisor_0 (J_track_divisor a c) a c v0_0 v0_1 nn0 (fun r => LeD r (.t (.c (.v (.int .i64 ((Int.gcd a c : Nat) : Int)))))) := by
 obtain ⟨i1, i2, i3, i4, i5⟩ := hi
 unfold rd_track_divisor_0
 refine cond_i (fun h => lt_i fun x1 h1 => ?_) (fun h => lt_i fun x2 h2 => lt_i fun x3 h3 => leI ?_)
 ·have h : v0_1 ≠ 0 := by simpa using h
  have e := Int.natAbs_tmod v0_0 v0_1
  rw [h1] at e
  have e2 := Nat.mod_lt v0_0.natAbs (show 0 < v0_1.natAbs by omega)
  refine ⟨⟨rfl, h⟩, v0_1, x1, rfl, ?_, by omega, by omega, by omega, by omega⟩
  rw [← h1, ← i1, gcd_tmod]
 ·have h : v0_1 = 0 := by simpa using h
  subst h
  rw [Int.gcd_zero_right] at i1
  rw [IntWalk.i64_in _ (by omega)] at h2
  rw [mx_if] at h3
  omega
theorem zero_track_divisor_0 (a : Int) (c : Int) (v0_0 : Int) (v0_1 : Int)  (hi : Int.gcd v0_0 v0_1 = Int.gcd a c ∧ v0_1.natAbs < 0 ∧ (-9223372036854775808 ≤ v0_0 ∧ v0_0 ≤ 9223372036854775807) ∧ (-9223372036854775807 ≤ v0_1 ∧ v0_1 ≤ 9223372036854775807) ∧ (v0_1 ≠ 0 ∨ -9223372036854775807 ≤ v0_0)) : False := by
 omega
theorem spec_track_divisor (a : Int) (c : Int) (hp : (-9223372036854775808 ≤ a ∧ a ≤ 9223372036854775807) ∧ (-9223372036854775807 ≤ c ∧ c ≤ 9223372036854775807) ∧ (c ≠ 0 ∨ -9223372036854775807 ≤ a)) : vc_track_divisor (J_track_divisor a c) a c (fun r => LeD r (.t (.c (.v (.int .i64 ((Int.gcd a c : Nat) : Int)))))) := by
 unfold vc_track_divisor
 exact ⟨c.natAbs + 1, a, c, rfl, rfl, by omega, hp⟩
theorem all_track_divisor (a : Int) (c : Int) (hp : (-9223372036854775808 ≤ a ∧ a ≤ 9223372036854775807) ∧ (-9223372036854775807 ≤ c ∧ c ≤ 9223372036854775807) ∧ (c ≠ 0 ∨ -9223372036854775807 ≤ a)) : AllG (J_track_divisor a c) (loopsFn Try.prog tab Skq21 ann_track_divisor (J_track_divisor a c) Try.f62 (fun r => LeD r (.t (.c (.v (.int .i64 ((Int.gcd a c : Nat) : Int))))))) := by
 rw [lp_track_divisor]
 refine ⟨⟨?_, ?_⟩, trivial⟩
 ·intro F s h
  obtain _ | ⟨g, F⟩ := F
  case cons => exact h.elim
  obtain ⟨w0, w1, rfl, hi⟩ := h
  exact zero_track_divisor_0 a c w0 w1 hi
 ·intro n F s h
  obtain _ | ⟨g, F⟩ := F
  case cons => exact h.elim
  obtain ⟨w0, w1, rfl, hi⟩ := h
  rw [er_track_divisor_0]
  exact rnd_track_divisor_0 a c _ _ _ hp hi
def con_track_divisor : Con := fun args => match args with
 | [.t (.c (.v (.int .i64 a))), .t (.c (.v (.int .i64 c)))] => some (.t (.c (.v (.int .i64 ((Int.gcd a c : Nat) : Int)))), some ((-9223372036854775808 ≤ a ∧ a ≤ 9223372036854775807) ∧ (-9223372036854775807 ≤ c ∧ c ≤ 9223372036854775807) ∧ (c ≠ 0 ∨ -9223372036854775807 ≤ a)), false)
 | _ => none
theorem ok_track_divisor : Ok Try.prog 62 con_track_divisor := by
 refine Ok.fn (ann := ann_track_divisor) mixed tabOK VSkq21 ValidIt.no (fn := Try.f62) (by kernel_rfl) (by kernel_rfl) fit_track_divisor fun args r pre fresh h hp => ?_
 unfold con_track_divisor at h
 split at h
 ·rename_i a c
  cases h
  refine ⟨rfl, J_track_divisor a c, _, LeA.refl _, Nat.le_of_ble_eq_true (by kernel_rfl), ?_, ?_⟩
  ·rw [ev_track_divisor]; exact spec_track_divisor a c hp
  ·exact all_track_divisor a c hp
 ·cases h
def Skq22 : Sum := addS Skq21 62 con_track_divisor
theorem VSkq22 : Valid Try.prog Skq22 := Valid.add VSkq21 ok_track_divisor
def vc_track_NearestTo (m0 m1 m2 m3 m4 m5 m6 m7 m8 m9 m10 m11 : Int) (s0 s1 s2 : Int) (p0 p1 p2 : Int) (post : DV → Prop) : Prop := (numsP 1 2 (genC [[.v (.int .i64 (((⟨m0, m1, m2, m3, m4, m5, m6, m7, m8, m9, m10, m11⟩ : TMod)).both (⟨s0, s1, s2⟩ : V3)))], [.v (.int .i64 (plE (⟨p0, p1, p2⟩ : V3)))]]) ∧ (([(((⟨m0, m1, m2, m3, m4, m5, m6, m7, m8, m9, m10, m11⟩ : TMod)).both (⟨s0, s1, s2⟩ : V3)), (plE (⟨p0, p1, p2⟩ : V3))] : List Int)).length ≤ 100) ∧ (cond ((firstNZ ([(((⟨m0, m1, m2, m3, m4, m5, m6, m7, m8, m9, m10, m11⟩ : TMod)).both (⟨s0, s1, s2⟩ : V3)), (plE (⟨p0, p1, p2⟩ : V3))] : List Int)) != (0 : Int)) (post (.tu [.a [.v (.int .i64 0), .v (.int .i64 0)], .c (.v (.int .i64 (firstNZ ([(((⟨m0, m1, m2, m3, m4, m5, m6, m7, m8, m9, m10, m11⟩ : TMod)).both (⟨s0, s1, s2⟩ : V3)), (plE (⟨p0, p1, p2⟩ : V3))] : List Int))))])) (lt (wr (p0 - m0)) fun x1 => lt (wr (p1 - m1)) fun x2 => lt (wr (p2 - m2)) fun x3 => lt (dotW (⟨s0, s1, s2⟩ : V3) (⟨s0, s1, s2⟩ : V3)) fun x4 => lt (dotW (⟨x1, x2, x3⟩ : V3) (⟨x1, x2, x3⟩ : V3)) fun x5 => lt (IntKind.i64.wrap (x5 * x4)) fun x6 => lt (dotW (⟨x1, x2, x3⟩ : V3) (⟨s0, s1, s2⟩ : V3)) fun x7 => lt (dotW (⟨x1, x2, x3⟩ : V3) (⟨s0, s1, s2⟩ : V3)) fun x8 => lt (IntKind.i64.wrap (x7 * x8)) fun x9 => lt (IntKind.i64.wrap (x6 - x9)) fun x10 => ((-9223372036854775808 ≤ x10 ∧ x10 ≤ 9223372036854775807) ∧ (-9223372036854775807 ≤ x4 ∧ x4 ≤ 9223372036854775807) ∧ (x4 ≠ 0 ∨ -9223372036854775807 ≤ x10)) ∧ (lt (IntKind.i64.wrap (Int.tdiv x10 ((Int.gcd x10 x4 : Nat) : Int))) fun x11 => (IntKind.i64 = IntKind.i64 ∧ ((Int.gcd x10 x4 : Nat) : Int) ≠ 0) ∧ (cond (decide (x11 > (1000000000 : Int))) (post (.tu [.a [.v (.int .i64 0), .v (.int .i64 0)], .c (.v (.int .i64 8))])) (lt (IntKind.i64.wrap (Int.tdiv x10 ((Int.gcd x10 x4 : Nat) : Int))) fun x12 => (IntKind.i64 = IntKind.i64 ∧ ((Int.gcd x10 x4 : Nat) : Int) ≠ 0) ∧ (lt (IntKind.i64.wrap (Int.tdiv x4 ((Int.gcd x10 x4 : Nat) : Int))) fun x13 => (IntKind.i64 = IntKind.i64 ∧ ((Int.gcd x10 x4 : Nat) : Int) ≠ 0) ∧ (post (.tu [.a [.v (.int .i64 x12), .v (.int .i64 x13)], .c (.v (.int .i64 0))]))))))))
def ann_track_NearestTo : Ann := ⟨fun r => lookA r [(5, ([[], [], [1], [1, 2], [0, 1, 2, 3], [], [], [0, 1, 2, 3, 4, 5, 6], [], [0, 1, 2, 3, 4, 5, 6, 7, 8], [0, 1, 2, 3, 4, 5, 6, 7, 8, 9]], [[35, 38, 11], [35, 38, 11], [35, 38, 11], [35, 38, 11], [38, 11], [35, 38, 11], [35, 38, 11], [11], [35, 38], [], []])), (6, ([[], [], [0, 1], [], [0, 1, 2, 3], [], [], [0, 1, 2, 5, 6], [], [], [0, 1, 2, 5, 6, 7, 8, 9], [0, 1, 2, 5, 6, 7, 8, 9, 10], [0, 1, 2, 3, 4, 5, 6, 7, 8, 9, 10, 11], [0, 1, 2, 3, 4, 5, 6, 7, 8, 9, 10, 11, 12]], [[41, 46, 49], [41, 46, 49], [46, 49], [41, 46, 49], [46, 49], [41, 46, 49], [41, 46, 49], [49], [41, 46, 49], [41, 46, 49], [], [], [], []])), (10, ([[], [], [0, 1], [], [], [3, 4], [0, 1, 2, 3, 4, 5], [0, 1, 2, 3, 4, 5, 6], [0, 1, 2, 3, 4, 5, 6, 7]], [[], [], [], [], [], [], [], [], []]))], fun _ => none, fun _ => [], noIt, false, fun _ => none, fun _ => none⟩
theorem ev_track_NearestTo (J : Inv) (m0 m1 m2 m3 m4 m5 m6 m7 m8 m9 m10 m11 : Int) (s0 s1 s2 : Int) (p0 p1 p2 : Int) (post : DV → Prop) : evFn Try.prog tab Skq22 ann_track_NearestTo J Try.f26 [.t (.a [.v (.int .i64 m0), .v (.int .i64 m1), .v (.int .i64 m2), .v (.int .i64 m3), .v (.int .i64 m4), .v (.int .i64 m5), .v (.int .i64 m6), .v (.int .i64 m7), .v (.int .i64 m8), .v (.int .i64 m9), .v (.int .i64 m10), .v (.int .i64 m11)]), .t (.a [.v (.int .i64 s0), .v (.int .i64 s1), .v (.int .i64 s2)]), .t (.a [.v (.int .i64 p0), .v (.int .i64 p1), .v (.int .i64 p2)])] post = vc_track_NearestTo m0 m1 m2 m3 m4 m5 m6 m7 m8 m9 m10 m11 s0 s1 s2 p0 p1 p2 post := by kernel_rfl
theorem fit_track_NearestTo : okFn ann_track_NearestTo Try.f26 = true := by kernel_rfl
theorem lp_track_NearestTo (J : Inv) (post : DV → Prop) : AllG J (loopsFn Try.prog tab Skq22 ann_track_NearestTo J Try.f26 post) = (True) := by kernel_rfl
theorem spec_track_NearestTo (m0 m1 m2 m3 m4 m5 m6 m7 m8 m9 m10 m11 : Int) (s0 s1 s2 : Int) (p0 p1 p2 : Int) : vc_track_NearestTo m0 m1 m2 m3 m4 m5 m6 m7 m8 m9 m10 m11 s0 s1 s2 p0 p1 p2 (fun r => LeD r (.tu [.a [.v (.int .i64 (((⟨m0, m1, m2, m3, m4, m5, m6, m7, m8, m9, m10, m11⟩ : TMod)).nN (⟨s0, s1, s2⟩ : V3) (⟨p0, p1, p2⟩ : V3))), .v (.int .i64 (((⟨m0, m1, m2, m3, m4, m5, m6, m7, m8, m9, m10, m11⟩ : TMod)).nD (⟨s0, s1, s2⟩ : V3) (⟨p0, p1, p2⟩ : V3)))], .c (.v (.int .i64 (((⟨m0, m1, m2, m3, m4, m5, m6, m7, m8, m9, m10, m11⟩ : TMod)).nE (⟨s0, s1, s2⟩ : V3) (⟨p0, p1, p2⟩ : V3))))])) := by
 unfold vc_track_NearestTo TMod.nN TMod.nD TMod.nE
 refine ⟨⟨numsP_gen [_, _], Nat.le_of_ble_eq_true rfl⟩, cond_i (fun h => ?_) (fun h => ?_)⟩
 ·have h : firstNZ [((⟨m0, m1, m2, m3, m4, m5, m6, m7, m8, m9, m10, m11⟩ : TMod)).both ⟨s0, s1, s2⟩, plE ⟨p0, p1, p2⟩] ≠ 0 := by simpa using h
  rw [fz1 h, if_neg h, if_neg h]
  exact LeD.refl _
 ·have h : firstNZ [((⟨m0, m1, m2, m3, m4, m5, m6, m7, m8, m9, m10, m11⟩ : TMod)).both ⟨s0, s1, s2⟩, plE ⟨p0, p1, p2⟩] = 0 := by simpa using h
  obtain ⟨q1, q2⟩ := fn2 h
  obtain ⟨r1, r2, r3, _⟩ := both_ok q1
  unfold plE at q2
  rw [unl_0 (by decide)] at q2
  rw [h]
  obtain ⟨_, _, _, nS, nd, nb, nn, nq, nN⟩ := near_nums r1 r2 r3 q2
  have hw := off_in r1 q2
  have pp := r_pos (n := ((⟨m0, m1, m2, m3, m4, m5, m6, m7, m8, m9, m10, m11⟩ : TMod)).num ⟨s0, s1, s2⟩ ⟨p0, p1, p2⟩) (d := (⟨s0, s1, s2⟩ : V3).dot ⟨s0, s1, s2⟩) nN.1 (by omega)
  obtain ⟨a1, a2, a3⟩ := inS_iff.1 hw
  unfold TMod.off at a1 a2 a3
  simp only at a1 a2 a3
  refine lt_i fun x1 h1 => lt_i fun x2 h2 => lt_i fun x3 h3 => lt_i fun x4 h4 => lt_i fun x5 h5 => lt_i fun x6 h6 => lt_i fun x7 h7 => lt_i fun x8 h8 => lt_i fun x9 h9 => lt_i fun x10 h10 => ?_
  rw [wri (by omega)] at h1 h2 h3
  subst h1 h2 h3
  have h5 : dotW (((⟨m0, m1, m2, m3, m4, m5, m6, m7, m8, m9, m10, m11⟩ : TMod)).off ⟨p0, p1, p2⟩) (((⟨m0, m1, m2, m3, m4, m5, m6, m7, m8, m9, m10, m11⟩ : TMod)).off ⟨p0, p1, p2⟩) = x5 := h5
  have h7 : dotW (((⟨m0, m1, m2, m3, m4, m5, m6, m7, m8, m9, m10, m11⟩ : TMod)).off ⟨p0, p1, p2⟩) ⟨s0, s1, s2⟩ = x7 := h7
  have h8 : dotW (((⟨m0, m1, m2, m3, m4, m5, m6, m7, m8, m9, m10, m11⟩ : TMod)).off ⟨p0, p1, p2⟩) ⟨s0, s1, s2⟩ = x8 := h8
  rw [dotW_eq r2 r2 (by decide)] at h4
  rw [dotW_eq hw hw (by decide)] at h5
  rw [dotW_eq hw r2 (by decide)] at h7 h8
  subst h4 h5 h7 h8
  rw [wi (by omega)] at h6 h9
  subst h6 h9
  rw [wi (by omega)] at h10
  have h10 : ((⟨m0, m1, m2, m3, m4, m5, m6, m7, m8, m9, m10, m11⟩ : TMod)).num ⟨s0, s1, s2⟩ ⟨p0, p1, p2⟩ = x10 := h10
  subst h10
  rw [pp.2.2.2.2.2.2.1, pp.2.2.2.2.2.2.2]
  have hg : ((Int.gcd (((⟨m0, m1, m2, m3, m4, m5, m6, m7, m8, m9, m10, m11⟩ : TMod)).num ⟨s0, s1, s2⟩ ⟨p0, p1, p2⟩) ((⟨s0, s1, s2⟩ : V3).dot ⟨s0, s1, s2⟩) : Nat) : Int) ≠ 0 := by omega
  generalize hRN : rN (((⟨m0, m1, m2, m3, m4, m5, m6, m7, m8, m9, m10, m11⟩ : TMod)).num ⟨s0, s1, s2⟩ ⟨p0, p1, p2⟩) ((⟨s0, s1, s2⟩ : V3).dot ⟨s0, s1, s2⟩) = RN at *
  generalize hRD : rD (((⟨m0, m1, m2, m3, m4, m5, m6, m7, m8, m9, m10, m11⟩ : TMod)).num ⟨s0, s1, s2⟩ ⟨p0, p1, p2⟩) ((⟨s0, s1, s2⟩ : V3).dot ⟨s0, s1, s2⟩) = RD at *
  refine ⟨⟨by omega, by omega, by omega⟩, lt_i fun x11 h11 => ⟨⟨rfl, hg⟩, ?_⟩⟩
  rw [wi (by omega)] at h11
  subst h11
  refine cond_i (fun e => ?_) (fun e => lt_i fun x12 h12 => ⟨⟨rfl, hg⟩, lt_i fun x13 h13 => ⟨⟨rfl, hg⟩, ?_⟩⟩)
  ·have e := of_decide_eq_true e
   rw [fz1f (decide_eq_false (by omega)) (by decide), if_neg (by decide), if_neg (by decide)]
   exact LeD.refl _
  ·have e := of_decide_eq_false e
   rw [wi (by omega)] at h12 h13
   subst h12 h13
   rw [fz1' (decide_eq_true (by omega)), if_pos rfl, if_pos rfl]
   exact LeD.refl _
def con_track_NearestTo : Con := fun args => match args with
 | [.t (.a [.v (.int .i64 m0), .v (.int .i64 m1), .v (.int .i64 m2), .v (.int .i64 m3), .v (.int .i64 m4), .v (.int .i64 m5), .v (.int .i64 m6), .v (.int .i64 m7), .v (.int .i64 m8), .v (.int .i64 m9), .v (.int .i64 m10), .v (.int .i64 m11)]), .t (.a [.v (.int .i64 s0), .v (.int .i64 s1), .v (.int .i64 s2)]), .t (.a [.v (.int .i64 p0), .v (.int .i64 p1), .v (.int .i64 p2)])] => some (.tu [.a [.v (.int .i64 (((⟨m0, m1, m2, m3, m4, m5, m6, m7, m8, m9, m10, m11⟩ : TMod)).nN (⟨s0, s1, s2⟩ : V3) (⟨p0, p1, p2⟩ : V3))), .v (.int .i64 (((⟨m0, m1, m2, m3, m4, m5, m6, m7, m8, m9, m10, m11⟩ : TMod)).nD (⟨s0, s1, s2⟩ : V3) (⟨p0, p1, p2⟩ : V3)))], .c (.v (.int .i64 (((⟨m0, m1, m2, m3, m4, m5, m6, m7, m8, m9, m10, m11⟩ : TMod)).nE (⟨s0, s1, s2⟩ : V3) (⟨p0, p1, p2⟩ : V3))))], none, false)
 | _ => none
theorem ok_track_NearestTo : Ok Try.prog 26 con_track_NearestTo := by
 refine Ok.fn (ann := ann_track_NearestTo) mixed tabOK VSkq22 ValidIt.no (fn := Try.f26) (by kernel_rfl) (by kernel_rfl) fit_track_NearestTo fun args r pre fresh h hp => ?_
 unfold con_track_NearestTo at h
 split at h
 ·rename_i m0 m1 m2 m3 m4 m5 m6 m7 m8 m9 m10 m11 s0 s1 s2 p0 p1 p2
  cases h
  refine ⟨rfl, fun _ _ _ => False, _, LeA.refl _, Nat.le_of_ble_eq_true (by kernel_rfl), ?_, ?_⟩
  ·rw [ev_track_NearestTo]; exact spec_track_NearestTo m0 m1 m2 m3 m4 m5 m6 m7 m8 m9 m10 m11 s0 s1 s2 p0 p1 p2
  ·rw [lp_track_NearestTo]; trivial
 ·cases h
def Skq23 : Sum := addS Skq22 26 con_track_NearestTo
theorem VSkq23 : Valid Try.prog Skq23 := Valid.add VSkq22 ok_track_NearestTo
end Go.Proofs.Ytfadkjcfjkmalaa
set_option linter.unusedVariables false
set_option linter.unusedSimpArgs false
namespace Go.Proofs.Ytfadkjcfjkmalaa
open Go.RowKit Ev
def TMod.sE (m : TMod) (s : V3) (l : List THit) : Int := firstNZ [m.both s, hitsE l]
def TMod.sV (m : TMod) (s : V3) (l : List THit) : Int := if m.sE s l = 0 then m.score s l else 0
def mk_track_CheckHits_0 (l : List THit) (v0_0 : Int) : DS := ⟨[none, none, none, none, none, none, none, none, none, none, some (.t (.c (.sl 5 l.length (hitsC l)))), some (.t (.c (.v (.int .i64 ((l.length : Nat) : Int))))), some (.t (.c (.v (.int .i64 v0_0)))), none, none, none, none, none, none, none, none, none, none, none, none, none, none, none, none, none, none, none, none, none], [none, none, none, none, none, none, none, none, none, none, none, none, none, none, none, none, none, none, none, none, none, none, none, none, none, none, none, none, none, none, none, none, none, none]⟩
def vc_track_CheckHits (J : Inv) (l : List THit) (post : DV → Prop) : Prop := cond (decide (((l.length : Nat) : Int) > (12 : Int))) (post (.tu [.c (.v (.int .i64 0)), .c (.v (.int .i64 8))])) (∃ n, J 0 (n :: []) (mk_track_CheckHits_0 l 0))
def ann_track_CheckHits : Ann := ⟨fun r => lookA r [(6, ([[], [0], [0, 1], [], [3], [0, 1, 2, 3, 4], [], [6], [0, 1, 2, 3, 4, 5, 6, 7], [0, 1, 2, 3, 4, 5, 6, 7, 8], [0, 1, 2, 3, 4, 5, 6, 7, 8, 9], [0, 1, 2, 3, 4, 5, 6, 7, 8, 9, 10], [0, 1, 2, 3, 4, 5, 6, 7, 8, 9, 10, 11]], [[19, 22, 25, 26, 27, 28], [19, 22, 25, 26, 27, 28], [22, 25, 26, 27, 28], [19, 22, 25, 26, 27, 28], [19, 22, 25, 26, 27, 28], [25, 26, 27, 28], [19, 22, 25, 26, 27, 28], [19, 22, 25, 26, 27, 28], [26, 27, 28], [27, 28], [28], [], []]))], fun b => lookA b [(0, (none, some ⟨[10, 11, 12], [], []⟩))], fun _ => [], noIt, false, fun _ => none, fun _ => none⟩
theorem ev_track_CheckHits (J : Inv) (l : List THit) (post : DV → Prop) : evFn Try.prog tab Skq23 ann_track_CheckHits J Try.f76 [.t (.c (.sl 5 l.length (hitsC l)))] post = vc_track_CheckHits J l post := by kernel_rfl
theorem fit_track_CheckHits : okFn ann_track_CheckHits Try.f76 = true := by kernel_rfl
def rd_track_CheckHits_0 (J : Inv) (l : List THit) (v0_0 : Int) (nn0 : Nat) (post : DV → Prop) : Prop := cond (decide (v0_0 < ((l.length : Nat) : Int))) ((0 ≤ v0_0 ∧ v0_0 < ((l.length : Nat) : Int)) ∧ ((numsP 1 3 (genC [[.v (.int .i64 (plE (hitAt l v0_0.toNat).p))], [.v (.int .i64 (tmE ((hitAt l v0_0.toNat).t)))], [.v (.int .i64 (unl (inB ((hitAt l v0_0.toNat).w) (0 : Int) (100 : Int)) (2 : Int)))]]) ∧ (([(plE (hitAt l v0_0.toNat).p), (tmE ((hitAt l v0_0.toNat).t)), (unl (inB ((hitAt l v0_0.toNat).w) (0 : Int) (100 : Int)) (2 : Int))] : List Int)).length ≤ 100) ∧ (cond ((firstNZ ([(plE (hitAt l v0_0.toNat).p), (tmE ((hitAt l v0_0.toNat).t)), (unl (inB ((hitAt l v0_0.toNat).w) (0 : Int) (100 : Int)) (2 : Int))] : List Int)) != (0 : Int)) (post (.tu [.c (.v (.int .i64 v0_0)), .c (.v (.int .i64 (firstNZ ([(plE (hitAt l v0_0.toNat).p), (tmE ((hitAt l v0_0.toNat).t)), (unl (inB ((hitAt l v0_0.toNat).w) (0 : Int) (100 : Int)) (2 : Int))] : List Int))))])) (lt (IntKind.i64.wrap (v0_0 + (1 : Int))) fun x1 => J 0 (nn0 :: []) (mk_track_CheckHits_0 l x1))))) (post (.tu [.c (.v (.int .i64 0)), .c (.v (.int .i64 0))]))
theorem er_track_CheckHits_0 (J : Inv) (l : List THit) (v0_0 : Int) (nn0 : Nat) (post : DV → Prop) : round Try.prog tab Skq23 ann_track_CheckHits J Try.f76 post 0 (nn0 :: []) (mk_track_CheckHits_0 l v0_0) = rd_track_CheckHits_0 J l v0_0 nn0 post := by kernel_rfl
theorem lp_track_CheckHits (J : Inv) (post : DV → Prop) : AllG J (loopsFn Try.prog tab Skq23 ann_track_CheckHits J Try.f76 post) = (((∀ F s, ¬ J 0 (0 :: F) s) ∧ ∀ n F s, J 0 ((n + 1) :: F) s → round Try.prog tab Skq23 ann_track_CheckHits J Try.f76 post 0 (n :: F) s) ∧ True) := by kernel_rfl
def J_track_CheckHits (l : List THit) : Inv := fun b F s => match b, F with
 | 0, [nn0] => ∃ (v0_0 : Int), s = mk_track_CheckHits_0 l v0_0 ∧ (0 ≤ v0_0 ∧ v0_0 ≤ l.length ∧ (nn0 : Int) + v0_0 = l.length + 1 ∧ l.length ≤ 12 ∧ ∀ j : Nat, (j : Int) < v0_0 → (hitAt l j).err = 0)
 | _, _ => False
theorem rnd_track_CheckHits_0 (l : List THit) (v0_0 : Int) (nn0 : Nat) (hi : 0 ≤ v0_0 ∧ v0_0 ≤ l.length ∧ ((nn0 + 1) : Int) + v0_0 = l.length + 1 ∧ l.length ≤ 12 ∧ ∀ j : Nat, (j : Int) < v0_0 → (hitAt l j).err = 0) : rd_track_CheckHits_0 (J_track_CheckHits l) l v0_0 nn0 (fun r => LeD r (.tu [.c (.v (.int .i64 (hitsIdx l))), .c (.v (.int .i64 (hitsE l)))])) := by
 obtain ⟨h1, h2, h3, h4, h5⟩ := hi
 obtain ⟨k, rfl⟩ : ∃ k : Nat, v0_0 = k := ⟨v0_0.toNat, by omega⟩
 have hk : (k : Int).toNat = k := rfl
 have hz : ∀ j, j < k → (hitAt l j).err = 0 := fun j hj => h5 j (by omega)
 unfold rd_track_CheckHits_0
 rw [hk]
 have he : (hitAt l k).err = firstNZ [plE (hitAt l k).p, tmE (hitAt l k).t, unl (inB (hitAt l k).w 0 100) 2] := rfl
 rw [← he]
 refine cond_i (fun h => ?_) (fun h => ?_)
 ·have hlt : k < l.length := by have := of_decide_eq_true h; omega
  refine ⟨by omega, ⟨numsP_gen [_, _, _], Nat.le_of_ble_eq_true rfl⟩, cond_i (fun e => ?_) (fun e => lt_i fun x hx => ?_)⟩
  ·have hn : (hitAt l k).err ≠ 0 := by simpa using e
   rw [show hitsIdx l = k from (if_neg (by omega)).trans (scanI_at hz hlt hn), show hitsE l = (hitAt l k).err from (if_neg (by omega)).trans (scan_at hz hlt hn)]
   exact LeD.refl _
  ·rw [wi (by omega)] at hx
   subst hx
   refine ⟨_, rfl, by omega, by omega, by omega, h4, fun j hj => ?_⟩
   by_cases q : j = k
   ·rw [q]; simpa using e
   ·exact hz j (by omega)
 ·have hkl : k = l.length := by have := of_decide_eq_false h; omega
  subst hkl
  rw [show hitsIdx l = 0 from (if_neg (by omega)).trans (scanI_end hz), show hitsE l = 0 from (if_neg (by omega)).trans (scan_end hz)]
  exact LeD.refl _
theorem zero_track_CheckHits_0 (l : List THit) (v0_0 : Int)  (hi : 0 ≤ v0_0 ∧ v0_0 ≤ l.length ∧ (0 : Int) + v0_0 = l.length + 1 ∧ l.length ≤ 12 ∧ ∀ j : Nat, (j : Int) < v0_0 → (hitAt l j).err = 0) : False := by
 omega
theorem spec_track_CheckHits (l : List THit) : vc_track_CheckHits (J_track_CheckHits l) l (fun r => LeD r (.tu [.c (.v (.int .i64 (hitsIdx l))), .c (.v (.int .i64 (hitsE l)))])) := by
 unfold vc_track_CheckHits
 refine cond_i (fun h => LeD.of ?_) (fun h => ⟨l.length + 1, _, rfl, ?_⟩)
 ·have h := of_decide_eq_true h
  rw [show hitsIdx l = 0 from if_pos (by omega), show hitsE l = 8 from if_pos (by omega)]
 ·have h := of_decide_eq_false h
  exact ⟨by omega, by omega, by omega, by omega, fun j hj => by omega⟩
theorem all_track_CheckHits (l : List THit) : AllG (J_track_CheckHits l) (loopsFn Try.prog tab Skq23 ann_track_CheckHits (J_track_CheckHits l) Try.f76 (fun r => LeD r (.tu [.c (.v (.int .i64 (hitsIdx l))), .c (.v (.int .i64 (hitsE l)))]))) := by
 rw [lp_track_CheckHits]
 refine ⟨⟨?_, ?_⟩, trivial⟩
 ·intro F s h
  obtain _ | ⟨g, F⟩ := F
  case cons => exact h.elim
  obtain ⟨w0, rfl, hi⟩ := h
  exact zero_track_CheckHits_0 l w0 hi
 ·intro n F s h
  obtain _ | ⟨g, F⟩ := F
  case cons => exact h.elim
  obtain ⟨w0, rfl, hi⟩ := h
  rw [er_track_CheckHits_0]
  exact rnd_track_CheckHits_0 l _ _ hi
def con_track_CheckHits : Con := fun args => match args with
 | [.t (.c (.sl 5 n_l c_l))] => some (.tu [.c (.v (.int .i64 (hitsIdx (listC n_l mkHit c_l)))), .c (.v (.int .i64 (hitsE (listC n_l mkHit c_l))))], some (numsP 5 n_l c_l), false)
 | _ => none
theorem ok_track_CheckHits : Ok Try.prog 76 con_track_CheckHits := by
 refine Ok.fn (ann := ann_track_CheckHits) mixed tabOK VSkq23 ValidIt.no (fn := Try.f76) (by kernel_rfl) (by kernel_rfl) fit_track_CheckHits fun args r pre fresh h hp => ?_
 unfold con_track_CheckHits at h
 split at h
 ·rename_i n_l c_l
  cases h
  have hp0 := hp
  refine ⟨rfl, J_track_CheckHits (listC n_l mkHit c_l), [.t (.c (.sl 5 ((listC n_l mkHit c_l).length) (hitsC (listC n_l mkHit c_l))))], ?_, Nat.le_of_ble_eq_true (by kernel_rfl), ?_, ?_⟩
  ·exact (LeA_cons (leT_c ((leL_THit hp0))) LeA_nil)
  ·rw [ev_track_CheckHits]; exact spec_track_CheckHits (listC n_l mkHit c_l)
  ·exact all_track_CheckHits (listC n_l mkHit c_l)
 ·cases h
def Skr24 : Sum := addS Skq23 76 con_track_CheckHits
theorem VSkr24 : Valid Try.prog Skr24 := Valid.add VSkq23 ok_track_CheckHits
def vc_track_hitsErr (l : List THit) (post : DV → Prop) : Prop := (numsP 5 l.length (hitsC l)) ∧ (post (.t (.c (.v (.int .i64 (hitsE (listC l.length mkHit (hitsC l))))))))
def ann_track_hitsErr : Ann := ⟨fun _ => none, fun _ => none, fun _ => [], noIt, false, fun _ => none, fun _ => none⟩
theorem ev_track_hitsErr (J : Inv) (l : List THit) (post : DV → Prop) : evFn Try.prog tab Skr24 ann_track_hitsErr J Try.f47 [.t (.c (.sl 5 l.length (hitsC l)))] post = vc_track_hitsErr l post := by kernel_rfl
theorem fit_track_hitsErr : okFn ann_track_hitsErr Try.f47 = true := by kernel_rfl
theorem lp_track_hitsErr (J : Inv) (post : DV → Prop) : AllG J (loopsFn Try.prog tab Skr24 ann_track_hitsErr J Try.f47 post) = (True) := by kernel_rfl
theorem spec_track_hitsErr (l : List THit) : vc_track_hitsErr l (fun r => LeD r (.t (.c (.v (.int .i64 (hitsE l)))))) := by
 unfold vc_track_hitsErr
 rw [hits_listC]
 exact ⟨numsP_hits l, LeD.refl _⟩
def con_track_hitsErr : Con := fun args => match args with
 | [.t (.c (.sl 5 n_l c_l))] => some (.t (.c (.v (.int .i64 (hitsE (listC n_l mkHit c_l))))), some (numsP 5 n_l c_l), false)
 | _ => none
theorem ok_track_hitsErr : Ok Try.prog 47 con_track_hitsErr := by
 refine Ok.fn (ann := ann_track_hitsErr) mixed tabOK VSkr24 ValidIt.no (fn := Try.f47) (by kernel_rfl) (by kernel_rfl) fit_track_hitsErr fun args r pre fresh h hp => ?_
 unfold con_track_hitsErr at h
 split at h
 ·rename_i n_l c_l
  cases h
  have hp0 := hp
  refine ⟨rfl, fun _ _ _ => False, [.t (.c (.sl 5 ((listC n_l mkHit c_l).length) (hitsC (listC n_l mkHit c_l))))], ?_, Nat.le_of_ble_eq_true (by kernel_rfl), ?_, ?_⟩
  ·exact (LeA_cons (leT_c ((leL_THit hp0))) LeA_nil)
  ·rw [ev_track_hitsErr]; exact spec_track_hitsErr (listC n_l mkHit c_l)
  ·rw [lp_track_hitsErr]; trivial
 ·cases h
def Skr25 : Sum := addS Skr24 47 con_track_hitsErr
theorem VSkr25 : Valid Try.prog Skr25 := Valid.add VSkr24 ok_track_hitsErr
def vc_track_model_ends (m0 m1 m2 m3 m4 m5 m6 m7 m8 m9 m10 m11 : Int) (h0 h1 h2 h3 h4 : Int) (post : DV → Prop) : Prop := lt (IntKind.i64.wrap (h3 + m8)) fun x1 => lt (IntKind.i64.wrap (h3 - m9)) fun x2 => lt (IntKind.i64.wrap (x2 - (1 : Int))) fun x3 => post (.tu [.a [.v (.int .i64 h0), .v (.int .i64 h1), .v (.int .i64 h2), .v (.int .i64 x1)], .a [.v (.int .i64 h0), .v (.int .i64 h1), .v (.int .i64 h2), .v (.int .i64 x3)]])
def ann_track_model_ends : Ann := ⟨fun r => lookA r [(1, ([[], [0], [], [2], [], [4], [4, 5], [2, 3, 4, 5, 6], [0, 1, 2, 3, 4, 5, 6, 7], [], [9], [], [11], [], [13], [13, 14], [11, 12, 13, 14, 15], [11, 12, 13, 14, 15, 16], [9, 10, 11, 12, 13, 14, 15, 16, 17], [0, 1, 2, 3, 4, 5, 6, 7, 8], [0, 1, 2, 3, 4, 5, 6, 7, 8, 9, 10, 11, 12, 13, 14, 15, 16, 17, 18, 19]], [[], [], [], [], [], [], [], [], [], [], [4], [], [4], [], [], [4], [], [], [], [9999, 4], []]))], fun _ => none, fun _ => [], noIt, false, fun _ => none, fun _ => none⟩
theorem ev_track_model_ends (J : Inv) (m0 m1 m2 m3 m4 m5 m6 m7 m8 m9 m10 m11 : Int) (h0 h1 h2 h3 h4 : Int) (post : DV → Prop) : evFn Try.prog tab Skr25 ann_track_model_ends J Try.f82 [.t (.a [.v (.int .i64 m0), .v (.int .i64 m1), .v (.int .i64 m2), .v (.int .i64 m3), .v (.int .i64 m4), .v (.int .i64 m5), .v (.int .i64 m6), .v (.int .i64 m7), .v (.int .i64 m8), .v (.int .i64 m9), .v (.int .i64 m10), .v (.int .i64 m11)]), .t (.a [.v (.int .i64 h0), .v (.int .i64 h1), .v (.int .i64 h2), .v (.int .i64 h3), .v (.int .i64 h4)])] post = vc_track_model_ends m0 m1 m2 m3 m4 m5 m6 m7 m8 m9 m10 m11 h0 h1 h2 h3 h4 post := by kernel_rfl
theorem fit_track_model_ends : okFn ann_track_model_ends Try.f82 = true := by kernel_rfl
theorem lp_track_model_ends (J : Inv) (post : DV → Prop) : AllG J (loopsFn Try.prog tab Skr25 ann_track_model_ends J Try.f82 post) = (True) := by kernel_rfl
theorem spec_track_model_ends (m0 m1 m2 m3 m4 m5 m6 m7 m8 m9 m10 m11 : Int) (h0 h1 h2 h3 h4 : Int) (hp : ((⟨m0, m1, m2, m3, m4, m5, m6, m7, m8, m9, m10, m11⟩ : TMod)).Ok ∧ ((⟨⟨h0, h1, h2⟩, h3, h4⟩ : THit)).Ok) : vc_track_model_ends m0 m1 m2 m3 m4 m5 m6 m7 m8 m9 m10 m11 h0 h1 h2 h3 h4 (fun r => LeD r (.tu [.a [.v (.int .i64 h0), .v (.int .i64 h1), .v (.int .i64 h2), .v (.int .i64 (h3 + m8))], .a [.v (.int .i64 h0), .v (.int .i64 h1), .v (.int .i64 h2), .v (.int .i64 (h3 - m9 - 1))]])) := by
 obtain ⟨ho, hh⟩ := hp
 have b1 := hh.t; have b2 := ho.ea; have b3 := ho.la
 simp only at b1 b2 b3
 unfold vc_track_model_ends
 refine lt_i fun x1 e1 => lt_i fun x2 e2 => lt_i fun x3 e3 => ?_
 rw [wi (by omega)] at e1 e2
 subst e1 e2
 rw [wi (by omega)] at e3
 subst e3
 exact LeD.refl _
def con_track_model_ends : Con := fun args => match args with
 | [.t (.a [.v (.int .i64 m0), .v (.int .i64 m1), .v (.int .i64 m2), .v (.int .i64 m3), .v (.int .i64 m4), .v (.int .i64 m5), .v (.int .i64 m6), .v (.int .i64 m7), .v (.int .i64 m8), .v (.int .i64 m9), .v (.int .i64 m10), .v (.int .i64 m11)]), .t (.a [.v (.int .i64 h0), .v (.int .i64 h1), .v (.int .i64 h2), .v (.int .i64 h3), .v (.int .i64 h4)])] => some (.tu [.a [.v (.int .i64 h0), .v (.int .i64 h1), .v (.int .i64 h2), .v (.int .i64 (h3 + m8))], .a [.v (.int .i64 h0), .v (.int .i64 h1), .v (.int .i64 h2), .v (.int .i64 (h3 - m9 - 1))]], some (((⟨m0, m1, m2, m3, m4, m5, m6, m7, m8, m9, m10, m11⟩ : TMod)).Ok ∧ ((⟨⟨h0, h1, h2⟩, h3, h4⟩ : THit)).Ok), false)
 | _ => none
theorem ok_track_model_ends : Ok Try.prog 82 con_track_model_ends := by
 refine Ok.fn (ann := ann_track_model_ends) mixed tabOK VSkr25 ValidIt.no (fn := Try.f82) (by kernel_rfl) (by kernel_rfl) fit_track_model_ends fun args r pre fresh h hp => ?_
 unfold con_track_model_ends at h
 split at h
 ·rename_i m0 m1 m2 m3 m4 m5 m6 m7 m8 m9 m10 m11 h0 h1 h2 h3 h4
  cases h
  refine ⟨rfl, fun _ _ _ => False, _, LeA.refl _, Nat.le_of_ble_eq_true (by kernel_rfl), ?_, ?_⟩
  ·rw [ev_track_model_ends]; exact spec_track_model_ends m0 m1 m2 m3 m4 m5 m6 m7 m8 m9 m10 m11 h0 h1 h2 h3 h4 hp
  ·rw [lp_track_model_ends]; trivial
 ·cases h
def Skr26 : Sum := addS Skr25 82 con_track_model_ends
theorem VSkr26 : Valid Try.prog Skr26 := Valid.add VSkr25 ok_track_model_ends
def vc_track_model_penalty (m0 m1 m2 m3 m4 m5 m6 m7 m8 m9 m10 m11 : Int) (s0 s1 s2 : Int) (h0 h1 h2 h3 h4 : Int) (post : DV → Prop) : Prop := (((⟨m0, m1, m2, m3, m4, m5, m6, m7, m8, m9, m10, m11⟩ : TMod)).Ok ∧ ((⟨⟨h0, h1, h2⟩, h3, h4⟩ : THit)).Ok) ∧ ((((⟨m0, m1, m2, m3, m4, m5, m6, m7, m8, m9, m10, m11⟩ : TMod)).Ok ∧ ((⟨s0, s1, s2⟩ : V3) : V3).inS 20 = true ∧ ((⟨m0, m1, m2, m3, m4, m5, m6, m7, m8, m9, m10, m11⟩ : TMod)).permit (⟨s0, s1, s2⟩ : V3) ∧ (⟨h0, h1, h2⟩ : V3).inS 1000 = true ∧ -1000101 ≤ (h3 + m8) ∧ (h3 + m8) ≤ 1000100) ∧ (cond (!(((⟨m0, m1, m2, m3, m4, m5, m6, m7, m8, m9, m10, m11⟩ : TMod)).reached (⟨s0, s1, s2⟩ : V3) ⟨h0, h1, h2⟩ (h3 + m8))) (lt (IntKind.i64.wrap (h4 * m11)) fun x1 => post (.t (.c (.v (.int .i64 x1))))) ((((⟨m0, m1, m2, m3, m4, m5, m6, m7, m8, m9, m10, m11⟩ : TMod)).Ok ∧ ((⟨s0, s1, s2⟩ : V3) : V3).inS 20 = true ∧ ((⟨m0, m1, m2, m3, m4, m5, m6, m7, m8, m9, m10, m11⟩ : TMod)).permit (⟨s0, s1, s2⟩ : V3) ∧ (⟨h0, h1, h2⟩ : V3).inS 1000 = true ∧ -1000101 ≤ (h3 - m9 - 1) ∧ (h3 - m9 - 1) ≤ 1000100) ∧ (cond (((⟨m0, m1, m2, m3, m4, m5, m6, m7, m8, m9, m10, m11⟩ : TMod)).reached (⟨s0, s1, s2⟩ : V3) ⟨h0, h1, h2⟩ (h3 - m9 - 1)) (lt (IntKind.i64.wrap (h4 * m10)) fun x2 => post (.t (.c (.v (.int .i64 x2))))) (post (.t (.c (.v (.int .i64 0)))))))))
def ann_track_model_penalty : Ann := ⟨fun _ => none, fun _ => none, fun _ => [], noIt, false, fun _ => none, fun _ => none⟩
theorem ev_track_model_penalty (J : Inv) (m0 m1 m2 m3 m4 m5 m6 m7 m8 m9 m10 m11 : Int) (s0 s1 s2 : Int) (h0 h1 h2 h3 h4 : Int) (post : DV → Prop) : evFn Try.prog tab Skr26 ann_track_model_penalty J Try.f69 [.t (.a [.v (.int .i64 m0), .v (.int .i64 m1), .v (.int .i64 m2), .v (.int .i64 m3), .v (.int .i64 m4), .v (.int .i64 m5), .v (.int .i64 m6), .v (.int .i64 m7), .v (.int .i64 m8), .v (.int .i64 m9), .v (.int .i64 m10), .v (.int .i64 m11)]), .t (.a [.v (.int .i64 s0), .v (.int .i64 s1), .v (.int .i64 s2)]), .t (.a [.v (.int .i64 h0), .v (.int .i64 h1), .v (.int .i64 h2), .v (.int .i64 h3), .v (.int .i64 h4)])] post = vc_track_model_penalty m0 m1 m2 m3 m4 m5 m6 m7 m8 m9 m10 m11 s0 s1 s2 h0 h1 h2 h3 h4 post := by kernel_rfl
theorem fit_track_model_penalty : okFn ann_track_model_penalty Try.f69 = true := by kernel_rfl
theorem lp_track_model_penalty (J : Inv) (post : DV → Prop) : AllG J (loopsFn Try.prog tab Skr26 ann_track_model_penalty J Try.f69 post) = (True) := by kernel_rfl
theorem spec_track_model_penalty (m0 m1 m2 m3 m4 m5 m6 m7 m8 m9 m10 m11 : Int) (s0 s1 s2 : Int) (h0 h1 h2 h3 h4 : Int) (hp : ((⟨m0, m1, m2, m3, m4, m5, m6, m7, m8, m9, m10, m11⟩ : TMod)).Ok ∧ ((⟨s0, s1, s2⟩ : V3) : V3).inS 20 = true ∧ ((⟨m0, m1, m2, m3, m4, m5, m6, m7, m8, m9, m10, m11⟩ : TMod)).permit (⟨s0, s1, s2⟩ : V3) ∧ ((⟨⟨h0, h1, h2⟩, h3, h4⟩ : THit)).Ok) : vc_track_model_penalty m0 m1 m2 m3 m4 m5 m6 m7 m8 m9 m10 m11 s0 s1 s2 h0 h1 h2 h3 h4 (fun r => LeD r (.t (.c (.v (.int .i64 (((⟨m0, m1, m2, m3, m4, m5, m6, m7, m8, m9, m10, m11⟩ : TMod)).pen (⟨s0, s1, s2⟩ : V3) (⟨⟨h0, h1, h2⟩, h3, h4⟩ : THit))))))) := by
 obtain ⟨ho, hs, hpm, hh⟩ := hp
 have b1 := hh.t; have b2 := ho.ea; have b3 := ho.la; have b4 := hh.w; have b5 := ho.mi; have b6 := ho.no
 simp only at b1 b2 b3 b4 b5 b6
 have k1 := mul_rg (x := h4) (y := m11) (A := 100) (B := 100) (C := 10000) (by omega) (by omega) (by decide)
 have k2 := mul_rg (x := h4) (y := m10) (A := 100) (B := 100) (C := 10000) (by omega) (by omega) (by decide)
 unfold vc_track_model_penalty TMod.pen
 simp only
 refine ⟨⟨ho, hh⟩, ⟨ho, hs, hpm, hh.p, by omega, by omega⟩, cond_i (fun e => lt_i fun x e1 => leI ?_) (fun e => ⟨⟨ho, hs, hpm, hh.p, by omega, by omega⟩, cond_i (fun g => lt_i fun x e1 => leI ?_) (fun g => leI ?_)⟩)⟩
 ·rw [wi (by omega)] at e1
  rw [if_pos (by simpa using e), e1]
 ·rw [wi (by omega)] at e1
  rw [if_neg (by simpa using e), if_pos g, e1]
 ·rw [if_neg (by simpa using e), if_neg (by rw [g]; simp)]
def con_track_model_penalty : Con := fun args => match args with
 | [.t (.a [.v (.int .i64 m0), .v (.int .i64 m1), .v (.int .i64 m2), .v (.int .i64 m3), .v (.int .i64 m4), .v (.int .i64 m5), .v (.int .i64 m6), .v (.int .i64 m7), .v (.int .i64 m8), .v (.int .i64 m9), .v (.int .i64 m10), .v (.int .i64 m11)]), .t (.a [.v (.int .i64 s0), .v (.int .i64 s1), .v (.int .i64 s2)]), .t (.a [.v (.int .i64 h0), .v (.int .i64 h1), .v (.int .i64 h2), .v (.int .i64 h3), .v (.int .i64 h4)])] => some (.t (.c (.v (.int .i64 (((⟨m0, m1, m2, m3, m4, m5, m6, m7, m8, m9, m10, m11⟩ : TMod)).pen (⟨s0, s1, s2⟩ : V3) (⟨⟨h0, h1, h2⟩, h3, h4⟩ : THit))))), some (((⟨m0, m1, m2, m3, m4, m5, m6, m7, m8, m9, m10, m11⟩ : TMod)).Ok ∧ ((⟨s0, s1, s2⟩ : V3) : V3).inS 20 = true ∧ ((⟨m0, m1, m2, m3, m4, m5, m6, m7, m8, m9, m10, m11⟩ : TMod)).permit (⟨s0, s1, s2⟩ : V3) ∧ ((⟨⟨h0, h1, h2⟩, h3, h4⟩ : THit)).Ok), false)
 | _ => none
theorem ok_track_model_penalty : Ok Try.prog 69 con_track_model_penalty := by
 refine Ok.fn (ann := ann_track_model_penalty) mixed tabOK VSkr26 ValidIt.no (fn := Try.f69) (by kernel_rfl) (by kernel_rfl) fit_track_model_penalty fun args r pre fresh h hp => ?_
 unfold con_track_model_penalty at h
 split at h
 ·rename_i m0 m1 m2 m3 m4 m5 m6 m7 m8 m9 m10 m11 s0 s1 s2 h0 h1 h2 h3 h4
  cases h
  refine ⟨rfl, fun _ _ _ => False, _, LeA.refl _, Nat.le_of_ble_eq_true (by kernel_rfl), ?_, ?_⟩
  ·rw [ev_track_model_penalty]; exact spec_track_model_penalty m0 m1 m2 m3 m4 m5 m6 m7 m8 m9 m10 m11 s0 s1 s2 h0 h1 h2 h3 h4 hp
  ·rw [lp_track_model_penalty]; trivial
 ·cases h
def Skr27 : Sum := addS Skr26 69 con_track_model_penalty
theorem VSkr27 : Valid Try.prog Skr27 := Valid.add VSkr26 ok_track_model_penalty
def mk_track_model_score_0 (m0 m1 m2 m3 m4 m5 m6 m7 m8 m9 m10 m11 : Int) (s0 s1 s2 : Int) (l : List THit) (v0_0 : Int) (v0_1 : Int) : DS := ⟨[none, none, none, some (.t (.c (.p 3 0))), some (.t (.c (.p 4 0))), none, none, some (.t (.c (.v (.int .i64 v0_1)))), none, none, some (.t (.c (.sl 5 l.length (hitsC l)))), some (.t (.c (.v (.int .i64 ((l.length : Nat) : Int))))), some (.t (.c (.v (.int .i64 v0_0)))), none, none, none, none, none, none, none, none, none, none, none], [none, none, none, some (.box 72 [.v (.int .i64 m0), .v (.int .i64 m1), .v (.int .i64 m2), .v (.int .i64 m3), .v (.int .i64 m4), .v (.int .i64 m5), .v (.int .i64 m6), .v (.int .i64 m7), .v (.int .i64 m8), .v (.int .i64 m9), .v (.int .i64 m10), .v (.int .i64 m11)]), some (.box 75 [.v (.int .i64 s0), .v (.int .i64 s1), .v (.int .i64 s2)]), none, none, none, none, none, none, none, none, none, none, none, none, none, none, none, none, none, none, none]⟩
def vc_track_model_score (J : Inv) (m0 m1 m2 m3 m4 m5 m6 m7 m8 m9 m10 m11 : Int) (s0 s1 s2 : Int) (l : List THit) (post : DV → Prop) : Prop := ∃ n, J 0 (n :: []) (mk_track_model_score_0 m0 m1 m2 m3 m4 m5 m6 m7 m8 m9 m10 m11 s0 s1 s2 l 0 0)
def ann_track_model_score : Ann := ⟨fun _ => none, fun b => lookA b [(0, (none, some ⟨[3, 4, 7, 10, 11, 12], [3, 4], []⟩))], fun _ => [], noIt, false, fun _ => none, fun _ => none⟩
theorem ev_track_model_score (J : Inv) (m0 m1 m2 m3 m4 m5 m6 m7 m8 m9 m10 m11 : Int) (s0 s1 s2 : Int) (l : List THit) (post : DV → Prop) : evFn Try.prog tab Skr27 ann_track_model_score J Try.f36 [.t (.a [.v (.int .i64 m0), .v (.int .i64 m1), .v (.int .i64 m2), .v (.int .i64 m3), .v (.int .i64 m4), .v (.int .i64 m5), .v (.int .i64 m6), .v (.int .i64 m7), .v (.int .i64 m8), .v (.int .i64 m9), .v (.int .i64 m10), .v (.int .i64 m11)]), .t (.a [.v (.int .i64 s0), .v (.int .i64 s1), .v (.int .i64 s2)]), .t (.c (.sl 5 l.length (hitsC l)))] post = vc_track_model_score J m0 m1 m2 m3 m4 m5 m6 m7 m8 m9 m10 m11 s0 s1 s2 l post := by kernel_rfl
theorem fit_track_model_score : okFn ann_track_model_score Try.f36 = true := by kernel_rfl
def rd_track_model_score_0 (J : Inv) (m0 m1 m2 m3 m4 m5 m6 m7 m8 m9 m10 m11 : Int) (s0 s1 s2 : Int) (l : List THit) (v0_0 : Int) (v0_1 : Int) (nn0 : Nat) (post : DV → Prop) : Prop := cond (decide (v0_0 < ((l.length : Nat) : Int))) ((0 ≤ v0_0 ∧ v0_0 < ((l.length : Nat) : Int)) ∧ ((((⟨m0, m1, m2, m3, m4, m5, m6, m7, m8, m9, m10, m11⟩ : TMod)).Ok ∧ ((⟨s0, s1, s2⟩ : V3) : V3).inS 20 = true ∧ ((⟨m0, m1, m2, m3, m4, m5, m6, m7, m8, m9, m10, m11⟩ : TMod)).permit (⟨s0, s1, s2⟩ : V3) ∧ ((hitAt l v0_0.toNat)).Ok) ∧ (lt (IntKind.i64.wrap (v0_1 + (((⟨m0, m1, m2, m3, m4, m5, m6, m7, m8, m9, m10, m11⟩ : TMod)).pen (⟨s0, s1, s2⟩ : V3) (hitAt l v0_0.toNat)))) fun x1 => lt (IntKind.i64.wrap (v0_0 + (1 : Int))) fun x2 => J 0 (nn0 :: []) (mk_track_model_score_0 m0 m1 m2 m3 m4 m5 m6 m7 m8 m9 m10 m11 s0 s1 s2 l x2 x1)))) (post (.t (.c (.v (.int .i64 v0_1)))))
theorem er_track_model_score_0 (J : Inv) (m0 m1 m2 m3 m4 m5 m6 m7 m8 m9 m10 m11 : Int) (s0 s1 s2 : Int) (l : List THit) (v0_0 : Int) (v0_1 : Int) (nn0 : Nat) (post : DV → Prop) : round Try.prog tab Skr27 ann_track_model_score J Try.f36 post 0 (nn0 :: []) (mk_track_model_score_0 m0 m1 m2 m3 m4 m5 m6 m7 m8 m9 m10 m11 s0 s1 s2 l v0_0 v0_1) = rd_track_model_score_0 J m0 m1 m2 m3 m4 m5 m6 m7 m8 m9 m10 m11 s0 s1 s2 l v0_0 v0_1 nn0 post := by kernel_rfl
theorem lp_track_model_score (J : Inv) (post : DV → Prop) : AllG J (loopsFn Try.prog tab Skr27 ann_track_model_score J Try.f36 post) = (((∀ F s, ¬ J 0 (0 :: F) s) ∧ ∀ n F s, J 0 ((n + 1) :: F) s → round Try.prog tab Skr27 ann_track_model_score J Try.f36 post 0 (n :: F) s) ∧ True) := by kernel_rfl
def J_track_model_score (m0 m1 m2 m3 m4 m5 m6 m7 m8 m9 m10 m11 : Int) (s0 s1 s2 : Int) (l : List THit) : Inv := fun b F s => match b, F with
 | 0, [nn0] => ∃ (v0_0 : Int) (v0_1 : Int), s = mk_track_model_score_0 m0 m1 m2 m3 m4 m5 m6 m7 m8 m9 m10 m11 s0 s1 s2 l v0_0 v0_1 ∧ (0 ≤ v0_0 ∧ v0_0 ≤ l.length ∧ (nn0 : Int) + v0_0 = l.length + 1 ∧ v0_1 = ((⟨m0, m1, m2, m3, m4, m5, m6, m7, m8, m9, m10, m11⟩ : TMod)).score (⟨s0, s1, s2⟩ : V3) (l.take v0_0.toNat) ∧ -(10000 * v0_0) ≤ v0_1 ∧ v0_1 ≤ 10000 * v0_0)
 | _, _ => False
theorem rnd_track_model_score_0 (m0 m1 m2 m3 m4 m5 m6 m7 m8 m9 m10 m11 : Int) (s0 s1 s2 : Int) (l : List THit) (v0_0 : Int) (v0_1 : Int) (nn0 : Nat) (hp : ((⟨m0, m1, m2, m3, m4, m5, m6, m7, m8, m9, m10, m11⟩ : TMod)).Ok ∧ ((⟨s0, s1, s2⟩ : V3) : V3).inS 20 = true ∧ ((⟨m0, m1, m2, m3, m4, m5, m6, m7, m8, m9, m10, m11⟩ : TMod)).permit (⟨s0, s1, s2⟩ : V3) ∧ (l).length ≤ 12 ∧ ∀ i, i < (l).length → (hitAt l i).Ok) (hi : 0 ≤ v0_0 ∧ v0_0 ≤ l.length ∧ ((nn0 + 1) : Int) + v0_0 = l.length + 1 ∧ v0_1 = ((⟨m0, m1, m2, m3, m4, m5, m6, m7, m8, m9, m10, m11⟩ : TMod)).score (⟨s0, s1, s2⟩ : V3) (l.take v0_0.toNat) ∧ -(10000 * v0_0) ≤ v0_1 ∧ v0_1 ≤ 10000 * v0_0) : rd_track_model_score_0 (J_track_model_score m0 m1 m2 m3 m4 m5 m6 m7 m8 m9 m10 m11 s0 s1 s2 l) m0 m1 m2 m3 m4 m5 m6 m7 m8 m9 m10 m11 s0 s1 s2 l v0_0 v0_1 nn0 (fun r => LeD r (.t (.c (.v (.int .i64 (((⟨m0, m1, m2, m3, m4, m5, m6, m7, m8, m9, m10, m11⟩ : TMod)).score (⟨s0, s1, s2⟩ : V3) l)))))) := by
 obtain ⟨i1, i2, i3, i4, i5, i6⟩ := hi
 obtain ⟨ho, hs, hpm, hn, hok⟩ := hp
 obtain ⟨k, rfl⟩ : ∃ k : Nat, v0_0 = k := ⟨v0_0.toNat, by omega⟩
 have hk : (k : Int).toNat = k := rfl
 rw [hk] at i4
 unfold rd_track_model_score_0
 rw [hk]
 refine cond_i (fun h => ?_) (fun h => leI ?_)
 ·have hlt : k < l.length := by have := of_decide_eq_true h; omega
  have hr := pen_rg (m := (⟨m0, m1, m2, m3, m4, m5, m6, m7, m8, m9, m10, m11⟩ : TMod)) (s := ⟨s0, s1, s2⟩) ho (hok k hlt)
  refine ⟨by omega, ⟨ho, hs, hpm, hok k hlt⟩, lt_i fun x1 h1 => lt_i fun x2 h2 => ?_⟩
  have eh : (⟨⟨(hitAt l k).p.x, (hitAt l k).p.y, (hitAt l k).p.z⟩, (hitAt l k).t, (hitAt l k).w⟩ : THit) = hitAt l k := rfl
  rw [wi (by omega)] at h1 h2
  subst h1 h2
  refine ⟨_, _, rfl, by omega, by omega, by omega, ?_, by omega, by omega⟩
  rw [show ((k : Int) + 1).toNat = k + 1 by omega, score_take _ _ hlt, i4]
 ·have hkl : k = l.length := by have := of_decide_eq_false h; omega
  rw [i4, hkl, List.take_length]
theorem zero_track_model_score_0 (m0 m1 m2 m3 m4 m5 m6 m7 m8 m9 m10 m11 : Int) (s0 s1 s2 : Int) (l : List THit) (v0_0 : Int) (v0_1 : Int)  (hi : 0 ≤ v0_0 ∧ v0_0 ≤ l.length ∧ (0 : Int) + v0_0 = l.length + 1 ∧ v0_1 = ((⟨m0, m1, m2, m3, m4, m5, m6, m7, m8, m9, m10, m11⟩ : TMod)).score (⟨s0, s1, s2⟩ : V3) (l.take v0_0.toNat) ∧ -(10000 * v0_0) ≤ v0_1 ∧ v0_1 ≤ 10000 * v0_0) : False := by
 omega
theorem spec_track_model_score (m0 m1 m2 m3 m4 m5 m6 m7 m8 m9 m10 m11 : Int) (s0 s1 s2 : Int) (l : List THit) (hp : ((⟨m0, m1, m2, m3, m4, m5, m6, m7, m8, m9, m10, m11⟩ : TMod)).Ok ∧ ((⟨s0, s1, s2⟩ : V3) : V3).inS 20 = true ∧ ((⟨m0, m1, m2, m3, m4, m5, m6, m7, m8, m9, m10, m11⟩ : TMod)).permit (⟨s0, s1, s2⟩ : V3) ∧ (l).length ≤ 12 ∧ ∀ i, i < (l).length → (hitAt l i).Ok) : vc_track_model_score (J_track_model_score m0 m1 m2 m3 m4 m5 m6 m7 m8 m9 m10 m11 s0 s1 s2 l) m0 m1 m2 m3 m4 m5 m6 m7 m8 m9 m10 m11 s0 s1 s2 l (fun r => LeD r (.t (.c (.v (.int .i64 (((⟨m0, m1, m2, m3, m4, m5, m6, m7, m8, m9, m10, m11⟩ : TMod)).score (⟨s0, s1, s2⟩ : V3) l)))))) := by
 unfold vc_track_model_score
 exact ⟨l.length + 1, 0, 0, rfl, by omega, by omega, by omega, rfl, by omega, by omega⟩
theorem all_track_model_score (m0 m1 m2 m3 m4 m5 m6 m7 m8 m9 m10 m11 : Int) (s0 s1 s2 : Int) (l : List THit) (hp : ((⟨m0, m1, m2, m3, m4, m5, m6, m7, m8, m9, m10, m11⟩ : TMod)).Ok ∧ ((⟨s0, s1, s2⟩ : V3) : V3).inS 20 = true ∧ ((⟨m0, m1, m2, m3, m4, m5, m6, m7, m8, m9, m10, m11⟩ : TMod)).permit (⟨s0, s1, s2⟩ : V3) ∧ (l).length ≤ 12 ∧ ∀ i, i < (l).length → (hitAt l i).Ok) : AllG (J_track_model_score m0 m1 m2 m3 m4 m5 m6 m7 m8 m9 m10 m11 s0 s1 s2 l) (loopsFn Try.prog tab Skr27 ann_track_model_score (J_track_model_score m0 m1 m2 m3 m4 m5 m6 m7 m8 m9 m10 m11 s0 s1 s2 l) Try.f36 (fun r => LeD r (.t (.c (.v (.int .i64 (((⟨m0, m1, m2, m3, m4, m5, m6, m7, m8, m9, m10, m11⟩ : TMod)).score (⟨s0, s1, s2⟩ : V3) l))))))) := by
 rw [lp_track_model_score]
 refine ⟨⟨?_, ?_⟩, trivial⟩
 ·intro F s h
  obtain _ | ⟨g, F⟩ := F
  case cons => exact h.elim
  obtain ⟨w0, w1, rfl, hi⟩ := h
  exact zero_track_model_score_0 m0 m1 m2 m3 m4 m5 m6 m7 m8 m9 m10 m11 s0 s1 s2 l w0 w1 hi
 ·intro n F s h
  obtain _ | ⟨g, F⟩ := F
  case cons => exact h.elim
  obtain ⟨w0, w1, rfl, hi⟩ := h
  rw [er_track_model_score_0]
  exact rnd_track_model_score_0 m0 m1 m2 m3 m4 m5 m6 m7 m8 m9 m10 m11 s0 s1 s2 l _ _ _ hp hi
def con_track_model_score : Con := fun args => match args with
 | [.t (.a [.v (.int .i64 m0), .v (.int .i64 m1), .v (.int .i64 m2), .v (.int .i64 m3), .v (.int .i64 m4), .v (.int .i64 m5), .v (.int .i64 m6), .v (.int .i64 m7), .v (.int .i64 m8), .v (.int .i64 m9), .v (.int .i64 m10), .v (.int .i64 m11)]), .t (.a [.v (.int .i64 s0), .v (.int .i64 s1), .v (.int .i64 s2)]), .t (.c (.sl 5 n_l c_l))] => some (.t (.c (.v (.int .i64 (((⟨m0, m1, m2, m3, m4, m5, m6, m7, m8, m9, m10, m11⟩ : TMod)).score (⟨s0, s1, s2⟩ : V3) (listC n_l mkHit c_l))))), some (numsP 5 n_l c_l ∧ ((⟨m0, m1, m2, m3, m4, m5, m6, m7, m8, m9, m10, m11⟩ : TMod)).Ok ∧ ((⟨s0, s1, s2⟩ : V3) : V3).inS 20 = true ∧ ((⟨m0, m1, m2, m3, m4, m5, m6, m7, m8, m9, m10, m11⟩ : TMod)).permit (⟨s0, s1, s2⟩ : V3) ∧ ((listC n_l mkHit c_l)).length ≤ 12 ∧ ∀ i, i < ((listC n_l mkHit c_l)).length → (hitAt (listC n_l mkHit c_l) i).Ok), false)
 | _ => none
theorem ok_track_model_score : Ok Try.prog 36 con_track_model_score := by
 refine Ok.fn (ann := ann_track_model_score) mixed tabOK VSkr27 ValidIt.no (fn := Try.f36) (by kernel_rfl) (by kernel_rfl) fit_track_model_score fun args r pre fresh h hp => ?_
 unfold con_track_model_score at h
 split at h
 ·rename_i m0 m1 m2 m3 m4 m5 m6 m7 m8 m9 m10 m11 s0 s1 s2 n_l c_l
  cases h
  obtain ⟨hp0, hp⟩ := hp
  refine ⟨rfl, J_track_model_score m0 m1 m2 m3 m4 m5 m6 m7 m8 m9 m10 m11 s0 s1 s2 (listC n_l mkHit c_l), [.t (.a [.v (.int .i64 m0), .v (.int .i64 m1), .v (.int .i64 m2), .v (.int .i64 m3), .v (.int .i64 m4), .v (.int .i64 m5), .v (.int .i64 m6), .v (.int .i64 m7), .v (.int .i64 m8), .v (.int .i64 m9), .v (.int .i64 m10), .v (.int .i64 m11)]), .t (.a [.v (.int .i64 s0), .v (.int .i64 s1), .v (.int .i64 s2)]), .t (.c (.sl 5 ((listC n_l mkHit c_l).length) (hitsC (listC n_l mkHit c_l))))], ?_, Nat.le_of_ble_eq_true (by kernel_rfl), ?_, ?_⟩
  ·exact (LeA_cons (LeD.refl _) (LeA_cons (LeD.refl _) (LeA_cons (leT_c ((leL_THit hp0))) LeA_nil)))
  ·rw [ev_track_model_score]; exact spec_track_model_score m0 m1 m2 m3 m4 m5 m6 m7 m8 m9 m10 m11 s0 s1 s2 (listC n_l mkHit c_l) hp
  ·exact all_track_model_score m0 m1 m2 m3 m4 m5 m6 m7 m8 m9 m10 m11 s0 s1 s2 (listC n_l mkHit c_l) hp
 ·cases h
def Skr28 : Sum := addS Skr27 36 con_track_model_score
theorem VSkr28 : Valid Try.prog Skr28 := Valid.add VSkr27 ok_track_model_score
def vc_track_ScoreOf (m0 m1 m2 m3 m4 m5 m6 m7 m8 m9 m10 m11 : Int) (s0 s1 s2 : Int) (l : List THit) (post : DV → Prop) : Prop := (numsP 5 l.length (hitsC l)) ∧ ((numsP 1 2 (genC [[.v (.int .i64 (((⟨m0, m1, m2, m3, m4, m5, m6, m7, m8, m9, m10, m11⟩ : TMod)).both (⟨s0, s1, s2⟩ : V3)))], [.v (.int .i64 (hitsE (listC l.length mkHit (hitsC l))))]]) ∧ (([(((⟨m0, m1, m2, m3, m4, m5, m6, m7, m8, m9, m10, m11⟩ : TMod)).both (⟨s0, s1, s2⟩ : V3)), (hitsE (listC l.length mkHit (hitsC l)))] : List Int)).length ≤ 100) ∧ (cond ((firstNZ ([(((⟨m0, m1, m2, m3, m4, m5, m6, m7, m8, m9, m10, m11⟩ : TMod)).both (⟨s0, s1, s2⟩ : V3)), (hitsE (listC l.length mkHit (hitsC l)))] : List Int)) != (0 : Int)) (post (.tu [.c (.v (.int .i64 0)), .c (.v (.int .i64 (firstNZ ([(((⟨m0, m1, m2, m3, m4, m5, m6, m7, m8, m9, m10, m11⟩ : TMod)).both (⟨s0, s1, s2⟩ : V3)), (hitsE (listC l.length mkHit (hitsC l)))] : List Int))))])) ((numsP 5 l.length (hitsC l) ∧ ((⟨m0, m1, m2, m3, m4, m5, m6, m7, m8, m9, m10, m11⟩ : TMod)).Ok ∧ ((⟨s0, s1, s2⟩ : V3) : V3).inS 20 = true ∧ ((⟨m0, m1, m2, m3, m4, m5, m6, m7, m8, m9, m10, m11⟩ : TMod)).permit (⟨s0, s1, s2⟩ : V3) ∧ ((listC l.length mkHit (hitsC l))).length ≤ 12 ∧ ∀ i, i < ((listC l.length mkHit (hitsC l))).length → (hitAt (listC l.length mkHit (hitsC l)) i).Ok) ∧ (post (.tu [.c (.v (.int .i64 (((⟨m0, m1, m2, m3, m4, m5, m6, m7, m8, m9, m10, m11⟩ : TMod)).score (⟨s0, s1, s2⟩ : V3) (listC l.length mkHit (hitsC l))))), .c (.v (.int .i64 0))])))))
def ann_track_ScoreOf : Ann := ⟨fun _ => none, fun _ => none, fun _ => [], noIt, false, fun _ => none, fun _ => none⟩
theorem ev_track_ScoreOf (J : Inv) (m0 m1 m2 m3 m4 m5 m6 m7 m8 m9 m10 m11 : Int) (s0 s1 s2 : Int) (l : List THit) (post : DV → Prop) : evFn Try.prog tab Skr28 ann_track_ScoreOf J Try.f21 [.t (.a [.v (.int .i64 m0), .v (.int .i64 m1), .v (.int .i64 m2), .v (.int .i64 m3), .v (.int .i64 m4), .v (.int .i64 m5), .v (.int .i64 m6), .v (.int .i64 m7), .v (.int .i64 m8), .v (.int .i64 m9), .v (.int .i64 m10), .v (.int .i64 m11)]), .t (.a [.v (.int .i64 s0), .v (.int .i64 s1), .v (.int .i64 s2)]), .t (.c (.sl 5 l.length (hitsC l)))] post = vc_track_ScoreOf m0 m1 m2 m3 m4 m5 m6 m7 m8 m9 m10 m11 s0 s1 s2 l post := by kernel_rfl
theorem fit_track_ScoreOf : okFn ann_track_ScoreOf Try.f21 = true := by kernel_rfl
theorem lp_track_ScoreOf (J : Inv) (post : DV → Prop) : AllG J (loopsFn Try.prog tab Skr28 ann_track_ScoreOf J Try.f21 post) = (True) := by kernel_rfl
theorem spec_track_ScoreOf (m0 m1 m2 m3 m4 m5 m6 m7 m8 m9 m10 m11 : Int) (s0 s1 s2 : Int) (l : List THit) : vc_track_ScoreOf m0 m1 m2 m3 m4 m5 m6 m7 m8 m9 m10 m11 s0 s1 s2 l (fun r => LeD r (.tu [.c (.v (.int .i64 (((⟨m0, m1, m2, m3, m4, m5, m6, m7, m8, m9, m10, m11⟩ : TMod)).sV (⟨s0, s1, s2⟩ : V3) l))), .c (.v (.int .i64 (((⟨m0, m1, m2, m3, m4, m5, m6, m7, m8, m9, m10, m11⟩ : TMod)).sE (⟨s0, s1, s2⟩ : V3) l)))])) := by
 unfold vc_track_ScoreOf TMod.sV TMod.sE
 rw [hits_listC]
 refine ⟨numsP_hits l, ⟨numsP_gen [_, _], Nat.le_of_ble_eq_true rfl⟩, cond_i (fun h => ?_) (fun h => ?_)⟩
 ·have h : firstNZ [((⟨m0, m1, m2, m3, m4, m5, m6, m7, m8, m9, m10, m11⟩ : TMod)).both ⟨s0, s1, s2⟩, hitsE l] ≠ 0 := by simpa using h
  rw [if_neg h]
  exact LeD.refl _
 ·have h : firstNZ [((⟨m0, m1, m2, m3, m4, m5, m6, m7, m8, m9, m10, m11⟩ : TMod)).both ⟨s0, s1, s2⟩, hitsE l] = 0 := by simpa using h
  obtain ⟨q1, q2⟩ := fn2 h
  obtain ⟨r1, r2, r3, _⟩ := both_ok q1
  obtain ⟨g1, g2⟩ := hitsE_ok q2
  rw [if_pos h, h]
  exact ⟨⟨numsP_hits l, r1, r2, r3, g1, g2⟩, LeD.refl _⟩
def con_track_ScoreOf : Con := fun args => match args with
 | [.t (.a [.v (.int .i64 m0), .v (.int .i64 m1), .v (.int .i64 m2), .v (.int .i64 m3), .v (.int .i64 m4), .v (.int .i64 m5), .v (.int .i64 m6), .v (.int .i64 m7), .v (.int .i64 m8), .v (.int .i64 m9), .v (.int .i64 m10), .v (.int .i64 m11)]), .t (.a [.v (.int .i64 s0), .v (.int .i64 s1), .v (.int .i64 s2)]), .t (.c (.sl 5 n_l c_l))] => some (.tu [.c (.v (.int .i64 (((⟨m0, m1, m2, m3, m4, m5, m6, m7, m8, m9, m10, m11⟩ : TMod)).sV (⟨s0, s1, s2⟩ : V3) (listC n_l mkHit c_l)))), .c (.v (.int .i64 (((⟨m0, m1, m2, m3, m4, m5, m6, m7, m8, m9, m10, m11⟩ : TMod)).sE (⟨s0, s1, s2⟩ : V3) (listC n_l mkHit c_l))))], some (numsP 5 n_l c_l), false)
 | _ => none
theorem ok_track_ScoreOf : Ok Try.prog 21 con_track_ScoreOf := by
 refine Ok.fn (ann := ann_track_ScoreOf) mixed tabOK VSkr28 ValidIt.no (fn := Try.f21) (by kernel_rfl) (by kernel_rfl) fit_track_ScoreOf fun args r pre fresh h hp => ?_
 unfold con_track_ScoreOf at h
 split at h
 ·rename_i m0 m1 m2 m3 m4 m5 m6 m7 m8 m9 m10 m11 s0 s1 s2 n_l c_l
  cases h
  have hp0 := hp
  refine ⟨rfl, fun _ _ _ => False, [.t (.a [.v (.int .i64 m0), .v (.int .i64 m1), .v (.int .i64 m2), .v (.int .i64 m3), .v (.int .i64 m4), .v (.int .i64 m5), .v (.int .i64 m6), .v (.int .i64 m7), .v (.int .i64 m8), .v (.int .i64 m9), .v (.int .i64 m10), .v (.int .i64 m11)]), .t (.a [.v (.int .i64 s0), .v (.int .i64 s1), .v (.int .i64 s2)]), .t (.c (.sl 5 ((listC n_l mkHit c_l).length) (hitsC (listC n_l mkHit c_l))))], ?_, Nat.le_of_ble_eq_true (by kernel_rfl), ?_, ?_⟩
  ·exact (LeA_cons (LeD.refl _) (LeA_cons (LeD.refl _) (LeA_cons (leT_c ((leL_THit hp0))) LeA_nil)))
  ·rw [ev_track_ScoreOf]; exact spec_track_ScoreOf m0 m1 m2 m3 m4 m5 m6 m7 m8 m9 m10 m11 s0 s1 s2 (listC n_l mkHit c_l)
  ·rw [lp_track_ScoreOf]; trivial
 ·cases h
def Skr29 : Sum := addS Skr28 21 con_track_ScoreOf
theorem VSkr29 : Valid Try.prog Skr29 := Valid.add VSkr28 ok_track_ScoreOf
def vc_track_count (b0 b1 b2 b3 b4 b5 : Int) (post : DV → Prop) : Prop := (0 ≤ (0 : Int) ∧ (0 : Int) < ((3 : Nat) : Int)) ∧ ((0 ≤ (0 : Int) ∧ (0 : Int) < ((3 : Nat) : Int)) ∧ (lt (IntKind.i64.wrap (b3 - b0)) fun x1 => lt (IntKind.i64.wrap (x1 + (1 : Int))) fun x2 => lt (IntKind.i64.wrap ((1 : Int) * x2)) fun x3 => (0 ≤ (1 : Int) ∧ (1 : Int) < ((3 : Nat) : Int)) ∧ ((0 ≤ (1 : Int) ∧ (1 : Int) < ((3 : Nat) : Int)) ∧ (lt (IntKind.i64.wrap (b4 - b1)) fun x4 => lt (IntKind.i64.wrap (x4 + (1 : Int))) fun x5 => lt (IntKind.i64.wrap (x3 * x5)) fun x6 => (0 ≤ (2 : Int) ∧ (2 : Int) < ((3 : Nat) : Int)) ∧ ((0 ≤ (2 : Int) ∧ (2 : Int) < ((3 : Nat) : Int)) ∧ (lt (IntKind.i64.wrap (b5 - b2)) fun x7 => lt (IntKind.i64.wrap (x7 + (1 : Int))) fun x8 => lt (IntKind.i64.wrap (x6 * x8)) fun x9 => post (.t (.c (.v (.int .i64 x9))))))))))
def ann_track_count : Ann := ⟨fun r => lookA r [(5, ([[], [], [], [1, 2], [1, 2, 3], [], [], [5, 6], [5, 6, 7], [1, 2, 3, 4, 5, 6, 7, 8], [1, 2, 3, 4, 5, 6, 7, 8, 9], [0, 1, 2, 3, 4, 5, 6, 7, 8, 9, 10], [0, 1, 2, 3, 4, 5, 6, 7, 8, 9, 10, 11]], [[], [], [], [], [], [], [], [], [], [], [], [], []]))], fun b => lookA b [(0, (some 4, some ⟨[1, 3, 5], [1], []⟩))], fun _ => [], noIt, false, fun _ => none, fun _ => none⟩
theorem ev_track_count (J : Inv) (b0 b1 b2 b3 b4 b5 : Int) (post : DV → Prop) : evFn Try.prog tab Skr29 ann_track_count J Try.f54 [.t (.a [.v (.int .i64 b0), .v (.int .i64 b1), .v (.int .i64 b2), .v (.int .i64 b3), .v (.int .i64 b4), .v (.int .i64 b5)])] post = vc_track_count b0 b1 b2 b3 b4 b5 post := by kernel_rfl
theorem fit_track_count : okFn ann_track_count Try.f54 = true := by kernel_rfl
theorem lp_track_count (J : Inv) (post : DV → Prop) : AllG J (loopsFn Try.prog tab Skr29 ann_track_count J Try.f54 post) = (True) := by kernel_rfl
theorem spec_track_count (b0 b1 b2 b3 b4 b5 : Int) (hp : ((⟨⟨b0, b1, b2⟩, ⟨b3, b4, b5⟩⟩ : TBox)).lo.inS 20 = true ∧ ((⟨⟨b0, b1, b2⟩, ⟨b3, b4, b5⟩⟩ : TBox)).hi.inS 20 = true ∧ ((⟨⟨b0, b1, b2⟩, ⟨b3, b4, b5⟩⟩ : TBox)).ok) : vc_track_count b0 b1 b2 b3 b4 b5 (fun r => LeD r (.t (.c (.v (.int .i64 (((⟨⟨b0, b1, b2⟩, ⟨b3, b4, b5⟩⟩ : TBox)).count)))))) := by
 obtain ⟨a1, a2, a3⟩ := inS_iff.1 hp.1
 obtain ⟨c1, c2, c3⟩ := inS_iff.1 hp.2.1
 simp only at a1 a2 a3 c1 c2 c3
 unfold vc_track_count
 refine ⟨by decide, by decide, lt_i fun x1 h1 => lt_i fun x2 h2 => lt_i fun x3 h3 => ⟨by decide, by decide, lt_i fun x4 h4 => lt_i fun x5 h5 => lt_i fun x6 h6 => ⟨by decide, by decide, lt_i fun x7 h7 => lt_i fun x8 h8 => lt_i fun x9 h9 => leI ?_⟩⟩⟩
 rw [wi (by omega)] at h1 h4 h7
 subst h1 h4 h7
 rw [wi (by omega)] at h2 h5 h8
 subst h2 h5 h8
 rw [wi (by omega)] at h3
 subst h3
 have m1 := mul_rg (x := 1 * (b3 - b0 + 1)) (y := b4 - b1 + 1) (A := 41) (B := 41) (C := 1681) (by omega) (by omega) (by decide)
 rw [wi (by omega)] at h6
 subst h6
 have m2 := mul_rg (x := 1 * (b3 - b0 + 1) * (b4 - b1 + 1)) (y := b5 - b2 + 1) (A := 1681) (B := 41) (C := 68921) (by omega) (by omega) (by decide)
 rw [wi (by omega)] at h9
 rw [← h9, Int.one_mul]
 rfl
def con_track_count : Con := fun args => match args with
 | [.t (.a [.v (.int .i64 b0), .v (.int .i64 b1), .v (.int .i64 b2), .v (.int .i64 b3), .v (.int .i64 b4), .v (.int .i64 b5)])] => some (.t (.c (.v (.int .i64 (((⟨⟨b0, b1, b2⟩, ⟨b3, b4, b5⟩⟩ : TBox)).count)))), some (((⟨⟨b0, b1, b2⟩, ⟨b3, b4, b5⟩⟩ : TBox)).lo.inS 20 = true ∧ ((⟨⟨b0, b1, b2⟩, ⟨b3, b4, b5⟩⟩ : TBox)).hi.inS 20 = true ∧ ((⟨⟨b0, b1, b2⟩, ⟨b3, b4, b5⟩⟩ : TBox)).ok), false)
 | _ => none
theorem ok_track_count : Ok Try.prog 54 con_track_count := by
 refine Ok.fn (ann := ann_track_count) mixed tabOK VSkr29 ValidIt.no (fn := Try.f54) (by kernel_rfl) (by kernel_rfl) fit_track_count fun args r pre fresh h hp => ?_
 unfold con_track_count at h
 split at h
 ·rename_i b0 b1 b2 b3 b4 b5
  cases h
  refine ⟨rfl, fun _ _ _ => False, _, LeA.refl _, Nat.le_of_ble_eq_true (by kernel_rfl), ?_, ?_⟩
  ·rw [ev_track_count]; exact spec_track_count b0 b1 b2 b3 b4 b5 hp
  ·rw [lp_track_count]; trivial
 ·cases h
def Skr30 : Sum := addS Skr29 54 con_track_count
theorem VSkr30 : Valid Try.prog Skr30 := Valid.add VSkr29 ok_track_count
end Go.Proofs.Ytfadkjcfjkmalaa