/- The law FlashLight of chapter 6 returns true for every input, and its arguments read afterwards as before. No condition but that the tables of math/bits hold what the program lays. -/
import Derived.SevenTiedAt
import Derived.Test.YtmhgjlapkhdlmaaDoorTie
import Derived.Test.YtmhgjlapkhdlmaaDoorCards
import Derived.Test.YtmhgjlapkhdlmaaDoorLI5
import Derived.Test.YtmhgjlapkhdlmaaDoorLI10
namespace Go.Proofs.YtmhgjlapkhdlmaaDoor.flashLightDone
open Go.ChangeShapes Go.WideShapes Go.ChangeAt Go.RowKit Ev
set_option linter.unusedVariables false

theorem own : ownKnob Tryd.prog.godebug = none := by kernel_rfl
theorem laidOut : laidOutB Tryd.prog = true := by kernel_rfl

set_option maxRecDepth 100000 in
theorem lifted (os : Os) (started : os.Started) (H : Type) (enc : TypeId × Value → H) :
    ReturnsInHanded {} Tryd.checked os 8 .any (fun w args => (Rows.flashLightSpec.pre enc Tryd.prog Tryd.f8 [] false w args ∧ laidMetH Tryd.prog laidL w) ∧ sizedMet enc Tryd.prog Tryd.f8 (OpenSpec.ofChange Rows.flashLightSpec) false w args) (Rows.flashLightSpec.post enc Tryd.prog Tryd.f8 false true false false) := by
  refine returnsInHanded_of_change_and (C := Tryd.checked) (X := fun w _ => laidMetH Tryd.prog laidL w) (fun _ _ _ hh h => h.of_heap hh) own started (by kernel_rfl) Tryd.func8
    (ChangeSpec.witness_shaped (enc := enc) (C := Tryd.checked) (os := os) (X := fun w _ => laidMetH Tryd.prog laidL w) false (World.doorLaid Tryd.prog 19 os) #[.agg #[.slice none 0 0], .slice none 0 0, .agg #[.int .i64 0, .int .i64 0, .int .i64 0, .int .i64 0, .int .i64 0]] 8 rfl (World.shaped_of_RefB (by kernel_rfl) (by kernel_rfl)) (by kernel_rfl) (by kernel_rfl) (by kernel_rfl) (door_met os _)) ?_
  intro W base args ds gs before hval0 hW hcnd _ hL _
  have hval : ∀ (j : Nat) t v, Tryd.f8.params[j]? = some t → args[j]? = some v → Value.okWide Tryd.prog W .any base t v := hval0
  have hW' := hW
  obtain ⟨Zp, Zq, hA0, hV, rfl, hfz, hnd⟩ := hW
  have hA : DataW.TrodAll enc Tryd.prog W 0 (fun _ => true) true Tryd.f8.params.toList args.toList ds Zp := hA0
  rw [Tryd.params8] at hA hval
  obtain ⟨Zv0, Zvs0, Zd0, Zds0, Zp0, Zq0, hargs, rfl, rfl, Zh0, Zr0⟩ := trodAll_cons hA
  obtain ⟨Zv1, Zvs1, Zd1, Zds1, Zp1, Zq1, rfl, rfl, rfl, Zh1, Zr1⟩ := trodAll_cons Zr0
  obtain ⟨Zv2, Zvs2, Zd2, Zds2, Zp2, Zq2, rfl, rfl, rfl, Zh2, Zr2⟩ := trodAll_cons Zr1
  obtain ⟨rfl, rfl, rfl⟩ := trodAll_nil Zr2
  obtain rfl : args = #[Zv0, Zv1, Zv2] := by cases args; simp_all
  obtain ⟨rfl, rfl⟩ := trodVars_none hV
  have Zk0 := Zh0
  have Zlt0 : ∀ x ∈ Zp0, x.block < W.heap.size := by obtain ⟨m, hm⟩ := Zk0; exact DataW.trod_lt m _ _ _ hm
  obtain ⟨Zcs0, rfl, Zhs0⟩ := WideShapes.okWide_struct Tryd.underlying88 (hval 0 88 _ rfl rfl)
  obtain ⟨Zl0, hl0, Zhr0, Zhk0⟩ := open_agg (d := 4) (t := 88) (P := Tryd.prog) (by kernel_rfl) (Zhs0.trans (by kernel_rfl)) Zh0
  have Zhn0 : Tryd.prog.cellsOf 88 = 1 := by kernel_rfl
  rw [Zhn0] at hl0 Zhk0
  obtain ⟨x0_0, rfl⟩ : ∃ x0_0, Zl0 = [x0_0] := by
    match Zl0, hl0 with
    | [x0_0], _ => exact ⟨x0_0, rfl⟩
  obtain ⟨n_t, c_t, e0_0, m_t, f_t⟩ := open_sl (by kernel_rfl) (Zhk0 0 (by decide))
  have hz_t : Tryd.prog.cellsOf 174 = 2 := by kernel_rfl
  have E0_0 : x0_0 = .sl 2 n_t c_t := e0_0.trans (congrArg (fun z => CV.sl z n_t c_t) hz_t)
  subst E0_0
  have hp0 : numsP 2 n_t c_t := by
    have := nums_of (P := Tryd.prog) (by kernel_rfl) f_t
    rwa [hz_t] at this
  have Zk1 := Zh1
  have Zlt1 : ∀ x ∈ Zp1, x.block < W.heap.size := by obtain ⟨m, hm⟩ := Zk1; exact DataW.trod_lt m _ _ _ hm
  obtain ⟨fuel1, hf1⟩ := Zh1
  obtain ⟨ao1, len1, cap1, rfl⟩ := okWide_slice Tryd.underlying22 (hval 1 22 Zv1 rfl rfl)
  obtain ⟨κ1, x1, Zu1, Zhk1, e1, Zhr1, ho1⟩ := open_cell (P := Tryd.prog) 4 22 _ _ _ (by kernel_rfl) hf1 0 (Nat.le_of_ble_eq_true (by kernel_rfl))
  obtain rfl : _ = Zu1 := by simpa [Value.cells] using e1
  have hz_l : Tryd.prog.cellsOf 107 = 7 := by kernel_rfl
  obtain ⟨n_l, c_l, Ze1, m_l, f_l⟩ := open_sl (by kernel_rfl) ⟨κ1, Zhk1, ho1⟩
  rw [hz_l] at Ze1
  subst Ze1
  have hp1 : numsP 7 n_l c_l := by
    have := nums_of (P := Tryd.prog) (by kernel_rfl) f_l
    rwa [hz_l] at this
  have Zk2 := Zh2
  have Zlt2 : ∀ x ∈ Zp2, x.block < W.heap.size := by obtain ⟨m, hm⟩ := Zk2; exact DataW.trod_lt m _ _ _ hm
  obtain ⟨Zcs2, rfl, Zhs2⟩ := WideShapes.okWide_struct Tryd.underlying90 (hval 2 90 _ rfl rfl)
  obtain ⟨Zl2, hl2, Zhr2, Zhk2⟩ := open_agg (d := 4) (t := 90) (P := Tryd.prog) (by kernel_rfl) (Zhs2.trans (by kernel_rfl)) Zh2
  have Zhn2 : Tryd.prog.cellsOf 90 = 5 := by kernel_rfl
  rw [Zhn2] at hl2 Zhk2
  obtain ⟨x2_0, x2_1, x2_2, x2_3, x2_4, rfl⟩ : ∃ x2_0 x2_1 x2_2 x2_3 x2_4, Zl2 = [x2_0, x2_1, x2_2, x2_3, x2_4] := by
    match Zl2, hl2 with
    | [x2_0, x2_1, x2_2, x2_3, x2_4], _ => exact ⟨x2_0, x2_1, x2_2, x2_3, x2_4, rfl⟩
  obtain ⟨x, e2_0, z_x, y_x⟩ := open_i64 (by kernel_rfl) (Zhk2 0 (by decide))
  have E2_0 : x2_0 = .v (.int .i64 x) := e2_0
  subst E2_0
  obtain ⟨u, e2_1, z_u, y_u⟩ := open_i64 (by kernel_rfl) (Zhk2 1 (by decide))
  have E2_1 : x2_1 = .v (.int .i64 u) := e2_1
  subst E2_1
  obtain ⟨p0, e2_2, z_p0, y_p0⟩ := open_i64 (by kernel_rfl) (Zhk2 2 (by decide))
  have E2_2 : x2_2 = .v (.int .i64 p0) := e2_2
  subst E2_2
  obtain ⟨p1, e2_3, z_p1, y_p1⟩ := open_i64 (by kernel_rfl) (Zhk2 3 (by decide))
  have E2_3 : x2_3 = .v (.int .i64 p1) := e2_3
  subst E2_3
  obtain ⟨p2, e2_4, z_p2, y_p2⟩ := open_i64 (by kernel_rfl) (Zhk2 4 (by decide))
  have E2_4 : x2_4 = .v (.int .i64 p2) := e2_4
  subst E2_4
  clear hA0 hval0
  have hle : LeA [.t (.a [.sl 2 n_t c_t]), .t (.c (.sl 7 n_l c_l)), .t (.a [.v (.int .i64 x), .v (.int .i64 u), .v (.int .i64 p0), .v (.int .i64 p1), .v (.int .i64 p2)])] [.t (.a [.sl 2 ((listC n_t mkKn c_t).length) (knsC (listC n_t mkKn c_t))]), .t (.c (.sl 7 ((listC n_l mkHit c_l).length) (hitsC (listC n_l mkHit c_l)))), .t (.a [.v (.int .i64 x), .v (.int .i64 u), .v (.int .i64 p0), .v (.int .i64 p1), .v (.int .i64 p2)])] := (LeA_cons (leT_a (LeCs.cons ((leL_Knot hp0)) LeCs.nil)) (LeA_cons (leT_c ((leL_FHit hp1))) (LeA_cons (leT_a (LeCs.cons (LeC1.refl _) (LeCs.cons (LeC1.refl _) (LeCs.cons (LeC1.refl _) (LeCs.cons (LeC1.refl _) (LeCs.cons (LeC1.refl _) LeCs.nil)))))) LeA_nil)))
  refine (law_law06_FlashLight (listC n_t mkKn c_t) (listC n_l mkHit c_l) x u p0 p1 p2 W (fun _ => True) _ (gd_of hL) (hle W _ [.agg Zcs0, _, .agg Zcs2] ⟨⟨Zcs0.toList, by simp, Zhr0⟩, ⟨Zhr1, ⟨⟨Zcs2.toList, by simp, Zhr2⟩, trivial⟩⟩⟩)).mono fun e W' ⟨he, bel⟩ => ?_
  subst he
  exact ⟨_, rfl, _, _, _, [], _, [], hW', trodAll_mk1 (shut_bool Tryd.underlying4 _), (trodAll_cons_mk (Below.trod laidOut (by kernel_rfl) (of_decide_eq_true (by kernel_rfl)) Zk0 bel Zlt0) (trodAll_cons_mk (Below.trod laidOut (by kernel_rfl) (of_decide_eq_true (by kernel_rfl)) Zk1 bel Zlt1) (trodAll_cons_mk (Below.trod laidOut (by kernel_rfl) (of_decide_eq_true (by kernel_rfl)) Zk2 bel Zlt2) trodAll_mk0))), rfl, bel.frame _, fun h => by cases h⟩

theorem over : Rows.flashLightRow.holds Tryd.pinned (OpenSpec.ofChange Rows.flashLightSpec) :=
  OpenClaim.holds_of_wide 8 Tryd.f8 rfl rfl rfl rfl rfl rfl rfl ⟨rfl, rfl, rfl, rfl, rfl⟩ rfl rfl rfl rfl rfl (by kernel_rfl) Tryd.func8 (by kernel_rfl)
    (of_decide_eq_true (by kernel_rfl)) (by unfold Func.isWrapper; first | (rw [if_pos (by decide +kernel)]; kernel_rfl) | (rw [if_neg (by decide +kernel)]; exact ⟨rfl, rfl⟩))
    (fun os started H enc _ => lifted os started H enc)

/-- the statement: the row's, tied to the program's text. -/
theorem proved : Rows.FlashLightCardSaid :=
  Claim7.holds_tied_plain_at .later [] [.data, .data] true (true, "925e207e375425880ca3d405664781c59e8ee77221d5304a992f53527d338864") false
    over (fun _ h => by cases h) (by kernel_rfl) (fun _ h => by cases h) flashLight_row_tie rfl ⟨rfl, rfl⟩ (by kernel_rfl) rfl
    (fun f fn hf hfn => by
      obtain rfl : f = 8 := Option.some.inj ((show Tryd.prog.funcNamed "cherenkov/cherenkovlaw06.FlashLight" = some 8 by kernel_rfl).symm.trans hf) |>.symm
      obtain rfl : fn = Tryd.f8 := (Option.some.inj (Tryd.func8.symm.trans hfn)).symm
      exact ⟨by kernel_rfl, fun j t ht => by
        rw [Tryd.params8] at ht
        have hm : t ∈ [88, 22, 90] := by simpa using Array.mem_of_getElem? ht
        have hall : ([88, 22, 90].all fun u => !Tryd.prog.wantsStandIn u) = true := by kernel_rfl
        exact (show Tryd.prog.wantsStandIn t = false by simpa using List.all_eq_true.1 hall t hm)⟩)
    (by kernel_rfl)
end Go.Proofs.YtmhgjlapkhdlmaaDoor.flashLightDone
