/- Laws of chapter 1: ClockPings, ClockTracks, ClockTranslated, ClockNarrower and ClockTruth return true for every input, and their arguments read afterwards as before. No condition. -/
import Derived.Test.YtkifmfmenobhnaaCR12
import Derived.Test.YtkifmfmenobhnaaCR13
namespace Go.Proofs.Ytkifmfmenobhnaa.clockPingsDone
open Go.ChangeShapes Go.WideShapes Go.ChangeAt Go.RowKit Ev
set_option linter.unusedVariables false

theorem own : ownKnob Try.prog.godebug = none := by kernel_rfl
theorem laidOut : laidOutB Try.prog = true := by kernel_rfl

set_option maxRecDepth 100000 in
theorem lifted (os : Os) (started : os.Started) (H : Type) (enc : TypeId × Value → H) :
    ReturnsInHanded {} Try.checked os 8 .any (Rows.clockPingsSpec.pre6 enc Try.prog Try.f8 Rows.clockPingsRow.domain false) (Rows.clockPingsSpec.post enc Try.prog Try.f8 false true false false) := by
  refine returnsInHanded_of_change (C := Try.checked) own started (by kernel_rfl) Try.func8
    (ChangeSpec.witness6 (enc := enc) (C := Try.checked) false ⟨#[], #[.agg #[.int .i64 0, .int .i64 0], .agg #[.int .i64 0, .int .i64 0, .int .i64 0, .int .i64 0], .int .i64 0], []⟩ 8 (by kernel_rfl) (by kernel_rfl) (by kernel_rfl) (by kernel_rfl)) ?_
  intro W base args ds gs before hval0 hW hcnd _
  have hval : ∀ (j : Nat) t v, Try.f8.params[j]? = some t → args[j]? = some v → Value.okWide Try.prog W .any base t v := hval0
  have hW' := hW
  obtain ⟨Zp, Zq, hA0, hV, rfl, hfz, hnd⟩ := hW
  have hA : DataW.TrodAll enc Try.prog W 0 (fun _ => true) true Try.f8.params.toList args.toList ds Zp := hA0
  rw [Try.params8] at hA hval
  obtain ⟨Zv0, Zvs0, Zd0, Zds0, Zp0, Zq0, hargs, rfl, rfl, Zh0, Zr0⟩ := trodAll_cons hA
  obtain ⟨Zv1, Zvs1, Zd1, Zds1, Zp1, Zq1, rfl, rfl, rfl, Zh1, Zr1⟩ := trodAll_cons Zr0
  obtain ⟨Zv2, Zvs2, Zd2, Zds2, Zp2, Zq2, rfl, rfl, rfl, Zh2, Zr2⟩ := trodAll_cons Zr1
  obtain ⟨rfl, rfl, rfl⟩ := trodAll_nil Zr2
  obtain rfl : args = #[Zv0, Zv1, Zv2] := by cases args; simp_all
  obtain ⟨rfl, rfl⟩ := trodVars_none hV
  have Zk0 := Zh0
  have Zlt0 : ∀ x ∈ Zp0, x.block < W.heap.size := by obtain ⟨m, hm⟩ := Zk0; exact DataW.trod_lt m _ _ _ hm
  obtain ⟨Zcs0, rfl, Zhs0⟩ := WideShapes.okWide_struct Try.underlying71 (hval 0 71 _ rfl rfl)
  obtain ⟨Zl0, hl0, Zhr0, Zhk0⟩ := open_agg (d := 4) (t := 71) (P := Try.prog) (by kernel_rfl) (Zhs0.trans (by kernel_rfl)) Zh0
  have Zhn0 : Try.prog.cellsOf 71 = 2 := by kernel_rfl
  rw [Zhn0] at hl0 Zhk0
  obtain ⟨x0_0, x0_1, rfl⟩ : ∃ x0_0 x0_1, Zl0 = [x0_0, x0_1] := by
    match Zl0, hl0 with
    | [x0_0, x0_1], _ => exact ⟨x0_0, x0_1, rfl⟩
  obtain ⟨c0, e0_0, z_c0, y_c0⟩ := open_i64 (by kernel_rfl) (Zhk0 0 (by decide))
  have E0_0 : x0_0 = .v (.int .i64 c0) := e0_0
  subst E0_0
  obtain ⟨c1, e0_1, z_c1, y_c1⟩ := open_i64 (by kernel_rfl) (Zhk0 1 (by decide))
  have E0_1 : x0_1 = .v (.int .i64 c1) := e0_1
  subst E0_1
  have Zk1 := Zh1
  have Zlt1 : ∀ x ∈ Zp1, x.block < W.heap.size := by obtain ⟨m, hm⟩ := Zk1; exact DataW.trod_lt m _ _ _ hm
  obtain ⟨Zcs1, rfl, Zhs1⟩ := WideShapes.okWide_struct Try.underlying86 (hval 1 86 _ rfl rfl)
  obtain ⟨Zl1, hl1, Zhr1, Zhk1⟩ := open_agg (d := 4) (t := 86) (P := Try.prog) (by kernel_rfl) (Zhs1.trans (by kernel_rfl)) Zh1
  have Zhn1 : Try.prog.cellsOf 86 = 4 := by kernel_rfl
  rw [Zhn1] at hl1 Zhk1
  obtain ⟨x1_0, x1_1, x1_2, x1_3, rfl⟩ : ∃ x1_0 x1_1 x1_2 x1_3, Zl1 = [x1_0, x1_1, x1_2, x1_3] := by
    match Zl1, hl1 with
    | [x1_0, x1_1, x1_2, x1_3], _ => exact ⟨x1_0, x1_1, x1_2, x1_3, rfl⟩
  obtain ⟨p0, e1_0, z_p0, y_p0⟩ := open_i64 (by kernel_rfl) (Zhk1 0 (by decide))
  have E1_0 : x1_0 = .v (.int .i64 p0) := e1_0
  subst E1_0
  obtain ⟨p1, e1_1, z_p1, y_p1⟩ := open_i64 (by kernel_rfl) (Zhk1 1 (by decide))
  have E1_1 : x1_1 = .v (.int .i64 p1) := e1_1
  subst E1_1
  obtain ⟨p2, e1_2, z_p2, y_p2⟩ := open_i64 (by kernel_rfl) (Zhk1 2 (by decide))
  have E1_2 : x1_2 = .v (.int .i64 p2) := e1_2
  subst E1_2
  obtain ⟨p3, e1_3, z_p3, y_p3⟩ := open_i64 (by kernel_rfl) (Zhk1 3 (by decide))
  have E1_3 : x1_3 = .v (.int .i64 p3) := e1_3
  subst E1_3
  obtain ⟨ct, rfl, rfl, rfl, Zw2⟩ := open_int Try.underlying3 (hval 2 3 Zv2 rfl rfl) Zh2
  obtain ⟨z_ct, y_ct⟩ := bounds_i64 Zw2
  clear hA0 hval0
  have hle : LeA [.t (.a [.v (.int .i64 c0), .v (.int .i64 c1)]), .t (.a [.v (.int .i64 p0), .v (.int .i64 p1), .v (.int .i64 p2), .v (.int .i64 p3)]), .t (.c (.v (.int .i64 ct)))] [.t (.a [.v (.int .i64 c0), .v (.int .i64 c1)]), .t (.a [.v (.int .i64 p0), .v (.int .i64 p1), .v (.int .i64 p2), .v (.int .i64 p3)]), .t (.c (.v (.int .i64 ct)))] := (LeA_cons (LeD.refl _) (LeA_cons (LeD.refl _) (LeA_cons (LeD.refl _) LeA_nil)))
  refine (law_law01_ClockPings c0 c1 p0 p1 p2 p3 ct W (fun _ => True) _ (hle W _ [.agg Zcs0, .agg Zcs1, .int .i64 ct] ⟨⟨Zcs0.toList, by simp, Zhr0⟩, ⟨⟨Zcs1.toList, by simp, Zhr1⟩, ⟨⟨rfl, rfl⟩, trivial⟩⟩⟩)).mono fun e W' ⟨he, bel⟩ => ?_
  subst he
  exact ⟨_, rfl, _, _, _, [], _, [], hW', trodAll_mk1 (shut_bool Try.underlying4 _), (trodAll_cons_mk (Below.trod laidOut (by kernel_rfl) (of_decide_eq_true (by kernel_rfl)) Zk0 bel Zlt0) (trodAll_cons_mk (Below.trod laidOut (by kernel_rfl) (of_decide_eq_true (by kernel_rfl)) Zk1 bel Zlt1) (trodAll_cons_mk (shut_int Try.underlying3 Zw2) trodAll_mk0))), rfl, bel.frame _, fun h => by cases h⟩

theorem over : Rows.clockPingsRow.holds Try.pinned (OpenSpec.ofChange Rows.clockPingsSpec) :=
  OpenClaim.holds_of_wide 8 Try.f8 rfl rfl rfl rfl rfl rfl rfl ⟨rfl, rfl, rfl, rfl, rfl⟩ rfl rfl rfl rfl rfl (by kernel_rfl) Try.func8 (by kernel_rfl)
    (of_decide_eq_true (by kernel_rfl)) (by unfold Func.isWrapper; first | (rw [if_pos (by decide +kernel)]; kernel_rfl) | (rw [if_neg (by decide +kernel)]; exact ⟨rfl, rfl⟩))
    (fun os started H enc _ => lifted os started H enc)

/-- the statement. -/
theorem proved : Rows.ClockPingsSaid := over
end Go.Proofs.Ytkifmfmenobhnaa.clockPingsDone
namespace Go.Proofs.Ytkifmfmenobhnaa.clockTracksDone
open Go.ChangeShapes Go.WideShapes Go.ChangeAt Go.RowKit Ev
set_option linter.unusedVariables false

theorem own : ownKnob Try.prog.godebug = none := by kernel_rfl
theorem laidOut : laidOutB Try.prog = true := by kernel_rfl

set_option maxRecDepth 100000 in
theorem lifted (os : Os) (started : os.Started) (H : Type) (enc : TypeId × Value → H) :
    ReturnsInHanded {} Try.checked os 7 .any (Rows.clockTracksSpec.pre6 enc Try.prog Try.f7 Rows.clockTracksRow.domain false) (Rows.clockTracksSpec.post enc Try.prog Try.f7 false true false false) := by
  refine returnsInHanded_of_change (C := Try.checked) own started (by kernel_rfl) Try.func7
    (ChangeSpec.witness6 (enc := enc) (C := Try.checked) false ⟨#[], #[.agg #[.int .i64 0, .int .i64 0, .slice none 0 0]], []⟩ 8 (by kernel_rfl) (by kernel_rfl) (by kernel_rfl) (by kernel_rfl)) ?_
  intro W base args ds gs before hval0 hW hcnd _
  have hval : ∀ (j : Nat) t v, Try.f7.params[j]? = some t → args[j]? = some v → Value.okWide Try.prog W .any base t v := hval0
  have hW' := hW
  obtain ⟨Zp, Zq, hA0, hV, rfl, hfz, hnd⟩ := hW
  have hA : DataW.TrodAll enc Try.prog W 0 (fun _ => true) true Try.f7.params.toList args.toList ds Zp := hA0
  rw [Try.params7] at hA hval
  obtain ⟨Zv0, Zvs0, Zd0, Zds0, Zp0, Zq0, hargs, rfl, rfl, Zh0, Zr0⟩ := trodAll_cons hA
  obtain ⟨rfl, rfl, rfl⟩ := trodAll_nil Zr0
  obtain rfl : args = #[Zv0] := by cases args; simp_all
  obtain ⟨rfl, rfl⟩ := trodVars_none hV
  have Zk0 := Zh0
  have Zlt0 : ∀ x ∈ Zp0, x.block < W.heap.size := by obtain ⟨m, hm⟩ := Zk0; exact DataW.trod_lt m _ _ _ hm
  obtain ⟨Zcs0, rfl, Zhs0⟩ := WideShapes.okWide_struct Try.underlying74 (hval 0 74 _ rfl rfl)
  obtain ⟨Zl0, hl0, Zhr0, Zhk0⟩ := open_agg (d := 4) (t := 74) (P := Try.prog) (by kernel_rfl) (Zhs0.trans (by kernel_rfl)) Zh0
  have Zhn0 : Try.prog.cellsOf 74 = 3 := by kernel_rfl
  rw [Zhn0] at hl0 Zhk0
  obtain ⟨x0_0, x0_1, x0_2, rfl⟩ : ∃ x0_0 x0_1 x0_2, Zl0 = [x0_0, x0_1, x0_2] := by
    match Zl0, hl0 with
    | [x0_0, x0_1, x0_2], _ => exact ⟨x0_0, x0_1, x0_2, rfl⟩
  obtain ⟨c0, e0_0, z_c0, y_c0⟩ := open_i64 (by kernel_rfl) (Zhk0 0 (by decide))
  have E0_0 : x0_0 = .v (.int .i64 c0) := e0_0
  subst E0_0
  obtain ⟨c1, e0_1, z_c1, y_c1⟩ := open_i64 (by kernel_rfl) (Zhk0 1 (by decide))
  have E0_1 : x0_1 = .v (.int .i64 c1) := e0_1
  subst E0_1
  obtain ⟨n_l, c_l, e0_2, m_l, f_l⟩ := open_sl (by kernel_rfl) (Zhk0 2 (by decide))
  have hz_l : Try.prog.cellsOf 86 = 4 := by kernel_rfl
  have E0_2 : x0_2 = .sl 4 n_l c_l := e0_2.trans (congrArg (fun z => CV.sl z n_l c_l) hz_l)
  subst E0_2
  have hp0 : numsP 4 n_l c_l := by
    have := nums_of (P := Try.prog) (by kernel_rfl) f_l
    rwa [hz_l] at this
  clear hA0 hval0
  have hle : LeA [.t (.a [.v (.int .i64 c0), .v (.int .i64 c1), .sl 4 n_l c_l])] [.t (.a [.v (.int .i64 c0), .v (.int .i64 c1), .sl 4 ((listC n_l mkPng c_l).length) (pngsC (listC n_l mkPng c_l))])] := (LeA_cons (leT_a (LeCs.cons (LeC1.refl _) (LeCs.cons (LeC1.refl _) (LeCs.cons ((leL_Png hp0)) LeCs.nil)))) LeA_nil)
  refine (law_law01_ClockTracks c0 c1 (listC n_l mkPng c_l) W (fun _ => True) _ (hle W _ [.agg Zcs0] ⟨⟨Zcs0.toList, by simp, Zhr0⟩, trivial⟩)).mono fun e W' ⟨he, bel⟩ => ?_
  subst he
  exact ⟨_, rfl, _, _, _, [], _, [], hW', trodAll_mk1 (shut_bool Try.underlying4 _), (trodAll_cons_mk (Below.trod laidOut (by kernel_rfl) (of_decide_eq_true (by kernel_rfl)) Zk0 bel Zlt0) trodAll_mk0), rfl, bel.frame _, fun h => by cases h⟩

theorem over : Rows.clockTracksRow.holds Try.pinned (OpenSpec.ofChange Rows.clockTracksSpec) :=
  OpenClaim.holds_of_wide 7 Try.f7 rfl rfl rfl rfl rfl rfl rfl ⟨rfl, rfl, rfl, rfl, rfl⟩ rfl rfl rfl rfl rfl (by kernel_rfl) Try.func7 (by kernel_rfl)
    (of_decide_eq_true (by kernel_rfl)) (by unfold Func.isWrapper; first | (rw [if_pos (by decide +kernel)]; kernel_rfl) | (rw [if_neg (by decide +kernel)]; exact ⟨rfl, rfl⟩))
    (fun os started H enc _ => lifted os started H enc)

/-- the statement. -/
theorem proved : Rows.ClockTracksSaid := over
end Go.Proofs.Ytkifmfmenobhnaa.clockTracksDone
namespace Go.Proofs.Ytkifmfmenobhnaa.clockTranslatedDone
open Go.ChangeShapes Go.WideShapes Go.ChangeAt Go.RowKit Ev
set_option linter.unusedVariables false

theorem own : ownKnob Try.prog.godebug = none := by kernel_rfl
theorem laidOut : laidOutB Try.prog = true := by kernel_rfl

set_option maxRecDepth 100000 in
theorem lifted (os : Os) (started : os.Started) (H : Type) (enc : TypeId × Value → H) :
    ReturnsInHanded {} Try.checked os 10 .any (Rows.clockTranslatedSpec.pre6 enc Try.prog Try.f10 Rows.clockTranslatedRow.domain false) (Rows.clockTranslatedSpec.post enc Try.prog Try.f10 false true false false) := by
  refine returnsInHanded_of_change (C := Try.checked) own started (by kernel_rfl) Try.func10
    (ChangeSpec.witness6 (enc := enc) (C := Try.checked) false ⟨#[], #[.agg #[.int .i64 0, .int .i64 0, .slice none 0 0], .int .i64 0, .int .i64 0], []⟩ 8 (by kernel_rfl) (by kernel_rfl) (by kernel_rfl) (by kernel_rfl)) ?_
  intro W base args ds gs before hval0 hW hcnd _
  have hval : ∀ (j : Nat) t v, Try.f10.params[j]? = some t → args[j]? = some v → Value.okWide Try.prog W .any base t v := hval0
  have hW' := hW
  obtain ⟨Zp, Zq, hA0, hV, rfl, hfz, hnd⟩ := hW
  have hA : DataW.TrodAll enc Try.prog W 0 (fun _ => true) true Try.f10.params.toList args.toList ds Zp := hA0
  rw [Try.params10] at hA hval
  obtain ⟨Zv0, Zvs0, Zd0, Zds0, Zp0, Zq0, hargs, rfl, rfl, Zh0, Zr0⟩ := trodAll_cons hA
  obtain ⟨Zv1, Zvs1, Zd1, Zds1, Zp1, Zq1, rfl, rfl, rfl, Zh1, Zr1⟩ := trodAll_cons Zr0
  obtain ⟨Zv2, Zvs2, Zd2, Zds2, Zp2, Zq2, rfl, rfl, rfl, Zh2, Zr2⟩ := trodAll_cons Zr1
  obtain ⟨rfl, rfl, rfl⟩ := trodAll_nil Zr2
  obtain rfl : args = #[Zv0, Zv1, Zv2] := by cases args; simp_all
  obtain ⟨rfl, rfl⟩ := trodVars_none hV
  have Zk0 := Zh0
  have Zlt0 : ∀ x ∈ Zp0, x.block < W.heap.size := by obtain ⟨m, hm⟩ := Zk0; exact DataW.trod_lt m _ _ _ hm
  obtain ⟨Zcs0, rfl, Zhs0⟩ := WideShapes.okWide_struct Try.underlying74 (hval 0 74 _ rfl rfl)
  obtain ⟨Zl0, hl0, Zhr0, Zhk0⟩ := open_agg (d := 4) (t := 74) (P := Try.prog) (by kernel_rfl) (Zhs0.trans (by kernel_rfl)) Zh0
  have Zhn0 : Try.prog.cellsOf 74 = 3 := by kernel_rfl
  rw [Zhn0] at hl0 Zhk0
  obtain ⟨x0_0, x0_1, x0_2, rfl⟩ : ∃ x0_0 x0_1 x0_2, Zl0 = [x0_0, x0_1, x0_2] := by
    match Zl0, hl0 with
    | [x0_0, x0_1, x0_2], _ => exact ⟨x0_0, x0_1, x0_2, rfl⟩
  obtain ⟨c0, e0_0, z_c0, y_c0⟩ := open_i64 (by kernel_rfl) (Zhk0 0 (by decide))
  have E0_0 : x0_0 = .v (.int .i64 c0) := e0_0
  subst E0_0
  obtain ⟨c1, e0_1, z_c1, y_c1⟩ := open_i64 (by kernel_rfl) (Zhk0 1 (by decide))
  have E0_1 : x0_1 = .v (.int .i64 c1) := e0_1
  subst E0_1
  obtain ⟨n_l, c_l, e0_2, m_l, f_l⟩ := open_sl (by kernel_rfl) (Zhk0 2 (by decide))
  have hz_l : Try.prog.cellsOf 86 = 4 := by kernel_rfl
  have E0_2 : x0_2 = .sl 4 n_l c_l := e0_2.trans (congrArg (fun z => CV.sl z n_l c_l) hz_l)
  subst E0_2
  have hp0 : numsP 4 n_l c_l := by
    have := nums_of (P := Try.prog) (by kernel_rfl) f_l
    rwa [hz_l] at this
  obtain ⟨ct, rfl, rfl, rfl, Zw1⟩ := open_int Try.underlying3 (hval 1 3 Zv1 rfl rfl) Zh1
  obtain ⟨z_ct, y_ct⟩ := bounds_i64 Zw1
  obtain ⟨tk, rfl, rfl, rfl, Zw2⟩ := open_int Try.underlying3 (hval 2 3 Zv2 rfl rfl) Zh2
  obtain ⟨z_tk, y_tk⟩ := bounds_i64 Zw2
  clear hA0 hval0
  have hle : LeA [.t (.a [.v (.int .i64 c0), .v (.int .i64 c1), .sl 4 n_l c_l]), .t (.c (.v (.int .i64 ct))), .t (.c (.v (.int .i64 tk)))] [.t (.a [.v (.int .i64 c0), .v (.int .i64 c1), .sl 4 ((listC n_l mkPng c_l).length) (pngsC (listC n_l mkPng c_l))]), .t (.c (.v (.int .i64 ct))), .t (.c (.v (.int .i64 tk)))] := (LeA_cons (leT_a (LeCs.cons (LeC1.refl _) (LeCs.cons (LeC1.refl _) (LeCs.cons ((leL_Png hp0)) LeCs.nil)))) (LeA_cons (LeD.refl _) (LeA_cons (LeD.refl _) LeA_nil)))
  refine (law_law01_ClockTranslated c0 c1 (listC n_l mkPng c_l) ct tk W (fun _ => True) _ (hle W _ [.agg Zcs0, .int .i64 ct, .int .i64 tk] ⟨⟨Zcs0.toList, by simp, Zhr0⟩, ⟨⟨rfl, rfl⟩, ⟨⟨rfl, rfl⟩, trivial⟩⟩⟩)).mono fun e W' ⟨he, bel⟩ => ?_
  subst he
  exact ⟨_, rfl, _, _, _, [], _, [], hW', trodAll_mk1 (shut_bool Try.underlying4 _), (trodAll_cons_mk (Below.trod laidOut (by kernel_rfl) (of_decide_eq_true (by kernel_rfl)) Zk0 bel Zlt0) (trodAll_cons_mk (shut_int Try.underlying3 Zw1) (trodAll_cons_mk (shut_int Try.underlying3 Zw2) trodAll_mk0))), rfl, bel.frame _, fun h => by cases h⟩

theorem over : Rows.clockTranslatedRow.holds Try.pinned (OpenSpec.ofChange Rows.clockTranslatedSpec) :=
  OpenClaim.holds_of_wide 10 Try.f10 rfl rfl rfl rfl rfl rfl rfl ⟨rfl, rfl, rfl, rfl, rfl⟩ rfl rfl rfl rfl rfl (by kernel_rfl) Try.func10 (by kernel_rfl)
    (of_decide_eq_true (by kernel_rfl)) (by unfold Func.isWrapper; first | (rw [if_pos (by decide +kernel)]; kernel_rfl) | (rw [if_neg (by decide +kernel)]; exact ⟨rfl, rfl⟩))
    (fun os started H enc _ => lifted os started H enc)

/-- the statement. -/
theorem proved : Rows.ClockTranslatedSaid := over
end Go.Proofs.Ytkifmfmenobhnaa.clockTranslatedDone
namespace Go.Proofs.Ytkifmfmenobhnaa.clockNarrowerDone
open Go.ChangeShapes Go.WideShapes Go.ChangeAt Go.RowKit Ev
set_option linter.unusedVariables false

theorem own : ownKnob Try.prog.godebug = none := by kernel_rfl
theorem laidOut : laidOutB Try.prog = true := by kernel_rfl

set_option maxRecDepth 100000 in
theorem lifted (os : Os) (started : os.Started) (H : Type) (enc : TypeId × Value → H) :
    ReturnsInHanded {} Try.checked os 9 .any (Rows.clockNarrowerSpec.pre6 enc Try.prog Try.f9 Rows.clockNarrowerRow.domain false) (Rows.clockNarrowerSpec.post enc Try.prog Try.f9 false true false false) := by
  refine returnsInHanded_of_change (C := Try.checked) own started (by kernel_rfl) Try.func9
    (ChangeSpec.witness6 (enc := enc) (C := Try.checked) false ⟨#[], #[.agg #[.int .i64 0, .int .i64 0, .slice none 0 0], .int .i64 0, .agg #[.int .i64 0, .int .i64 0]], []⟩ 8 (by kernel_rfl) (by kernel_rfl) (by kernel_rfl) (by kernel_rfl)) ?_
  intro W base args ds gs before hval0 hW hcnd _
  have hval : ∀ (j : Nat) t v, Try.f9.params[j]? = some t → args[j]? = some v → Value.okWide Try.prog W .any base t v := hval0
  have hW' := hW
  obtain ⟨Zp, Zq, hA0, hV, rfl, hfz, hnd⟩ := hW
  have hA : DataW.TrodAll enc Try.prog W 0 (fun _ => true) true Try.f9.params.toList args.toList ds Zp := hA0
  rw [Try.params9] at hA hval
  obtain ⟨Zv0, Zvs0, Zd0, Zds0, Zp0, Zq0, hargs, rfl, rfl, Zh0, Zr0⟩ := trodAll_cons hA
  obtain ⟨Zv1, Zvs1, Zd1, Zds1, Zp1, Zq1, rfl, rfl, rfl, Zh1, Zr1⟩ := trodAll_cons Zr0
  obtain ⟨Zv2, Zvs2, Zd2, Zds2, Zp2, Zq2, rfl, rfl, rfl, Zh2, Zr2⟩ := trodAll_cons Zr1
  obtain ⟨rfl, rfl, rfl⟩ := trodAll_nil Zr2
  obtain rfl : args = #[Zv0, Zv1, Zv2] := by cases args; simp_all
  obtain ⟨rfl, rfl⟩ := trodVars_none hV
  have Zk0 := Zh0
  have Zlt0 : ∀ x ∈ Zp0, x.block < W.heap.size := by obtain ⟨m, hm⟩ := Zk0; exact DataW.trod_lt m _ _ _ hm
  obtain ⟨Zcs0, rfl, Zhs0⟩ := WideShapes.okWide_struct Try.underlying74 (hval 0 74 _ rfl rfl)
  obtain ⟨Zl0, hl0, Zhr0, Zhk0⟩ := open_agg (d := 4) (t := 74) (P := Try.prog) (by kernel_rfl) (Zhs0.trans (by kernel_rfl)) Zh0
  have Zhn0 : Try.prog.cellsOf 74 = 3 := by kernel_rfl
  rw [Zhn0] at hl0 Zhk0
  obtain ⟨x0_0, x0_1, x0_2, rfl⟩ : ∃ x0_0 x0_1 x0_2, Zl0 = [x0_0, x0_1, x0_2] := by
    match Zl0, hl0 with
    | [x0_0, x0_1, x0_2], _ => exact ⟨x0_0, x0_1, x0_2, rfl⟩
  obtain ⟨c0, e0_0, z_c0, y_c0⟩ := open_i64 (by kernel_rfl) (Zhk0 0 (by decide))
  have E0_0 : x0_0 = .v (.int .i64 c0) := e0_0
  subst E0_0
  obtain ⟨c1, e0_1, z_c1, y_c1⟩ := open_i64 (by kernel_rfl) (Zhk0 1 (by decide))
  have E0_1 : x0_1 = .v (.int .i64 c1) := e0_1
  subst E0_1
  obtain ⟨n_l, c_l, e0_2, m_l, f_l⟩ := open_sl (by kernel_rfl) (Zhk0 2 (by decide))
  have hz_l : Try.prog.cellsOf 86 = 4 := by kernel_rfl
  have E0_2 : x0_2 = .sl 4 n_l c_l := e0_2.trans (congrArg (fun z => CV.sl z n_l c_l) hz_l)
  subst E0_2
  have hp0 : numsP 4 n_l c_l := by
    have := nums_of (P := Try.prog) (by kernel_rfl) f_l
    rwa [hz_l] at this
  obtain ⟨ct, rfl, rfl, rfl, Zw1⟩ := open_int Try.underlying3 (hval 1 3 Zv1 rfl rfl) Zh1
  obtain ⟨z_ct, y_ct⟩ := bounds_i64 Zw1
  have Zk2 := Zh2
  have Zlt2 : ∀ x ∈ Zp2, x.block < W.heap.size := by obtain ⟨m, hm⟩ := Zk2; exact DataW.trod_lt m _ _ _ hm
  obtain ⟨Zcs2, rfl, Zhs2⟩ := WideShapes.okWide_struct Try.underlying71 (hval 2 71 _ rfl rfl)
  obtain ⟨Zl2, hl2, Zhr2, Zhk2⟩ := open_agg (d := 4) (t := 71) (P := Try.prog) (by kernel_rfl) (Zhs2.trans (by kernel_rfl)) Zh2
  have Zhn2 : Try.prog.cellsOf 71 = 2 := by kernel_rfl
  rw [Zhn2] at hl2 Zhk2
  obtain ⟨x2_0, x2_1, rfl⟩ : ∃ x2_0 x2_1, Zl2 = [x2_0, x2_1] := by
    match Zl2, hl2 with
    | [x2_0, x2_1], _ => exact ⟨x2_0, x2_1, rfl⟩
  obtain ⟨d0, e2_0, z_d0, y_d0⟩ := open_i64 (by kernel_rfl) (Zhk2 0 (by decide))
  have E2_0 : x2_0 = .v (.int .i64 d0) := e2_0
  subst E2_0
  obtain ⟨d1, e2_1, z_d1, y_d1⟩ := open_i64 (by kernel_rfl) (Zhk2 1 (by decide))
  have E2_1 : x2_1 = .v (.int .i64 d1) := e2_1
  subst E2_1
  clear hA0 hval0
  have hle : LeA [.t (.a [.v (.int .i64 c0), .v (.int .i64 c1), .sl 4 n_l c_l]), .t (.c (.v (.int .i64 ct))), .t (.a [.v (.int .i64 d0), .v (.int .i64 d1)])] [.t (.a [.v (.int .i64 c0), .v (.int .i64 c1), .sl 4 ((listC n_l mkPng c_l).length) (pngsC (listC n_l mkPng c_l))]), .t (.c (.v (.int .i64 ct))), .t (.a [.v (.int .i64 d0), .v (.int .i64 d1)])] := (LeA_cons (leT_a (LeCs.cons (LeC1.refl _) (LeCs.cons (LeC1.refl _) (LeCs.cons ((leL_Png hp0)) LeCs.nil)))) (LeA_cons (LeD.refl _) (LeA_cons (LeD.refl _) LeA_nil)))
  refine (law_law01_ClockNarrower c0 c1 (listC n_l mkPng c_l) ct d0 d1 W (fun _ => True) _ (hle W _ [.agg Zcs0, .int .i64 ct, .agg Zcs2] ⟨⟨Zcs0.toList, by simp, Zhr0⟩, ⟨⟨rfl, rfl⟩, ⟨⟨Zcs2.toList, by simp, Zhr2⟩, trivial⟩⟩⟩)).mono fun e W' ⟨he, bel⟩ => ?_
  subst he
  exact ⟨_, rfl, _, _, _, [], _, [], hW', trodAll_mk1 (shut_bool Try.underlying4 _), (trodAll_cons_mk (Below.trod laidOut (by kernel_rfl) (of_decide_eq_true (by kernel_rfl)) Zk0 bel Zlt0) (trodAll_cons_mk (shut_int Try.underlying3 Zw1) (trodAll_cons_mk (Below.trod laidOut (by kernel_rfl) (of_decide_eq_true (by kernel_rfl)) Zk2 bel Zlt2) trodAll_mk0))), rfl, bel.frame _, fun h => by cases h⟩

theorem over : Rows.clockNarrowerRow.holds Try.pinned (OpenSpec.ofChange Rows.clockNarrowerSpec) :=
  OpenClaim.holds_of_wide 9 Try.f9 rfl rfl rfl rfl rfl rfl rfl ⟨rfl, rfl, rfl, rfl, rfl⟩ rfl rfl rfl rfl rfl (by kernel_rfl) Try.func9 (by kernel_rfl)
    (of_decide_eq_true (by kernel_rfl)) (by unfold Func.isWrapper; first | (rw [if_pos (by decide +kernel)]; kernel_rfl) | (rw [if_neg (by decide +kernel)]; exact ⟨rfl, rfl⟩))
    (fun os started H enc _ => lifted os started H enc)

/-- the statement. -/
theorem proved : Rows.ClockNarrowerSaid := over
end Go.Proofs.Ytkifmfmenobhnaa.clockNarrowerDone
namespace Go.Proofs.Ytkifmfmenobhnaa.clockTruthDone
open Go.ChangeShapes Go.WideShapes Go.ChangeAt Go.RowKit Ev
set_option linter.unusedVariables false

theorem own : ownKnob Try.prog.godebug = none := by kernel_rfl
theorem laidOut : laidOutB Try.prog = true := by kernel_rfl

set_option maxRecDepth 100000 in
theorem lifted (os : Os) (started : os.Started) (H : Type) (enc : TypeId × Value → H) :
    ReturnsInHanded {} Try.checked os 12 .any (Rows.clockTruthSpec.pre6 enc Try.prog Try.f12 Rows.clockTruthRow.domain false) (Rows.clockTruthSpec.post enc Try.prog Try.f12 false true false false) := by
  refine returnsInHanded_of_change (C := Try.checked) own started (by kernel_rfl) Try.func12
    (ChangeSpec.witness6 (enc := enc) (C := Try.checked) false ⟨#[], #[.agg #[.int .i64 0, .int .i64 0], .agg #[.int .i64 0, .int .i64 0, .int .i64 0, .int .i64 0, .slice none 0 0, .slice none 0 0], .int .i64 0], []⟩ 8 (by kernel_rfl) (by kernel_rfl) (by kernel_rfl) (by kernel_rfl)) ?_
  intro W base args ds gs before hval0 hW hcnd _
  have hval : ∀ (j : Nat) t v, Try.f12.params[j]? = some t → args[j]? = some v → Value.okWide Try.prog W .any base t v := hval0
  have hW' := hW
  obtain ⟨Zp, Zq, hA0, hV, rfl, hfz, hnd⟩ := hW
  have hA : DataW.TrodAll enc Try.prog W 0 (fun _ => true) true Try.f12.params.toList args.toList ds Zp := hA0
  rw [Try.params12] at hA hval
  obtain ⟨Zv0, Zvs0, Zd0, Zds0, Zp0, Zq0, hargs, rfl, rfl, Zh0, Zr0⟩ := trodAll_cons hA
  obtain ⟨Zv1, Zvs1, Zd1, Zds1, Zp1, Zq1, rfl, rfl, rfl, Zh1, Zr1⟩ := trodAll_cons Zr0
  obtain ⟨Zv2, Zvs2, Zd2, Zds2, Zp2, Zq2, rfl, rfl, rfl, Zh2, Zr2⟩ := trodAll_cons Zr1
  obtain ⟨rfl, rfl, rfl⟩ := trodAll_nil Zr2
  obtain rfl : args = #[Zv0, Zv1, Zv2] := by cases args; simp_all
  obtain ⟨rfl, rfl⟩ := trodVars_none hV
  have Zk0 := Zh0
  have Zlt0 : ∀ x ∈ Zp0, x.block < W.heap.size := by obtain ⟨m, hm⟩ := Zk0; exact DataW.trod_lt m _ _ _ hm
  obtain ⟨Zcs0, rfl, Zhs0⟩ := WideShapes.okWide_struct Try.underlying71 (hval 0 71 _ rfl rfl)
  obtain ⟨Zl0, hl0, Zhr0, Zhk0⟩ := open_agg (d := 4) (t := 71) (P := Try.prog) (by kernel_rfl) (Zhs0.trans (by kernel_rfl)) Zh0
  have Zhn0 : Try.prog.cellsOf 71 = 2 := by kernel_rfl
  rw [Zhn0] at hl0 Zhk0
  obtain ⟨x0_0, x0_1, rfl⟩ : ∃ x0_0 x0_1, Zl0 = [x0_0, x0_1] := by
    match Zl0, hl0 with
    | [x0_0, x0_1], _ => exact ⟨x0_0, x0_1, rfl⟩
  obtain ⟨c0, e0_0, z_c0, y_c0⟩ := open_i64 (by kernel_rfl) (Zhk0 0 (by decide))
  have E0_0 : x0_0 = .v (.int .i64 c0) := e0_0
  subst E0_0
  obtain ⟨c1, e0_1, z_c1, y_c1⟩ := open_i64 (by kernel_rfl) (Zhk0 1 (by decide))
  have E0_1 : x0_1 = .v (.int .i64 c1) := e0_1
  subst E0_1
  have Zk1 := Zh1
  have Zlt1 : ∀ x ∈ Zp1, x.block < W.heap.size := by obtain ⟨m, hm⟩ := Zk1; exact DataW.trod_lt m _ _ _ hm
  obtain ⟨Zcs1, rfl, Zhs1⟩ := WideShapes.okWide_struct Try.underlying109 (hval 1 109 _ rfl rfl)
  obtain ⟨Zl1, hl1, Zhr1, Zhk1⟩ := open_agg (d := 4) (t := 109) (P := Try.prog) (by kernel_rfl) (Zhs1.trans (by kernel_rfl)) Zh1
  have Zhn1 : Try.prog.cellsOf 109 = 6 := by kernel_rfl
  rw [Zhn1] at hl1 Zhk1
  obtain ⟨x1_0, x1_1, x1_2, x1_3, x1_4, x1_5, rfl⟩ : ∃ x1_0 x1_1 x1_2 x1_3 x1_4 x1_5, Zl1 = [x1_0, x1_1, x1_2, x1_3, x1_4, x1_5] := by
    match Zl1, hl1 with
    | [x1_0, x1_1, x1_2, x1_3, x1_4, x1_5], _ => exact ⟨x1_0, x1_1, x1_2, x1_3, x1_4, x1_5, rfl⟩
  obtain ⟨st, e1_0, z_st, y_st⟩ := open_i64 (by kernel_rfl) (Zhk1 0 (by decide))
  have E1_0 : x1_0 = .v (.int .i64 st) := e1_0
  subst E1_0
  obtain ⟨sw, e1_1, z_sw, y_sw⟩ := open_i64 (by kernel_rfl) (Zhk1 1 (by decide))
  have E1_1 : x1_1 = .v (.int .i64 sw) := e1_1
  subst E1_1
  obtain ⟨dn, e1_2, z_dn, y_dn⟩ := open_i64 (by kernel_rfl) (Zhk1 2 (by decide))
  have E1_2 : x1_2 = .v (.int .i64 dn) := e1_2
  subst E1_2
  obtain ⟨up, e1_3, z_up, y_up⟩ := open_i64 (by kernel_rfl) (Zhk1 3 (by decide))
  have E1_3 : x1_3 = .v (.int .i64 up) := e1_3
  subst E1_3
  obtain ⟨n_a, c_a, e1_4, m_a, f_a⟩ := open_sl (by kernel_rfl) (Zhk1 4 (by decide))
  have hz_a : Try.prog.cellsOf 3 = 1 := by kernel_rfl
  have E1_4 : x1_4 = .sl 1 n_a c_a := e1_4.trans (congrArg (fun z => CV.sl z n_a c_a) hz_a)
  subst E1_4
  obtain ⟨n_c, c_c, e1_5, m_c, f_c⟩ := open_sl (by kernel_rfl) (Zhk1 5 (by decide))
  have hz_c : Try.prog.cellsOf 3 = 1 := by kernel_rfl
  have E1_5 : x1_5 = .sl 1 n_c c_c := e1_5.trans (congrArg (fun z => CV.sl z n_c c_c) hz_c)
  subst E1_5
  have hp0 : numsP 1 n_a c_a := by
    have := nums_of (P := Try.prog) (by kernel_rfl) f_a
    rwa [hz_a] at this
  have hp1 : numsP 1 n_c c_c := by
    have := nums_of (P := Try.prog) (by kernel_rfl) f_c
    rwa [hz_c] at this
  obtain ⟨ct, rfl, rfl, rfl, Zw2⟩ := open_int Try.underlying3 (hval 2 3 Zv2 rfl rfl) Zh2
  obtain ⟨z_ct, y_ct⟩ := bounds_i64 Zw2
  clear hA0 hval0
  have hle : LeA [.t (.a [.v (.int .i64 c0), .v (.int .i64 c1)]), .t (.a [.v (.int .i64 st), .v (.int .i64 sw), .v (.int .i64 dn), .v (.int .i64 up), .sl 1 n_a c_a, .sl 1 n_c c_c]), .t (.c (.v (.int .i64 ct)))] [.t (.a [.v (.int .i64 c0), .v (.int .i64 c1)]), .t (.a [.v (.int .i64 st), .v (.int .i64 sw), .v (.int .i64 dn), .v (.int .i64 up), .sl 1 ((listC n_a mkInt c_a).length) (intsC (listC n_a mkInt c_a)), .sl 1 ((listC n_c mkInt c_c).length) (intsC (listC n_c mkInt c_c))]), .t (.c (.v (.int .i64 ct)))] := (LeA_cons (LeD.refl _) (LeA_cons (leT_a (LeCs.cons (LeC1.refl _) (LeCs.cons (LeC1.refl _) (LeCs.cons (LeC1.refl _) (LeCs.cons (LeC1.refl _) (LeCs.cons ((leL_int hp0)) (LeCs.cons ((leL_int hp1)) LeCs.nil))))))) (LeA_cons (LeD.refl _) LeA_nil)))
  refine (law_law01_ClockTruth c0 c1 st sw dn up (listC n_a mkInt c_a) (listC n_c mkInt c_c) ct W (fun _ => True) _ (hle W _ [.agg Zcs0, .agg Zcs1, .int .i64 ct] ⟨⟨Zcs0.toList, by simp, Zhr0⟩, ⟨⟨Zcs1.toList, by simp, Zhr1⟩, ⟨⟨rfl, rfl⟩, trivial⟩⟩⟩)).mono fun e W' ⟨he, bel⟩ => ?_
  subst he
  exact ⟨_, rfl, _, _, _, [], _, [], hW', trodAll_mk1 (shut_bool Try.underlying4 _), (trodAll_cons_mk (Below.trod laidOut (by kernel_rfl) (of_decide_eq_true (by kernel_rfl)) Zk0 bel Zlt0) (trodAll_cons_mk (Below.trod laidOut (by kernel_rfl) (of_decide_eq_true (by kernel_rfl)) Zk1 bel Zlt1) (trodAll_cons_mk (shut_int Try.underlying3 Zw2) trodAll_mk0))), rfl, bel.frame _, fun h => by cases h⟩

theorem over : Rows.clockTruthRow.holds Try.pinned (OpenSpec.ofChange Rows.clockTruthSpec) :=
  OpenClaim.holds_of_wide 12 Try.f12 rfl rfl rfl rfl rfl rfl rfl ⟨rfl, rfl, rfl, rfl, rfl⟩ rfl rfl rfl rfl rfl (by kernel_rfl) Try.func12 (by kernel_rfl)
    (of_decide_eq_true (by kernel_rfl)) (by unfold Func.isWrapper; first | (rw [if_pos (by decide +kernel)]; kernel_rfl) | (rw [if_neg (by decide +kernel)]; exact ⟨rfl, rfl⟩))
    (fun os started H enc _ => lifted os started H enc)

/-- the statement. -/
theorem proved : Rows.ClockTruthSaid := over
end Go.Proofs.Ytkifmfmenobhnaa.clockTruthDone
