/- Laws of chapter 1: ClockCounters, ClockPulses and ClockRolled return true for every input, and their arguments read afterwards as before. No condition. -/
import Derived.Test.YtkifmfmenobhnaaCQ11
import Derived.Test.YtkifmfmenobhnaaCQ12
namespace Go.Proofs.Ytkifmfmenobhnaa.clockCountersDone
open Go.ChangeShapes Go.WideShapes Go.ChangeAt Go.RowKit Ev
set_option linter.unusedVariables false

theorem own : ownKnob Try.prog.godebug = none := by kernel_rfl
theorem laidOut : laidOutB Try.prog = true := by kernel_rfl

set_option maxRecDepth 100000 in
theorem lifted (os : Os) (started : os.Started) (H : Type) (enc : TypeId × Value → H) :
    ReturnsInHanded {} Try.checked os 3 .any (Rows.clockCountersSpec.pre6 enc Try.prog Try.f3 Rows.clockCountersRow.domain false) (Rows.clockCountersSpec.post enc Try.prog Try.f3 false true false false) := by
  refine returnsInHanded_of_change (C := Try.checked) own started (by kernel_rfl) Try.func3
    (ChangeSpec.witness6 (enc := enc) (C := Try.checked) false ⟨#[], #[.agg #[.slice none 0 0, .int .i64 0], .slice none 0 0, .int .i64 0], []⟩ 8 (by kernel_rfl) (by kernel_rfl) (by kernel_rfl) (by kernel_rfl)) ?_
  intro W base args ds gs before hval0 hW hcnd _
  have hval : ∀ (j : Nat) t v, Try.f3.params[j]? = some t → args[j]? = some v → Value.okWide Try.prog W .any base t v := hval0
  have hW' := hW
  obtain ⟨Zp, Zq, hA0, hV, rfl, hfz, hnd⟩ := hW
  have hA : DataW.TrodAll enc Try.prog W 0 (fun _ => true) true Try.f3.params.toList args.toList ds Zp := hA0
  rw [Try.params3] at hA hval
  obtain ⟨Zv0, Zvs0, Zd0, Zds0, Zp0, Zq0, hargs, rfl, rfl, Zh0, Zr0⟩ := trodAll_cons hA
  obtain ⟨Zv1, Zvs1, Zd1, Zds1, Zp1, Zq1, rfl, rfl, rfl, Zh1, Zr1⟩ := trodAll_cons Zr0
  obtain ⟨Zv2, Zvs2, Zd2, Zds2, Zp2, Zq2, rfl, rfl, rfl, Zh2, Zr2⟩ := trodAll_cons Zr1
  obtain ⟨rfl, rfl, rfl⟩ := trodAll_nil Zr2
  obtain rfl : args = #[Zv0, Zv1, Zv2] := by cases args; simp_all
  obtain ⟨rfl, rfl⟩ := trodVars_none hV
  have Zk0 := Zh0
  have Zlt0 : ∀ x ∈ Zp0, x.block < W.heap.size := by obtain ⟨m, hm⟩ := Zk0; exact DataW.trod_lt m _ _ _ hm
  obtain ⟨Zcs0, rfl, Zhs0⟩ := WideShapes.okWide_struct Try.underlying24 (hval 0 24 _ rfl rfl)
  obtain ⟨Zl0, hl0, Zhr0, Zhk0⟩ := open_agg (d := 4) (t := 24) (P := Try.prog) (by kernel_rfl) (Zhs0.trans (by kernel_rfl)) Zh0
  have Zhn0 : Try.prog.cellsOf 24 = 2 := by kernel_rfl
  rw [Zhn0] at hl0 Zhk0
  obtain ⟨x0_0, x0_1, rfl⟩ : ∃ x0_0 x0_1, Zl0 = [x0_0, x0_1] := by
    match Zl0, hl0 with
    | [x0_0, x0_1], _ => exact ⟨x0_0, x0_1, rfl⟩
  obtain ⟨n_l, c_l, e0_0, m_l, f_l⟩ := open_sl (by kernel_rfl) (Zhk0 0 (by decide))
  have hz_l : Try.prog.cellsOf 3 = 1 := by kernel_rfl
  have E0_0 : x0_0 = .sl 1 n_l c_l := e0_0.trans (congrArg (fun z => CV.sl z n_l c_l) hz_l)
  subst E0_0
  obtain ⟨per, e0_1, z_per, y_per⟩ := open_i64 (by kernel_rfl) (Zhk0 1 (by decide))
  have E0_1 : x0_1 = .v (.int .i64 per) := e0_1
  subst E0_1
  have hp0 : numsP 1 n_l c_l := by
    have := nums_of (P := Try.prog) (by kernel_rfl) f_l
    rwa [hz_l] at this
  have Zk1 := Zh1
  have Zlt1 : ∀ x ∈ Zp1, x.block < W.heap.size := by obtain ⟨m, hm⟩ := Zk1; exact DataW.trod_lt m _ _ _ hm
  obtain ⟨fuel1, hf1⟩ := Zh1
  obtain ⟨ao1, len1, cap1, rfl⟩ := okWide_slice Try.underlying25 (hval 1 25 Zv1 rfl rfl)
  obtain ⟨κ1, x1, Zu1, Zhk1, e1, Zhr1, ho1⟩ := open_cell (P := Try.prog) 4 25 _ _ _ (by kernel_rfl) hf1 0 (Nat.le_of_ble_eq_true (by kernel_rfl))
  obtain rfl : _ = Zu1 := by simpa [Value.cells] using e1
  have hz_q : Try.prog.cellsOf 130 = 2 := by kernel_rfl
  obtain ⟨n_q, c_q, Ze1, m_q, f_q⟩ := open_sl (by kernel_rfl) ⟨κ1, Zhk1, ho1⟩
  rw [hz_q] at Ze1
  subst Ze1
  have hp1 : numsP 2 n_q c_q := by
    have := nums_of (P := Try.prog) (by kernel_rfl) f_q
    rwa [hz_q] at this
  obtain ⟨lb, rfl, rfl, rfl, Zw2⟩ := open_int Try.underlying3 (hval 2 3 Zv2 rfl rfl) Zh2
  obtain ⟨z_lb, y_lb⟩ := bounds_i64 Zw2
  clear hA0 hval0
  have hle : LeA [.t (.a [.sl 1 n_l c_l, .v (.int .i64 per)]), .t (.c (.sl 2 n_q c_q)), .t (.c (.v (.int .i64 lb)))] [.t (.a [.sl 1 ((listC n_l mkInt c_l).length) (intsC (listC n_l mkInt c_l)), .v (.int .i64 per)]), .t (.c (.sl 2 ((listC n_q mkLpp c_q).length) (lppsC (listC n_q mkLpp c_q)))), .t (.c (.v (.int .i64 lb)))] := (LeA_cons (leT_a (LeCs.cons ((leL_int hp0)) (LeCs.cons (LeC1.refl _) LeCs.nil))) (LeA_cons (leT_c ((leL_Lp hp1))) (LeA_cons (LeD.refl _) LeA_nil)))
  refine (law_law01_ClockCounters (listC n_l mkInt c_l) per (listC n_q mkLpp c_q) lb W (fun _ => True) _ (hle W _ [.agg Zcs0, _, .int .i64 lb] ⟨⟨Zcs0.toList, by simp, Zhr0⟩, ⟨Zhr1, ⟨⟨rfl, rfl⟩, trivial⟩⟩⟩)).mono fun e W' ⟨he, bel⟩ => ?_
  subst he
  exact ⟨_, rfl, _, _, _, [], _, [], hW', trodAll_mk1 (shut_bool Try.underlying4 _), (trodAll_cons_mk (Below.trod laidOut (by kernel_rfl) (of_decide_eq_true (by kernel_rfl)) Zk0 bel Zlt0) (trodAll_cons_mk (Below.trod laidOut (by kernel_rfl) (of_decide_eq_true (by kernel_rfl)) Zk1 bel Zlt1) (trodAll_cons_mk (shut_int Try.underlying3 Zw2) trodAll_mk0))), rfl, bel.frame _, fun h => by cases h⟩

theorem over : Rows.clockCountersRow.holds Try.pinned (OpenSpec.ofChange Rows.clockCountersSpec) :=
  OpenClaim.holds_of_wide 3 Try.f3 rfl rfl rfl rfl rfl rfl rfl ⟨rfl, rfl, rfl, rfl, rfl⟩ rfl rfl rfl rfl rfl (by kernel_rfl) Try.func3 (by kernel_rfl)
    (of_decide_eq_true (by kernel_rfl)) (by unfold Func.isWrapper; first | (rw [if_pos (by decide +kernel)]; kernel_rfl) | (rw [if_neg (by decide +kernel)]; exact ⟨rfl, rfl⟩))
    (fun os started H enc _ => lifted os started H enc)

/-- the statement. -/
theorem proved : Rows.ClockCountersSaid := over
end Go.Proofs.Ytkifmfmenobhnaa.clockCountersDone
namespace Go.Proofs.Ytkifmfmenobhnaa.clockPulsesDone
open Go.ChangeShapes Go.WideShapes Go.ChangeAt Go.RowKit Ev
set_option linter.unusedVariables false

theorem own : ownKnob Try.prog.godebug = none := by kernel_rfl
theorem laidOut : laidOutB Try.prog = true := by kernel_rfl

set_option maxRecDepth 100000 in
theorem lifted (os : Os) (started : os.Started) (H : Type) (enc : TypeId × Value → H) :
    ReturnsInHanded {} Try.checked os 5 .any (Rows.clockPulsesSpec.pre6 enc Try.prog Try.f5 Rows.clockPulsesRow.domain false) (Rows.clockPulsesSpec.post enc Try.prog Try.f5 false true false false) := by
  refine returnsInHanded_of_change (C := Try.checked) own started (by kernel_rfl) Try.func5
    (ChangeSpec.witness6 (enc := enc) (C := Try.checked) false ⟨#[], #[.slice none 0 0, .slice none 0 0, .slice none 0 0], []⟩ 8 (by kernel_rfl) (by kernel_rfl) (by kernel_rfl) (by kernel_rfl)) ?_
  intro W base args ds gs before hval0 hW hcnd _
  have hval : ∀ (j : Nat) t v, Try.f5.params[j]? = some t → args[j]? = some v → Value.okWide Try.prog W .any base t v := hval0
  have hW' := hW
  obtain ⟨Zp, Zq, hA0, hV, rfl, hfz, hnd⟩ := hW
  have hA : DataW.TrodAll enc Try.prog W 0 (fun _ => true) true Try.f5.params.toList args.toList ds Zp := hA0
  rw [Try.params5] at hA hval
  obtain ⟨Zv0, Zvs0, Zd0, Zds0, Zp0, Zq0, hargs, rfl, rfl, Zh0, Zr0⟩ := trodAll_cons hA
  obtain ⟨Zv1, Zvs1, Zd1, Zds1, Zp1, Zq1, rfl, rfl, rfl, Zh1, Zr1⟩ := trodAll_cons Zr0
  obtain ⟨Zv2, Zvs2, Zd2, Zds2, Zp2, Zq2, rfl, rfl, rfl, Zh2, Zr2⟩ := trodAll_cons Zr1
  obtain ⟨rfl, rfl, rfl⟩ := trodAll_nil Zr2
  obtain rfl : args = #[Zv0, Zv1, Zv2] := by cases args; simp_all
  obtain ⟨rfl, rfl⟩ := trodVars_none hV
  have Zk0 := Zh0
  have Zlt0 : ∀ x ∈ Zp0, x.block < W.heap.size := by obtain ⟨m, hm⟩ := Zk0; exact DataW.trod_lt m _ _ _ hm
  obtain ⟨fuel0, hf0⟩ := Zh0
  obtain ⟨ao0, len0, cap0, rfl⟩ := okWide_slice Try.underlying22 (hval 0 22 Zv0 rfl rfl)
  obtain ⟨κ0, x0, Zu0, Zhk0, e0, Zhr0, ho0⟩ := open_cell (P := Try.prog) 4 22 _ _ _ (by kernel_rfl) hf0 0 (Nat.le_of_ble_eq_true (by kernel_rfl))
  obtain rfl : _ = Zu0 := by simpa [Value.cells] using e0
  have hz_a : Try.prog.cellsOf 3 = 1 := by kernel_rfl
  obtain ⟨n_a, c_a, Ze0, m_a, f_a⟩ := open_sl (by kernel_rfl) ⟨κ0, Zhk0, ho0⟩
  rw [hz_a] at Ze0
  subst Ze0
  have hp0 : numsP 1 n_a c_a := by
    have := nums_of (P := Try.prog) (by kernel_rfl) f_a
    rwa [hz_a] at this
  have Zk1 := Zh1
  have Zlt1 : ∀ x ∈ Zp1, x.block < W.heap.size := by obtain ⟨m, hm⟩ := Zk1; exact DataW.trod_lt m _ _ _ hm
  obtain ⟨fuel1, hf1⟩ := Zh1
  obtain ⟨ao1, len1, cap1, rfl⟩ := okWide_slice Try.underlying22 (hval 1 22 Zv1 rfl rfl)
  obtain ⟨κ1, x1, Zu1, Zhk1, e1, Zhr1, ho1⟩ := open_cell (P := Try.prog) 4 22 _ _ _ (by kernel_rfl) hf1 0 (Nat.le_of_ble_eq_true (by kernel_rfl))
  obtain rfl : _ = Zu1 := by simpa [Value.cells] using e1
  have hz_c : Try.prog.cellsOf 3 = 1 := by kernel_rfl
  obtain ⟨n_c, c_c, Ze1, m_c, f_c⟩ := open_sl (by kernel_rfl) ⟨κ1, Zhk1, ho1⟩
  rw [hz_c] at Ze1
  subst Ze1
  have hp1 : numsP 1 n_c c_c := by
    have := nums_of (P := Try.prog) (by kernel_rfl) f_c
    rwa [hz_c] at this
  have Zk2 := Zh2
  have Zlt2 : ∀ x ∈ Zp2, x.block < W.heap.size := by obtain ⟨m, hm⟩ := Zk2; exact DataW.trod_lt m _ _ _ hm
  obtain ⟨fuel2, hf2⟩ := Zh2
  obtain ⟨ao2, len2, cap2, rfl⟩ := okWide_slice Try.underlying22 (hval 2 22 Zv2 rfl rfl)
  obtain ⟨κ2, x2, Zu2, Zhk2, e2, Zhr2, ho2⟩ := open_cell (P := Try.prog) 4 22 _ _ _ (by kernel_rfl) hf2 0 (Nat.le_of_ble_eq_true (by kernel_rfl))
  obtain rfl : _ = Zu2 := by simpa [Value.cells] using e2
  have hz_d : Try.prog.cellsOf 3 = 1 := by kernel_rfl
  obtain ⟨n_d, c_d, Ze2, m_d, f_d⟩ := open_sl (by kernel_rfl) ⟨κ2, Zhk2, ho2⟩
  rw [hz_d] at Ze2
  subst Ze2
  have hp2 : numsP 1 n_d c_d := by
    have := nums_of (P := Try.prog) (by kernel_rfl) f_d
    rwa [hz_d] at this
  clear hA0 hval0
  have hle : LeA [.t (.c (.sl 1 n_a c_a)), .t (.c (.sl 1 n_c c_c)), .t (.c (.sl 1 n_d c_d))] [.t (.c (.sl 1 ((listC n_a mkInt c_a).length) (intsC (listC n_a mkInt c_a)))), .t (.c (.sl 1 ((listC n_c mkInt c_c).length) (intsC (listC n_c mkInt c_c)))), .t (.c (.sl 1 ((listC n_d mkInt c_d).length) (intsC (listC n_d mkInt c_d))))] := (LeA_cons (leT_c ((leL_int hp0))) (LeA_cons (leT_c ((leL_int hp1))) (LeA_cons (leT_c ((leL_int hp2))) LeA_nil)))
  refine (law_law01_ClockPulses (listC n_a mkInt c_a) (listC n_c mkInt c_c) (listC n_d mkInt c_d) W (fun _ => True) _ (hle W _ [_, _, _] ⟨Zhr0, ⟨Zhr1, ⟨Zhr2, trivial⟩⟩⟩)).mono fun e W' ⟨he, bel⟩ => ?_
  subst he
  exact ⟨_, rfl, _, _, _, [], _, [], hW', trodAll_mk1 (shut_bool Try.underlying4 _), (trodAll_cons_mk (Below.trod laidOut (by kernel_rfl) (of_decide_eq_true (by kernel_rfl)) Zk0 bel Zlt0) (trodAll_cons_mk (Below.trod laidOut (by kernel_rfl) (of_decide_eq_true (by kernel_rfl)) Zk1 bel Zlt1) (trodAll_cons_mk (Below.trod laidOut (by kernel_rfl) (of_decide_eq_true (by kernel_rfl)) Zk2 bel Zlt2) trodAll_mk0))), rfl, bel.frame _, fun h => by cases h⟩

theorem over : Rows.clockPulsesRow.holds Try.pinned (OpenSpec.ofChange Rows.clockPulsesSpec) :=
  OpenClaim.holds_of_wide 5 Try.f5 rfl rfl rfl rfl rfl rfl rfl ⟨rfl, rfl, rfl, rfl, rfl⟩ rfl rfl rfl rfl rfl (by kernel_rfl) Try.func5 (by kernel_rfl)
    (of_decide_eq_true (by kernel_rfl)) (by unfold Func.isWrapper; first | (rw [if_pos (by decide +kernel)]; kernel_rfl) | (rw [if_neg (by decide +kernel)]; exact ⟨rfl, rfl⟩))
    (fun os started H enc _ => lifted os started H enc)

/-- the statement. -/
theorem proved : Rows.ClockPulsesSaid := over
end Go.Proofs.Ytkifmfmenobhnaa.clockPulsesDone
namespace Go.Proofs.Ytkifmfmenobhnaa.clockRolledDone
open Go.ChangeShapes Go.WideShapes Go.ChangeAt Go.RowKit Ev
set_option linter.unusedVariables false

theorem own : ownKnob Try.prog.godebug = none := by kernel_rfl
theorem laidOut : laidOutB Try.prog = true := by kernel_rfl

set_option maxRecDepth 100000 in
theorem lifted (os : Os) (started : os.Started) (H : Type) (enc : TypeId × Value → H) :
    ReturnsInHanded {} Try.checked os 4 .any (Rows.clockRolledSpec.pre6 enc Try.prog Try.f4 Rows.clockRolledRow.domain false) (Rows.clockRolledSpec.post enc Try.prog Try.f4 false true false false) := by
  refine returnsInHanded_of_change (C := Try.checked) own started (by kernel_rfl) Try.func4
    (ChangeSpec.witness6 (enc := enc) (C := Try.checked) false ⟨#[], #[.agg #[.slice none 0 0, .int .i64 0], .slice none 0 0, .int .i64 0], []⟩ 8 (by kernel_rfl) (by kernel_rfl) (by kernel_rfl) (by kernel_rfl)) ?_
  intro W base args ds gs before hval0 hW hcnd _
  have hval : ∀ (j : Nat) t v, Try.f4.params[j]? = some t → args[j]? = some v → Value.okWide Try.prog W .any base t v := hval0
  have hW' := hW
  obtain ⟨Zp, Zq, hA0, hV, rfl, hfz, hnd⟩ := hW
  have hA : DataW.TrodAll enc Try.prog W 0 (fun _ => true) true Try.f4.params.toList args.toList ds Zp := hA0
  rw [Try.params4] at hA hval
  obtain ⟨Zv0, Zvs0, Zd0, Zds0, Zp0, Zq0, hargs, rfl, rfl, Zh0, Zr0⟩ := trodAll_cons hA
  obtain ⟨Zv1, Zvs1, Zd1, Zds1, Zp1, Zq1, rfl, rfl, rfl, Zh1, Zr1⟩ := trodAll_cons Zr0
  obtain ⟨Zv2, Zvs2, Zd2, Zds2, Zp2, Zq2, rfl, rfl, rfl, Zh2, Zr2⟩ := trodAll_cons Zr1
  obtain ⟨rfl, rfl, rfl⟩ := trodAll_nil Zr2
  obtain rfl : args = #[Zv0, Zv1, Zv2] := by cases args; simp_all
  obtain ⟨rfl, rfl⟩ := trodVars_none hV
  have Zk0 := Zh0
  have Zlt0 : ∀ x ∈ Zp0, x.block < W.heap.size := by obtain ⟨m, hm⟩ := Zk0; exact DataW.trod_lt m _ _ _ hm
  obtain ⟨Zcs0, rfl, Zhs0⟩ := WideShapes.okWide_struct Try.underlying24 (hval 0 24 _ rfl rfl)
  obtain ⟨Zl0, hl0, Zhr0, Zhk0⟩ := open_agg (d := 4) (t := 24) (P := Try.prog) (by kernel_rfl) (Zhs0.trans (by kernel_rfl)) Zh0
  have Zhn0 : Try.prog.cellsOf 24 = 2 := by kernel_rfl
  rw [Zhn0] at hl0 Zhk0
  obtain ⟨x0_0, x0_1, rfl⟩ : ∃ x0_0 x0_1, Zl0 = [x0_0, x0_1] := by
    match Zl0, hl0 with
    | [x0_0, x0_1], _ => exact ⟨x0_0, x0_1, rfl⟩
  obtain ⟨n_l, c_l, e0_0, m_l, f_l⟩ := open_sl (by kernel_rfl) (Zhk0 0 (by decide))
  have hz_l : Try.prog.cellsOf 3 = 1 := by kernel_rfl
  have E0_0 : x0_0 = .sl 1 n_l c_l := e0_0.trans (congrArg (fun z => CV.sl z n_l c_l) hz_l)
  subst E0_0
  obtain ⟨per, e0_1, z_per, y_per⟩ := open_i64 (by kernel_rfl) (Zhk0 1 (by decide))
  have E0_1 : x0_1 = .v (.int .i64 per) := e0_1
  subst E0_1
  have hp0 : numsP 1 n_l c_l := by
    have := nums_of (P := Try.prog) (by kernel_rfl) f_l
    rwa [hz_l] at this
  have Zk1 := Zh1
  have Zlt1 : ∀ x ∈ Zp1, x.block < W.heap.size := by obtain ⟨m, hm⟩ := Zk1; exact DataW.trod_lt m _ _ _ hm
  obtain ⟨fuel1, hf1⟩ := Zh1
  obtain ⟨ao1, len1, cap1, rfl⟩ := okWide_slice Try.underlying25 (hval 1 25 Zv1 rfl rfl)
  obtain ⟨κ1, x1, Zu1, Zhk1, e1, Zhr1, ho1⟩ := open_cell (P := Try.prog) 4 25 _ _ _ (by kernel_rfl) hf1 0 (Nat.le_of_ble_eq_true (by kernel_rfl))
  obtain rfl : _ = Zu1 := by simpa [Value.cells] using e1
  have hz_q : Try.prog.cellsOf 130 = 2 := by kernel_rfl
  obtain ⟨n_q, c_q, Ze1, m_q, f_q⟩ := open_sl (by kernel_rfl) ⟨κ1, Zhk1, ho1⟩
  rw [hz_q] at Ze1
  subst Ze1
  have hp1 : numsP 2 n_q c_q := by
    have := nums_of (P := Try.prog) (by kernel_rfl) f_q
    rwa [hz_q] at this
  obtain ⟨tk, rfl, rfl, rfl, Zw2⟩ := open_int Try.underlying3 (hval 2 3 Zv2 rfl rfl) Zh2
  obtain ⟨z_tk, y_tk⟩ := bounds_i64 Zw2
  clear hA0 hval0
  have hle : LeA [.t (.a [.sl 1 n_l c_l, .v (.int .i64 per)]), .t (.c (.sl 2 n_q c_q)), .t (.c (.v (.int .i64 tk)))] [.t (.a [.sl 1 ((listC n_l mkInt c_l).length) (intsC (listC n_l mkInt c_l)), .v (.int .i64 per)]), .t (.c (.sl 2 ((listC n_q mkLpp c_q).length) (lppsC (listC n_q mkLpp c_q)))), .t (.c (.v (.int .i64 tk)))] := (LeA_cons (leT_a (LeCs.cons ((leL_int hp0)) (LeCs.cons (LeC1.refl _) LeCs.nil))) (LeA_cons (leT_c ((leL_Lp hp1))) (LeA_cons (LeD.refl _) LeA_nil)))
  refine (law_law01_ClockRolled (listC n_l mkInt c_l) per (listC n_q mkLpp c_q) tk W (fun _ => True) _ (hle W _ [.agg Zcs0, _, .int .i64 tk] ⟨⟨Zcs0.toList, by simp, Zhr0⟩, ⟨Zhr1, ⟨⟨rfl, rfl⟩, trivial⟩⟩⟩)).mono fun e W' ⟨he, bel⟩ => ?_
  subst he
  exact ⟨_, rfl, _, _, _, [], _, [], hW', trodAll_mk1 (shut_bool Try.underlying4 _), (trodAll_cons_mk (Below.trod laidOut (by kernel_rfl) (of_decide_eq_true (by kernel_rfl)) Zk0 bel Zlt0) (trodAll_cons_mk (Below.trod laidOut (by kernel_rfl) (of_decide_eq_true (by kernel_rfl)) Zk1 bel Zlt1) (trodAll_cons_mk (shut_int Try.underlying3 Zw2) trodAll_mk0))), rfl, bel.frame _, fun h => by cases h⟩

theorem over : Rows.clockRolledRow.holds Try.pinned (OpenSpec.ofChange Rows.clockRolledSpec) :=
  OpenClaim.holds_of_wide 4 Try.f4 rfl rfl rfl rfl rfl rfl rfl ⟨rfl, rfl, rfl, rfl, rfl⟩ rfl rfl rfl rfl rfl (by kernel_rfl) Try.func4 (by kernel_rfl)
    (of_decide_eq_true (by kernel_rfl)) (by unfold Func.isWrapper; first | (rw [if_pos (by decide +kernel)]; kernel_rfl) | (rw [if_neg (by decide +kernel)]; exact ⟨rfl, rfl⟩))
    (fun os started H enc _ => lifted os started H enc)

/-- the statement. -/
theorem proved : Rows.ClockRolledSaid := over
end Go.Proofs.Ytkifmfmenobhnaa.clockRolledDone
