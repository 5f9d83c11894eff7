/- The law ClockNamed of chapter 1 returns true for every input, and its arguments read afterwards as before. No condition. -/
import Derived.Test.YtkifmfmenobhnaaCM12
namespace Go.Proofs.Ytkifmfmenobhnaa.clockNamedDone
open Go.ChangeShapes Go.WideShapes Go.ChangeAt Go.RowKit Ev
set_option linter.unusedVariables false

theorem own : ownKnob Try.prog.godebug = none := by kernel_rfl
theorem laidOut : laidOutB Try.prog = true := by kernel_rfl

set_option maxRecDepth 100000 in
theorem lifted (os : Os) (started : os.Started) (H : Type) (enc : TypeId × Value → H) :
    ReturnsInHanded {} Try.checked os 14 .any (Rows.clockNamedSpec.pre6 enc Try.prog Try.f14 Rows.clockNamedRow.domain false) (Rows.clockNamedSpec.post enc Try.prog Try.f14 false true false false) := by
  refine returnsInHanded_of_change (C := Try.checked) own started (by kernel_rfl) Try.func14
    (ChangeSpec.witness6 (enc := enc) (C := Try.checked) false ⟨#[], #[.agg #[.slice none 0 0, .slice none 0 0], .slice none 0 0, .agg #[.int .i64 0, .slice none 0 0]], []⟩ 8 (by kernel_rfl) (by kernel_rfl) (by kernel_rfl) (by kernel_rfl)) ?_
  intro W base args ds gs before hval0 hW hcnd _
  have hval : ∀ (j : Nat) t v, Try.f14.params[j]? = some t → args[j]? = some v → Value.okWide Try.prog W .any base t v := hval0
  have hW' := hW
  obtain ⟨Zp, Zq, hA0, hV, rfl, hfz, hnd⟩ := hW
  have hA : DataW.TrodAll enc Try.prog W 0 (fun _ => true) true Try.f14.params.toList args.toList ds Zp := hA0
  rw [Try.params14] at hA hval
  obtain ⟨Zv0, Zvs0, Zd0, Zds0, Zp0, Zq0, hargs, rfl, rfl, Zh0, Zr0⟩ := trodAll_cons hA
  obtain ⟨Zv1, Zvs1, Zd1, Zds1, Zp1, Zq1, rfl, rfl, rfl, Zh1, Zr1⟩ := trodAll_cons Zr0
  obtain ⟨Zv2, Zvs2, Zd2, Zds2, Zp2, Zq2, rfl, rfl, rfl, Zh2, Zr2⟩ := trodAll_cons Zr1
  obtain ⟨rfl, rfl, rfl⟩ := trodAll_nil Zr2
  obtain rfl : args = #[Zv0, Zv1, Zv2] := by cases args; simp_all
  obtain ⟨rfl, rfl⟩ := trodVars_none hV
  have Zk0 := Zh0
  have Zlt0 : ∀ x ∈ Zp0, x.block < W.heap.size := by obtain ⟨m, hm⟩ := Zk0; exact DataW.trod_lt m _ _ _ hm
  obtain ⟨Zcs0, rfl, Zhs0⟩ := WideShapes.okWide_struct Try.underlying55 (hval 0 55 _ rfl rfl)
  obtain ⟨Zl0, hl0, Zhr0, Zhk0⟩ := open_agg (d := 4) (t := 55) (P := Try.prog) (by kernel_rfl) (Zhs0.trans (by kernel_rfl)) Zh0
  have Zhn0 : Try.prog.cellsOf 55 = 2 := by kernel_rfl
  rw [Zhn0] at hl0 Zhk0
  obtain ⟨x0_0, x0_1, rfl⟩ : ∃ x0_0 x0_1, Zl0 = [x0_0, x0_1] := by
    match Zl0, hl0 with
    | [x0_0, x0_1], _ => exact ⟨x0_0, x0_1, rfl⟩
  obtain ⟨n_cs, c_cs, e0_0, m_cs, f_cs⟩ := open_sl (by kernel_rfl) (Zhk0 0 (by decide))
  have hz_cs : Try.prog.cellsOf 9 = 1 := by kernel_rfl
  have E0_0 : x0_0 = .sl 1 n_cs c_cs := e0_0.trans (congrArg (fun z => CV.sl z n_cs c_cs) hz_cs)
  subst E0_0
  obtain ⟨n_ls, c_ls, e0_1, m_ls, f_ls⟩ := open_sl (by kernel_rfl) (Zhk0 1 (by decide))
  have hz_ls : Try.prog.cellsOf 125 = 4 := by kernel_rfl
  have E0_1 : x0_1 = .sl 4 n_ls c_ls := e0_1.trans (congrArg (fun z => CV.sl z n_ls c_ls) hz_ls)
  subst E0_1
  have hp0 : txP n_cs c_cs := txP_of (P := Try.prog) (by kernel_rfl) hz_cs f_cs
  have hp1 : numsP 4 n_ls c_ls := by
    have := nums_of (P := Try.prog) (by kernel_rfl) f_ls
    rwa [hz_ls] at this
  have Zk1 := Zh1
  have Zlt1 : ∀ x ∈ Zp1, x.block < W.heap.size := by obtain ⟨m, hm⟩ := Zk1; exact DataW.trod_lt m _ _ _ hm
  obtain ⟨fuel1, hf1⟩ := Zh1
  obtain ⟨ao1, len1, cap1, rfl⟩ := okWide_slice Try.underlying22 (hval 1 22 Zv1 rfl rfl)
  obtain ⟨κ1, x1, Zu1, Zhk1, e1, Zhr1, ho1⟩ := open_cell (P := Try.prog) 4 22 _ _ _ (by kernel_rfl) hf1 0 (Nat.le_of_ble_eq_true (by kernel_rfl))
  obtain rfl : _ = Zu1 := by simpa [Value.cells] using e1
  have hz_o : Try.prog.cellsOf 3 = 1 := by kernel_rfl
  obtain ⟨n_o, c_o, Ze1, m_o, f_o⟩ := open_sl (by kernel_rfl) ⟨κ1, Zhk1, ho1⟩
  rw [hz_o] at Ze1
  subst Ze1
  have hp2 : numsP 1 n_o c_o := by
    have := nums_of (P := Try.prog) (by kernel_rfl) f_o
    rwa [hz_o] at this
  have Zk2 := Zh2
  have Zlt2 : ∀ x ∈ Zp2, x.block < W.heap.size := by obtain ⟨m, hm⟩ := Zk2; exact DataW.trod_lt m _ _ _ hm
  obtain ⟨Zcs2, rfl, Zhs2⟩ := WideShapes.okWide_struct Try.underlying123 (hval 2 123 _ rfl rfl)
  obtain ⟨Zl2, hl2, Zhr2, Zhk2⟩ := open_agg (d := 4) (t := 123) (P := Try.prog) (by kernel_rfl) (Zhs2.trans (by kernel_rfl)) Zh2
  have Zhn2 : Try.prog.cellsOf 123 = 2 := by kernel_rfl
  rw [Zhn2] at hl2 Zhk2
  obtain ⟨x2_0, x2_1, rfl⟩ : ∃ x2_0 x2_1, Zl2 = [x2_0, x2_1] := by
    match Zl2, hl2 with
    | [x2_0, x2_1], _ => exact ⟨x2_0, x2_1, rfl⟩
  obtain ⟨wh, e2_0, z_wh, y_wh⟩ := open_i64 (by kernel_rfl) (Zhk2 0 (by decide))
  have E2_0 : x2_0 = .v (.int .i64 wh) := e2_0
  subst E2_0
  obtain ⟨n_off, c_off, e2_1, m_off, f_off⟩ := open_sl (by kernel_rfl) (Zhk2 1 (by decide))
  have hz_off : Try.prog.cellsOf 3 = 1 := by kernel_rfl
  have E2_1 : x2_1 = .sl 1 n_off c_off := e2_1.trans (congrArg (fun z => CV.sl z n_off c_off) hz_off)
  subst E2_1
  have hp3 : numsP 1 n_off c_off := by
    have := nums_of (P := Try.prog) (by kernel_rfl) f_off
    rwa [hz_off] at this
  clear hA0 hval0
  have hle : LeA [.t (.a [.sl 1 n_cs c_cs, .sl 4 n_ls c_ls]), .t (.c (.sl 1 n_o c_o)), .t (.a [.v (.int .i64 wh), .sl 1 n_off c_off])] [.t (.a [.sl 1 ((txOf n_cs c_cs).length) (txsC (txOf n_cs c_cs)), .sl 4 ((listC n_ls mkLnk c_ls).length) (lnksC (listC n_ls mkLnk c_ls))]), .t (.c (.sl 1 ((listC n_o mkInt c_o).length) (intsC (listC n_o mkInt c_o)))), .t (.a [.v (.int .i64 wh), .sl 1 ((listC n_off mkInt c_off).length) (intsC (listC n_off mkInt c_off))])] := (LeA_cons (leT_a (LeCs.cons ((leL_str hp0)) (LeCs.cons ((leL_Lnk hp1)) LeCs.nil))) (LeA_cons (leT_c ((leL_int hp2))) (LeA_cons (leT_a (LeCs.cons (LeC1.refl _) (LeCs.cons ((leL_int hp3)) LeCs.nil))) LeA_nil)))
  refine (law_law01_ClockNamed (txOf n_cs c_cs) (listC n_ls mkLnk c_ls) (listC n_o mkInt c_o) wh (listC n_off mkInt c_off) W (fun _ => True) _ (hle W _ [.agg Zcs0, _, .agg Zcs2] ⟨⟨Zcs0.toList, by simp, Zhr0⟩, ⟨Zhr1, ⟨⟨Zcs2.toList, by simp, Zhr2⟩, trivial⟩⟩⟩)).mono fun e W' ⟨he, bel⟩ => ?_
  subst he
  exact ⟨_, rfl, _, _, _, [], _, [], hW', trodAll_mk1 (shut_bool Try.underlying4 _), (trodAll_cons_mk (Below.trod laidOut (by kernel_rfl) (of_decide_eq_true (by kernel_rfl)) Zk0 bel Zlt0) (trodAll_cons_mk (Below.trod laidOut (by kernel_rfl) (of_decide_eq_true (by kernel_rfl)) Zk1 bel Zlt1) (trodAll_cons_mk (Below.trod laidOut (by kernel_rfl) (of_decide_eq_true (by kernel_rfl)) Zk2 bel Zlt2) trodAll_mk0))), rfl, bel.frame _, fun h => by cases h⟩

theorem over : Rows.clockNamedRow.holds Try.pinned (OpenSpec.ofChange Rows.clockNamedSpec) :=
  OpenClaim.holds_of_wide 14 Try.f14 rfl rfl rfl rfl rfl rfl rfl ⟨rfl, rfl, rfl, rfl, rfl⟩ rfl rfl rfl rfl rfl (by kernel_rfl) Try.func14 (by kernel_rfl)
    (of_decide_eq_true (by kernel_rfl)) (by unfold Func.isWrapper; first | (rw [if_pos (by decide +kernel)]; kernel_rfl) | (rw [if_neg (by decide +kernel)]; exact ⟨rfl, rfl⟩))
    (fun os started H enc _ => lifted os started H enc)

/-- the statement. -/
theorem proved : Rows.ClockNamedSaid := over
end Go.Proofs.Ytkifmfmenobhnaa.clockNamedDone
