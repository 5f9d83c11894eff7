/- The statement TopFlashCascade returns true for every input, and its arguments read afterwards as before. No condition but that the listed tables and errors of the library hold what the program lays. -/
import Derived.SevenTiedAt
import Derived.Test.YtdkpgodakmailaaGreatDoorTie
import Derived.Test.YtdkpgodakmailaaGreatDoorCards
import Derived.Test.YtdkpgodakmailaaGreatDoorHC12
import Derived.ChangeMaps5
import Derived.ShutString
import Derived.Test.YtdkpgodakmailaaGreatDoorHC14
import Derived.Test.YtdkpgodakmailaaGreatDoorHC11
namespace Go.Proofs.YtdkpgodakmailaaGreatDoor.topFlashCascadeDone
open Go.ChangeShapes Go.WideShapes Go.ChangeAt Go.RowKit Ev
set_option linter.unusedVariables false

theorem own : ownKnob Tryz.prog.godebug = none := by kernel_rfl
theorem laidOut : laidOutB Tryz.prog = true := by kernel_rfl

set_option maxRecDepth 100000 in
theorem lifted (os : Os) (started : os.Started) (H : Type) (enc : TypeId × Value → H) :
    ReturnsInHanded {} Tryz.checked os 5 .any (fun w args => (Rows.topFlashCascadeSpec.pre enc Tryz.prog Tryz.f5 [] false w args ∧ laidMetH Tryz.prog laidL w) ∧ sizedMet enc Tryz.prog Tryz.f5 (OpenSpec.ofChange Rows.topFlashCascadeSpec) false w args) (Rows.topFlashCascadeSpec.post enc Tryz.prog Tryz.f5 false true false false) := by
  refine change_and_shaped (C := Tryz.checked) (X := fun w _ => laidMetH Tryz.prog laidL w) (fun _ _ _ hh h => h.of_heap hh) own started (by kernel_rfl) Tryz.func5
    (ChangeSpec.witness_shaped (enc := enc) (C := Tryz.checked) (os := os) (X := fun w _ => laidMetH Tryz.prog laidL w) false (World.laidAll Tryz.prog os laidL) #[.slice none 0 0, .agg #[.int .i64 0, .int .i64 0, .int .i64 0, .int .i64 0, .int .i64 0], .agg #[.slice none 0 0, .int .i64 0, .int .i64 0, .int .i64 0, .int .i64 0]] 8 (World.laidAll_os _ _ _) (World.shaped_of_ZipB (by kernel_rfl) (by kernel_rfl)) (by kernel_rfl) (by kernel_rfl) (by kernel_rfl) (laid_met os _)) ?_
  intro W base args ds gs before hval0 hW hcnd _ hL0 _
  obtain ⟨hsh, hL⟩ := hL0
  have hval : ∀ (j : Nat) t v, Tryz.f5.params[j]? = some t → args[j]? = some v → Value.okWide Tryz.prog W .any base t v := hval0
  have hW' := hW
  obtain ⟨Zp, Zq, hA0, hV, rfl, hfz, hnd⟩ := hW
  have hA : DataW.TrodAll enc Tryz.prog W 0 (fun _ => true) true Tryz.f5.params.toList args.toList ds Zp := hA0
  rw [Tryz.params5] at hA hval
  obtain ⟨Zv0, Zvs0, Zd0, Zds0, Zp0, Zq0, hargs, rfl, rfl, Zh0, Zr0⟩ := trodAll_cons hA
  obtain ⟨Zv1, Zvs1, Zd1, Zds1, Zp1, Zq1, rfl, rfl, rfl, Zh1, Zr1⟩ := trodAll_cons Zr0
  obtain ⟨Zv2, Zvs2, Zd2, Zds2, Zp2, Zq2, rfl, rfl, rfl, Zh2, Zr2⟩ := trodAll_cons Zr1
  obtain ⟨rfl, rfl, rfl⟩ := trodAll_nil Zr2
  obtain rfl : args = #[Zv0, Zv1, Zv2] := by cases args; simp_all
  obtain ⟨rfl, rfl⟩ := trodVars_none hV
  have Zk0 := Zh0
  have Zlt0 : ∀ x ∈ Zp0, x.block < W.heap.size := by obtain ⟨m, hm⟩ := Zk0; exact DataW.trod_lt m _ _ _ hm
  obtain ⟨fuel0, hf0⟩ := Zh0
  obtain ⟨ao0, len0, cap0, rfl⟩ := okWide_slice Tryz.underlying61 (hval 0 61 Zv0 rfl rfl)
  obtain ⟨κ0, x0, Zu0, Zhk0, e0, Zhr0, ho0⟩ := open_cell (P := Tryz.prog) 4 61 _ _ _ (by kernel_rfl) hf0 0 (Nat.le_of_ble_eq_true (by kernel_rfl))
  obtain rfl : _ = Zu0 := by simpa [Value.cells] using e0
  have hz_l : Tryz.prog.cellsOf 96 = 7 := by kernel_rfl
  obtain ⟨n_l, c_l, Ze0, m_l, f_l⟩ := open_sl (by kernel_rfl) ⟨κ0, Zhk0, ho0⟩
  rw [hz_l] at Ze0
  subst Ze0
  have hp0 : numsP 7 n_l c_l := by
    have := nums_of (P := Tryz.prog) (by kernel_rfl) f_l
    rwa [hz_l] at this
  have Zk1 := Zh1
  have Zlt1 : ∀ x ∈ Zp1, x.block < W.heap.size := by obtain ⟨m, hm⟩ := Zk1; exact DataW.trod_lt m _ _ _ hm
  obtain ⟨Zcs1, rfl, Zhs1⟩ := WideShapes.okWide_struct Tryz.underlying77 (hval 1 77 _ rfl rfl)
  obtain ⟨Zl1, hl1, Zhr1, Zhk1⟩ := open_agg (d := 4) (t := 77) (P := Tryz.prog) (by kernel_rfl) (Zhs1.trans (by kernel_rfl)) Zh1
  have Zhn1 : Tryz.prog.cellsOf 77 = 5 := by kernel_rfl
  rw [Zhn1] at hl1 Zhk1
  obtain ⟨x1_0, x1_1, x1_2, x1_3, x1_4, rfl⟩ : ∃ x1_0 x1_1 x1_2 x1_3 x1_4, Zl1 = [x1_0, x1_1, x1_2, x1_3, x1_4] := by
    match Zl1, hl1 with
    | [x1_0, x1_1, x1_2, x1_3, x1_4], _ => exact ⟨x1_0, x1_1, x1_2, x1_3, x1_4, rfl⟩
  obtain ⟨g0, e1_0, z_g0, y_g0⟩ := open_i64 (by kernel_rfl) (Zhk1 0 (by decide))
  have E1_0 : x1_0 = .v (.int .i64 g0) := e1_0
  subst E1_0
  obtain ⟨g1, e1_1, z_g1, y_g1⟩ := open_i64 (by kernel_rfl) (Zhk1 1 (by decide))
  have E1_1 : x1_1 = .v (.int .i64 g1) := e1_1
  subst E1_1
  obtain ⟨g2, e1_2, z_g2, y_g2⟩ := open_i64 (by kernel_rfl) (Zhk1 2 (by decide))
  have E1_2 : x1_2 = .v (.int .i64 g2) := e1_2
  subst E1_2
  obtain ⟨g3, e1_3, z_g3, y_g3⟩ := open_i64 (by kernel_rfl) (Zhk1 3 (by decide))
  have E1_3 : x1_3 = .v (.int .i64 g3) := e1_3
  subst E1_3
  obtain ⟨g4, e1_4, z_g4, y_g4⟩ := open_i64 (by kernel_rfl) (Zhk1 4 (by decide))
  have E1_4 : x1_4 = .v (.int .i64 g4) := e1_4
  subst E1_4
  have Zk2 := Zh2
  have Zlt2 : ∀ x ∈ Zp2, x.block < W.heap.size := by obtain ⟨m, hm⟩ := Zk2; exact DataW.trod_lt m _ _ _ hm
  obtain ⟨Zcs2, rfl, Zhs2⟩ := WideShapes.okWide_struct Tryz.underlying82 (hval 2 82 _ rfl rfl)
  obtain ⟨Zl2, hl2, Zhr2, Zhk2⟩ := open_agg (d := 4) (t := 82) (P := Tryz.prog) (by kernel_rfl) (Zhs2.trans (by kernel_rfl)) Zh2
  have Zhn2 : Tryz.prog.cellsOf 82 = 5 := by kernel_rfl
  rw [Zhn2] at hl2 Zhk2
  obtain ⟨x2_0, x2_1, x2_2, x2_3, x2_4, rfl⟩ : ∃ x2_0 x2_1 x2_2 x2_3 x2_4, Zl2 = [x2_0, x2_1, x2_2, x2_3, x2_4] := by
    match Zl2, hl2 with
    | [x2_0, x2_1, x2_2, x2_3, x2_4], _ => exact ⟨x2_0, x2_1, x2_2, x2_3, x2_4, rfl⟩
  obtain ⟨n_t, c_t, e2_0, m_t, f_t⟩ := open_sl (by kernel_rfl) (Zhk2 0 (by decide))
  have hz_t : Tryz.prog.cellsOf 202 = 2 := by kernel_rfl
  have E2_0 : x2_0 = .sl 2 n_t c_t := e2_0.trans (congrArg (fun z => CV.sl z n_t c_t) hz_t)
  subst E2_0
  obtain ⟨en, e2_1, z_en, y_en⟩ := open_i64 (by kernel_rfl) (Zhk2 1 (by decide))
  have E2_1 : x2_1 = .v (.int .i64 en) := e2_1
  subst E2_1
  obtain ⟨nu, e2_2, z_nu, y_nu⟩ := open_i64 (by kernel_rfl) (Zhk2 2 (by decide))
  have E2_2 : x2_2 = .v (.int .i64 nu) := e2_2
  subst E2_2
  obtain ⟨ti, e2_3, z_ti, y_ti⟩ := open_i64 (by kernel_rfl) (Zhk2 3 (by decide))
  have E2_3 : x2_3 = .v (.int .i64 ti) := e2_3
  subst E2_3
  obtain ⟨mv, e2_4, z_mv, y_mv⟩ := open_i64 (by kernel_rfl) (Zhk2 4 (by decide))
  have E2_4 : x2_4 = .v (.int .i64 mv) := e2_4
  subst E2_4
  have hp1 : numsP 2 n_t c_t := by
    have := nums_of (P := Tryz.prog) (by kernel_rfl) f_t
    rwa [hz_t] at this
  clear hA0 hval0
  have hle : LeA [.t (.c (.sl 7 n_l c_l)), .t (.a [.v (.int .i64 g0), .v (.int .i64 g1), .v (.int .i64 g2), .v (.int .i64 g3), .v (.int .i64 g4)]), .t (.a [.sl 2 n_t c_t, .v (.int .i64 en), .v (.int .i64 nu), .v (.int .i64 ti), .v (.int .i64 mv)])] [.t (.c (.sl 7 ((listC n_l mkHit c_l).length) (hitsC (listC n_l mkHit c_l)))), .t (.a [.v (.int .i64 g0), .v (.int .i64 g1), .v (.int .i64 g2), .v (.int .i64 g3), .v (.int .i64 g4)]), .t (.a [.sl 2 ((listC n_t mkKn c_t).length) (knsC (listC n_t mkKn c_t)), .v (.int .i64 en), .v (.int .i64 nu), .v (.int .i64 ti), .v (.int .i64 mv)])] := (LeA_cons (leT_c ((leL_FHit hp0))) (LeA_cons (LeD.refl _) (LeA_cons (leT_a (LeCs.cons ((leL_Knot hp1)) (LeCs.cons (LeC1.refl _) (LeCs.cons (LeC1.refl _) (LeCs.cons (LeC1.refl _) (LeCs.cons (LeC1.refl _) LeCs.nil)))))) LeA_nil)))
  refine (law_top_TopFlashCascade (listC n_l mkHit c_l) g0 g1 g2 g3 g4 (listC n_t mkKn c_t) en nu ti mv W (fun _ => True) _ (gd_of hsh hL) (hle W _ [_, .agg Zcs1, .agg Zcs2] ⟨Zhr0, ⟨⟨Zcs1.toList, by simp, Zhr1⟩, ⟨⟨Zcs2.toList, by simp, Zhr2⟩, trivial⟩⟩⟩)).mono fun e W' ⟨he, bel⟩ => ?_
  subst he
  exact ⟨_, rfl, _, _, _, [], _, [], hW', trodAll_mk1 (shut_bool Tryz.underlying4 _), (trodAll_cons_mk (Below.trod laidOut (by kernel_rfl) (of_decide_eq_true (by kernel_rfl)) Zk0 bel Zlt0) (trodAll_cons_mk (Below.trod laidOut (by kernel_rfl) (of_decide_eq_true (by kernel_rfl)) Zk1 bel Zlt1) (trodAll_cons_mk (Below.trod laidOut (by kernel_rfl) (of_decide_eq_true (by kernel_rfl)) Zk2 bel Zlt2) trodAll_mk0))), rfl, bel.frame _, fun h => by cases h⟩

theorem over : Rows.topFlashCascadeRow.holds Tryz.pinned (OpenSpec.ofChange Rows.topFlashCascadeSpec) :=
  OpenClaim.holds_of_wide 5 Tryz.f5 rfl rfl rfl rfl rfl rfl rfl ⟨rfl, rfl, rfl, rfl, rfl⟩ rfl rfl rfl rfl rfl (by kernel_rfl) Tryz.func5 (by kernel_rfl)
    (of_decide_eq_true (by kernel_rfl)) (by unfold Func.isWrapper; first | (rw [if_pos (by decide +kernel)]; kernel_rfl) | (rw [if_neg (by decide +kernel)]; exact ⟨rfl, rfl⟩))
    (fun os started H enc _ => lifted os started H enc)

/-- the statement: the row's, tied to the program's text. -/
theorem proved : Rows.TopFlashCascadeCardSaid :=
  Claim7.holds_tied_plain_at .later [] [.data, .data, .data, .data, .sentinel, .sentinel, .pinned] true (true, "e4e691266bf63897ff9315b722b2201f5f599cf1d5cfd14ce1b54e52917e5072") true
    over (fun _ h => by cases h) (by kernel_rfl) (fun _ h => by cases h) topFlashCascade_row_tie rfl ⟨rfl, rfl⟩ (by kernel_rfl) rfl
    (fun f fn hf hfn => by
      obtain rfl : f = 5 := Option.some.inj ((show Tryz.prog.funcNamed "cherenkov/cherenkovtop.TopFlashCascade" = some 5 by kernel_rfl).symm.trans hf) |>.symm
      obtain rfl : fn = Tryz.f5 := (Option.some.inj (Tryz.func5.symm.trans hfn)).symm
      exact ⟨by kernel_rfl, fun j t ht => by
        rw [Tryz.params5] at ht
        have hm : t ∈ [61, 77, 82] := by simpa using Array.mem_of_getElem? ht
        have hall : ([61, 77, 82].all fun u => !Tryz.prog.wantsStandIn u) = true := by kernel_rfl
        exact (show Tryz.prog.wantsStandIn t = false by simpa using List.all_eq_true.1 hall t hm)⟩)
    (by kernel_rfl)
end Go.Proofs.YtdkpgodakmailaaGreatDoor.topFlashCascadeDone
