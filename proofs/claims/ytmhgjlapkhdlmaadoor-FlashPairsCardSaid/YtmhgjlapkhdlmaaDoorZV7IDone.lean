/- The law FlashPairs of chapter 6 returns true for every input, and its arguments read afterwards as before. No condition but that the tables of math/bits hold what the program lays. -/
import Derived.SevenTiedAt
import Derived.Test.YtmhgjlapkhdlmaaDoorTie
import Derived.Test.YtmhgjlapkhdlmaaDoorCards
import Derived.Test.YtmhgjlapkhdlmaaDoorPA6
import Derived.Test.YtmhgjlapkhdlmaaDoorPA13
import Derived.Test.YtmhgjlapkhdlmaaDoorPA5
namespace Go.Proofs.YtmhgjlapkhdlmaaDoor.flashPairsDone
open Go.ChangeShapes Go.WideShapes Go.ChangeAt Go.RowKit Ev
set_option linter.unusedVariables false

theorem own : ownKnob Tryd.prog.godebug = none := by kernel_rfl
theorem laidOut : laidOutB Tryd.prog = true := by kernel_rfl

set_option maxRecDepth 100000 in
theorem lifted (os : Os) (started : os.Started) (H : Type) (enc : TypeId × Value → H) :
    ReturnsInHanded {} Tryd.checked os 12 .any (fun w args => (Rows.flashPairsSpec.pre enc Tryd.prog Tryd.f12 [] false w args ∧ laidMetH Tryd.prog laidL w) ∧ sizedMet enc Tryd.prog Tryd.f12 (OpenSpec.ofChange Rows.flashPairsSpec) false w args) (Rows.flashPairsSpec.post enc Tryd.prog Tryd.f12 false true false false) := by
  refine returnsInHanded_of_change_and (C := Tryd.checked) (X := fun w _ => laidMetH Tryd.prog laidL w) (fun _ _ _ hh h => h.of_heap hh) own started (by kernel_rfl) Tryd.func12
    (ChangeSpec.witness_shaped (enc := enc) (C := Tryd.checked) (os := os) (X := fun w _ => laidMetH Tryd.prog laidL w) false (World.doorLaid Tryd.prog 19 os) #[.slice none 0 0, .agg #[.int .i64 0, .int .i64 0, .int .i64 0, .int .i64 0, .int .i64 0], .agg #[.int .i64 0, .int .i64 0, .int .i64 0, .int .i64 0]] 8 rfl (World.shaped_of_RefB (by kernel_rfl) (by kernel_rfl)) (by kernel_rfl) (by kernel_rfl) (by kernel_rfl) (door_met os _)) ?_
  intro W base args ds gs before hval0 hW hcnd _ hL _
  have hval : ∀ (j : Nat) t v, Tryd.f12.params[j]? = some t → args[j]? = some v → Value.okWide Tryd.prog W .any base t v := hval0
  have hW' := hW
  obtain ⟨Zp, Zq, hA0, hV, rfl, hfz, hnd⟩ := hW
  have hA : DataW.TrodAll enc Tryd.prog W 0 (fun _ => true) true Tryd.f12.params.toList args.toList ds Zp := hA0
  rw [Tryd.params12] at hA hval
  obtain ⟨Zv0, Zvs0, Zd0, Zds0, Zp0, Zq0, hargs, rfl, rfl, Zh0, Zr0⟩ := trodAll_cons hA
  obtain ⟨Zv1, Zvs1, Zd1, Zds1, Zp1, Zq1, rfl, rfl, rfl, Zh1, Zr1⟩ := trodAll_cons Zr0
  obtain ⟨Zv2, Zvs2, Zd2, Zds2, Zp2, Zq2, rfl, rfl, rfl, Zh2, Zr2⟩ := trodAll_cons Zr1
  obtain ⟨rfl, rfl, rfl⟩ := trodAll_nil Zr2
  obtain rfl : args = #[Zv0, Zv1, Zv2] := by cases args; simp_all
  obtain ⟨rfl, rfl⟩ := trodVars_none hV
  have Zk0 := Zh0
  have Zlt0 : ∀ x ∈ Zp0, x.block < W.heap.size := by obtain ⟨m, hm⟩ := Zk0; exact DataW.trod_lt m _ _ _ hm
  obtain ⟨fuel0, hf0⟩ := Zh0
  obtain ⟨ao0, len0, cap0, rfl⟩ := okWide_slice Tryd.underlying22 (hval 0 22 Zv0 rfl rfl)
  obtain ⟨κ0, x0, Zu0, Zhk0, e0, Zhr0, ho0⟩ := open_cell (P := Tryd.prog) 4 22 _ _ _ (by kernel_rfl) hf0 0 (Nat.le_of_ble_eq_true (by kernel_rfl))
  obtain rfl : _ = Zu0 := by simpa [Value.cells] using e0
  have hz_l : Tryd.prog.cellsOf 107 = 7 := by kernel_rfl
  obtain ⟨n_l, c_l, Ze0, m_l, f_l⟩ := open_sl (by kernel_rfl) ⟨κ0, Zhk0, ho0⟩
  rw [hz_l] at Ze0
  subst Ze0
  have hp0 : numsP 7 n_l c_l := by
    have := nums_of (P := Tryd.prog) (by kernel_rfl) f_l
    rwa [hz_l] at this
  have Zk1 := Zh1
  have Zlt1 : ∀ x ∈ Zp1, x.block < W.heap.size := by obtain ⟨m, hm⟩ := Zk1; exact DataW.trod_lt m _ _ _ hm
  obtain ⟨Zcs1, rfl, Zhs1⟩ := WideShapes.okWide_struct Tryd.underlying26 (hval 1 26 _ rfl rfl)
  obtain ⟨Zl1, hl1, Zhr1, Zhk1⟩ := open_agg (d := 4) (t := 26) (P := Tryd.prog) (by kernel_rfl) (Zhs1.trans (by kernel_rfl)) Zh1
  have Zhn1 : Tryd.prog.cellsOf 26 = 5 := by kernel_rfl
  rw [Zhn1] at hl1 Zhk1
  obtain ⟨x1_0, x1_1, x1_2, x1_3, x1_4, rfl⟩ : ∃ x1_0 x1_1 x1_2 x1_3 x1_4, Zl1 = [x1_0, x1_1, x1_2, x1_3, x1_4] := by
    match Zl1, hl1 with
    | [x1_0, x1_1, x1_2, x1_3, x1_4], _ => exact ⟨x1_0, x1_1, x1_2, x1_3, x1_4, rfl⟩
  obtain ⟨g0, e1_0, z_g0, y_g0⟩ := open_i64 (by kernel_rfl) (Zhk1 0 (by decide))
  have E1_0 : x1_0 = .v (.int .i64 g0) := e1_0
  subst E1_0
  obtain ⟨g1, e1_1, z_g1, y_g1⟩ := open_i64 (by kernel_rfl) (Zhk1 1 (by decide))
  have E1_1 : x1_1 = .v (.int .i64 g1) := e1_1
  subst E1_1
  obtain ⟨g2, e1_2, z_g2, y_g2⟩ := open_i64 (by kernel_rfl) (Zhk1 2 (by decide))
  have E1_2 : x1_2 = .v (.int .i64 g2) := e1_2
  subst E1_2
  obtain ⟨g3, e1_3, z_g3, y_g3⟩ := open_i64 (by kernel_rfl) (Zhk1 3 (by decide))
  have E1_3 : x1_3 = .v (.int .i64 g3) := e1_3
  subst E1_3
  obtain ⟨g4, e1_4, z_g4, y_g4⟩ := open_i64 (by kernel_rfl) (Zhk1 4 (by decide))
  have E1_4 : x1_4 = .v (.int .i64 g4) := e1_4
  subst E1_4
  have Zk2 := Zh2
  have Zlt2 : ∀ x ∈ Zp2, x.block < W.heap.size := by obtain ⟨m, hm⟩ := Zk2; exact DataW.trod_lt m _ _ _ hm
  obtain ⟨Zcs2, rfl, Zhs2⟩ := WideShapes.okWide_struct Tryd.underlying129 (hval 2 129 _ rfl rfl)
  obtain ⟨Zl2, hl2, Zhr2, Zhk2⟩ := open_agg (d := 4) (t := 129) (P := Tryd.prog) (by kernel_rfl) (Zhs2.trans (by kernel_rfl)) Zh2
  have Zhn2 : Tryd.prog.cellsOf 129 = 4 := by kernel_rfl
  rw [Zhn2] at hl2 Zhk2
  obtain ⟨x2_0, x2_1, x2_2, x2_3, rfl⟩ : ∃ x2_0 x2_1 x2_2 x2_3, Zl2 = [x2_0, x2_1, x2_2, x2_3] := by
    match Zl2, hl2 with
    | [x2_0, x2_1, x2_2, x2_3], _ => exact ⟨x2_0, x2_1, x2_2, x2_3, rfl⟩
  obtain ⟨qa, e2_0, z_qa, y_qa⟩ := open_i64 (by kernel_rfl) (Zhk2 0 (by decide))
  have E2_0 : x2_0 = .v (.int .i64 qa) := e2_0
  subst E2_0
  obtain ⟨qb, e2_1, z_qb, y_qb⟩ := open_i64 (by kernel_rfl) (Zhk2 1 (by decide))
  have E2_1 : x2_1 = .v (.int .i64 qb) := e2_1
  subst E2_1
  obtain ⟨qs, e2_2, z_qs, y_qs⟩ := open_i64 (by kernel_rfl) (Zhk2 2 (by decide))
  have E2_2 : x2_2 = .v (.int .i64 qs) := e2_2
  subst E2_2
  obtain ⟨qt, e2_3, z_qt, y_qt⟩ := open_i64 (by kernel_rfl) (Zhk2 3 (by decide))
  have E2_3 : x2_3 = .v (.int .i64 qt) := e2_3
  subst E2_3
  clear hA0 hval0
  have hle : LeA [.t (.c (.sl 7 n_l c_l)), .t (.a [.v (.int .i64 g0), .v (.int .i64 g1), .v (.int .i64 g2), .v (.int .i64 g3), .v (.int .i64 g4)]), .t (.a [.v (.int .i64 qa), .v (.int .i64 qb), .v (.int .i64 qs), .v (.int .i64 qt)])] [.t (.c (.sl 7 ((listC n_l mkHit c_l).length) (hitsC (listC n_l mkHit c_l)))), .t (.a [.v (.int .i64 g0), .v (.int .i64 g1), .v (.int .i64 g2), .v (.int .i64 g3), .v (.int .i64 g4)]), .t (.a [.v (.int .i64 qa), .v (.int .i64 qb), .v (.int .i64 qs), .v (.int .i64 qt)])] := (LeA_cons (leT_c ((leL_FHit hp0))) (LeA_cons (LeD.refl _) (LeA_cons (leT_a (LeCs.cons (LeC1.refl _) (LeCs.cons (LeC1.refl _) (LeCs.cons (LeC1.refl _) (LeCs.cons (LeC1.refl _) LeCs.nil))))) LeA_nil)))
  refine (law_law06_FlashPairs (listC n_l mkHit c_l) g0 g1 g2 g3 g4 qa qb qs qt W (fun _ => True) _ (gd_of hL) (hle W _ [_, .agg Zcs1, .agg Zcs2] ⟨Zhr0, ⟨⟨Zcs1.toList, by simp, Zhr1⟩, ⟨⟨Zcs2.toList, by simp, Zhr2⟩, trivial⟩⟩⟩)).mono fun e W' ⟨he, bel⟩ => ?_
  subst he
  exact ⟨_, rfl, _, _, _, [], _, [], hW', trodAll_mk1 (shut_bool Tryd.underlying4 _), (trodAll_cons_mk (Below.trod laidOut (by kernel_rfl) (of_decide_eq_true (by kernel_rfl)) Zk0 bel Zlt0) (trodAll_cons_mk (Below.trod laidOut (by kernel_rfl) (of_decide_eq_true (by kernel_rfl)) Zk1 bel Zlt1) (trodAll_cons_mk (Below.trod laidOut (by kernel_rfl) (of_decide_eq_true (by kernel_rfl)) Zk2 bel Zlt2) trodAll_mk0))), rfl, bel.frame _, fun h => by cases h⟩

theorem over : Rows.flashPairsRow.holds Tryd.pinned (OpenSpec.ofChange Rows.flashPairsSpec) :=
  OpenClaim.holds_of_wide 12 Tryd.f12 rfl rfl rfl rfl rfl rfl rfl ⟨rfl, rfl, rfl, rfl, rfl⟩ rfl rfl rfl rfl rfl (by kernel_rfl) Tryd.func12 (by kernel_rfl)
    (of_decide_eq_true (by kernel_rfl)) (by unfold Func.isWrapper; first | (rw [if_pos (by decide +kernel)]; kernel_rfl) | (rw [if_neg (by decide +kernel)]; exact ⟨rfl, rfl⟩))
    (fun os started H enc _ => lifted os started H enc)

/-- the statement: the row's, tied to the program's text. -/
theorem proved : Rows.FlashPairsCardSaid :=
  Claim7.holds_tied_plain_at .later [] [.data, .data] true (true, "925e207e375425880ca3d405664781c59e8ee77221d5304a992f53527d338864") false
    over (fun _ h => by cases h) (by kernel_rfl) (fun _ h => by cases h) flashPairs_row_tie rfl ⟨rfl, rfl⟩ (by kernel_rfl) rfl
    (fun f fn hf hfn => by
      obtain rfl : f = 12 := Option.some.inj ((show Tryd.prog.funcNamed "cherenkov/cherenkovlaw06.FlashPairs" = some 12 by kernel_rfl).symm.trans hf) |>.symm
      obtain rfl : fn = Tryd.f12 := (Option.some.inj (Tryd.func12.symm.trans hfn)).symm
      exact ⟨by kernel_rfl, fun j t ht => by
        rw [Tryd.params12] at ht
        have hm : t ∈ [22, 26, 129] := by simpa using Array.mem_of_getElem? ht
        have hall : ([22, 26, 129].all fun u => !Tryd.prog.wantsStandIn u) = true := by kernel_rfl
        exact (show Tryd.prog.wantsStandIn t = false by simpa using List.all_eq_true.1 hall t hm)⟩)
    (by kernel_rfl)
end Go.Proofs.YtmhgjlapkhdlmaaDoor.flashPairsDone
