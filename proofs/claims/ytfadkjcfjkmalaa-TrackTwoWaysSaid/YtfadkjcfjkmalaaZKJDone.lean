/- The law TrackTwoWays of chapter 5 returns true for every input, and its arguments read afterwards as before. No condition. -/
import Derived.Test.YtfadkjcfjkmalaaTW15
namespace Go.Proofs.Ytfadkjcfjkmalaa.trackTwoWaysDone
open Go.ChangeShapes Go.WideShapes Go.ChangeAt Go.RowKit Ev
set_option linter.unusedVariables false

theorem own : ownKnob Try.prog.godebug = none := by kernel_rfl
theorem laidOut : laidOutB Try.prog = true := by kernel_rfl

set_option maxRecDepth 100000 in
theorem lifted (os : Os) (started : os.Started) (H : Type) (enc : TypeId × Value → H) :
    ReturnsInHanded {} Try.checked os 4 .any (Rows.trackTwoWaysSpec.pre6 enc Try.prog Try.f4 Rows.trackTwoWaysRow.domain false) (Rows.trackTwoWaysSpec.post enc Try.prog Try.f4 false true false false) := by
  refine returnsInHanded_of_change (C := Try.checked) own started (by kernel_rfl) Try.func4
    (ChangeSpec.witness6 (enc := enc) (C := Try.checked) false ⟨#[], #[.agg #[.int .i64 0, .int .i64 0, .int .i64 0, .int .i64 0, .int .i64 0, .int .i64 0, .int .i64 0, .int .i64 0, .int .i64 0, .int .i64 0, .int .i64 0, .int .i64 0], .agg #[.int .i64 0, .int .i64 0, .int .i64 0, .int .i64 0, .int .i64 0, .int .i64 0, .slice none 0 0], .int .i64 0], []⟩ 8 (by kernel_rfl) (by kernel_rfl) (by kernel_rfl) (by kernel_rfl)) ?_
  intro W base args ds gs before hval0 hW hcnd _
  have hval : ∀ (j : Nat) t v, Try.f4.params[j]? = some t → args[j]? = some v → Value.okWide Try.prog W .any base t v := hval0
  have hW' := hW
  obtain ⟨Zp, Zq, hA0, hV, rfl, hfz, hnd⟩ := hW
  have hA : DataW.TrodAll enc Try.prog W 0 (fun _ => true) true Try.f4.params.toList args.toList ds Zp := hA0
  rw [Try.params4] at hA hval
  obtain ⟨Zv0, Zvs0, Zd0, Zds0, Zp0, Zq0, hargs, rfl, rfl, Zh0, Zr0⟩ := trodAll_cons hA
  obtain ⟨Zv1, Zvs1, Zd1, Zds1, Zp1, Zq1, rfl, rfl, rfl, Zh1, Zr1⟩ := trodAll_cons Zr0
  obtain ⟨Zv2, Zvs2, Zd2, Zds2, Zp2, Zq2, rfl, rfl, rfl, Zh2, Zr2⟩ := trodAll_cons Zr1
  obtain ⟨rfl, rfl, rfl⟩ := trodAll_nil Zr2
  obtain rfl : args = #[Zv0, Zv1, Zv2] := by cases args; simp_all
  obtain ⟨rfl, rfl⟩ := trodVars_none hV
  have Zk0 := Zh0
  have Zlt0 : ∀ x ∈ Zp0, x.block < W.heap.size := by obtain ⟨m, hm⟩ := Zk0; exact DataW.trod_lt m _ _ _ hm
  obtain ⟨Zcs0, rfl, Zhs0⟩ := WideShapes.okWide_struct Try.underlying26 (hval 0 26 _ rfl rfl)
  obtain ⟨Zl0, hl0, Zhr0, Zhk0⟩ := open_agg (d := 4) (t := 26) (P := Try.prog) (by kernel_rfl) (Zhs0.trans (by kernel_rfl)) Zh0
  have Zhn0 : Try.prog.cellsOf 26 = 12 := by kernel_rfl
  rw [Zhn0] at hl0 Zhk0
  obtain ⟨x0_0, x0_1, x0_2, x0_3, x0_4, x0_5, x0_6, x0_7, x0_8, x0_9, x0_10, x0_11, rfl⟩ : ∃ x0_0 x0_1 x0_2 x0_3 x0_4 x0_5 x0_6 x0_7 x0_8 x0_9 x0_10 x0_11, Zl0 = [x0_0, x0_1, x0_2, x0_3, x0_4, x0_5, x0_6, x0_7, x0_8, x0_9, x0_10, x0_11] := by
    match Zl0, hl0 with
    | [x0_0, x0_1, x0_2, x0_3, x0_4, x0_5, x0_6, x0_7, x0_8, x0_9, x0_10, x0_11], _ => exact ⟨x0_0, x0_1, x0_2, x0_3, x0_4, x0_5, x0_6, x0_7, x0_8, x0_9, x0_10, x0_11, rfl⟩
  obtain ⟨m0, e0_0, z_m0, y_m0⟩ := open_i64 (by kernel_rfl) (Zhk0 0 (by decide))
  have E0_0 : x0_0 = .v (.int .i64 m0) := e0_0
  subst E0_0
  obtain ⟨m1, e0_1, z_m1, y_m1⟩ := open_i64 (by kernel_rfl) (Zhk0 1 (by decide))
  have E0_1 : x0_1 = .v (.int .i64 m1) := e0_1
  subst E0_1
  obtain ⟨m2, e0_2, z_m2, y_m2⟩ := open_i64 (by kernel_rfl) (Zhk0 2 (by decide))
  have E0_2 : x0_2 = .v (.int .i64 m2) := e0_2
  subst E0_2
  obtain ⟨m3, e0_3, z_m3, y_m3⟩ := open_i64 (by kernel_rfl) (Zhk0 3 (by decide))
  have E0_3 : x0_3 = .v (.int .i64 m3) := e0_3
  subst E0_3
  obtain ⟨m4, e0_4, z_m4, y_m4⟩ := open_i64 (by kernel_rfl) (Zhk0 4 (by decide))
  have E0_4 : x0_4 = .v (.int .i64 m4) := e0_4
  subst E0_4
  obtain ⟨m5, e0_5, z_m5, y_m5⟩ := open_i64 (by kernel_rfl) (Zhk0 5 (by decide))
  have E0_5 : x0_5 = .v (.int .i64 m5) := e0_5
  subst E0_5
  obtain ⟨m6, e0_6, z_m6, y_m6⟩ := open_i64 (by kernel_rfl) (Zhk0 6 (by decide))
  have E0_6 : x0_6 = .v (.int .i64 m6) := e0_6
  subst E0_6
  obtain ⟨m7, e0_7, z_m7, y_m7⟩ := open_i64 (by kernel_rfl) (Zhk0 7 (by decide))
  have E0_7 : x0_7 = .v (.int .i64 m7) := e0_7
  subst E0_7
  obtain ⟨m8, e0_8, z_m8, y_m8⟩ := open_i64 (by kernel_rfl) (Zhk0 8 (by decide))
  have E0_8 : x0_8 = .v (.int .i64 m8) := e0_8
  subst E0_8
  obtain ⟨m9, e0_9, z_m9, y_m9⟩ := open_i64 (by kernel_rfl) (Zhk0 9 (by decide))
  have E0_9 : x0_9 = .v (.int .i64 m9) := e0_9
  subst E0_9
  obtain ⟨m10, e0_10, z_m10, y_m10⟩ := open_i64 (by kernel_rfl) (Zhk0 10 (by decide))
  have E0_10 : x0_10 = .v (.int .i64 m10) := e0_10
  subst E0_10
  obtain ⟨m11, e0_11, z_m11, y_m11⟩ := open_i64 (by kernel_rfl) (Zhk0 11 (by decide))
  have E0_11 : x0_11 = .v (.int .i64 m11) := e0_11
  subst E0_11
  have Zk1 := Zh1
  have Zlt1 : ∀ x ∈ Zp1, x.block < W.heap.size := by obtain ⟨m, hm⟩ := Zk1; exact DataW.trod_lt m _ _ _ hm
  obtain ⟨Zcs1, rfl, Zhs1⟩ := WideShapes.okWide_struct Try.underlying31 (hval 1 31 _ rfl rfl)
  obtain ⟨Zl1, hl1, Zhr1, Zhk1⟩ := open_agg (d := 4) (t := 31) (P := Try.prog) (by kernel_rfl) (Zhs1.trans (by kernel_rfl)) Zh1
  have Zhn1 : Try.prog.cellsOf 31 = 7 := by kernel_rfl
  rw [Zhn1] at hl1 Zhk1
  obtain ⟨x1_0, x1_1, x1_2, x1_3, x1_4, x1_5, x1_6, rfl⟩ : ∃ x1_0 x1_1 x1_2 x1_3 x1_4 x1_5 x1_6, Zl1 = [x1_0, x1_1, x1_2, x1_3, x1_4, x1_5, x1_6] := by
    match Zl1, hl1 with
    | [x1_0, x1_1, x1_2, x1_3, x1_4, x1_5, x1_6], _ => exact ⟨x1_0, x1_1, x1_2, x1_3, x1_4, x1_5, x1_6, rfl⟩
  obtain ⟨b0, e1_0, z_b0, y_b0⟩ := open_i64 (by kernel_rfl) (Zhk1 0 (by decide))
  have E1_0 : x1_0 = .v (.int .i64 b0) := e1_0
  subst E1_0
  obtain ⟨b1, e1_1, z_b1, y_b1⟩ := open_i64 (by kernel_rfl) (Zhk1 1 (by decide))
  have E1_1 : x1_1 = .v (.int .i64 b1) := e1_1
  subst E1_1
  obtain ⟨b2, e1_2, z_b2, y_b2⟩ := open_i64 (by kernel_rfl) (Zhk1 2 (by decide))
  have E1_2 : x1_2 = .v (.int .i64 b2) := e1_2
  subst E1_2
  obtain ⟨b3, e1_3, z_b3, y_b3⟩ := open_i64 (by kernel_rfl) (Zhk1 3 (by decide))
  have E1_3 : x1_3 = .v (.int .i64 b3) := e1_3
  subst E1_3
  obtain ⟨b4, e1_4, z_b4, y_b4⟩ := open_i64 (by kernel_rfl) (Zhk1 4 (by decide))
  have E1_4 : x1_4 = .v (.int .i64 b4) := e1_4
  subst E1_4
  obtain ⟨b5, e1_5, z_b5, y_b5⟩ := open_i64 (by kernel_rfl) (Zhk1 5 (by decide))
  have E1_5 : x1_5 = .v (.int .i64 b5) := e1_5
  subst E1_5
  obtain ⟨n_l, c_l, e1_6, m_l, f_l⟩ := open_sl (by kernel_rfl) (Zhk1 6 (by decide))
  have hz_l : Try.prog.cellsOf 111 = 5 := by kernel_rfl
  have E1_6 : x1_6 = .sl 5 n_l c_l := e1_6.trans (congrArg (fun z => CV.sl z n_l c_l) hz_l)
  subst E1_6
  have hp0 : numsP 5 n_l c_l := by
    have := nums_of (P := Try.prog) (by kernel_rfl) f_l
    rwa [hz_l] at this
  obtain ⟨K, rfl, rfl, rfl, Zw2⟩ := open_int Try.underlying3 (hval 2 3 Zv2 rfl rfl) Zh2
  obtain ⟨z_K, y_K⟩ := bounds_i64 Zw2
  clear hA0 hval0
  have hle : LeA [.t (.a [.v (.int .i64 m0), .v (.int .i64 m1), .v (.int .i64 m2), .v (.int .i64 m3), .v (.int .i64 m4), .v (.int .i64 m5), .v (.int .i64 m6), .v (.int .i64 m7), .v (.int .i64 m8), .v (.int .i64 m9), .v (.int .i64 m10), .v (.int .i64 m11)]), .t (.a [.v (.int .i64 b0), .v (.int .i64 b1), .v (.int .i64 b2), .v (.int .i64 b3), .v (.int .i64 b4), .v (.int .i64 b5), .sl 5 n_l c_l]), .t (.c (.v (.int .i64 K)))] [.t (.a [.v (.int .i64 m0), .v (.int .i64 m1), .v (.int .i64 m2), .v (.int .i64 m3), .v (.int .i64 m4), .v (.int .i64 m5), .v (.int .i64 m6), .v (.int .i64 m7), .v (.int .i64 m8), .v (.int .i64 m9), .v (.int .i64 m10), .v (.int .i64 m11)]), .t (.a [.v (.int .i64 b0), .v (.int .i64 b1), .v (.int .i64 b2), .v (.int .i64 b3), .v (.int .i64 b4), .v (.int .i64 b5), .sl 5 ((listC n_l mkHit c_l).length) (hitsC (listC n_l mkHit c_l))]), .t (.c (.v (.int .i64 K)))] := (LeA_cons (LeD.refl _) (LeA_cons (leT_a (LeCs.cons (LeC1.refl _) (LeCs.cons (LeC1.refl _) (LeCs.cons (LeC1.refl _) (LeCs.cons (LeC1.refl _) (LeCs.cons (LeC1.refl _) (LeCs.cons (LeC1.refl _) (LeCs.cons ((leL_THit hp0)) LeCs.nil)))))))) (LeA_cons (LeD.refl _) LeA_nil)))
  refine (law_law05_TrackTwoWays m0 m1 m2 m3 m4 m5 m6 m7 m8 m9 m10 m11 b0 b1 b2 b3 b4 b5 (listC n_l mkHit c_l) K W (fun _ => True) _ (hle W _ [.agg Zcs0, .agg Zcs1, .int .i64 K] ⟨⟨Zcs0.toList, by simp, Zhr0⟩, ⟨⟨Zcs1.toList, by simp, Zhr1⟩, ⟨⟨rfl, rfl⟩, trivial⟩⟩⟩)).mono fun e W' ⟨he, bel⟩ => ?_
  subst he
  exact ⟨_, rfl, _, _, _, [], _, [], hW', trodAll_mk1 (shut_bool Try.underlying4 _), (trodAll_cons_mk (Below.trod laidOut (by kernel_rfl) (of_decide_eq_true (by kernel_rfl)) Zk0 bel Zlt0) (trodAll_cons_mk (Below.trod laidOut (by kernel_rfl) (of_decide_eq_true (by kernel_rfl)) Zk1 bel Zlt1) (trodAll_cons_mk (shut_int Try.underlying3 Zw2) trodAll_mk0))), rfl, bel.frame _, fun h => by cases h⟩

theorem over : Rows.trackTwoWaysRow.holds Try.pinned (OpenSpec.ofChange Rows.trackTwoWaysSpec) :=
  OpenClaim.holds_of_wide 4 Try.f4 rfl rfl rfl rfl rfl rfl rfl ⟨rfl, rfl, rfl, rfl, rfl⟩ rfl rfl rfl rfl rfl (by kernel_rfl) Try.func4 (by kernel_rfl)
    (of_decide_eq_true (by kernel_rfl)) (by unfold Func.isWrapper; first | (rw [if_pos (by decide +kernel)]; kernel_rfl) | (rw [if_neg (by decide +kernel)]; exact ⟨rfl, rfl⟩))
    (fun os started H enc _ => lifted os started H enc)

/-- the statement. -/
theorem proved : Rows.TrackTwoWaysSaid := over
end Go.Proofs.Ytfadkjcfjkmalaa.trackTwoWaysDone
