/- The statement TopTrackCone returns true for every input, and its arguments read afterwards as before. No condition but that the listed tables and errors of the library hold what the program lays. -/
import Derived.SevenTiedAt
import Derived.Test.YtfadkjcfjkmalaaGreatDoorTie
import Derived.Test.YtfadkjcfjkmalaaGreatDoorCards
import Derived.Test.YtfadkjcfjkmalaaGreatDoorLT7
import Derived.ChangeMaps5
import Derived.ShutString
import Derived.Test.YtfadkjcfjkmalaaGreatDoorLT15
import Derived.Test.YtfadkjcfjkmalaaGreatDoorLT6
namespace Go.Proofs.YtfadkjcfjkmalaaGreatDoor.topTrackConeDone
open Go.ChangeShapes Go.WideShapes Go.ChangeAt Go.RowKit Ev
set_option linter.unusedVariables false

theorem own : ownKnob Tryz.prog.godebug = none := by kernel_rfl
theorem qhW : laidOutB Tryz.prog = true := by kernel_rfl

set_option maxRecDepth 100000 in
theorem lifted (os : Os) (started : os.Started) (H : Type) (enc : TypeId × Value → H) :
    ReturnsInHanded {} Tryz.checked os 4 .any (fun w args => (Rows.topTrackConeSpec.pre enc Tryz.prog Tryz.f4 [] false w args ∧ laidMetH Tryz.prog q4w w) ∧ sizedMet enc Tryz.prog Tryz.f4 (OpenSpec.ofChange Rows.topTrackConeSpec) false w args) (Rows.topTrackConeSpec.post enc Tryz.prog Tryz.f4 false true false false) := by
  refine qe3 (C := Tryz.checked) (X := fun w _ => laidMetH Tryz.prog q4w w) (fun _ _ _ hh h => h.of_heap hh) own started (by kernel_rfl) Tryz.func4
    (ChangeSpec.witness_shaped (enc := enc) (C := Tryz.checked) (os := os) (X := fun w _ => laidMetH Tryz.prog q4w w) false (World.laidAll Tryz.prog os q4w) #[.agg #[.int .i64 0, .int .i64 0, .int .i64 0, .int .i64 0, .int .i64 0, .int .i64 0, .int .i64 0, .int .i64 0, .int .i64 0, .int .i64 0, .int .i64 0, .int .i64 0], .agg #[.int .i64 0, .int .i64 0, .int .i64 0, .int .i64 0, .int .i64 0, .int .i64 0], .agg #[.slice none 0 0, .slice none 0 0]] 8 (World.laidAll_os _ _ _) (World.shaped_of_ZipB (by kernel_rfl) (by kernel_rfl)) (by kernel_rfl) (by kernel_rfl) (by kernel_rfl) (laid_met os _)) ?_
  intro W base args ds gs before hval0 hW hcnd _ hL0 _
  obtain ⟨hsh, hL⟩ := hL0
  have hval : ∀ (j : Nat) t v, Tryz.f4.params[j]? = some t → args[j]? = some v → Value.okWide Tryz.prog W .any base t v := hval0
  have hW' := hW
  obtain ⟨Zp, Zq, hA0, hV, rfl, hfz, hnd⟩ := hW
  have hA : DataW.TrodAll enc Tryz.prog W 0 (fun _ => true) true Tryz.f4.params.toList args.toList ds Zp := hA0
  rw [Tryz.params4] at hA hval
  obtain ⟨Zv0, Zvs0, Zd0, Zds0, Zp0, Zq0, hargs, rfl, rfl, Zh0, Zr0⟩ := trodAll_cons hA
  obtain ⟨Zv1, Zvs1, Zd1, Zds1, Zp1, Zq1, rfl, rfl, rfl, Zh1, Zr1⟩ := trodAll_cons Zr0
  obtain ⟨Zv2, Zvs2, Zd2, Zds2, Zp2, Zq2, rfl, rfl, rfl, Zh2, Zr2⟩ := trodAll_cons Zr1
  obtain ⟨rfl, rfl, rfl⟩ := trodAll_nil Zr2
  obtain rfl : args = #[Zv0, Zv1, Zv2] := by cases args; simp_all
  obtain ⟨rfl, rfl⟩ := trodVars_none hV
  have Zk0 := Zh0
  have Zlt0 : ∀ x ∈ Zp0, x.block < W.heap.size := by obtain ⟨m, hm⟩ := Zk0; exact DataW.trod_lt m _ _ _ hm
  obtain ⟨Zcs0, rfl, Zhs0⟩ := WideShapes.okWide_struct Tryz.underlying47 (hval 0 47 _ rfl rfl)
  obtain ⟨Zl0, hl0, Zhr0, Zhk0⟩ := qf7 (d := 4) (t := 47) (P := Tryz.prog) (by kernel_rfl) (Zhs0.trans (by kernel_rfl)) Zh0
  have Zhn0 : Tryz.prog.cellsOf 47 = 12 := by kernel_rfl
  rw [Zhn0] at hl0 Zhk0
  obtain ⟨x0_0, x0_1, x0_2, x0_3, x0_4, x0_5, x0_6, x0_7, x0_8, x0_9, x0_10, x0_11, rfl⟩ : ∃ x0_0 x0_1 x0_2 x0_3 x0_4 x0_5 x0_6 x0_7 x0_8 x0_9 x0_10 x0_11, Zl0 = [x0_0, x0_1, x0_2, x0_3, x0_4, x0_5, x0_6, x0_7, x0_8, x0_9, x0_10, x0_11] := by
    match Zl0, hl0 with
    | [x0_0, x0_1, x0_2, x0_3, x0_4, x0_5, x0_6, x0_7, x0_8, x0_9, x0_10, x0_11], _ => exact ⟨x0_0, x0_1, x0_2, x0_3, x0_4, x0_5, x0_6, x0_7, x0_8, x0_9, x0_10, x0_11, rfl⟩
  obtain ⟨m0, e0_0, z_m0, y_m0⟩ := q0j (by kernel_rfl) (Zhk0 0 (by decide))
  have E0_0 : x0_0 = .v (.int .i64 m0) := e0_0
  subst E0_0
  obtain ⟨m1, e0_1, z_m1, y_m1⟩ := q0j (by kernel_rfl) (Zhk0 1 (by decide))
  have E0_1 : x0_1 = .v (.int .i64 m1) := e0_1
  subst E0_1
  obtain ⟨m2, e0_2, z_m2, y_m2⟩ := q0j (by kernel_rfl) (Zhk0 2 (by decide))
  have E0_2 : x0_2 = .v (.int .i64 m2) := e0_2
  subst E0_2
  obtain ⟨m3, e0_3, z_m3, y_m3⟩ := q0j (by kernel_rfl) (Zhk0 3 (by decide))
  have E0_3 : x0_3 = .v (.int .i64 m3) := e0_3
  subst E0_3
  obtain ⟨m4, e0_4, z_m4, y_m4⟩ := q0j (by kernel_rfl) (Zhk0 4 (by decide))
  have E0_4 : x0_4 = .v (.int .i64 m4) := e0_4
  subst E0_4
  obtain ⟨m5, e0_5, z_m5, y_m5⟩ := q0j (by kernel_rfl) (Zhk0 5 (by decide))
  have E0_5 : x0_5 = .v (.int .i64 m5) := e0_5
  subst E0_5
  obtain ⟨m6, e0_6, z_m6, y_m6⟩ := q0j (by kernel_rfl) (Zhk0 6 (by decide))
  have E0_6 : x0_6 = .v (.int .i64 m6) := e0_6
  subst E0_6
  obtain ⟨m7, e0_7, z_m7, y_m7⟩ := q0j (by kernel_rfl) (Zhk0 7 (by decide))
  have E0_7 : x0_7 = .v (.int .i64 m7) := e0_7
  subst E0_7
  obtain ⟨m8, e0_8, z_m8, y_m8⟩ := q0j (by kernel_rfl) (Zhk0 8 (by decide))
  have E0_8 : x0_8 = .v (.int .i64 m8) := e0_8
  subst E0_8
  obtain ⟨m9, e0_9, z_m9, y_m9⟩ := q0j (by kernel_rfl) (Zhk0 9 (by decide))
  have E0_9 : x0_9 = .v (.int .i64 m9) := e0_9
  subst E0_9
  obtain ⟨mA, e0_10, z_m10, y_m10⟩ := q0j (by kernel_rfl) (Zhk0 10 (by decide))
  have E0_10 : x0_10 = .v (.int .i64 mA) := e0_10
  subst E0_10
  obtain ⟨mB, e0_11, z_m11, y_m11⟩ := q0j (by kernel_rfl) (Zhk0 11 (by decide))
  have E0_11 : x0_11 = .v (.int .i64 mB) := e0_11
  subst E0_11
  have Zk1 := Zh1
  have Zlt1 : ∀ x ∈ Zp1, x.block < W.heap.size := by obtain ⟨m, hm⟩ := Zk1; exact DataW.trod_lt m _ _ _ hm
  obtain ⟨Zcs1, rfl, Zhs1⟩ := WideShapes.okWide_struct Tryz.underlying25 (hval 1 25 _ rfl rfl)
  obtain ⟨Zl1, hl1, Zhr1, Zhk1⟩ := qf7 (d := 4) (t := 25) (P := Tryz.prog) (by kernel_rfl) (Zhs1.trans (by kernel_rfl)) Zh1
  have Zhn1 : Tryz.prog.cellsOf 25 = 6 := by kernel_rfl
  rw [Zhn1] at hl1 Zhk1
  obtain ⟨x1_0, x1_1, x1_2, x1_3, x1_4, x1_5, rfl⟩ : ∃ x1_0 x1_1 x1_2 x1_3 x1_4 x1_5, Zl1 = [x1_0, x1_1, x1_2, x1_3, x1_4, x1_5] := by
    match Zl1, hl1 with
    | [x1_0, x1_1, x1_2, x1_3, x1_4, x1_5], _ => exact ⟨x1_0, x1_1, x1_2, x1_3, x1_4, x1_5, rfl⟩
  obtain ⟨b0, e1_0, z_b0, y_b0⟩ := q0j (by kernel_rfl) (Zhk1 0 (by decide))
  have E1_0 : x1_0 = .v (.int .i64 b0) := e1_0
  subst E1_0
  obtain ⟨b1, e1_1, z_b1, y_b1⟩ := q0j (by kernel_rfl) (Zhk1 1 (by decide))
  have E1_1 : x1_1 = .v (.int .i64 b1) := e1_1
  subst E1_1
  obtain ⟨b2, e1_2, z_b2, y_b2⟩ := q0j (by kernel_rfl) (Zhk1 2 (by decide))
  have E1_2 : x1_2 = .v (.int .i64 b2) := e1_2
  subst E1_2
  obtain ⟨b3, e1_3, z_b3, y_b3⟩ := q0j (by kernel_rfl) (Zhk1 3 (by decide))
  have E1_3 : x1_3 = .v (.int .i64 b3) := e1_3
  subst E1_3
  obtain ⟨b4, e1_4, z_b4, y_b4⟩ := q0j (by kernel_rfl) (Zhk1 4 (by decide))
  have E1_4 : x1_4 = .v (.int .i64 b4) := e1_4
  subst E1_4
  obtain ⟨b5, e1_5, z_b5, y_b5⟩ := q0j (by kernel_rfl) (Zhk1 5 (by decide))
  have E1_5 : x1_5 = .v (.int .i64 b5) := e1_5
  subst E1_5
  have Zk2 := Zh2
  have Zlt2 : ∀ x ∈ Zp2, x.block < W.heap.size := by obtain ⟨m, hm⟩ := Zk2; exact DataW.trod_lt m _ _ _ hm
  obtain ⟨Zcs2, rfl, Zhs2⟩ := WideShapes.okWide_struct Tryz.underlying51 (hval 2 51 _ rfl rfl)
  obtain ⟨Zl2, hl2, Zhr2, Zhk2⟩ := qf7 (d := 4) (t := 51) (P := Tryz.prog) (by kernel_rfl) (Zhs2.trans (by kernel_rfl)) Zh2
  have Zhn2 : Tryz.prog.cellsOf 51 = 2 := by kernel_rfl
  rw [Zhn2] at hl2 Zhk2
  obtain ⟨x2_0, x2_1, rfl⟩ : ∃ x2_0 x2_1, Zl2 = [x2_0, x2_1] := by
    match Zl2, hl2 with
    | [x2_0, x2_1], _ => exact ⟨x2_0, x2_1, rfl⟩
  obtain ⟨n_pl, c_pl, e2_0, m_pl, f_pl⟩ := open_sl (by kernel_rfl) (Zhk2 0 (by decide))
  have hz_pl : Tryz.prog.cellsOf 23 = 3 := by kernel_rfl
  have E2_0 : x2_0 = .sl 3 n_pl c_pl := e2_0.trans (congrArg (fun z => CV.sl z n_pl c_pl) hz_pl)
  subst E2_0
  obtain ⟨n_of, c_of, e2_1, m_of, f_of⟩ := open_sl (by kernel_rfl) (Zhk2 1 (by decide))
  have hz_of : Tryz.prog.cellsOf 3 = 1 := by kernel_rfl
  have E2_1 : x2_1 = .sl 1 n_of c_of := e2_1.trans (congrArg (fun z => CV.sl z n_of c_of) hz_of)
  subst E2_1
  have hp0 : qj 3 n_pl c_pl := by
    have := nums_of (P := Tryz.prog) (by kernel_rfl) f_pl
    rwa [hz_pl] at this
  have hp1 : qj 1 n_of c_of := by
    have := nums_of (P := Tryz.prog) (by kernel_rfl) f_of
    rwa [hz_of] at this
  clear hA0 hval0
  have hle : LeA [.t (.a [.v (.int .i64 m0), .v (.int .i64 m1), .v (.int .i64 m2), .v (.int .i64 m3), .v (.int .i64 m4), .v (.int .i64 m5), .v (.int .i64 m6), .v (.int .i64 m7), .v (.int .i64 m8), .v (.int .i64 m9), .v (.int .i64 mA), .v (.int .i64 mB)]), .t (.a [.v (.int .i64 b0), .v (.int .i64 b1), .v (.int .i64 b2), .v (.int .i64 b3), .v (.int .i64 b4), .v (.int .i64 b5)]), .t (.a [.sl 3 n_pl c_pl, .sl 1 n_of c_of])] [.t (.a [.v (.int .i64 m0), .v (.int .i64 m1), .v (.int .i64 m2), .v (.int .i64 m3), .v (.int .i64 m4), .v (.int .i64 m5), .v (.int .i64 m6), .v (.int .i64 m7), .v (.int .i64 m8), .v (.int .i64 m9), .v (.int .i64 mA), .v (.int .i64 mB)]), .t (.a [.v (.int .i64 b0), .v (.int .i64 b1), .v (.int .i64 b2), .v (.int .i64 b3), .v (.int .i64 b4), .v (.int .i64 b5)]), .t (.a [.sl 3 ((qa n_pl mkPl c_pl).length) (plsC (qa n_pl mkPl c_pl)), .sl 1 ((qa n_of qF c_of).length) (q2f (qa n_of qF c_of))])] := (qk (LeD.refl _) (qk (LeD.refl _) (qk (leT_a (LeCs.cons ((leL_V3 hp0)) (LeCs.cons ((q6C hp1)) LeCs.nil))) qM)))
  refine (qbZ m0 m1 m2 m3 m4 m5 m6 m7 m8 m9 mA mB b0 b1 b2 b3 b4 b5 (qa n_pl mkPl c_pl) (qa n_of qF c_of) W (fun _ => True) _ (gd_of hsh hL) (hle W _ [.agg Zcs0, .agg Zcs1, .agg Zcs2] ⟨⟨Zcs0.toList, by simp, Zhr0⟩, ⟨⟨Zcs1.toList, by simp, Zhr1⟩, ⟨⟨Zcs2.toList, by simp, Zhr2⟩, trivial⟩⟩⟩)).mono fun e W' ⟨he, bel⟩ => ?_
  subst he
  exact ⟨_, rfl, _, _, _, [], _, [], hW', trodAll_mk1 (shut_bool Tryz.underlying4 _), (trodAll_cons_mk (Below.trod qhW (by kernel_rfl) (of_decide_eq_true (by kernel_rfl)) Zk0 bel Zlt0) (trodAll_cons_mk (Below.trod qhW (by kernel_rfl) (of_decide_eq_true (by kernel_rfl)) Zk1 bel Zlt1) (trodAll_cons_mk (Below.trod qhW (by kernel_rfl) (of_decide_eq_true (by kernel_rfl)) Zk2 bel Zlt2) trodAll_mk0))), rfl, bel.frame _, fun h => by cases h⟩

theorem over : Rows.topTrackConeRow.holds Tryz.pinned (OpenSpec.ofChange Rows.topTrackConeSpec) :=
  OpenClaim.holds_of_wide 4 Tryz.f4 rfl rfl rfl rfl rfl rfl rfl ⟨rfl, rfl, rfl, rfl, rfl⟩ rfl rfl rfl rfl rfl (by kernel_rfl) Tryz.func4 (by kernel_rfl)
    (of_decide_eq_true (by kernel_rfl)) (by unfold Func.isWrapper; first | (rw [if_pos (by decide +kernel)]; kernel_rfl) | (rw [if_neg (by decide +kernel)]; exact ⟨rfl, rfl⟩))
    (fun os started H enc _ => lifted os started H enc)

/-- the statement: the row's, tied to the program's text. -/
theorem proved : Rows.TopTrackConeCardSaid :=
  Claim7.holds_tied_plain_at .later [] [.data, .data, .data, .data, .sentinel, .sentinel, .pinned] true (true, "845d207d4c798e464ab3e2ebc559d3b2fcdede8f68ff40eef2499717d5610c1a") true
    over (fun _ h => by cases h) (by kernel_rfl) (fun _ h => by cases h) topTrackCone_row_tie rfl ⟨rfl, rfl⟩ (by kernel_rfl) rfl
    (fun f fn hf hfn => by
      obtain rfl : f = 4 := Option.some.inj ((show Tryz.prog.funcNamed "cherenkov/cherenkovtop.TopTrackCone" = some 4 by kernel_rfl).symm.trans hf) |>.symm
      obtain rfl : fn = Tryz.f4 := (Option.some.inj (Tryz.func4.symm.trans hfn)).symm
      exact ⟨by kernel_rfl, fun j t ht => by
        rw [Tryz.params4] at ht
        have hm : t ∈ [47, 25, 51] := by simpa using Array.mem_of_getElem? ht
        have hall : ([47, 25, 51].all fun u => !Tryz.prog.wantsStandIn u) = true := by kernel_rfl
        exact (show Tryz.prog.wantsStandIn t = false by simpa using List.all_eq_true.1 hall t hm)⟩)
    (by kernel_rfl)
end Go.Proofs.YtfadkjcfjkmalaaGreatDoor.topTrackConeDone
