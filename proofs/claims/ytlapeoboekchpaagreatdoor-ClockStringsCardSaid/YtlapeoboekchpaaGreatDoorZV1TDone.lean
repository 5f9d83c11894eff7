/- The law ClockStrings of chapter 1 returns true for every input, and its arguments read afterwards as before. No condition but that the listed tables and errors of the library hold what the program lays. -/
import Derived.SevenTiedAt
import Derived.Test.YtlapeoboekchpaaGreatDoorTie
import Derived.Test.YtlapeoboekchpaaGreatDoorCards
import Derived.Test.YtlapeoboekchpaaGreatDoorTS11
import Derived.ChangeMaps5
import Derived.ShutString
import Derived.Test.YtlapeoboekchpaaGreatDoorTS14
namespace Go.Proofs.YtlapeoboekchpaaGreatDoor.clockStringsDone
open Go.ChangeShapes Go.WideShapes Go.ChangeAt Go.RowKit Ev
set_option linter.unusedVariables false

theorem own : ownKnob Tryz.prog.godebug = none := by kernel_rfl
theorem laidOut : laidOutB Tryz.prog = true := by kernel_rfl

set_option maxRecDepth 100000 in
theorem lifted (os : Os) (started : os.Started) (H : Type) (enc : TypeId × Value → H) :
    ReturnsInHanded {} Tryz.checked os 3 .any (fun w args => (Rows.clockStringsSpec.pre enc Tryz.prog Tryz.f3 [] false w args ∧ laidMetH Tryz.prog laidL w) ∧ sizedMet enc Tryz.prog Tryz.f3 (OpenSpec.ofChange Rows.clockStringsSpec) false w args) (Rows.clockStringsSpec.post enc Tryz.prog Tryz.f3 false true false false) := by
  refine change_and_shaped (C := Tryz.checked) (X := fun w _ => laidMetH Tryz.prog laidL w) (fun _ _ _ hh h => h.of_heap hh) own started (by kernel_rfl) Tryz.func3
    (ChangeSpec.witness_shaped (enc := enc) (C := Tryz.checked) (os := os) (X := fun w _ => laidMetH Tryz.prog laidL w) false (World.laidAll Tryz.prog os laidL) #[.agg #[.int .i64 0, .int .i64 0, .int .i64 0, .int .i64 0], .agg #[.slice none 0 0, .slice none 0 0], .string ⟨#[]⟩] 8 (World.laidAll_os _ _ _) (World.shaped_of_ZipB (by kernel_rfl) (by kernel_rfl)) (by kernel_rfl) (by kernel_rfl) (by kernel_rfl) (laid_met os _)) ?_
  intro W base args ds gs before hval0 hW hcnd _ hL0 _
  obtain ⟨hsh, hL⟩ := hL0
  have hval : ∀ (j : Nat) t v, Tryz.f3.params[j]? = some t → args[j]? = some v → Value.okWide Tryz.prog W .any base t v := hval0
  have hW' := hW
  obtain ⟨Zp, Zq, hA0, hV, rfl, hfz, hnd⟩ := hW
  have hA : DataW.TrodAll enc Tryz.prog W 0 (fun _ => true) true Tryz.f3.params.toList args.toList ds Zp := hA0
  rw [Tryz.params3] at hA hval
  obtain ⟨Zv0, Zvs0, Zd0, Zds0, Zp0, Zq0, hargs, rfl, rfl, Zh0, Zr0⟩ := trodAll_cons hA
  obtain ⟨Zv1, Zvs1, Zd1, Zds1, Zp1, Zq1, rfl, rfl, rfl, Zh1, Zr1⟩ := trodAll_cons Zr0
  obtain ⟨Zv2, Zvs2, Zd2, Zds2, Zp2, Zq2, rfl, rfl, rfl, Zh2, Zr2⟩ := trodAll_cons Zr1
  obtain ⟨rfl, rfl, rfl⟩ := trodAll_nil Zr2
  obtain rfl : args = #[Zv0, Zv1, Zv2] := by cases args; simp_all
  obtain ⟨rfl, rfl⟩ := trodVars_none hV
  have Zk0 := Zh0
  have Zlt0 : ∀ x ∈ Zp0, x.block < W.heap.size := by obtain ⟨m, hm⟩ := Zk0; exact DataW.trod_lt m _ _ _ hm
  obtain ⟨Zcs0, rfl, Zhs0⟩ := WideShapes.okWide_struct Tryz.underlying23 (hval 0 23 _ rfl rfl)
  obtain ⟨Zl0, hl0, Zhr0, Zhk0⟩ := open_agg (d := 4) (t := 23) (P := Tryz.prog) (by kernel_rfl) (Zhs0.trans (by kernel_rfl)) Zh0
  have Zhn0 : Tryz.prog.cellsOf 23 = 4 := by kernel_rfl
  rw [Zhn0] at hl0 Zhk0
  obtain ⟨x0_0, x0_1, x0_2, x0_3, rfl⟩ : ∃ x0_0 x0_1 x0_2 x0_3, Zl0 = [x0_0, x0_1, x0_2, x0_3] := by
    match Zl0, hl0 with
    | [x0_0, x0_1, x0_2, x0_3], _ => exact ⟨x0_0, x0_1, x0_2, x0_3, rfl⟩
  obtain ⟨p0, e0_0, z_p0, y_p0⟩ := open_i64 (by kernel_rfl) (Zhk0 0 (by decide))
  have E0_0 : x0_0 = .v (.int .i64 p0) := e0_0
  subst E0_0
  obtain ⟨p1, e0_1, z_p1, y_p1⟩ := open_i64 (by kernel_rfl) (Zhk0 1 (by decide))
  have E0_1 : x0_1 = .v (.int .i64 p1) := e0_1
  subst E0_1
  obtain ⟨p2, e0_2, z_p2, y_p2⟩ := open_i64 (by kernel_rfl) (Zhk0 2 (by decide))
  have E0_2 : x0_2 = .v (.int .i64 p2) := e0_2
  subst E0_2
  obtain ⟨p3, e0_3, z_p3, y_p3⟩ := open_i64 (by kernel_rfl) (Zhk0 3 (by decide))
  have E0_3 : x0_3 = .v (.int .i64 p3) := e0_3
  subst E0_3
  have Zk1 := Zh1
  have Zlt1 : ∀ x ∈ Zp1, x.block < W.heap.size := by obtain ⟨m, hm⟩ := Zk1; exact DataW.trod_lt m _ _ _ hm
  obtain ⟨Zcs1, rfl, Zhs1⟩ := WideShapes.okWide_struct Tryz.underlying27 (hval 1 27 _ rfl rfl)
  obtain ⟨Zl1, hl1, Zhr1, Zhk1⟩ := open_agg (d := 4) (t := 27) (P := Tryz.prog) (by kernel_rfl) (Zhs1.trans (by kernel_rfl)) Zh1
  have Zhn1 : Tryz.prog.cellsOf 27 = 2 := by kernel_rfl
  rw [Zhn1] at hl1 Zhk1
  obtain ⟨x1_0, x1_1, rfl⟩ : ∃ x1_0 x1_1, Zl1 = [x1_0, x1_1] := by
    match Zl1, hl1 with
    | [x1_0, x1_1], _ => exact ⟨x1_0, x1_1, rfl⟩
  obtain ⟨n_cs, c_cs, e1_0, m_cs, f_cs⟩ := open_sl (by kernel_rfl) (Zhk1 0 (by decide))
  have hz_cs : Tryz.prog.cellsOf 9 = 1 := by kernel_rfl
  have E1_0 : x1_0 = .sl 1 n_cs c_cs := e1_0.trans (congrArg (fun z => CV.sl z n_cs c_cs) hz_cs)
  subst E1_0
  obtain ⟨n_ls, c_ls, e1_1, m_ls, f_ls⟩ := open_sl (by kernel_rfl) (Zhk1 1 (by decide))
  have hz_ls : Tryz.prog.cellsOf 53 = 4 := by kernel_rfl
  have E1_1 : x1_1 = .sl 4 n_ls c_ls := e1_1.trans (congrArg (fun z => CV.sl z n_ls c_ls) hz_ls)
  subst E1_1
  have hp0 : txP n_cs c_cs := txP_of (P := Tryz.prog) (by kernel_rfl) hz_cs f_cs
  have hp1 : numsP 4 n_ls c_ls := by
    have := nums_of (P := Tryz.prog) (by kernel_rfl) f_ls
    rwa [hz_ls] at this
  obtain ⟨tx, rfl, rfl, rfl, Zw2⟩ := ChangeMaps.open_string Tryz.underlying9 (hval 2 9 Zv2 rfl rfl) Zh2
  clear hA0 hval0
  have hle : LeA [.t (.a [.v (.int .i64 p0), .v (.int .i64 p1), .v (.int .i64 p2), .v (.int .i64 p3)]), .t (.a [.sl 1 n_cs c_cs, .sl 4 n_ls c_ls]), .t (.c (.v (.string tx)))] [.t (.a [.v (.int .i64 p0), .v (.int .i64 p1), .v (.int .i64 p2), .v (.int .i64 p3)]), .t (.a [.sl 1 ((txOf n_cs c_cs).length) (txsC (txOf n_cs c_cs)), .sl 4 ((listC n_ls mkLnk c_ls).length) (lnksC (listC n_ls mkLnk c_ls))]), .t (.c (.v (.string tx)))] := (LeA_cons (LeD.refl _) (LeA_cons (leT_a (LeCs.cons ((leL_str hp0)) (LeCs.cons ((leL_Lnk hp1)) LeCs.nil))) (LeA_cons (LeD.refl _) LeA_nil)))
  refine (law_law01_ClockStrings p0 p1 p2 p3 (txOf n_cs c_cs) (listC n_ls mkLnk c_ls) tx ⟨⟨⟨z_p0, y_p0⟩, ⟨z_p1, y_p1⟩, ⟨z_p2, y_p2⟩, z_p3, y_p3⟩, rg_of f_ls⟩ W (fun _ => True) _ (gd_of hsh hL) (hle W _ [.agg Zcs0, .agg Zcs1, .string tx] ⟨⟨Zcs0.toList, by simp, Zhr0⟩, ⟨⟨Zcs1.toList, by simp, Zhr1⟩, ⟨⟨rfl, rfl⟩, trivial⟩⟩⟩)).mono fun e W' ⟨he, bel⟩ => ?_
  subst he
  exact ⟨_, rfl, _, _, _, [], _, [], hW', trodAll_mk1 (shut_bool Tryz.underlying4 _), (trodAll_cons_mk (Below.trod laidOut (by kernel_rfl) (of_decide_eq_true (by kernel_rfl)) Zk0 bel Zlt0) (trodAll_cons_mk (Below.trod laidOut (by kernel_rfl) (of_decide_eq_true (by kernel_rfl)) Zk1 bel Zlt1) (trodAll_cons_mk (ChangeMaps.shut_string Tryz.underlying9 Zw2) trodAll_mk0))), rfl, bel.frame _, fun h => by cases h⟩

theorem over : Rows.clockStringsRow.holds Tryz.pinned (OpenSpec.ofChange Rows.clockStringsSpec) :=
  OpenClaim.holds_of_wide 3 Tryz.f3 rfl rfl rfl rfl rfl rfl rfl ⟨rfl, rfl, rfl, rfl, rfl⟩ rfl rfl rfl rfl rfl (by kernel_rfl) Tryz.func3 (by kernel_rfl)
    (of_decide_eq_true (by kernel_rfl)) (by unfold Func.isWrapper; first | (rw [if_pos (by decide +kernel)]; kernel_rfl) | (rw [if_neg (by decide +kernel)]; exact ⟨rfl, rfl⟩))
    (fun os started H enc _ => lifted os started H enc)

/-- the statement: the row's, tied to the program's text. -/
theorem proved : Rows.ClockStringsCardSaid :=
  Claim7.holds_tied_plain_at .later [] [.data, .data, .data, .data, .sentinel, .sentinel, .pinned] true (true, "439a16d3b4e6f56cbeb4f89e3e91abea01d7b65173b5ef2912a6b34a2a0967fb") true
    over (fun _ h => by cases h) (by kernel_rfl) (fun _ h => by cases h) clockStrings_row_tie rfl ⟨rfl, rfl⟩ (by kernel_rfl) rfl
    (fun f fn hf hfn => by
      obtain rfl : f = 3 := Option.some.inj ((show Tryz.prog.funcNamed "cherenkov/cherenkovlaw01.ClockStrings" = some 3 by kernel_rfl).symm.trans hf) |>.symm
      obtain rfl : fn = Tryz.f3 := (Option.some.inj (Tryz.func3.symm.trans hfn)).symm
      exact ⟨by kernel_rfl, fun j t ht => by
        rw [Tryz.params3] at ht
        have hm : t ∈ [23, 27, 9] := by simpa using Array.mem_of_getElem? ht
        have hall : ([23, 27, 9].all fun u => !Tryz.prog.wantsStandIn u) = true := by kernel_rfl
        exact (show Tryz.prog.wantsStandIn t = false by simpa using List.all_eq_true.1 hall t hm)⟩)
    (by kernel_rfl)
end Go.Proofs.YtlapeoboekchpaaGreatDoor.clockStringsDone
