/- The law FlashGreater of chapter 6 returns true for every input, and its arguments read afterwards as before. No condition but that the tables of math/bits hold what the program lays. -/
import Derived.SevenTiedAt
import Derived.Test.YtmhgjlapkhdlmaaDoorTie
import Derived.Test.YtmhgjlapkhdlmaaDoorCards
import Derived.Test.YtmhgjlapkhdlmaaDoorG5
import Derived.Test.YtmhgjlapkhdlmaaDoorG11
namespace Go.Proofs.YtmhgjlapkhdlmaaDoor.flashGreaterDone
open Go.ChangeShapes Go.WideShapes Go.ChangeAt Go.RowKit Ev
set_option linter.unusedVariables false

theorem own : ownKnob Tryd.prog.godebug = none := by kernel_rfl
theorem laidOut : laidOutB Tryd.prog = true := by kernel_rfl

set_option maxRecDepth 100000 in
theorem lifted (os : Os) (started : os.Started) (H : Type) (enc : TypeId × Value → H) :
    ReturnsInHanded {} Tryd.checked os 6 .any (fun w args => (Rows.flashGreaterSpec.pre enc Tryd.prog Tryd.f6 [] false w args ∧ laidMetH Tryd.prog laidL w) ∧ sizedMet enc Tryd.prog Tryd.f6 (OpenSpec.ofChange Rows.flashGreaterSpec) false w args) (Rows.flashGreaterSpec.post enc Tryd.prog Tryd.f6 false true false false) := by
  refine returnsInHanded_of_change_and (C := Tryd.checked) (X := fun w _ => laidMetH Tryd.prog laidL w) (fun _ _ _ hh h => h.of_heap hh) own started (by kernel_rfl) Tryd.func6
    (ChangeSpec.witness_shaped (enc := enc) (C := Tryd.checked) (os := os) (X := fun w _ => laidMetH Tryd.prog laidL w) false (World.doorLaid Tryd.prog 19 os) #[.slice none 0 0, .agg #[.int .i64 0, .slice none 0 0], .int .i64 0] 8 rfl (World.shaped_of_RefB (by kernel_rfl) (by kernel_rfl)) (by kernel_rfl) (by kernel_rfl) (by kernel_rfl) (door_met os _)) ?_
  intro W base args ds gs before hval0 hW hcnd _ hL _
  have hval : ∀ (j : Nat) t v, Tryd.f6.params[j]? = some t → args[j]? = some v → Value.okWide Tryd.prog W .any base t v := hval0
  have hW' := hW
  obtain ⟨Zp, Zq, hA0, hV, rfl, hfz, hnd⟩ := hW
  have hA : DataW.TrodAll enc Tryd.prog W 0 (fun _ => true) true Tryd.f6.params.toList args.toList ds Zp := hA0
  rw [Tryd.params6] at hA hval
  obtain ⟨Zv0, Zvs0, Zd0, Zds0, Zp0, Zq0, hargs, rfl, rfl, Zh0, Zr0⟩ := trodAll_cons hA
  obtain ⟨Zv1, Zvs1, Zd1, Zds1, Zp1, Zq1, rfl, rfl, rfl, Zh1, Zr1⟩ := trodAll_cons Zr0
  obtain ⟨Zv2, Zvs2, Zd2, Zds2, Zp2, Zq2, rfl, rfl, rfl, Zh2, Zr2⟩ := trodAll_cons Zr1
  obtain ⟨rfl, rfl, rfl⟩ := trodAll_nil Zr2
  obtain rfl : args = #[Zv0, Zv1, Zv2] := by cases args; simp_all
  obtain ⟨rfl, rfl⟩ := trodVars_none hV
  have Zk0 := Zh0
  have Zlt0 : ∀ x ∈ Zp0, x.block < W.heap.size := by obtain ⟨m, hm⟩ := Zk0; exact DataW.trod_lt m _ _ _ hm
  obtain ⟨fuel0, hf0⟩ := Zh0
  obtain ⟨ao0, len0, cap0, rfl⟩ := okWide_slice Tryd.underlying48 (hval 0 48 Zv0 rfl rfl)
  obtain ⟨κ0, x0, Zu0, Zhk0, e0, Zhr0, ho0⟩ := open_cell (P := Tryd.prog) 4 48 _ _ _ (by kernel_rfl) hf0 0 (Nat.le_of_ble_eq_true (by kernel_rfl))
  obtain rfl : _ = Zu0 := by simpa [Value.cells] using e0
  have hz_m : Tryd.prog.cellsOf 158 = 2 := by kernel_rfl
  obtain ⟨n_m, c_m, Ze0, m_m, f_m⟩ := open_sl (by kernel_rfl) ⟨κ0, Zhk0, ho0⟩
  rw [hz_m] at Ze0
  subst Ze0
  have hp0 : muP n_m c_m := muP_of f_m
  have Zk1 := Zh1
  have Zlt1 : ∀ x ∈ Zp1, x.block < W.heap.size := by obtain ⟨m, hm⟩ := Zk1; exact DataW.trod_lt m _ _ _ hm
  obtain ⟨Zcs1, rfl, Zhs1⟩ := WideShapes.okWide_struct Tryd.underlying71 (hval 1 71 _ rfl rfl)
  obtain ⟨Zl1, hl1, Zhr1, Zhk1⟩ := open_agg (d := 4) (t := 71) (P := Tryd.prog) (by kernel_rfl) (Zhs1.trans (by kernel_rfl)) Zh1
  have Zhn1 : Tryd.prog.cellsOf 71 = 2 := by kernel_rfl
  rw [Zhn1] at hl1 Zhk1
  obtain ⟨x1_0, x1_1, rfl⟩ : ∃ x1_0 x1_1, Zl1 = [x1_0, x1_1] := by
    match Zl1, hl1 with
    | [x1_0, x1_1], _ => exact ⟨x1_0, x1_1, rfl⟩
  obtain ⟨f, e1_0, z_f, y_f⟩ := open_i64 (by kernel_rfl) (Zhk1 0 (by decide))
  have E1_0 : x1_0 = .v (.int .i64 f) := e1_0
  subst E1_0
  obtain ⟨n_v, c_v, e1_1, m_v, f_v⟩ := open_sl (by kernel_rfl) (Zhk1 1 (by decide))
  have hz_v : Tryd.prog.cellsOf 3 = 1 := by kernel_rfl
  have E1_1 : x1_1 = .sl 1 n_v c_v := e1_1.trans (congrArg (fun z => CV.sl z n_v c_v) hz_v)
  subst E1_1
  have hp1 : numsP 1 n_v c_v := by
    have := nums_of (P := Tryd.prog) (by kernel_rfl) f_v
    rwa [hz_v] at this
  obtain ⟨t, rfl, rfl, rfl, Zw2⟩ := open_int Tryd.underlying3 (hval 2 3 Zv2 rfl rfl) Zh2
  obtain ⟨z_t, y_t⟩ := bounds_i64 Zw2
  clear hA0 hval0
  have hle : LeA [.t (.c (.sl 2 n_m c_m)), .t (.a [.v (.int .i64 f), .sl 1 n_v c_v]), .t (.c (.v (.int .i64 t)))] [.t (.c (.sl 2 ((muOf n_m c_m).length) (musC (muOf n_m c_m)))), .t (.a [.v (.int .i64 f), .sl 1 ((listC n_v mkInt c_v).length) (intsC (listC n_v mkInt c_v))]), .t (.c (.v (.int .i64 t)))] := (LeA_cons (leT_c ((leL_Muon hp0))) (LeA_cons (leT_a (LeCs.cons (LeC1.refl _) (LeCs.cons ((leL_int hp1)) LeCs.nil))) (LeA_cons (LeD.refl _) LeA_nil)))
  refine (law_law06_FlashGreater (muOf n_m c_m) f (listC n_v mkInt c_v) t W (fun _ => True) _ (gd_of hL) (hle W _ [_, .agg Zcs1, .int .i64 t] ⟨Zhr0, ⟨⟨Zcs1.toList, by simp, Zhr1⟩, ⟨⟨rfl, rfl⟩, trivial⟩⟩⟩)).mono fun e W' ⟨he, bel⟩ => ?_
  subst he
  exact ⟨_, rfl, _, _, _, [], _, [], hW', trodAll_mk1 (shut_bool Tryd.underlying4 _), (trodAll_cons_mk (Below.trod laidOut (by kernel_rfl) (of_decide_eq_true (by kernel_rfl)) Zk0 bel Zlt0) (trodAll_cons_mk (Below.trod laidOut (by kernel_rfl) (of_decide_eq_true (by kernel_rfl)) Zk1 bel Zlt1) (trodAll_cons_mk (shut_int Tryd.underlying3 Zw2) trodAll_mk0))), rfl, bel.frame _, fun h => by cases h⟩

theorem over : Rows.flashGreaterRow.holds Tryd.pinned (OpenSpec.ofChange Rows.flashGreaterSpec) :=
  OpenClaim.holds_of_wide 6 Tryd.f6 rfl rfl rfl rfl rfl rfl rfl ⟨rfl, rfl, rfl, rfl, rfl⟩ rfl rfl rfl rfl rfl (by kernel_rfl) Tryd.func6 (by kernel_rfl)
    (of_decide_eq_true (by kernel_rfl)) (by unfold Func.isWrapper; first | (rw [if_pos (by decide +kernel)]; kernel_rfl) | (rw [if_neg (by decide +kernel)]; exact ⟨rfl, rfl⟩))
    (fun os started H enc _ => lifted os started H enc)

/-- the statement: the row's, tied to the program's text. -/
theorem proved : Rows.FlashGreaterCardSaid :=
  Claim7.holds_tied_plain_at .later [] [.data, .data] true (true, "925e207e375425880ca3d405664781c59e8ee77221d5304a992f53527d338864") false
    over (fun _ h => by cases h) (by kernel_rfl) (fun _ h => by cases h) flashGreater_row_tie rfl ⟨rfl, rfl⟩ (by kernel_rfl) rfl
    (fun f fn hf hfn => by
      obtain rfl : f = 6 := Option.some.inj ((show Tryd.prog.funcNamed "cherenkov/cherenkovlaw06.FlashGreater" = some 6 by kernel_rfl).symm.trans hf) |>.symm
      obtain rfl : fn = Tryd.f6 := (Option.some.inj (Tryd.func6.symm.trans hfn)).symm
      exact ⟨by kernel_rfl, fun j t ht => by
        rw [Tryd.params6] at ht
        have hm : t ∈ [48, 71, 3] := by simpa using Array.mem_of_getElem? ht
        have hall : ([48, 71, 3].all fun u => !Tryd.prog.wantsStandIn u) = true := by kernel_rfl
        exact (show Tryd.prog.wantsStandIn t = false by simpa using List.all_eq_true.1 hall t hm)⟩)
    (by kernel_rfl)
end Go.Proofs.YtmhgjlapkhdlmaaDoor.flashGreaterDone
