/- The law FlashStrings of chapter 6 returns true for every input, and its arguments read afterwards as before. No condition but that the listed tables and errors of the library hold what the program lays. -/
import Derived.SevenTiedAt
import Derived.Test.YtdkpgodakmailaaGreatDoorTie
import Derived.Test.YtdkpgodakmailaaGreatDoorCards
import Derived.Test.YtdkpgodakmailaaGreatDoorHS11
import Derived.ChangeMaps5
import Derived.ShutString
import Derived.Test.YtdkpgodakmailaaGreatDoorHS12
import Derived.Test.YtdkpgodakmailaaGreatDoorHS10
namespace Go.Proofs.YtdkpgodakmailaaGreatDoor.flashStringsDone
open Go.ChangeShapes Go.WideShapes Go.ChangeAt Go.RowKit Ev
set_option linter.unusedVariables false

theorem own : ownKnob Tryz.prog.godebug = none := by kernel_rfl
theorem laidOut : laidOutB Tryz.prog = true := by kernel_rfl

set_option maxRecDepth 100000 in
theorem lifted (os : Os) (started : os.Started) (H : Type) (enc : TypeId × Value → H) :
    ReturnsInHanded {} Tryz.checked os 4 .any (fun w args => (Rows.flashStringsSpec.pre enc Tryz.prog Tryz.f4 [] false w args ∧ laidMetH Tryz.prog laidL w) ∧ sizedMet enc Tryz.prog Tryz.f4 (OpenSpec.ofChange Rows.flashStringsSpec) false w args) (Rows.flashStringsSpec.post enc Tryz.prog Tryz.f4 false true false false) := by
  refine change_and_shaped (C := Tryz.checked) (X := fun w _ => laidMetH Tryz.prog laidL w) (fun _ _ _ hh h => h.of_heap hh) own started (by kernel_rfl) Tryz.func4
    (ChangeSpec.witness_shaped (enc := enc) (C := Tryz.checked) (os := os) (X := fun w _ => laidMetH Tryz.prog laidL w) false (World.laidAll Tryz.prog os laidL) #[.slice none 0 0, .agg #[.int .i64 0, .slice none 0 0], .string ⟨#[]⟩] 8 (World.laidAll_os _ _ _) (World.shaped_of_ZipB (by kernel_rfl) (by kernel_rfl)) (by kernel_rfl) (by kernel_rfl) (by kernel_rfl) (laid_met os _)) ?_
  intro W base args ds gs before hval0 hW hcnd _ hL0 _
  obtain ⟨hsh, hL⟩ := hL0
  have hval : ∀ (j : Nat) t v, Tryz.f4.params[j]? = some t → args[j]? = some v → Value.okWide Tryz.prog W .any base t v := hval0
  have hW' := hW
  obtain ⟨Zp, Zq, hA0, hV, rfl, hfz, hnd⟩ := hW
  have hA : DataW.TrodAll enc Tryz.prog W 0 (fun _ => true) true Tryz.f4.params.toList args.toList ds Zp := hA0
  rw [Tryz.params4] at hA hval
  obtain ⟨Zv0, Zvs0, Zd0, Zds0, Zp0, Zq0, hargs, rfl, rfl, Zh0, Zr0⟩ := trodAll_cons hA
  obtain ⟨Zv1, Zvs1, Zd1, Zds1, Zp1, Zq1, rfl, rfl, rfl, Zh1, Zr1⟩ := trodAll_cons Zr0
  obtain ⟨Zv2, Zvs2, Zd2, Zds2, Zp2, Zq2, rfl, rfl, rfl, Zh2, Zr2⟩ := trodAll_cons Zr1
  obtain ⟨rfl, rfl, rfl⟩ := trodAll_nil Zr2
  obtain rfl : args = #[Zv0, Zv1, Zv2] := by cases args; simp_all
  obtain ⟨rfl, rfl⟩ := trodVars_none hV
  have Zk0 := Zh0
  have Zlt0 : ∀ x ∈ Zp0, x.block < W.heap.size := by obtain ⟨m, hm⟩ := Zk0; exact DataW.trod_lt m _ _ _ hm
  obtain ⟨fuel0, hf0⟩ := Zh0
  obtain ⟨ao0, len0, cap0, rfl⟩ := okWide_slice Tryz.underlying61 (hval 0 61 Zv0 rfl rfl)
  obtain ⟨κ0, x0, Zu0, Zhk0, e0, Zhr0, ho0⟩ := open_cell (P := Tryz.prog) 4 61 _ _ _ (by kernel_rfl) hf0 0 (Nat.le_of_ble_eq_true (by kernel_rfl))
  obtain rfl : _ = Zu0 := by simpa [Value.cells] using e0
  have hz_l : Tryz.prog.cellsOf 96 = 7 := by kernel_rfl
  obtain ⟨n_l, c_l, Ze0, m_l, f_l⟩ := open_sl (by kernel_rfl) ⟨κ0, Zhk0, ho0⟩
  rw [hz_l] at Ze0
  subst Ze0
  have hp0 : numsP 7 n_l c_l := by
    have := nums_of (P := Tryz.prog) (by kernel_rfl) f_l
    rwa [hz_l] at this
  have Zk1 := Zh1
  have Zlt1 : ∀ x ∈ Zp1, x.block < W.heap.size := by obtain ⟨m, hm⟩ := Zk1; exact DataW.trod_lt m _ _ _ hm
  obtain ⟨Zcs1, rfl, Zhs1⟩ := WideShapes.okWide_struct Tryz.underlying25 (hval 1 25 _ rfl rfl)
  obtain ⟨Zl1, hl1, Zhr1, Zhk1⟩ := open_agg (d := 4) (t := 25) (P := Tryz.prog) (by kernel_rfl) (Zhs1.trans (by kernel_rfl)) Zh1
  have Zhn1 : Tryz.prog.cellsOf 25 = 2 := by kernel_rfl
  rw [Zhn1] at hl1 Zhk1
  obtain ⟨x1_0, x1_1, rfl⟩ : ∃ x1_0 x1_1, Zl1 = [x1_0, x1_1] := by
    match Zl1, hl1 with
    | [x1_0, x1_1], _ => exact ⟨x1_0, x1_1, rfl⟩
  obtain ⟨f, e1_0, z_f, y_f⟩ := open_i64 (by kernel_rfl) (Zhk1 0 (by decide))
  have E1_0 : x1_0 = .v (.int .i64 f) := e1_0
  subst E1_0
  obtain ⟨n_v, c_v, e1_1, m_v, f_v⟩ := open_sl (by kernel_rfl) (Zhk1 1 (by decide))
  have hz_v : Tryz.prog.cellsOf 3 = 1 := by kernel_rfl
  have E1_1 : x1_1 = .sl 1 n_v c_v := e1_1.trans (congrArg (fun z => CV.sl z n_v c_v) hz_v)
  subst E1_1
  have hp1 : numsP 1 n_v c_v := by
    have := nums_of (P := Tryz.prog) (by kernel_rfl) f_v
    rwa [hz_v] at this
  obtain ⟨tx, rfl, rfl, rfl, Zw2⟩ := ChangeMaps.open_string Tryz.underlying9 (hval 2 9 Zv2 rfl rfl) Zh2
  clear hA0 hval0
  have hle : LeA [.t (.c (.sl 7 n_l c_l)), .t (.a [.v (.int .i64 f), .sl 1 n_v c_v]), .t (.c (.v (.string tx)))] [.t (.c (.sl 7 ((listC n_l mkHit c_l).length) (hitsC (listC n_l mkHit c_l)))), .t (.a [.v (.int .i64 f), .sl 1 ((listC n_v mkInt c_v).length) (intsC (listC n_v mkInt c_v))]), .t (.c (.v (.string tx)))] := (LeA_cons (leT_c ((leL_FHit hp0))) (LeA_cons (leT_a (LeCs.cons (LeC1.refl _) (LeCs.cons ((leL_int hp1)) LeCs.nil))) (LeA_cons (LeD.refl _) LeA_nil)))
  refine (law_law06_FlashStrings (listC n_l mkHit c_l) f (listC n_v mkInt c_v) tx ⟨rgh_of f_l, ⟨z_f, y_f⟩, rgi_of f_v⟩ W (fun _ => True) _ (gd_of hsh hL) (hle W _ [_, .agg Zcs1, .string tx] ⟨Zhr0, ⟨⟨Zcs1.toList, by simp, Zhr1⟩, ⟨⟨rfl, rfl⟩, trivial⟩⟩⟩)).mono fun e W' ⟨he, bel⟩ => ?_
  subst he
  exact ⟨_, rfl, _, _, _, [], _, [], hW', trodAll_mk1 (shut_bool Tryz.underlying4 _), (trodAll_cons_mk (Below.trod laidOut (by kernel_rfl) (of_decide_eq_true (by kernel_rfl)) Zk0 bel Zlt0) (trodAll_cons_mk (Below.trod laidOut (by kernel_rfl) (of_decide_eq_true (by kernel_rfl)) Zk1 bel Zlt1) (trodAll_cons_mk (ChangeMaps.shut_string Tryz.underlying9 Zw2) trodAll_mk0))), rfl, bel.frame _, fun h => by cases h⟩

theorem over : Rows.flashStringsRow.holds Tryz.pinned (OpenSpec.ofChange Rows.flashStringsSpec) :=
  OpenClaim.holds_of_wide 4 Tryz.f4 rfl rfl rfl rfl rfl rfl rfl ⟨rfl, rfl, rfl, rfl, rfl⟩ rfl rfl rfl rfl rfl (by kernel_rfl) Tryz.func4 (by kernel_rfl)
    (of_decide_eq_true (by kernel_rfl)) (by unfold Func.isWrapper; first | (rw [if_pos (by decide +kernel)]; kernel_rfl) | (rw [if_neg (by decide +kernel)]; exact ⟨rfl, rfl⟩))
    (fun os started H enc _ => lifted os started H enc)

/-- the statement: the row's, tied to the program's text. -/
theorem proved : Rows.FlashStringsCardSaid :=
  Claim7.holds_tied_plain_at .later [] [.data, .data, .data, .data, .sentinel, .sentinel, .pinned] true (true, "e4e691266bf63897ff9315b722b2201f5f599cf1d5cfd14ce1b54e52917e5072") true
    over (fun _ h => by cases h) (by kernel_rfl) (fun _ h => by cases h) flashStrings_row_tie rfl ⟨rfl, rfl⟩ (by kernel_rfl) rfl
    (fun f fn hf hfn => by
      obtain rfl : f = 4 := Option.some.inj ((show Tryz.prog.funcNamed "cherenkov/cherenkovlaw06.FlashStrings" = some 4 by kernel_rfl).symm.trans hf) |>.symm
      obtain rfl : fn = Tryz.f4 := (Option.some.inj (Tryz.func4.symm.trans hfn)).symm
      exact ⟨by kernel_rfl, fun j t ht => by
        rw [Tryz.params4] at ht
        have hm : t ∈ [61, 25, 9] := by simpa using Array.mem_of_getElem? ht
        have hall : ([61, 25, 9].all fun u => !Tryz.prog.wantsStandIn u) = true := by kernel_rfl
        exact (show Tryz.prog.wantsStandIn t = false by simpa using List.all_eq_true.1 hall t hm)⟩)
    (by kernel_rfl)
end Go.Proofs.YtdkpgodakmailaaGreatDoor.flashStringsDone
