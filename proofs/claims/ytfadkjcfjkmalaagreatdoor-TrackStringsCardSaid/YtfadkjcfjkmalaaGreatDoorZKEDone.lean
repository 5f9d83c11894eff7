/- The law TrackStrings of chapter 5 returns true for every input, and its arguments read afterwards as before. No condition but that the listed tables and errors of the library hold what the program lays. -/
import Derived.SevenTiedAt
import Derived.Test.YtfadkjcfjkmalaaGreatDoorTie
import Derived.Test.YtfadkjcfjkmalaaGreatDoorCards
import Derived.Test.YtfadkjcfjkmalaaGreatDoorKE1
import Derived.ChangeMaps5
import Derived.ShutString
import Derived.Test.YtfadkjcfjkmalaaGreatDoorKE13
namespace Go.Proofs.YtfadkjcfjkmalaaGreatDoor.trackStringsDone
open Go.ChangeShapes Go.WideShapes Go.ChangeAt Go.RowKit Ev
set_option linter.unusedVariables false

theorem own : ownKnob Tryz.prog.godebug = none := by kernel_rfl
theorem laidOut : laidOutB Tryz.prog = true := by kernel_rfl

set_option maxRecDepth 100000 in
theorem lifted (os : Os) (started : os.Started) (H : Type) (enc : TypeId × Value → H) :
    ReturnsInHanded {} Tryz.checked os 3 .any (fun w args => (Rows.trackStringsSpec.pre enc Tryz.prog Tryz.f3 [] false w args ∧ laidMetH Tryz.prog laidL w) ∧ sizedMet enc Tryz.prog Tryz.f3 (OpenSpec.ofChange Rows.trackStringsSpec) false w args) (Rows.trackStringsSpec.post enc Tryz.prog Tryz.f3 false true false false) := by
  refine change_and_shaped (C := Tryz.checked) (X := fun w _ => laidMetH Tryz.prog laidL w) (fun _ _ _ hh h => h.of_heap hh) own started (by kernel_rfl) Tryz.func3
    (ChangeSpec.witness_shaped (enc := enc) (C := Tryz.checked) (os := os) (X := fun w _ => laidMetH Tryz.prog laidL w) false (World.laidAll Tryz.prog os laidL) #[.slice none 0 0, .agg #[.int .i64 0, .int .i64 0, .int .i64 0, .int .i64 0, .int .i64 0, .int .i64 0], .string ⟨#[]⟩] 8 (World.laidAll_os _ _ _) (World.shaped_of_ZipB (by kernel_rfl) (by kernel_rfl)) (by kernel_rfl) (by kernel_rfl) (by kernel_rfl) (laid_met os _)) ?_
  intro W base args ds gs before hval0 hW hcnd _ hL0 _
  obtain ⟨hsh, hL⟩ := hL0
  have hval : ∀ (j : Nat) t v, Tryz.f3.params[j]? = some t → args[j]? = some v → Value.okWide Tryz.prog W .any base t v := hval0
  have hW' := hW
  obtain ⟨Zp, Zq, hA0, hV, rfl, hfz, hnd⟩ := hW
  have hA : DataW.TrodAll enc Tryz.prog W 0 (fun _ => true) true Tryz.f3.params.toList args.toList ds Zp := hA0
  rw [Tryz.params3] at hA hval
  obtain ⟨Zv0, Zvs0, Zd0, Zds0, Zp0, Zq0, hargs, rfl, rfl, Zh0, Zr0⟩ := trodAll_cons hA
  obtain ⟨Zv1, Zvs1, Zd1, Zds1, Zp1, Zq1, rfl, rfl, rfl, Zh1, Zr1⟩ := trodAll_cons Zr0
  obtain ⟨Zv2, Zvs2, Zd2, Zds2, Zp2, Zq2, rfl, rfl, rfl, Zh2, Zr2⟩ := trodAll_cons Zr1
  obtain ⟨rfl, rfl, rfl⟩ := trodAll_nil Zr2
  obtain rfl : args = #[Zv0, Zv1, Zv2] := by cases args; simp_all
  obtain ⟨rfl, rfl⟩ := trodVars_none hV
  have Zk0 := Zh0
  have Zlt0 : ∀ x ∈ Zp0, x.block < W.heap.size := by obtain ⟨m, hm⟩ := Zk0; exact DataW.trod_lt m _ _ _ hm
  obtain ⟨fuel0, hf0⟩ := Zh0
  obtain ⟨ao0, len0, cap0, rfl⟩ := okWide_slice Tryz.underlying22 (hval 0 22 Zv0 rfl rfl)
  obtain ⟨κ0, x0, Zu0, Zhk0, e0, Zhr0, ho0⟩ := open_cell (P := Tryz.prog) 4 22 _ _ _ (by kernel_rfl) hf0 0 (Nat.le_of_ble_eq_true (by kernel_rfl))
  obtain rfl : _ = Zu0 := by simpa [Value.cells] using e0
  have hz_l : Tryz.prog.cellsOf 57 = 5 := by kernel_rfl
  obtain ⟨n_l, c_l, Ze0, m_l, f_l⟩ := open_sl (by kernel_rfl) ⟨κ0, Zhk0, ho0⟩
  rw [hz_l] at Ze0
  subst Ze0
  have hp0 : numsP 5 n_l c_l := by
    have := nums_of (P := Tryz.prog) (by kernel_rfl) f_l
    rwa [hz_l] at this
  have Zk1 := Zh1
  have Zlt1 : ∀ x ∈ Zp1, x.block < W.heap.size := by obtain ⟨m, hm⟩ := Zk1; exact DataW.trod_lt m _ _ _ hm
  obtain ⟨Zcs1, rfl, Zhs1⟩ := WideShapes.okWide_struct Tryz.underlying25 (hval 1 25 _ rfl rfl)
  obtain ⟨Zl1, hl1, Zhr1, Zhk1⟩ := open_agg (d := 4) (t := 25) (P := Tryz.prog) (by kernel_rfl) (Zhs1.trans (by kernel_rfl)) Zh1
  have Zhn1 : Tryz.prog.cellsOf 25 = 6 := by kernel_rfl
  rw [Zhn1] at hl1 Zhk1
  obtain ⟨x1_0, x1_1, x1_2, x1_3, x1_4, x1_5, rfl⟩ : ∃ x1_0 x1_1 x1_2 x1_3 x1_4 x1_5, Zl1 = [x1_0, x1_1, x1_2, x1_3, x1_4, x1_5] := by
    match Zl1, hl1 with
    | [x1_0, x1_1, x1_2, x1_3, x1_4, x1_5], _ => exact ⟨x1_0, x1_1, x1_2, x1_3, x1_4, x1_5, rfl⟩
  obtain ⟨b0, e1_0, z_b0, y_b0⟩ := open_i64 (by kernel_rfl) (Zhk1 0 (by decide))
  have E1_0 : x1_0 = .v (.int .i64 b0) := e1_0
  subst E1_0
  obtain ⟨b1, e1_1, z_b1, y_b1⟩ := open_i64 (by kernel_rfl) (Zhk1 1 (by decide))
  have E1_1 : x1_1 = .v (.int .i64 b1) := e1_1
  subst E1_1
  obtain ⟨b2, e1_2, z_b2, y_b2⟩ := open_i64 (by kernel_rfl) (Zhk1 2 (by decide))
  have E1_2 : x1_2 = .v (.int .i64 b2) := e1_2
  subst E1_2
  obtain ⟨b3, e1_3, z_b3, y_b3⟩ := open_i64 (by kernel_rfl) (Zhk1 3 (by decide))
  have E1_3 : x1_3 = .v (.int .i64 b3) := e1_3
  subst E1_3
  obtain ⟨b4, e1_4, z_b4, y_b4⟩ := open_i64 (by kernel_rfl) (Zhk1 4 (by decide))
  have E1_4 : x1_4 = .v (.int .i64 b4) := e1_4
  subst E1_4
  obtain ⟨b5, e1_5, z_b5, y_b5⟩ := open_i64 (by kernel_rfl) (Zhk1 5 (by decide))
  have E1_5 : x1_5 = .v (.int .i64 b5) := e1_5
  subst E1_5
  obtain ⟨tx, rfl, rfl, rfl, Zw2⟩ := ChangeMaps.open_string Tryz.underlying9 (hval 2 9 Zv2 rfl rfl) Zh2
  clear hA0 hval0
  have hle : LeA [.t (.c (.sl 5 n_l c_l)), .t (.a [.v (.int .i64 b0), .v (.int .i64 b1), .v (.int .i64 b2), .v (.int .i64 b3), .v (.int .i64 b4), .v (.int .i64 b5)]), .t (.c (.v (.string tx)))] [.t (.c (.sl 5 ((listC n_l mkHit c_l).length) (hitsC (listC n_l mkHit c_l)))), .t (.a [.v (.int .i64 b0), .v (.int .i64 b1), .v (.int .i64 b2), .v (.int .i64 b3), .v (.int .i64 b4), .v (.int .i64 b5)]), .t (.c (.v (.string tx)))] := (LeA_cons (leT_c ((leL_THit hp0))) (LeA_cons (LeD.refl _) (LeA_cons (LeD.refl _) LeA_nil)))
  refine (law_law05_TrackStrings (listC n_l mkHit c_l) b0 b1 b2 b3 b4 b5 tx ⟨rgh_of f_l, ⟨z_b0, y_b0⟩, ⟨z_b1, y_b1⟩, ⟨z_b2, y_b2⟩, ⟨z_b3, y_b3⟩, ⟨z_b4, y_b4⟩, ⟨z_b5, y_b5⟩⟩ W (fun _ => True) _ (gd_of hsh hL) (hle W _ [_, .agg Zcs1, .string tx] ⟨Zhr0, ⟨⟨Zcs1.toList, by simp, Zhr1⟩, ⟨⟨rfl, rfl⟩, trivial⟩⟩⟩)).mono fun e W' ⟨he, bel⟩ => ?_
  subst he
  exact ⟨_, rfl, _, _, _, [], _, [], hW', trodAll_mk1 (shut_bool Tryz.underlying4 _), (trodAll_cons_mk (Below.trod laidOut (by kernel_rfl) (of_decide_eq_true (by kernel_rfl)) Zk0 bel Zlt0) (trodAll_cons_mk (Below.trod laidOut (by kernel_rfl) (of_decide_eq_true (by kernel_rfl)) Zk1 bel Zlt1) (trodAll_cons_mk (ChangeMaps.shut_string Tryz.underlying9 Zw2) trodAll_mk0))), rfl, bel.frame _, fun h => by cases h⟩

theorem over : Rows.trackStringsRow.holds Tryz.pinned (OpenSpec.ofChange Rows.trackStringsSpec) :=
  OpenClaim.holds_of_wide 3 Tryz.f3 rfl rfl rfl rfl rfl rfl rfl ⟨rfl, rfl, rfl, rfl, rfl⟩ rfl rfl rfl rfl rfl (by kernel_rfl) Tryz.func3 (by kernel_rfl)
    (of_decide_eq_true (by kernel_rfl)) (by unfold Func.isWrapper; first | (rw [if_pos (by decide +kernel)]; kernel_rfl) | (rw [if_neg (by decide +kernel)]; exact ⟨rfl, rfl⟩))
    (fun os started H enc _ => lifted os started H enc)

/-- the statement: the row's, tied to the program's text. -/
theorem proved : Rows.TrackStringsCardSaid :=
  Claim7.holds_tied_plain_at .later [] [.data, .data, .data, .data, .sentinel, .sentinel, .pinned] true (true, "845d207d4c798e464ab3e2ebc559d3b2fcdede8f68ff40eef2499717d5610c1a") true
    over (fun _ h => by cases h) (by kernel_rfl) (fun _ h => by cases h) trackStrings_row_tie rfl ⟨rfl, rfl⟩ (by kernel_rfl) rfl
    (fun f fn hf hfn => by
      obtain rfl : f = 3 := Option.some.inj ((show Tryz.prog.funcNamed "cherenkov/cherenkovlaw05.TrackStrings" = some 3 by kernel_rfl).symm.trans hf) |>.symm
      obtain rfl : fn = Tryz.f3 := (Option.some.inj (Tryz.func3.symm.trans hfn)).symm
      exact ⟨by kernel_rfl, fun j t ht => by
        rw [Tryz.params3] at ht
        have hm : t ∈ [22, 25, 9] := by simpa using Array.mem_of_getElem? ht
        have hall : ([22, 25, 9].all fun u => !Tryz.prog.wantsStandIn u) = true := by kernel_rfl
        exact (show Tryz.prog.wantsStandIn t = false by simpa using List.all_eq_true.1 hall t hm)⟩)
    (by kernel_rfl)
end Go.Proofs.YtfadkjcfjkmalaaGreatDoor.trackStringsDone
