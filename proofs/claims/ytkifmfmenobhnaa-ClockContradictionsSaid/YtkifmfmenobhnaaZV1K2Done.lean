/- The law ClockContradictions of chapter 1 returns true for every input, and its arguments read afterwards as before. No condition. -/
import Derived.Test.YtkifmfmenobhnaaCC14
namespace Go.Proofs.Ytkifmfmenobhnaa.clockContradictionsDone
open Go.ChangeShapes Go.WideShapes Go.ChangeAt Go.RowKit Ev
set_option linter.unusedVariables false

theorem own : ownKnob Try.prog.godebug = none := by kernel_rfl
theorem laidOut : laidOutB Try.prog = true := by kernel_rfl

set_option maxRecDepth 100000 in
theorem lifted (os : Os) (started : os.Started) (H : Type) (enc : TypeId × Value → H) :
    ReturnsInHanded {} Try.checked os 13 .any (Rows.clockContradictionsSpec.pre6 enc Try.prog Try.f13 Rows.clockContradictionsRow.domain false) (Rows.clockContradictionsSpec.post enc Try.prog Try.f13 false true false false) := by
  refine returnsInHanded_of_change (C := Try.checked) own started (by kernel_rfl) Try.func13
    (ChangeSpec.witness6 (enc := enc) (C := Try.checked) false ⟨#[], #[.agg #[.slice none 0 0, .slice none 0 0]], []⟩ 8 (by kernel_rfl) (by kernel_rfl) (by kernel_rfl) (by kernel_rfl)) ?_
  intro W base args ds gs before hval0 hW hcnd _
  have hval : ∀ (j : Nat) t v, Try.f13.params[j]? = some t → args[j]? = some v → Value.okWide Try.prog W .any base t v := hval0
  have hW' := hW
  obtain ⟨Zp, Zq, hA0, hV, rfl, hfz, hnd⟩ := hW
  have hA : DataW.TrodAll enc Try.prog W 0 (fun _ => true) true Try.f13.params.toList args.toList ds Zp := hA0
  rw [Try.params13] at hA hval
  obtain ⟨Zv0, Zvs0, Zd0, Zds0, Zp0, Zq0, hargs, rfl, rfl, Zh0, Zr0⟩ := trodAll_cons hA
  obtain ⟨rfl, rfl, rfl⟩ := trodAll_nil Zr0
  obtain rfl : args = #[Zv0] := by cases args; simp_all
  obtain ⟨rfl, rfl⟩ := trodVars_none hV
  have Zk0 := Zh0
  have Zlt0 : ∀ x ∈ Zp0, x.block < W.heap.size := by obtain ⟨m, hm⟩ := Zk0; exact DataW.trod_lt m _ _ _ hm
  obtain ⟨Zcs0, rfl, Zhs0⟩ := WideShapes.okWide_struct Try.underlying55 (hval 0 55 _ rfl rfl)
  obtain ⟨Zl0, hl0, Zhr0, Zhk0⟩ := open_agg (d := 4) (t := 55) (P := Try.prog) (by kernel_rfl) (Zhs0.trans (by kernel_rfl)) Zh0
  have Zhn0 : Try.prog.cellsOf 55 = 2 := by kernel_rfl
  rw [Zhn0] at hl0 Zhk0
  obtain ⟨x0_0, x0_1, rfl⟩ : ∃ x0_0 x0_1, Zl0 = [x0_0, x0_1] := by
    match Zl0, hl0 with
    | [x0_0, x0_1], _ => exact ⟨x0_0, x0_1, rfl⟩
  obtain ⟨n_cs, c_cs, e0_0, m_cs, f_cs⟩ := open_sl (by kernel_rfl) (Zhk0 0 (by decide))
  have hz_cs : Try.prog.cellsOf 9 = 1 := by kernel_rfl
  have E0_0 : x0_0 = .sl 1 n_cs c_cs := e0_0.trans (congrArg (fun z => CV.sl z n_cs c_cs) hz_cs)
  subst E0_0
  obtain ⟨n_ls, c_ls, e0_1, m_ls, f_ls⟩ := open_sl (by kernel_rfl) (Zhk0 1 (by decide))
  have hz_ls : Try.prog.cellsOf 125 = 4 := by kernel_rfl
  have E0_1 : x0_1 = .sl 4 n_ls c_ls := e0_1.trans (congrArg (fun z => CV.sl z n_ls c_ls) hz_ls)
  subst E0_1
  have hp0 : txP n_cs c_cs := txP_of (P := Try.prog) (by kernel_rfl) hz_cs f_cs
  have hp1 : numsP 4 n_ls c_ls := by
    have := nums_of (P := Try.prog) (by kernel_rfl) f_ls
    rwa [hz_ls] at this
  clear hA0 hval0
  have hle : LeA [.t (.a [.sl 1 n_cs c_cs, .sl 4 n_ls c_ls])] [.t (.a [.sl 1 ((txOf n_cs c_cs).length) (txsC (txOf n_cs c_cs)), .sl 4 ((listC n_ls mkLnk c_ls).length) (lnksC (listC n_ls mkLnk c_ls))])] := (LeA_cons (leT_a (LeCs.cons ((leL_str hp0)) (LeCs.cons ((leL_Lnk hp1)) LeCs.nil))) LeA_nil)
  refine (law_law01_ClockContradictions (txOf n_cs c_cs) (listC n_ls mkLnk c_ls) W (fun _ => True) _ (hle W _ [.agg Zcs0] ⟨⟨Zcs0.toList, by simp, Zhr0⟩, trivial⟩)).mono fun e W' ⟨he, bel⟩ => ?_
  subst he
  exact ⟨_, rfl, _, _, _, [], _, [], hW', trodAll_mk1 (shut_bool Try.underlying4 _), (trodAll_cons_mk (Below.trod laidOut (by kernel_rfl) (of_decide_eq_true (by kernel_rfl)) Zk0 bel Zlt0) trodAll_mk0), rfl, bel.frame _, fun h => by cases h⟩

theorem over : Rows.clockContradictionsRow.holds Try.pinned (OpenSpec.ofChange Rows.clockContradictionsSpec) :=
  OpenClaim.holds_of_wide 13 Try.f13 rfl rfl rfl rfl rfl rfl rfl ⟨rfl, rfl, rfl, rfl, rfl⟩ rfl rfl rfl rfl rfl (by kernel_rfl) Try.func13 (by kernel_rfl)
    (of_decide_eq_true (by kernel_rfl)) (by unfold Func.isWrapper; first | (rw [if_pos (by decide +kernel)]; kernel_rfl) | (rw [if_neg (by decide +kernel)]; exact ⟨rfl, rfl⟩))
    (fun os started H enc _ => lifted os started H enc)

/-- the statement. -/
theorem proved : Rows.ClockContradictionsSaid := over
end Go.Proofs.Ytkifmfmenobhnaa.clockContradictionsDone
