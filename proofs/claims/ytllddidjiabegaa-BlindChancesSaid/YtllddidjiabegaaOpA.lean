/- Arguments opened: arrays and structs of numbers. -/
import Derived.Test.YtllddidjiabegaaOp
set_option linter.unusedVariables false
set_option linter.unusedSimpArgs false
namespace Go.Proofs.Ytllddidjiabegaa
open Go.RowKit
section
variable {H : Type} {enc : TypeId × Value → H} {P : Program} {w : World} {base : Nat} {spare : Nat → Bool} {held : Bool}

theorem okWide_array {r : Reach} {b0 n : Nat} {t e : TypeId} {v : Value} (ht : P.underlying t = some (.array n e)) (h : Value.okWide P w r b0 t v) : ∃ cs, v = .agg cs ∧ cs.size = P.cellsOf t := by
  simp only [Value.okWide, ht] at h
  obtain ⟨cs, h1, h2, _⟩ := h
  exact ⟨cs, h1, h2⟩

theorem ints_of_array {t e : TypeId} {n fuel : Nat} {cs : List Value} {x : DataW H × List MemPlace} (ht : P.underlying t = some (.array n e)) (he : P.underlying e = some (.int .i64)) (hc : P.cellsOf e = 1) (hn : P.cellsOf t = n) (h : DataW.trod enc P w base spare held fuel t cs = some x) :
    ∃ ns : List Int, ns.length = n ∧ cs = ns.map (Value.int .i64) ∧ ∀ i, i < n → (Lit.int .i64 (ns.getD i 0)).wf = true := by
  obtain ⟨xs, m, _, _, hl, hxs, hf⟩ := DataW.trod_array ht h
  have each : ∀ i, i < n → ∃ k : Int, cs[i]? = some (.int .i64 k) ∧ (Lit.int .i64 k).wf = true := by
    intro i hi
    have h5 := hf i hi
    have e2 : xs[i]? = some xs[i] := by simp [hxs, hi]
    rw [hc, e2, Nat.mul_one] at h5
    obtain ⟨k, hk, _, hw⟩ := DataW.trod_int he h5
    refine ⟨k, ?_, hw⟩
    have h6 := congrArg (fun l => l[0]?) hk
    simpa using h6
  obtain ⟨ns, h1, h2⟩ := list_of (0 : Int) n each
  refine ⟨ns, h1, List.ext_getElem? fun i => ?_, fun i hi => (h2 i hi).2⟩
  by_cases hi : i < n
  · rw [(h2 i hi).1]; simp [List.getD, h1, hi]
  · rw [List.getElem?_eq_none (by rw [hl, hn]; omega), List.getElem?_eq_none (by simp [h1]; omega)]

theorem arr2_of_trod {r : Reach} {b0 : Nat} {t e : TypeId} {v : Value} {d : DataW H} {ps : List MemPlace} (ht : P.underlying t = some (.array 2 e)) (he : P.underlying e = some (.int .i64)) (hc : P.cellsOf e = 1) (hn : P.cellsOf t = 2) (hv : Value.okWide P w r b0 t v) (h : DataW.Trod enc P w base spare held t v d ps) :
    ∃ a b : Int, v = .agg #[.int .i64 a, .int .i64 b] ∧ (Lit.int .i64 a).wf = true ∧ (Lit.int .i64 b).wf = true := by
  obtain ⟨cs, rfl, hs⟩ := okWide_array ht hv
  obtain ⟨fuel, hf⟩ := h
  obtain ⟨ns, h1, h2, h3⟩ := ints_of_array ht he hc hn hf
  match ns, h1 with
  | [a, b], _ =>
    refine ⟨a, b, ?_, h3 0 (by omega), h3 1 (by omega)⟩
    have : cs = #[.int .i64 a, .int .i64 b] := by
      apply Array.ext'
      simpa [Value.cells] using h2
    rw [this]
/-- a struct of numbers, by value. -/
theorem struct_ints {r : Reach} {b0 : Nat} {t : TypeId} {fs : Array Field} {v : Value} {d : DataW H} {ps : List MemPlace} (ht : P.underlying t = some (.struct fs)) (hB : intsB' P t fs = true) (hv : Value.okWide P w r b0 t v) (h : DataW.Trod enc P w base spare held t v d ps) :
    ∃ ns : List Int, ns.length = fs.size ∧ v = .agg (ns.map (Value.int .i64)).toArray ∧ ∀ i, i < fs.size → (Lit.int .i64 (ns.getD i 0)).wf = true := by
  obtain ⟨cs, rfl, hs⟩ := WideShapes.okWide_struct ht hv
  obtain ⟨fuel, hf⟩ := h
  obtain ⟨xs, m', _, _, hl, hxs, hff⟩ := DataW.trod_struct ht hf
  have hB' := hB
  simp only [intsB', Bool.and_eq_true, beq_iff_eq] at hB
  have each : ∀ i, i < fs.size → ∃ n : Int, (Value.agg cs).cells.toList[i]? = some (.int .i64 n) ∧ (Lit.int .i64 n).wf = true := by
    intro i hi
    have h1 := List.all_eq_true.1 hB.2 i (List.mem_range.2 hi)
    have e : fs[i]? = some fs[i] := by simp [hi]
    rw [e] at h1
    simp only [Bool.and_eq_true, beq_iff_eq] at h1
    obtain ⟨⟨h2, h3⟩, h4⟩ := h1
    have h5 := hff i _ e
    have e2 : xs[i]? = some xs[i] := by simp [hxs, hi]
    rw [h2, h3, e2] at h5
    cases e3 : P.underlying fs[i].type with
    | none => rw [e3] at h4; cases h4
    | some d =>
      rw [e3] at h4
      split at h4
      · rename_i _ e4
        cases e4
        obtain ⟨n, hn, _, hw⟩ := DataW.trod_int e3 h5
        refine ⟨n, ?_, hw⟩
        have h6 := congrArg (fun l => l[0]?) hn
        simpa using h6
      · cases h4
  obtain ⟨ns, h1, h2⟩ := list_of (0 : Int) fs.size each
  refine ⟨ns, h1, ?_, fun i hi => (h2 i hi).2⟩
  have : cs = (ns.map (Value.int .i64)).toArray := by
    apply Array.ext'
    apply List.ext_getElem?
    intro i
    by_cases hi : i < fs.size
    · have := (h2 i hi).1
      simp only [Value.cells] at this
      rw [this]; simp [List.getD, h1, hi]
    · rw [List.getElem?_eq_none (by simp; rw [hs, hB.1]; omega), List.getElem?_eq_none (by simp [h1]; omega)]
  rw [this]
theorem agg2_of_trod {r : Reach} {b0 : Nat} {t : TypeId} {fs : Array Field} {v : Value} {d : DataW H} {ps : List MemPlace} (ht : P.underlying t = some (.struct fs)) (hB : intsB' P t fs = true) (hn : fs.size = 2) (hv : Value.okWide P w r b0 t v) (h : DataW.Trod enc P w base spare held t v d ps) :
    ∃ a b : Int, v = .agg #[.int .i64 a, .int .i64 b] ∧ (Lit.int .i64 a).wf = true ∧ (Lit.int .i64 b).wf = true := by
  obtain ⟨ns, h1, h2, h3⟩ := struct_ints ht hB hv h
  rw [hn] at h1 h3
  match ns, h1 with
  | [a, b], _ => exact ⟨a, b, h2, h3 0 (by omega), h3 1 (by omega)⟩
theorem agg4_of_trod {r : Reach} {b0 : Nat} {t : TypeId} {fs : Array Field} {v : Value} {d : DataW H} {ps : List MemPlace} (ht : P.underlying t = some (.struct fs)) (hB : intsB' P t fs = true) (hn : fs.size = 4) (hv : Value.okWide P w r b0 t v) (h : DataW.Trod enc P w base spare held t v d ps) :
    ∃ a b c e : Int, v = .agg #[.int .i64 a, .int .i64 b, .int .i64 c, .int .i64 e] ∧ (Lit.int .i64 a).wf = true ∧ (Lit.int .i64 b).wf = true ∧ (Lit.int .i64 c).wf = true ∧ (Lit.int .i64 e).wf = true := by
  obtain ⟨ns, h1, h2, h3⟩ := struct_ints ht hB hv h
  rw [hn] at h1 h3
  match ns, h1 with
  | [a, b, c, e], _ => exact ⟨a, b, c, e, h2, h3 0 (by omega), h3 1 (by omega), h3 2 (by omega), h3 3 (by omega)⟩
end
end Go.Proofs.Ytllddidjiabegaa
