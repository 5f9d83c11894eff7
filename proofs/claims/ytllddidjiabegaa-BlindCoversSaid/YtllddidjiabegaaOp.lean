/- Arguments opened: what reads as data, as rows of cells. -/
import Derived.Test.YtllddidjiabegaaBM3
import Derived.ProofKit
import Derived.OpenShut
import Derived.ShutString
import Derived.ChangeOld
import Derived.Below
import Derived.Lib.SmallJoins
set_option linter.unusedVariables false
set_option linter.unusedSimpArgs false
namespace Go.Proofs.Ytllddidjiabegaa
open Go.RowKit
section
variable {H : Type} {enc : TypeId × Value → H} {P : Program} {w : World} {base : Nat} {spare : Nat → Bool} {held : Bool}

theorem cell_lt {w : World} {a : Addr} {v : Value} (h : w.cell? a = some v) : a.block < w.heap.size := by
  unfold World.cell? at h
  cases e : w.heap[a.block]? with
  | none => simp [e] at h
  | some o => exact (Array.getElem?_eq_some_iff.1 e).1

theorem list_of {α : Type} (d : α) : ∀ (n : Nat) {R : Nat → α → Prop}, (∀ i, i < n → ∃ x, R i x) → ∃ l : List α, l.length = n ∧ ∀ i, i < n → R i (l.getD i d) := by
  intro n
  induction n with
  | zero => intro R _; exact ⟨[], rfl, fun i hi => absurd hi (by omega)⟩
  | succ n ih =>
    intro R h
    obtain ⟨l, hl, hr⟩ := ih (fun i hi => h i (by omega))
    obtain ⟨x, hx⟩ := h n (by omega)
    refine ⟨l ++ [x], by simp [hl], fun i hi => ?_⟩
    rcases Nat.lt_or_ge i n with h1 | h1
    · have : (l ++ [x]).getD i d = l.getD i d := by simp [List.getD, List.getElem?_append_left (show i < l.length by omega)]
      rw [this]; exact hr i h1
    · have e : i = n := by omega
      subst e
      have : (l ++ [x]).getD i d = x := by rw [← hl]; simp [List.getD]
      rw [this]; exact hx

theorem SlAt.congr {w : World} {v : Value} {n sz : Nat} {c d : Nat → Nat → Value} (h : SlAt w v n sz c) (e : ∀ i j, i < n → j < sz → c i j = d i j) : SlAt w v n sz d := by
  obtain ⟨ao, cap, rfl, h1, h2, h3, h4⟩ := h
  refine ⟨ao, cap, rfl, h1, h2, fun h0 => ?_, h4⟩
  obtain ⟨b, off, e1, hlt, hc⟩ := h3 h0
  exact ⟨b, off, e1, hlt, fun i j hi hj => by rw [hc i j hi hj, e i j hi hj]⟩

/-- a slice that reads as data: each element's cells read as data. -/
theorem slAt_of_trod {t e : TypeId} {sz fuel : Nat} {v : Value} {x : DataW H × List MemPlace} (ht : P.underlying t = some (.slice e)) (hc : P.cellsOf e = sz) (hsz : 0 < sz)
    (h : DataW.trod enc P w base spare held fuel t [v] = some x) :
    ∃ (n : Nat) (css : Nat → List Value), SlAt w v n sz (fun i j => (css i).getD j undef) ∧ ∀ i, i < n → (css i).length = sz ∧ ∃ m y, DataW.trod enc P w base spare held m e (css i) = some y := by
  rcases DataW.trod_slice ht h with ⟨h0, _⟩ | ⟨a, len, cap, elems, rest, m, _, h0, _, hb, hl, hm, hlen, hel, _, _⟩
  · obtain rfl : v = .slice none 0 0 := by simpa using h0
    exact ⟨0, fun _ => [], ⟨none, 0, rfl, by simp, by simp, fun h => absurd h (by omega), fun _ => rfl⟩, fun i hi => absurd hi (by omega)⟩
  · obtain rfl : v = .slice (some a) len cap := by simpa using h0
    have each : ∀ i, i < len → ∃ cs : List Value, w.cells? base (a.add (i * sz)) sz = some cs ∧ ∃ y, DataW.trod enc P w base spare held m e cs = some y := by
      intro i hi
      have h1 := hel i hi
      rw [hc] at h1
      have h2 : elems[i]? = some elems[i] := by simp
      rw [h2, Option.bind_eq_some_iff] at h1
      obtain ⟨cs, h3, h4⟩ := h1
      exact ⟨cs, h3, _, h4⟩
    obtain ⟨css, hcl, hcs⟩ := list_of ([] : List Value) len each
    have hcell : ∀ i j, i < len → j < sz → w.cell? ((a.add (i * sz)).add j) = some ((css.getD i []).getD j undef) := by
      intro i j hi hj
      obtain ⟨_, h2, h3⟩ := World.cells?_some (hcs i hi).1
      rw [h3 j hj]
      generalize css.getD i [] = c at h2 ⊢
      rw [List.getElem?_eq_getElem (by omega)]
      simp [List.getD, List.getElem?_eq_getElem (show j < c.length by omega)]
    refine ⟨len, fun i => css.getD i [], ⟨some a, cap, rfl, hl, hm, fun hp => ?_, fun h => by cases h⟩, fun i hi => ⟨(World.cells?_some (hcs i hi).1).2.1, m, (hcs i hi).2⟩⟩
    obtain ⟨b, off, spot⟩ := a
    have hspot : spot = none := by simpa [Addr.add] using World.cell?_spot (hcell 0 0 hp hsz)
    subst hspot
    refine ⟨b, off, rfl, by simpa [Addr.add] using cell_lt (hcell 0 0 hp hsz), fun i j hi hj => ?_⟩
    have := hcell i j hi hj
    rw [add_plain', add_plain'] at this
    exact this

theorem intAt_of_trod {t : TypeId} {k : IntKind} {fuel : Nat} {cs : List Value} {x : DataW H × List MemPlace} (ht : P.underlying t = some (.int k)) (h : DataW.trod enc P w base spare held fuel t cs = some x) : ∃ n, cs = [.int k n] ∧ (Lit.int k n).wf = true := by
  obtain ⟨n, h1, _, h2⟩ := DataW.trod_int ht h
  exact ⟨n, h1, h2⟩
/-- a struct of numbers. -/
def intsB' (P : Program) (t : TypeId) (fs : Array Field) : Bool :=
  (P.cellsOf t == fs.size) && (List.range fs.size).all fun i => match fs[i]? with
    | some f => f.offset == i && P.cellsOf f.type == 1 && (match P.underlying f.type with | some (.int .i64) => true | _ => false)
    | none => true
theorem ints_of_struct {t : TypeId} {fs : Array Field} {fuel : Nat} {cs : List Value} {x : DataW H × List MemPlace} (ht : P.underlying t = some (.struct fs)) (hB : intsB' P t fs = true) (h : DataW.trod enc P w base spare held fuel t cs = some x) :
    ∃ ns : List Int, ns.length = fs.size ∧ cs = ns.map (Value.int .i64) := by
  obtain ⟨xs, m', _, _, hl, hxs, hf⟩ := DataW.trod_struct ht h
  simp only [intsB', Bool.and_eq_true, beq_iff_eq] at hB
  have each : ∀ i, i < fs.size → ∃ n : Int, cs[i]? = some (.int .i64 n) := by
    intro i hi
    have h1 := List.all_eq_true.1 hB.2 i (List.mem_range.2 hi)
    have e : fs[i]? = some fs[i] := by simp [hi]
    rw [e] at h1
    simp only [Bool.and_eq_true, beq_iff_eq] at h1
    obtain ⟨⟨h2, h3⟩, h4⟩ := h1
    have h5 := hf i _ e
    have e2 : xs[i]? = some xs[i] := by simp [hxs, hi]
    rw [h2, h3, e2] at h5
    cases e3 : P.underlying fs[i].type with
    | none => rw [e3] at h4; cases h4
    | some d =>
      rw [e3] at h4
      split at h4
      · rename_i _ e4
        cases e4
        obtain ⟨n, hn, _⟩ := DataW.trod_int e3 h5
        refine ⟨n, ?_⟩
        have h6 := congrArg (fun l => l[0]?) hn
        simpa using h6
      · cases h4
  obtain ⟨ns, h1, h2⟩ := list_of (0 : Int) fs.size each
  refine ⟨ns, h1, List.ext_getElem? fun i => ?_⟩
  by_cases hi : i < fs.size
  · rw [h2 i hi]; simp [List.getD, h1, hi]
  · rw [List.getElem?_eq_none (by rw [hl, hB.1]; omega), List.getElem?_eq_none (by simp [h1]; omega)]
end
end Go.Proofs.Ytllddidjiabegaa
