/- Small notions that all contracts of this seat use: a range test, the first error of a list, worlds that only grow, slices that read as lists. No program in sight. -/
import Derived.Test.YtllddidjiabegaaRows
import Derived.Test.YtllddidjiabegaaM
import Derived.WalkKit
import Derived.WalkSpells
import Derived.WalkLawsBesides
import Derived.Deep.QuietTactic
import Derived.BigQuiet
import Derived.StillTailTactics
set_option linter.unusedVariables false
set_option linter.unusedSimpArgs false
namespace Go.Proofs.Ytllddidjiabegaa
open Go.RowKit

theorem hid {p : Prop} (h : p) : Hid p := h

/-- n lies from lo to hi. -/
def inB (n lo hi : Int) : Bool := decide (lo ≤ n) && decide (n ≤ hi)
theorem inB_true {n lo hi : Int} : inB n lo hi = true ↔ lo ≤ n ∧ n ≤ hi := by simp [inB]
theorem inB_false {n lo hi : Int} : inB n lo hi = false ↔ ¬ (lo ≤ n ∧ n ≤ hi) := by rw [← inB_true]; simp

/-- 0 if a condition holds, else an error. -/
def unl (b : Bool) (n : Int) : Int := if b = true then 0 else n

/-- the first number of a list that is not 0, or 0. -/
def firstNZ : List Int → Int
  | [] => 0
  | x :: l => if x = 0 then firstNZ l else x

theorem firstNZ_zero {l : List Int} : firstNZ l = 0 ↔ ∀ x ∈ l, x = 0 := by
  induction l with
  | nil => simp [firstNZ]
  | cons a l ih =>
    simp only [firstNZ]
    split
    · rename_i h; simp [ih, h]
    · rename_i h; simp [h]

theorem firstNZ_append_zero {l m : List Int} (h : ∀ x ∈ l, x = 0) : firstNZ (l ++ m) = firstNZ m := by
  induction l with
  | nil => rfl
  | cons a l ih =>
    have ha : a = 0 := h a (by simp)
    simp only [List.cons_append, firstNZ, ha, if_true]
    exact ih fun x hx => h x (by simp [hx])

/-- What a call that leaves old memory alone gives of old cells. -/
theorem bcell {W w1 : World} (hb : Below W.heap.size W w1) : (∀ b o, b < W.heap.size → w1.cell? ⟨b, o, none⟩ = W.cell? ⟨b, o, none⟩) ∧ (∀ b o, b < W.heap.size → w1.frozen? ⟨b, o, none⟩ = W.frozen? ⟨b, o, none⟩) :=
  ⟨fun b o h => hb.cell (p := ⟨b, o, none⟩) h, fun b o h => hb.frozen (p := ⟨b, o, none⟩) h⟩

theorem Below.drewN {B : Nat} {a w : World} (n : Nat) (h : Below B a w) : Below B a (w.drewN n) := ⟨h.os, h.tape, h.output, h.size, h.block⟩

theorem Below_call {w a w1 : World} (h : Below w.heap.size w a) (hb : Below a.heap.size a w1) : Below w.heap.size w w1 := h.trans (hb.mono h.size)

theorem Below_alloc {w w' : World} (h : Below w.heap.size w w') (o : Obj) : Below w.heap.size w (w'.alloc o) := h.alloc h.size o

/-- contracts inside a quiet walk: of a callee that leaves the world alone, and of one that draws. -/
theorem quiet_same {P : Program} {f : FuncId} {args : Array Value} {W : World} {v : Value} {C : World → Prop}
    (h : Calls P f args W fun e w' => e = .returned v ∧ W = w') (hC : C W) : Calls P f args W fun e w'' => e = .returned v ∧ C w'' :=
  h.mono fun _ _ ⟨he, hm⟩ => ⟨he, hm ▸ hC⟩
theorem quiet_draw {P : Program} {f : FuncId} {args : Array Value} {W : World} {v : Value} {C : World → Prop}
    (h : Calls P f args W fun e w' => e = .returned v ∧ ∃ k, w' = W.drewN k) (hC : ∀ k, C (W.drewN k)) : Calls P f args W fun e w'' => e = .returned v ∧ C w'' :=
  h.mono fun _ _ ⟨he, k, hk⟩ => ⟨he, hk ▸ hC k⟩
theorem quiet_eq {P : Program} {f : FuncId} {args : Array Value} {w : World} {v u : Value} {R : World → Prop}
    (h : Calls P f args w fun e w'' => e = .returned v ∧ R w'') (hu : v = u) : Calls P f args w fun e w'' => e = .returned u ∧ R w'' := by rw [← hu]; exact h

/-- A slice value v reads in w as n elements of sz cells: cell j of element i holds c i j. -/
def SlAt (w : World) (v : Value) (n sz : Nat) (c : Nat → Nat → Value) : Prop :=
  ∃ ao cap, v = .slice ao n cap ∧ n ≤ cap ∧ cap ≤ maxLen ∧
    (0 < n → ∃ b off, ao = some ⟨b, off, none⟩ ∧ b < w.heap.size ∧ ∀ i j, i < n → j < sz → w.cell? ⟨b, off + i * sz + j, none⟩ = some (c i j)) ∧ (ao = none → cap = 0)

theorem SlAt.below {w w' : World} {v : Value} {n sz : Nat} {c : Nat → Nat → Value} (h : SlAt w v n sz c) (hb : Below w.heap.size w w') : SlAt w' v n sz c := by
  obtain ⟨ao, cap, rfl, h1, h2, h3, h4⟩ := h
  refine ⟨ao, cap, rfl, h1, h2, fun h0 => ?_, h4⟩
  obtain ⟨b, off, e, hlt, hc⟩ := h3 h0
  exact ⟨b, off, e, Nat.lt_of_lt_of_le hlt hb.size, fun i j hi hj => (hb.cell (p := ⟨b, _, none⟩) hlt).trans (hc i j hi hj)⟩

/-- A slice of ints. -/
def IntsAt (w : World) (v : Value) (l : List Int) : Prop := SlAt w v l.length 1 (fun i _ => .int .i64 (l.getD i 0))

theorem IntsAt.below {w w' : World} {v : Value} {l : List Int} (h : IntsAt w v l) (hb : Below w.heap.size w w') : IntsAt w' v l := SlAt.below h hb

/-- .. opened: the value's shape, and each cell under its condition. -/
theorem IntsAt.open {w : World} {v : Value} {l : List Int} (h : IntsAt w v l) : ∃ ao cap, v = .slice ao l.length cap ∧ l.length ≤ cap ∧ cap ≤ maxLen ∧
    ∀ k, k < l.length → ∃ b off, ao = some ⟨b, off, none⟩ ∧ b < w.heap.size ∧ ∀ i, i < l.length → w.cell? ⟨b, off + i, none⟩ = some (.int .i64 (l.getD i 0)) := by
  obtain ⟨ao, cap, rfl, h1, h2, h3, _⟩ := h
  refine ⟨ao, cap, rfl, h1, h2, fun k hk => ?_⟩
  obtain ⟨b, off, e, hlt, hc⟩ := h3 (by omega)
  exact ⟨b, off, e, hlt, fun i hi => by simpa using hc i 0 hi (by omega)⟩

/-- a number of a list, 0 behind its end: simp does not look into it. -/
def nth (l : List Int) (i : Nat) : Int := l.getD i 0
theorem nth_lt {l : List Int} {i : Nat} (h : i < l.length) : nth l i = l[i] := by simp [nth, List.getD, h]
theorem take_nth {l : List Int} {k : Nat} (h : k < l.length) : l.take (k + 1) = l.take k ++ [nth l k] := by
  rw [List.take_succ_eq_append_getElem h, nth_lt h]
theorem cut_nth {l : List Int} {k : Nat} (h : k < l.length) : l = l.take k ++ nth l k :: l.drop (k + 1) := by
  rw [nth_lt h, List.getElem_cons_drop, List.take_append_drop]
theorem IntsAt.opn {w : World} {v : Value} {l : List Int} (h : IntsAt w v l) : ∃ ao cap, v = .slice ao l.length cap ∧ l.length ≤ cap ∧ cap ≤ maxLen ∧
    ∀ k, k < l.length → ∃ b off, ao = some ⟨b, off, none⟩ ∧ b < w.heap.size ∧ ∀ i, i < l.length → w.cell? ⟨b, off + i, none⟩ = some (.int .i64 (nth l i)) := h.open

theorem IntsAt.nil (w : World) : IntsAt w (.slice none 0 0) [] := ⟨none, 0, rfl, by simp, by simp, fun h => by simp at h, fun _ => rfl⟩

/-- What the call's own row holds reads as a list of ints. -/
theorem ownsRow_ints {w : World} {base : Nat} {e : TypeId} {v : Value} {l : List Int} (h : w.ownsRow base e 1 v l.length (l.map (Value.int .i64))) : IntsAt w v l := by
  obtain ⟨h1, h2⟩ := h
  rcases h2 with ⟨rfl, h0⟩ | ⟨g, cap, cur, rfl, hb, hg, hn, hm, hs, ht⟩
  · obtain rfl : l = [] := List.eq_nil_of_length_eq_zero h0
    exact IntsAt.nil w
  · refine ⟨some ⟨g, 0, none⟩, cap, rfl, hn, hm, fun h0 => ⟨g, 0, rfl, (Array.getElem?_eq_some_iff.1 hg).1, fun i j hi hj => ?_⟩, fun h => by cases h⟩
    obtain rfl : j = 0 := by omega
    rw [cell_of_row w g _ cur e (0, 0) hg]
    have hl : i < (cur.toList.take (l.length * 1)).length := by rw [ht]; simpa using hi
    have e1 : (cur.toList.take (l.length * 1))[i]? = some (.int .i64 (l.getD i 0)) := by rw [ht]; simp [hi]
    rw [List.getElem?_take] at e1
    split at e1
    · simpa using e1
    · cases e1

theorem ownsRow_below {w w' : World} {base : Nat} {e : TypeId} {size : Nat} {v : Value} {n : Nat} {xs : List Value} (h : w.ownsRow base e size v n xs) (hb : Below w.heap.size w w') : w'.ownsRow base e size v n xs := by
  refine ⟨h.1, ?_⟩
  rcases h.2 with h2 | ⟨g, cap, cur, hv, hg, hh, r⟩
  · exact Or.inl h2
  · exact Or.inr ⟨g, cap, cur, hv, hg, by rw [hb.block g (Array.getElem?_eq_some_iff.1 hh).1]; exact hh, r⟩

theorem ownsRow_base {w : World} {base base' : Nat} {e : TypeId} {size : Nat} {v : Value} {n : Nat} {xs : List Value} (h : w.ownsRow base e size v n xs) (hb : base' ≤ base) : w.ownsRow base' e size v n xs := by
  refine ⟨h.1, ?_⟩
  rcases h.2 with h2 | ⟨g, cap, cur, hv, hg, r⟩
  · exact Or.inl h2
  · exact Or.inr ⟨g, cap, cur, hv, Nat.le_trans hb hg, r⟩

/-- A row of one's own that holds ints, opened. -/
theorem ownsRow_open {w : World} {base : Nat} {e : TypeId} {v : Value} {l : List Int} {n : Nat} (h : w.ownsRow base e 1 v n (l.map (Value.int .i64))) (h0 : 0 < n) :
    ∃ g cap, v = .slice (some ⟨g, 0, none⟩) n cap ∧ base ≤ g ∧ g < w.heap.size ∧ n ≤ cap ∧ cap ≤ maxLen ∧ l.length = n ∧ (∀ i, i < n → w.cell? ⟨g, i, none⟩ = some (.int .i64 (l.getD i 0))) ∧ (∀ i, w.frozen? ⟨g, i, none⟩ = false) := by
  have hlen : l.length = n := by have := h.1; simpa using this
  obtain ⟨h1, h2⟩ := h
  rcases h2 with ⟨_, h3⟩ | ⟨g, cap, cur, rfl, hb, hg, hn, hm, hs, ht⟩
  · omega
  · refine ⟨g, cap, rfl, hb, (Array.getElem?_eq_some_iff.1 hg).1, hn, hm, hlen, fun i hi => ?_, fun i => frozen_of_row w g i cur e hg⟩
    rw [cell_of_row w g _ cur e (0, 0) hg]
    have e1 : (cur.toList.take (n * 1))[i]? = some (.int .i64 (l.getD i 0)) := by rw [ht]; simp [hlen, hi]
    rw [List.getElem?_take] at e1
    split at e1
    · simpa using e1
    · cases e1

/-- a slice literal of ints, laid in a new block. -/
theorem intsAt_new (w : World) (e : TypeId) (l : List Int) (n N : Nat) (hn : n = l.length) (hm : n ≤ 1000) (hN : w.heap.size = N) : IntsAt (w.alloc (.cells (l.map (Value.int .i64)).toArray e)) (.slice (some ⟨N, 0, none⟩) n n) l := by
  subst hn; subst hN
  refine ⟨_, _, rfl, Nat.le_refl _, by unfold maxLen; omega, fun _ => ⟨_, 0, rfl, by simp, fun i j hi hj => ?_⟩, fun h => by cases h⟩
  obtain rfl : j = 0 := by omega
  rw [cell_of_row (w.alloc _) w.heap.size _ _ e (0, 0) (heap_alloc_new w _)]
  simp [hi, List.getD]

theorem getD_lt {α : Type} {l : List α} {k : Nat} (d : α) (h : k < l.length) : l.getD k d = l[k] := by simp [List.getD, h]
theorem take_getD {α : Type} {l : List α} {k : Nat} (d : α) (h : k < l.length) : l.take (k + 1) = l.take k ++ [l.getD k d] := by
  rw [List.take_succ_eq_append_getElem h, getD_lt d h]
theorem cut_getD {α : Type} {l : List α} {k : Nat} (d : α) (h : k < l.length) : l = l.take k ++ l.getD k d :: l.drop (k + 1) := by
  rw [getD_lt d h, List.getElem_cons_drop, List.take_append_drop]

theorem ret_int {k : IntKind} {a b : Int} (h : a = b) : Ending.returned (.int k a) = .returned (.int k b) := by rw [h]
theorem ret_bool {a b : Bool} (h : a = b) : Ending.returned (.bool a) = .returned (.bool b) := by rw [h]

end Go.Proofs.Ytllddidjiabegaa
