/- Notions that belong to no chapter: rows of cells, what calls give back, small blocks. -/
import Derived.Test.YtlmdmpjfehpjeaaL3
import Derived.Laws.CopyOwn
import Derived.Laws.NewBlocks
import Derived.ProofKit
import Derived.OpenShut
import Derived.ShutString
import Derived.ChangeOld
import Derived.Below
import Derived.Lib.SmallJoins
import Derived.Test.YtlmdmpjfehpjeaaL4
set_option linter.unusedVariables false
set_option linter.unusedSimpArgs false
namespace Go.Proofs.Ytlmdmpjfehpjeaa
open Go.RowKit

theorem ownsRow_keep {w w' : World} {B base : Nat} {e : TypeId} {size : Nat} {v : Value} {n : Nat} {xs : List Value} (h : w.ownsRow base e size v n xs) (hlb : ∀ g, v.ownBlock = some g → g < B) (hb : Below B w w') : w'.ownsRow base e size v n xs := by
  refine ⟨h.1, ?_⟩
  rcases h.2 with h2 | ⟨g, cap, cur, rfl, hg, hh, r⟩
  · exact Or.inl h2
  · exact Or.inr ⟨g, cap, cur, rfl, hg, by rw [hb.block g (hlb g rfl)]; exact hh, r⟩
theorem add_plain' (g i j : Nat) : (⟨g, i, none⟩ : Addr).add j = ⟨g, i + j, none⟩ := by unfold Addr.add; split <;> simp_all
theorem heap_setRow_same {w : World} {g : Nat} {cur : Array Value} {e : TypeId} {fr : Nat × Nat} (h : w.heap[g]? = some (.cells cur e fr)) (cs : Array Value) : (w.setRow g cs).heap[g]? = some (.cells cs e fr) := by
  simp [World.setRow, Array.getElem?_modify, h]

/-- all cells of n elements of sz cells. -/
def flat (n sz : Nat) (c : Nat → Nat → Value) : List Value := (List.range (n * sz)).map fun q => c (q / sz) (q % sz)
theorem flat_len (n sz : Nat) (c : Nat → Nat → Value) : (flat n sz c).length = n * sz := by simp [flat]
theorem flat_at {n sz : Nat} {c : Nat → Nat → Value} {q : Nat} {u : Value} (h : (flat n sz c)[q]? = some u) : q < n * sz ∧ u = c (q / sz) (q % sz) := by
  have hq : q < n * sz := by have := (List.getElem?_eq_some_iff.1 h).1; simpa [flat] using this
  refine ⟨hq, ?_⟩
  simp [flat, hq] at h
  exact h.symm
theorem flat_get {n sz : Nat} {c : Nat → Nat → Value} {q : Nat} (h : q < n * sz) : (flat n sz c)[q]? = some (c (q / sz) (q % sz)) := by simp [flat, h]
theorem flat_congr {n sz : Nat} {c d : Nat → Nat → Value} (h : ∀ i j, i < n → j < sz → c i j = d i j) : flat n sz c = flat n sz d := by
  unfold flat
  refine List.map_congr_left fun q hq => ?_
  have hq' : q < n * sz := List.mem_range.1 hq
  have hs : 0 < sz := Nat.pos_of_ne_zero (by rintro rfl; simp at hq')
  exact h _ _ (Nat.div_lt_of_lt_mul (by rwa [Nat.mul_comm])) (Nat.mod_lt _ hs)
theorem flat_ints (l : List Int) : flat l.length 1 (fun i _ => .int .i64 (nth l i)) = l.map (Value.int .i64) := by
  apply List.ext_getElem (by simp [flat])
  intro i h1 h2
  have h3 : i < l.length := by simpa using h2
  simp [flat, nth, List.getD, h3]
/-- is a number in a list: simp does not look into it. -/
def hasI (l : List Int) (x : Int) : Bool := l.contains x
theorem hasI_mem {l : List Int} {x : Int} : hasI l x = true ↔ x ∈ l := by simp [hasI]
/-- the source of an append. -/
theorem SlAt.src {w : World} {v : Value} {n sz : Nat} {c : Nat → Nat → Value} (h : SlAt w v n sz c) : ∃ ao cap, v = .slice ao n cap ∧ n ≤ cap ∧ cap ≤ maxLen ∧
    ∀ W : World, Below w.heap.size w W → ((ao = none ∧ n = 0 ∧ cap = 0) ∨ ∃ ad, ao = some ad ∧ ∀ q u, (flat n sz c)[q]? = some u → W.cell? (ad.add q) = some u) := by
  obtain ⟨ao, cap, rfl, h1, h2, h3, h4⟩ := h
  refine ⟨ao, cap, rfl, h1, h2, fun W hW => ?_⟩
  by_cases hn : 0 < n
  · obtain ⟨b, off, e, hlt, hc⟩ := h3 hn
    refine Or.inr ⟨_, e, fun q u hq => ?_⟩
    obtain ⟨hq1, rfl⟩ := flat_at hq
    have hs : 0 < sz := Nat.pos_of_ne_zero (by rintro rfl; simp at hq1)
    have hi : q / sz < n := Nat.div_lt_of_lt_mul (by rwa [Nat.mul_comm])
    rw [add_plain', ← hc (q / sz) (q % sz) hi (Nat.mod_lt _ hs), show off + q / sz * sz + q % sz = off + q from by rw [Nat.add_assoc, Nat.mul_comm, Nat.div_add_mod]]
    exact hW.cell (p := ⟨b, off + q, none⟩) hlt
  · have hn0 : n = 0 := by omega
    subst hn0
    cases ao with
    | none => exact Or.inl ⟨rfl, rfl, h4 rfl⟩
    | some ad => exact Or.inr ⟨ad, rfl, fun q u hq => absurd (flat_at hq).1 (by omega)⟩
theorem IntsAt.src {w : World} {v : Value} {l : List Int} (h : IntsAt w v l) : ∃ ao cap, v = .slice ao l.length cap ∧ l.length ≤ cap ∧ cap ≤ maxLen ∧
    ∀ W : World, Below w.heap.size w W → ((ao = none ∧ l.length = 0 ∧ cap = 0) ∨ ∃ ad, ao = some ad ∧ ∀ q u, (l.map (Value.int .i64))[q]? = some u → W.cell? (ad.add q) = some u) := by
  have := SlAt.src h
  rwa [show flat l.length 1 (fun i _ => Value.int .i64 (l.getD i 0)) = l.map (Value.int .i64) from flat_ints l] at this

/-- the call returns a slice that reads as a list, and leaves old memory alone. -/
def RetInts (w : World) (l : List Int) (e : Ending) (w' : World) : Prop := ∃ v, e = .returned v ∧ IntsAt w' v l ∧ Below w.heap.size w w'

/-- the call returns a slice that reads as a list, and an error, and leaves old memory alone. -/
def RetIntsE (w : World) (l : List Int) (n : Int) (e : Ending) (w' : World) : Prop := ∃ v, e = .returned (.tuple #[v, .int .i64 n]) ∧ IntsAt w' v l ∧ Below w.heap.size w w'
/-- the call's own row, opened. -/
theorem ownsRow_sl {w : World} {base : Nat} {e : TypeId} {v : Value} {n sz : Nat} {c : Nat → Nat → Value} (h : w.ownsRow base e sz v n (flat n sz c)) : SlAt w v n sz c := by
  obtain ⟨h1, h2⟩ := h
  rcases h2 with ⟨rfl, h0⟩ | ⟨g, cap, cur, rfl, hb, hg, hn, hm, hs, ht⟩
  · subst h0
    exact ⟨none, 0, rfl, by simp, by simp, fun h => by omega, fun _ => rfl⟩
  · refine ⟨some ⟨g, 0, none⟩, cap, rfl, hn, hm, fun h0 => ⟨g, 0, rfl, (Array.getElem?_eq_some_iff.1 hg).1, fun i j hi hj => ?_⟩, fun h => by cases h⟩
    rw [cell_of_row w g _ cur e (0, 0) hg]
    have hq : i * sz + j < n * sz := by
      have : (i + 1) * sz ≤ n * sz := Nat.mul_le_mul_right _ hi
      rw [Nat.add_mul] at this; omega
    have e1 : (cur.toList.take (n * sz))[i * sz + j]? = some (c i j) := by
      rw [ht, flat_get hq]
      rw [Nat.mul_comm i sz, Nat.mul_add_div (by omega), Nat.div_eq_of_lt hj, Nat.mul_add_mod, Nat.mod_eq_of_lt hj, Nat.add_zero]
    rw [List.getElem?_take, if_pos hq] at e1
    simpa using e1
theorem flat_one {n sz : Nat} {c : Nat → Nat → Value} (h : ∀ i j, i < n → j < sz → (c i j).oneCell' = true) : ∀ u ∈ flat n sz c, u.oneCell' = true := by
  intro u hu
  obtain ⟨q, hq, rfl⟩ := List.mem_map.1 hu
  have hq' : q < n * sz := List.mem_range.1 hq
  have hs : 0 < sz := Nat.pos_of_ne_zero (by rintro rfl; simp at hq')
  exact h _ _ (Nat.div_lt_of_lt_mul (by rwa [Nat.mul_comm])) (Nat.mod_lt _ hs)
/-- a block of two cells. -/
theorem two_cells {w : World} {g : Nat} {x y : Value} {t : TypeId} (h : w.heap[g]? = some (.cells #[x, y] t (0, 0))) :
    w.cell? ⟨g, 0, none⟩ = some x ∧ w.cell? ⟨g, 1, none⟩ = some y ∧ w.frozen? ⟨g, 0, none⟩ = false ∧ w.frozen? ⟨g, 1, none⟩ = false ∧ g < w.heap.size := by
  refine ⟨?_, ?_, frozen_of_row w g 0 _ t h, frozen_of_row w g 1 _ t h, (Array.getElem?_eq_some_iff.1 h).1⟩
  · rw [cell_of_row w g 0 _ t (0, 0) h]; rfl
  · rw [cell_of_row w g 1 _ t (0, 0) h]; rfl
theorem two_set {w : World} {g : Nat} {x y x' y' : Value} {t : TypeId} (h : w.heap[g]? = some (.cells #[x, y] t (0, 0))) :
    ((w.setCell ⟨g, 0, none⟩ x').setCell ⟨g, 1, none⟩ y').heap[g]? = some (.cells #[x', y'] t (0, 0)) := by
  have h1 := heap_setCell_same w g 0 _ t x' h
  exact heap_setCell_same _ g 1 _ t y' h1

/-- a slice whose row lies in a block of a kind. -/
def SlIn (w : World) (v : Value) (n sz : Nat) (c : Nat → Nat → Value) (N : Nat → Prop) : Prop :=
  ∃ ao cap, v = .slice ao n cap ∧ n ≤ cap ∧ cap ≤ maxLen ∧
    (0 < n → ∃ b off, ao = some ⟨b, off, none⟩ ∧ b < w.heap.size ∧ N b ∧ ∀ i j, i < n → j < sz → w.cell? ⟨b, off + i * sz + j, none⟩ = some (c i j)) ∧ (ao = none → cap = 0)
theorem SlIn.sl {w : World} {v : Value} {n sz : Nat} {c : Nat → Nat → Value} {N : Nat → Prop} (h : SlIn w v n sz c N) : SlAt w v n sz c := by
  obtain ⟨ao, cap, rfl, h1, h2, h3, h4⟩ := h
  refine ⟨ao, cap, rfl, h1, h2, fun h0 => ?_, h4⟩
  obtain ⟨b, off, e, hlt, _, hc⟩ := h3 h0
  exact ⟨b, off, e, hlt, hc⟩
theorem cell_of_heap {w w' : World} {b o : Nat} (h : w'.heap[b]? = w.heap[b]?) : w'.cell? ⟨b, o, none⟩ = w.cell? ⟨b, o, none⟩ := by
  simp only [World.cell?, h]
theorem SlIn.keep {w w' : World} {v : Value} {n sz : Nat} {c : Nat → Nat → Value} {N N' : Nat → Prop} (h : SlIn w v n sz c N) (hs : w.heap.size ≤ w'.heap.size) (hk : ∀ b, b < w.heap.size → N b → w'.heap[b]? = w.heap[b]? ∧ N' b) : SlIn w' v n sz c N' := by
  obtain ⟨ao, cap, rfl, h1, h2, h3, h4⟩ := h
  refine ⟨ao, cap, rfl, h1, h2, fun h0 => ?_, h4⟩
  obtain ⟨b, off, e, hlt, hN, hc⟩ := h3 h0
  obtain ⟨h5, h6⟩ := hk b hlt hN
  exact ⟨b, off, e, Nat.lt_of_lt_of_le hlt hs, h6, fun i j hi hj => (cell_of_heap h5).trans (hc i j hi hj)⟩
theorem ownsRow_in {w : World} {base : Nat} {e : TypeId} {v : Value} {n sz : Nat} {c : Nat → Nat → Value} (h : w.ownsRow base e sz v n (flat n sz c)) : SlIn w v n sz c (fun b => base ≤ b ∧ v.ownBlock = some b) := by
  obtain ⟨h1, h2⟩ := h
  rcases h2 with ⟨rfl, h0⟩ | ⟨g, cap, cur, rfl, hb, hg, hn, hm, hs, ht⟩
  · subst h0
    exact ⟨none, 0, rfl, by simp, by simp, fun h => by omega, fun _ => rfl⟩
  · refine ⟨some ⟨g, 0, none⟩, cap, rfl, hn, hm, fun h0 => ⟨g, 0, rfl, (Array.getElem?_eq_some_iff.1 hg).1, ⟨hb, rfl⟩, fun i j hi hj => ?_⟩, fun h => by cases h⟩
    rw [cell_of_row w g _ cur e (0, 0) hg]
    have hq : i * sz + j < n * sz := by
      have : (i + 1) * sz ≤ n * sz := Nat.mul_le_mul_right _ hi
      rw [Nat.add_mul] at this; omega
    have e1 : (cur.toList.take (n * sz))[i * sz + j]? = some (c i j) := by
      rw [ht, flat_get hq]
      rw [Nat.mul_comm i sz, Nat.mul_add_div (by omega), Nat.div_eq_of_lt hj, Nat.mul_add_mod, Nat.mod_eq_of_lt hj, Nat.add_zero]
    rw [List.getElem?_take, if_pos hq] at e1
    simpa using e1
theorem flat_us (us : List Value) : us = flat us.length 1 (fun i _ => us.getD i undef) := by
  apply List.ext_getElem (by simp [flat])
  intro i h1 h2
  simp [flat, List.getD, h1]
theorem ownsRow_one {w : World} {base : Nat} {e : TypeId} {v : Value} {n sz : Nat} {xs : List Value} (h : w.ownsRow base e sz v n xs) : v.oneCell' = true := by
  rcases h.2 with ⟨rfl, h0⟩ | ⟨g, cap, cur, rfl, _⟩ <;> rfl
theorem ownsRow_shape {w : World} {base : Nat} {e : TypeId} {v : Value} {n sz : Nat} {xs : List Value} (h : w.ownsRow base e sz v n xs) : ∃ ao k c, v = .slice ao k c := by
  rcases h.2 with ⟨rfl, h0⟩ | ⟨g, cap, cur, rfl, _⟩
  · exact ⟨_, _, _, rfl⟩
  · exact ⟨_, _, _, rfl⟩
/-- a block of two cells. -/
def Pair2 (w : World) (b : Nat) (x y : Value) : Prop := b < w.heap.size ∧ w.cell? ⟨b, 0, none⟩ = some x ∧ w.cell? ⟨b, 1, none⟩ = some y
theorem Pair2.below {w w' : World} {b : Nat} {x y : Value} (h : Pair2 w b x y) (hb : Below w.heap.size w w') : Pair2 w' b x y :=
  ⟨Nat.lt_of_lt_of_le h.1 hb.size, (hb.cell (p := ⟨b, 0, none⟩) h.1).trans h.2.1, (hb.cell (p := ⟨b, 1, none⟩) h.1).trans h.2.2⟩


/-- a block of four cells. -/
def Quad (w : World) (b : Nat) (x y z u : Value) : Prop := b < w.heap.size ∧ w.cell? ⟨b, 0, none⟩ = some x ∧ w.cell? ⟨b, 1, none⟩ = some y ∧ w.cell? ⟨b, 2, none⟩ = some z ∧ w.cell? ⟨b, 3, none⟩ = some u
theorem Quad.below {w w' : World} {b : Nat} {x y z u : Value} (h : Quad w b x y z u) (hb : Below w.heap.size w w') : Quad w' b x y z u :=
  ⟨Nat.lt_of_lt_of_le h.1 hb.size, (hb.cell (p := ⟨b, 0, none⟩) h.1).trans h.2.1, (hb.cell (p := ⟨b, 1, none⟩) h.1).trans h.2.2.1, (hb.cell (p := ⟨b, 2, none⟩) h.1).trans h.2.2.2.1, (hb.cell (p := ⟨b, 3, none⟩) h.1).trans h.2.2.2.2⟩
theorem flat_set {n sz : Nat} {c d : Nat → Nat → Value} {i j : Nat} (hi : i < n) (hj : j < sz) (h : ∀ i' j', i' < n → j' < sz → d i' j' = if i' = i ∧ j' = j then d i j else c i' j') : (flat n sz c).set (i * sz + j) (d i j) = flat n sz d := by
  have hs : 0 < sz := by omega
  apply List.ext_getElem (by simp [flat_len])
  intro q h1 h2
  have hq : q < n * sz := by simpa [flat_len] using h1
  have e1 := flat_get (c := d) hq
  have e2 := flat_get (c := c) hq
  rw [List.getElem?_eq_getElem (by rw [flat_len]; exact hq)] at e1 e2
  rw [List.getElem_set, Option.some.inj e1]
  have hdm := Nat.div_add_mod q sz
  have hlt := Nat.mod_lt q hs
  have hqd : q / sz < n := Nat.div_lt_of_lt_mul (by rwa [Nat.mul_comm])
  rw [h _ _ hqd hlt]
  by_cases e : i * sz + j = q
  · have h3 : q / sz = i := by rw [← e, Nat.mul_comm, Nat.mul_add_div hs, Nat.div_eq_of_lt hj, Nat.add_zero]
    have h4 : q % sz = j := by rw [← e, Nat.mul_comm, Nat.mul_add_mod, Nat.mod_eq_of_lt hj]
    rw [if_pos e, if_pos ⟨h3, h4⟩]
  · have hne : ¬ (q / sz = i ∧ q % sz = j) := by
      rintro ⟨h3, h4⟩
      apply e
      rw [← h3, ← h4, Nat.mul_comm]; exact hdm
    rw [if_neg e, if_neg hne, Option.some.inj e2]
def scan (f : Nat → Int) (n : Nat) : Int := firstNZ ((List.range n).map f)
theorem scan_end {f : Nat → Int} {n : Nat} (h : ∀ j, j < n → f j = 0) : scan f n = 0 := by
  unfold scan
  rw [firstNZ_zero]
  intro x hx
  obtain ⟨j, hj, rfl⟩ := List.mem_map.1 hx
  exact h j (List.mem_range.1 hj)
theorem scan_zero {f : Nat → Int} {n : Nat} (h : scan f n = 0) : ∀ j, j < n → f j = 0 := by
  unfold scan at h
  rw [firstNZ_zero] at h
  exact fun j hj => h _ (List.mem_map.2 ⟨j, List.mem_range.2 hj, rfl⟩)
theorem scan_at {f : Nat → Int} {n k : Nat} (h : ∀ j, j < k → f j = 0) (hk : k < n) (hne : f k ≠ 0) : scan f n = f k := by
  unfold scan
  obtain ⟨m, rfl⟩ : ∃ m, n = k + (m + 1) := ⟨n - k - 1, by omega⟩
  rw [List.range_add, List.map_append, firstNZ_append_zero]
  · rw [List.range_succ_eq_map]
    simp [firstNZ, hne]
  · intro x hx
    obtain ⟨j, hj, rfl⟩ := List.mem_map.1 hx
    exact h j (List.mem_range.1 hj)
/-- the place of the first error, 0 if there is none. -/
def scanI (f : Nat → Int) (n : Nat) : Int := (((List.range n).find? (fun i => f i != 0)).getD 0 : Nat)
theorem scanI_end {f : Nat → Int} {n : Nat} (h : ∀ j, j < n → f j = 0) : scanI f n = 0 := by
  unfold scanI
  rw [List.find?_eq_none.2]
  · rfl
  · intro x hx; rw [h x (List.mem_range.1 hx)]; simp
theorem scanI_at {f : Nat → Int} {n k : Nat} (h : ∀ j, j < k → f j = 0) (hk : k < n) (hne : f k ≠ 0) : scanI f n = k := by
  unfold scanI
  obtain ⟨m, rfl⟩ : ∃ m, n = k + (m + 1) := ⟨n - k - 1, by omega⟩
  rw [List.range_add, List.find?_append, List.find?_eq_none.2, List.range_succ_eq_map]
  · simp [hne]
  · intro x hx; rw [h x (List.mem_range.1 hx)]; simp

theorem elemInt : Elem Try.prog 49 3 1 8 := Elem.mk (z := .int .i64 0) Try.underlying49 (by kernel_rfl) rfl (by decide)
theorem infoInt : (Try.prog.info? 3).map (fun i => (i.zero, i.size, i.bytes)) = some (some (.int .i64 0), 1, 8) := by kernel_rfl
theorem base_Size (n : Int) (w : World) (h : -9223372036854775807 ≤ n) (h' : n ≤ 9223372036854775807) :
    Calls Try.prog 139 #[.int .i64 n] w fun e w' => e = .returned (.int .i64 (n.natAbs : Int)) ∧ w = w' := by
  go_enter Try.func139, Try.ntmps139
  go_wp2_with fail
  all_goals
    go_ret
    exact ⟨ret_int (by omega), rfl⟩
theorem map_nth {l : List Int} {i : Nat} (h : i < l.length) : (l.map (Value.int .i64))[i]? = some (.int .i64 (nth l i)) := by simp [nth, List.getD, h]

end Go.Proofs.Ytlmdmpjfehpjeaa

/- Arguments opened: what reads as data, as rows of cells. -/
set_option linter.unusedVariables false
set_option linter.unusedSimpArgs false
namespace Go.Proofs.Ytlmdmpjfehpjeaa
open Go.RowKit
section
variable {H : Type} {enc : TypeId × Value → H} {P : Program} {w : World} {base : Nat} {spare : Nat → Bool} {held : Bool}

theorem cell_lt {w : World} {a : Addr} {v : Value} (h : w.cell? a = some v) : a.block < w.heap.size := by
  unfold World.cell? at h
  cases e : w.heap[a.block]? with
  | none => simp [e] at h
  | some o => exact (Array.getElem?_eq_some_iff.1 e).1

theorem list_of {α : Type} (d : α) : ∀ (n : Nat) {R : Nat → α → Prop}, (∀ i, i < n → ∃ x, R i x) → ∃ l : List α, l.length = n ∧ ∀ i, i < n → R i (l.getD i d) := by
  intro n
  induction n with
  | zero => intro R _; exact ⟨[], rfl, fun i hi => absurd hi (by omega)⟩
  | succ n ih =>
    intro R h
    obtain ⟨l, hl, hr⟩ := ih (fun i hi => h i (by omega))
    obtain ⟨x, hx⟩ := h n (by omega)
    refine ⟨l ++ [x], by simp [hl], fun i hi => ?_⟩
    rcases Nat.lt_or_ge i n with h1 | h1
    · have : (l ++ [x]).getD i d = l.getD i d := by simp [List.getD, List.getElem?_append_left (show i < l.length by omega)]
      rw [this]; exact hr i h1
    · have e : i = n := by omega
      subst e
      have : (l ++ [x]).getD i d = x := by rw [← hl]; simp [List.getD]
      rw [this]; exact hx

theorem SlAt.congr {w : World} {v : Value} {n sz : Nat} {c d : Nat → Nat → Value} (h : SlAt w v n sz c) (e : ∀ i j, i < n → j < sz → c i j = d i j) : SlAt w v n sz d := by
  obtain ⟨ao, cap, rfl, h1, h2, h3, h4⟩ := h
  refine ⟨ao, cap, rfl, h1, h2, fun h0 => ?_, h4⟩
  obtain ⟨b, off, e1, hlt, hc⟩ := h3 h0
  exact ⟨b, off, e1, hlt, fun i j hi hj => by rw [hc i j hi hj, e i j hi hj]⟩

/-- a slice that reads as data: each element's cells read as data. -/
theorem slAt_of_trod {t e : TypeId} {sz fuel : Nat} {v : Value} {x : DataW H × List MemPlace} (ht : P.underlying t = some (.slice e)) (hc : P.cellsOf e = sz) (hsz : 0 < sz)
    (h : DataW.trod enc P w base spare held fuel t [v] = some x) :
    ∃ (n : Nat) (css : Nat → List Value), SlAt w v n sz (fun i j => (css i).getD j undef) ∧ ∀ i, i < n → (css i).length = sz ∧ ∃ m y, DataW.trod enc P w base spare held m e (css i) = some y := by
  rcases DataW.trod_slice ht h with ⟨h0, _⟩ | ⟨a, len, cap, elems, rest, m, _, h0, _, hb, hl, hm, hlen, hel, _, _⟩
  · obtain rfl : v = .slice none 0 0 := by simpa using h0
    exact ⟨0, fun _ => [], ⟨none, 0, rfl, by simp, by simp, fun h => absurd h (by omega), fun _ => rfl⟩, fun i hi => absurd hi (by omega)⟩
  · obtain rfl : v = .slice (some a) len cap := by simpa using h0
    have each : ∀ i, i < len → ∃ cs : List Value, w.cells? base (a.add (i * sz)) sz = some cs ∧ ∃ y, DataW.trod enc P w base spare held m e cs = some y := by
      intro i hi
      have h1 := hel i hi
      rw [hc] at h1
      have h2 : elems[i]? = some elems[i] := by simp
      rw [h2, Option.bind_eq_some_iff] at h1
      obtain ⟨cs, h3, h4⟩ := h1
      exact ⟨cs, h3, _, h4⟩
    obtain ⟨css, hcl, hcs⟩ := list_of ([] : List Value) len each
    have hcell : ∀ i j, i < len → j < sz → w.cell? ((a.add (i * sz)).add j) = some ((css.getD i []).getD j undef) := by
      intro i j hi hj
      obtain ⟨_, h2, h3⟩ := World.cells?_some (hcs i hi).1
      rw [h3 j hj]
      generalize css.getD i [] = c at h2 ⊢
      rw [List.getElem?_eq_getElem (by omega)]
      simp [List.getD, List.getElem?_eq_getElem (show j < c.length by omega)]
    refine ⟨len, fun i => css.getD i [], ⟨some a, cap, rfl, hl, hm, fun hp => ?_, fun h => by cases h⟩, fun i hi => ⟨(World.cells?_some (hcs i hi).1).2.1, m, (hcs i hi).2⟩⟩
    obtain ⟨b, off, spot⟩ := a
    have hspot : spot = none := by simpa [Addr.add] using World.cell?_spot (hcell 0 0 hp hsz)
    subst hspot
    refine ⟨b, off, rfl, by simpa [Addr.add] using cell_lt (hcell 0 0 hp hsz), fun i j hi hj => ?_⟩
    have := hcell i j hi hj
    rw [add_plain', add_plain'] at this
    exact this

theorem intAt_of_trod {t : TypeId} {k : IntKind} {fuel : Nat} {cs : List Value} {x : DataW H × List MemPlace} (ht : P.underlying t = some (.int k)) (h : DataW.trod enc P w base spare held fuel t cs = some x) : ∃ n, cs = [.int k n] ∧ (Lit.int k n).wf = true := by
  obtain ⟨n, h1, _, h2⟩ := DataW.trod_int ht h
  exact ⟨n, h1, h2⟩
/-- a struct of numbers. -/
def intsB' (P : Program) (t : TypeId) (fs : Array Field) : Bool :=
  (P.cellsOf t == fs.size) && (List.range fs.size).all fun i => match fs[i]? with
    | some f => f.offset == i && P.cellsOf f.type == 1 && (match P.underlying f.type with | some (.int .i64) => true | _ => false)
    | none => true
theorem ints_of_struct {t : TypeId} {fs : Array Field} {fuel : Nat} {cs : List Value} {x : DataW H × List MemPlace} (ht : P.underlying t = some (.struct fs)) (hB : intsB' P t fs = true) (h : DataW.trod enc P w base spare held fuel t cs = some x) :
    ∃ ns : List Int, ns.length = fs.size ∧ cs = ns.map (Value.int .i64) := by
  obtain ⟨xs, m', _, _, hl, hxs, hf⟩ := DataW.trod_struct ht h
  simp only [intsB', Bool.and_eq_true, beq_iff_eq] at hB
  have each : ∀ i, i < fs.size → ∃ n : Int, cs[i]? = some (.int .i64 n) := by
    intro i hi
    have h1 := List.all_eq_true.1 hB.2 i (List.mem_range.2 hi)
    have e : fs[i]? = some fs[i] := by simp [hi]
    rw [e] at h1
    simp only [Bool.and_eq_true, beq_iff_eq] at h1
    obtain ⟨⟨h2, h3⟩, h4⟩ := h1
    have h5 := hf i _ e
    have e2 : xs[i]? = some xs[i] := by simp [hxs, hi]
    rw [h2, h3, e2] at h5
    cases e3 : P.underlying fs[i].type with
    | none => rw [e3] at h4; cases h4
    | some d =>
      rw [e3] at h4
      split at h4
      · rename_i _ e4
        cases e4
        obtain ⟨n, hn, _⟩ := DataW.trod_int e3 h5
        refine ⟨n, ?_⟩
        have h6 := congrArg (fun l => l[0]?) hn
        simpa using h6
      · cases h4
  obtain ⟨ns, h1, h2⟩ := list_of (0 : Int) fs.size each
  refine ⟨ns, h1, List.ext_getElem? fun i => ?_⟩
  by_cases hi : i < fs.size
  · rw [h2 i hi]; simp [List.getD, h1, hi]
  · rw [List.getElem?_eq_none (by rw [hl, hB.1]; omega), List.getElem?_eq_none (by simp [h1]; omega)]
theorem okWide_array {r : Reach} {b0 n : Nat} {t e : TypeId} {v : Value} (ht : P.underlying t = some (.array n e)) (h : Value.okWide P w r b0 t v) : ∃ cs, v = .agg cs ∧ cs.size = P.cellsOf t := by
  simp only [Value.okWide, ht] at h
  obtain ⟨cs, h1, h2, _⟩ := h
  exact ⟨cs, h1, h2⟩

theorem ints_of_array {t e : TypeId} {n fuel : Nat} {cs : List Value} {x : DataW H × List MemPlace} (ht : P.underlying t = some (.array n e)) (he : P.underlying e = some (.int .i64)) (hc : P.cellsOf e = 1) (hn : P.cellsOf t = n) (h : DataW.trod enc P w base spare held fuel t cs = some x) :
    ∃ ns : List Int, ns.length = n ∧ cs = ns.map (Value.int .i64) ∧ ∀ i, i < n → (Lit.int .i64 (ns.getD i 0)).wf = true := by
  obtain ⟨xs, m, _, _, hl, hxs, hf⟩ := DataW.trod_array ht h
  have each : ∀ i, i < n → ∃ k : Int, cs[i]? = some (.int .i64 k) ∧ (Lit.int .i64 k).wf = true := by
    intro i hi
    have h5 := hf i hi
    have e2 : xs[i]? = some xs[i] := by simp [hxs, hi]
    rw [hc, e2, Nat.mul_one] at h5
    obtain ⟨k, hk, _, hw⟩ := DataW.trod_int he h5
    refine ⟨k, ?_, hw⟩
    have h6 := congrArg (fun l => l[0]?) hk
    simpa using h6
  obtain ⟨ns, h1, h2⟩ := list_of (0 : Int) n each
  refine ⟨ns, h1, List.ext_getElem? fun i => ?_, fun i hi => (h2 i hi).2⟩
  by_cases hi : i < n
  · rw [(h2 i hi).1]; simp [List.getD, h1, hi]
  · rw [List.getElem?_eq_none (by rw [hl, hn]; omega), List.getElem?_eq_none (by simp [h1]; omega)]

theorem arr2_of_trod {r : Reach} {b0 : Nat} {t e : TypeId} {v : Value} {d : DataW H} {ps : List MemPlace} (ht : P.underlying t = some (.array 2 e)) (he : P.underlying e = some (.int .i64)) (hc : P.cellsOf e = 1) (hn : P.cellsOf t = 2) (hv : Value.okWide P w r b0 t v) (h : DataW.Trod enc P w base spare held t v d ps) :
    ∃ a b : Int, v = .agg #[.int .i64 a, .int .i64 b] ∧ (Lit.int .i64 a).wf = true ∧ (Lit.int .i64 b).wf = true := by
  obtain ⟨cs, rfl, hs⟩ := okWide_array ht hv
  obtain ⟨fuel, hf⟩ := h
  obtain ⟨ns, h1, h2, h3⟩ := ints_of_array ht he hc hn hf
  match ns, h1 with
  | [a, b], _ =>
    refine ⟨a, b, ?_, h3 0 (by omega), h3 1 (by omega)⟩
    have : cs = #[.int .i64 a, .int .i64 b] := by
      apply Array.ext'
      simpa [Value.cells] using h2
    rw [this]
/-- a struct of numbers, by value. -/
theorem struct_ints {r : Reach} {b0 : Nat} {t : TypeId} {fs : Array Field} {v : Value} {d : DataW H} {ps : List MemPlace} (ht : P.underlying t = some (.struct fs)) (hB : intsB' P t fs = true) (hv : Value.okWide P w r b0 t v) (h : DataW.Trod enc P w base spare held t v d ps) :
    ∃ ns : List Int, ns.length = fs.size ∧ v = .agg (ns.map (Value.int .i64)).toArray ∧ ∀ i, i < fs.size → (Lit.int .i64 (ns.getD i 0)).wf = true := by
  obtain ⟨cs, rfl, hs⟩ := WideShapes.okWide_struct ht hv
  obtain ⟨fuel, hf⟩ := h
  obtain ⟨xs, m', _, _, hl, hxs, hff⟩ := DataW.trod_struct ht hf
  have hB' := hB
  simp only [intsB', Bool.and_eq_true, beq_iff_eq] at hB
  have each : ∀ i, i < fs.size → ∃ n : Int, (Value.agg cs).cells.toList[i]? = some (.int .i64 n) ∧ (Lit.int .i64 n).wf = true := by
    intro i hi
    have h1 := List.all_eq_true.1 hB.2 i (List.mem_range.2 hi)
    have e : fs[i]? = some fs[i] := by simp [hi]
    rw [e] at h1
    simp only [Bool.and_eq_true, beq_iff_eq] at h1
    obtain ⟨⟨h2, h3⟩, h4⟩ := h1
    have h5 := hff i _ e
    have e2 : xs[i]? = some xs[i] := by simp [hxs, hi]
    rw [h2, h3, e2] at h5
    cases e3 : P.underlying fs[i].type with
    | none => rw [e3] at h4; cases h4
    | some d =>
      rw [e3] at h4
      split at h4
      · rename_i _ e4
        cases e4
        obtain ⟨n, hn, _, hw⟩ := DataW.trod_int e3 h5
        refine ⟨n, ?_, hw⟩
        have h6 := congrArg (fun l => l[0]?) hn
        simpa using h6
      · cases h4
  obtain ⟨ns, h1, h2⟩ := list_of (0 : Int) fs.size each
  refine ⟨ns, h1, ?_, fun i hi => (h2 i hi).2⟩
  have : cs = (ns.map (Value.int .i64)).toArray := by
    apply Array.ext'
    apply List.ext_getElem?
    intro i
    by_cases hi : i < fs.size
    · have := (h2 i hi).1
      simp only [Value.cells] at this
      rw [this]; simp [List.getD, h1, hi]
    · rw [List.getElem?_eq_none (by simp; rw [hs, hB.1]; omega), List.getElem?_eq_none (by simp [h1]; omega)]
  rw [this]
theorem agg2_of_trod {r : Reach} {b0 : Nat} {t : TypeId} {fs : Array Field} {v : Value} {d : DataW H} {ps : List MemPlace} (ht : P.underlying t = some (.struct fs)) (hB : intsB' P t fs = true) (hn : fs.size = 2) (hv : Value.okWide P w r b0 t v) (h : DataW.Trod enc P w base spare held t v d ps) :
    ∃ a b : Int, v = .agg #[.int .i64 a, .int .i64 b] ∧ (Lit.int .i64 a).wf = true ∧ (Lit.int .i64 b).wf = true := by
  obtain ⟨ns, h1, h2, h3⟩ := struct_ints ht hB hv h
  rw [hn] at h1 h3
  match ns, h1 with
  | [a, b], _ => exact ⟨a, b, h2, h3 0 (by omega), h3 1 (by omega)⟩
theorem agg4_of_trod {r : Reach} {b0 : Nat} {t : TypeId} {fs : Array Field} {v : Value} {d : DataW H} {ps : List MemPlace} (ht : P.underlying t = some (.struct fs)) (hB : intsB' P t fs = true) (hn : fs.size = 4) (hv : Value.okWide P w r b0 t v) (h : DataW.Trod enc P w base spare held t v d ps) :
    ∃ a b c e : Int, v = .agg #[.int .i64 a, .int .i64 b, .int .i64 c, .int .i64 e] ∧ (Lit.int .i64 a).wf = true ∧ (Lit.int .i64 b).wf = true ∧ (Lit.int .i64 c).wf = true ∧ (Lit.int .i64 e).wf = true := by
  obtain ⟨ns, h1, h2, h3⟩ := struct_ints ht hB hv h
  rw [hn] at h1 h3
  match ns, h1 with
  | [a, b, c, e], _ => exact ⟨a, b, c, e, h2, h3 0 (by omega), h3 1 (by omega), h3 2 (by omega), h3 3 (by omega)⟩
end
end Go.Proofs.Ytlmdmpjfehpjeaa

/- Tracks: coordinates inside a limit. -/
set_option linter.unusedVariables false
set_option linter.unusedSimpArgs false
namespace Go.Proofs.Ytlmdmpjfehpjeaa
open Go.RowKit

def anyI {α : Type} (f : α → Bool) (l : List α) : Bool := l.any f
theorem anyN_take {f : Int → Bool} {l : List Int} {k : Nat} (h : k < l.length) : anyI f (l.take (k + 1)) = (anyI f (l.take k) || f (nth l k)) := by
  have e : l.take (k + 1) = l.take k ++ [nth l k] := by
    unfold nth
    rw [List.take_succ_eq_append_getElem h, List.getD_eq_getElem?_getD, List.getElem?_eq_getElem h]; rfl
  rw [e]; simp [anyI]
theorem anyN_at {f : Int → Bool} {l : List Int} {k : Nat} (h : k < l.length) (hf : f (nth l k) = true) : anyI f l = true := by
  have e : nth l k = l[k] := by unfold nth; rw [List.getD_eq_getElem?_getD, List.getElem?_eq_getElem h]; rfl
  rw [e] at hf; simp only [anyI, List.any_eq_true]; exact ⟨_, List.getElem_mem h, hf⟩

set_option maxRecDepth 100000 in
theorem track_fits1 (n k : Int) (lb : Nat) (w : World) (hc : w.cell? ⟨lb, 0, none⟩ = some (.int .i64 k)) (h0 : 0 ≤ k) (h1 : k ≤ 1000000) :
    Calls Try.prog 133 #[.int .i64 n, .pointer (some ⟨lb, 0, none⟩)] w fun e w' => e = .returned (.bool (!inB n (-k) k)) ∧ Below w.heap.size w w' := by
  go_enter Try.func133, Try.ntmps133
  go_wp2_with (go_at_call 68; refine (track_within _ _ _ _).mono ?_; rintro _ _ ⟨rfl, rfl⟩)
  go_ret
  exact ⟨rfl, by (repeat (with_reducible first | exact Below.refl _ _ | assumption | refine Below.drewN _ ?_ | refine Below.drew ?_ | refine Below_alloc ?_ _ | refine Below.alloc ?_ (by first | (simp; done) | (simp; omega) | omega) _ | refine Below.setCell ?_ (by first | (simp; done) | (simp; omega) | omega) _ | refine Below_call ?_ (by assumption) | refine Below.trans ?_ (by assumption)))⟩

set_option maxRecDepth 100000 in
theorem fits_IndexFunc (l : List Int) (v : Value) (k0 : Int) (lb : Nat) (w : World) (h : IntsAt w v l) (hlb : lb < w.heap.size) (hc0 : w.cell? ⟨lb, 0, none⟩ = some (.int .i64 k0)) (h00 : 0 ≤ k0) (h01 : k0 ≤ 1000000) :
    Calls Try.prog 147 #[v, .func (.func 133) #[] #[.pointer (some ⟨lb, 0, none⟩)]] w fun e w' => ∃ r : Int, e = .returned (.int .i64 r) ∧ decide (0 ≤ r) = anyI (fun n => !inB n (-k0) k0) l ∧ Below w.heap.size w w' := by
  obtain ⟨ao, cap, rfl, h1, h2, h3⟩ := h.opn
  unfold maxLen at h2
  go_enter Try.func147, Try.ntmps147
  go_wp2_with fail
  go_loopw [8] (fun i wr => ∃ k : Nat, k ≤ l.length ∧ i = .int .i64 k ∧ Hid (anyI (fun n => !inB n (-k0) k0) (l.take k) = false) ∧ Below w.heap.size w wr) (fun i _ => l.length - (intOf i).toNat)
  case atStart => exact ⟨0, Nat.zero_le _, rfl, hid (by simp [anyI]), Below.refl _ _⟩
  case round =>
    obtain ⟨k, hk, rfl, HZ, hbel⟩ := hrel
    have hzw := hbel.size
    by_cases hlt : k < l.length
    · obtain ⟨b, off, rfl, hb, hc⟩ := h3 k hlt
      have c0 := hc k hlt
      obtain ⟨hcb, hfb⟩ := bcell hbel
      rw [← hcb b _ hb] at c0
      have ck : wr.cell? ⟨lb, 0, none⟩ = some (.int .i64 k0) := (hcb lb 0 hlb).trans hc0
      have HAT := hid (anyN_take (f := fun n => !inB n (-k0) k0) hlt)
      have HAA := hid (anyN_at (f := fun n => !inB n (-k0) k0) hlt)
      obtain ⟨x, hx⟩ : ∃ x, x = nth l k := ⟨_, rfl⟩
      rw [← hx] at c0 HAT HAA
      clear hc h3 hcb hfb hx h hc0
      cases ht : (!inB x (-k0) k0)
      · have HT := hid ht
        go_wp2_with (go_at_call 133; refine (track_fits1 x k0 lb _ ck h00 h01).mono ?_; rintro _ w1 ⟨rfl, hb1⟩; obtain ⟨hc1, hf1⟩ := bcell hb1; have hz1 := hb1.size; (try simp only [World.size_alloc, World.heap_drewN] at hz1))
        go_roundw
        case rel => exact ⟨k + 1, by omega, by go_num, hid (by rw [HAT.out, HZ.out, HT.out]; rfl), by (repeat (with_reducible first | exact Below.refl _ _ | assumption | refine Below.drewN _ ?_ | refine Below.drew ?_ | refine Below_alloc ?_ _ | refine Below.alloc ?_ (by first | (simp; done) | (simp; omega) | omega) _ | refine Below.setCell ?_ (by first | (simp; done) | (simp; omega) | omega) _ | refine Below_call ?_ (by assumption) | refine Below.trans ?_ (by assumption)))⟩
        case measure => simp [intOf]; omega
      · have HT := hid ht
        go_wp2_with (go_at_call 133; refine (track_fits1 x k0 lb _ ck h00 h01).mono ?_; rintro _ w1 ⟨rfl, hb1⟩; obtain ⟨hc1, hf1⟩ := bcell hb1; have hz1 := hb1.size; (try simp only [World.size_alloc, World.heap_drewN] at hz1))
        go_ret
        exact ⟨k, rfl, by rw [HAA.out HT.out]; simp, by (repeat (with_reducible first | exact Below.refl _ _ | assumption | refine Below.drewN _ ?_ | refine Below.drew ?_ | refine Below_alloc ?_ _ | refine Below.alloc ?_ (by first | (simp; done) | (simp; omega) | omega) _ | refine Below.setCell ?_ (by first | (simp; done) | (simp; omega) | omega) _ | refine Below_call ?_ (by assumption) | refine Below.trans ?_ (by assumption)))⟩
    · have hkl : k = l.length := by omega
      subst hkl
      go_wp2_with fail
      go_ret
      refine ⟨-1, rfl, ?_, hbel⟩
      have := HZ.out
      rw [List.take_length] at this
      rw [this]; rfl

theorem fits_ContainsFunc (l : List Int) (v : Value) (k0 : Int) (lb : Nat) (w : World) (h : IntsAt w v l) (hlb : lb < w.heap.size) (hc0 : w.cell? ⟨lb, 0, none⟩ = some (.int .i64 k0)) (h00 : 0 ≤ k0) (h01 : k0 ≤ 1000000) :
    Calls Try.prog 132 #[v, .func (.func 133) #[] #[.pointer (some ⟨lb, 0, none⟩)]] w fun e w' => e = .returned (.bool (anyI (fun n => !inB n (-k0) k0) l)) ∧ Below w.heap.size w w' := by
  go_enter Try.func132, Try.ntmps132
  go_wp2_with (go_at_call 147; refine (fits_IndexFunc _ _ _ _ _ h hlb hc0 h00 h01).mono ?_; rintro _ w1 ⟨r, rfl, hr, hb1⟩)
  go_ret
  exact ⟨ret_bool (by rw [← hr]), hb1⟩
end Go.Proofs.Ytlmdmpjfehpjeaa

/- Tracks: small functions of the program. -/
set_option linter.unusedVariables false
set_option linter.unusedSimpArgs false
namespace Go.Proofs.Ytlmdmpjfehpjeaa
open Go.RowKit

/-- products of coordinates that stay inside int. -/
def V3.sm (a b : V3) : Prop := (-1000000000000000000 ≤ a.x * b.x ∧ a.x * b.x ≤ 1000000000000000000) ∧ (-1000000000000000000 ≤ a.y * b.y ∧ a.y * b.y ≤ 1000000000000000000) ∧ (-1000000000000000000 ≤ a.z * b.z ∧ a.z * b.z ≤ 1000000000000000000)
set_option maxRecDepth 100000 in
set_option maxHeartbeats 1000000 in
theorem track_dot (a b : V3) (w : World) (h : a.sm b) :
    Calls Try.prog 78 #[a.v, b.v] w fun e w' => e = .returned (.int .i64 (a.dot b)) ∧ Below w.heap.size w w' := by
  obtain ⟨hx, hy, hz⟩ := h
  unfold V3.v V3.dot
  obtain ⟨ax, ay, az⟩ := a
  obtain ⟨bx, bY, bz⟩ := b
  simp only at *
  obtain ⟨X, hX⟩ : ∃ X, X = ax * bx := ⟨_, rfl⟩
  obtain ⟨Y, hY⟩ : ∃ Y, Y = ay * bY := ⟨_, rfl⟩
  obtain ⟨Z, hZ⟩ : ∃ Z, Z = az * bz := ⟨_, rfl⟩
  rw [← hX] at hx ⊢
  rw [← hY] at hy ⊢
  rw [← hZ] at hz ⊢
  have e1 : ax * bx = X := hX.symm
  have e2 : ay * bY = Y := hY.symm
  have e3 : az * bz = Z := hZ.symm
  clear hX hY hZ
  go_enter Try.func78, Try.ntmps78
  go_wp2_with fail
  go_ret
  exact ⟨rfl, by (repeat (with_reducible first | exact Below.refl _ _ | assumption | refine Below.drewN _ ?_ | refine Below.drew ?_ | refine Below_alloc ?_ _ | refine Below.alloc ?_ (by first | (simp; done) | (simp; omega) | omega) _ | refine Below.setCell ?_ (by first | (simp; done) | (simp; omega) | omega) _ | refine Below_call ?_ (by assumption) | refine Below.trans ?_ (by assumption)))⟩
set_option maxRecDepth 100000 in
set_option maxHeartbeats 1000000 in
theorem track_minus (a b : V3) (w : World) (ha : a.inS 100000000 = true) (hb : b.inS 100000000 = true) :
    Calls Try.prog 77 #[a.v, b.v] w fun e w' => e = .returned (V3.v ⟨a.x - b.x, a.y - b.y, a.z - b.z⟩) ∧ Below w.heap.size w w' := by
  obtain ⟨⟨a1, a1'⟩, ⟨a2, a2'⟩, ⟨a3, a3'⟩⟩ := inS_iff.1 ha
  obtain ⟨⟨b1, b1'⟩, ⟨b2, b2'⟩, ⟨b3, b3'⟩⟩ := inS_iff.1 hb
  unfold V3.v
  obtain ⟨ax, ay, az⟩ := a
  obtain ⟨bx, bY, bz⟩ := b
  simp only at *
  clear ha hb
  go_enter Try.func77, Try.ntmps77
  go_wp2_with fail
  ((try simp only [Exit.inBlock, Exit.then]); refine bodyPost_ret (v := .agg #[.int .i64 (ax - bx), .int .i64 (ay - bY), .int .i64 (az - bz)]) ?_ rfl ?_; (next => simp [results, Try.results77, go_sem]); refine ⟨?_, ?_⟩; (next => rfl); (next => (repeat (with_reducible first | exact Below.refl _ _ | assumption | refine Below.drewN _ ?_ | refine Below.drew ?_ | refine Below_alloc ?_ _ | refine Below.alloc ?_ (by first | (simp; done) | (simp; omega) | omega) _ | refine Below.setCell ?_ (by first | (simp; done) | (simp; omega) | omega) _ | refine Below_call ?_ (by assumption) | refine Below.trans ?_ (by assumption)))))
theorem track_timeErr (n : Int) (w : World) : Calls Try.prog 71 #[.int .i64 n] w fun e w' => e = .returned (.int .i64 (tmE n)) ∧ w = w' := by
  go_enter Try.func71, Try.ntmps71
  go_wp2_with (first | (go_at_call 68; refine (track_within _ _ _ _).mono ?_; rintro _ _ ⟨rfl, rfl⟩) | (go_at_call 72; refine (track_unless _ _ _).mono ?_; rintro _ _ ⟨rfl, rfl⟩))
  go_ret
  exact ⟨rfl, rfl⟩
set_option maxRecDepth 100000 in
set_option maxHeartbeats 1000000 in
theorem track_fits (a : V3) (k : Int) (w : World) (h0 : 0 ≤ k) (h1 : k ≤ 1000000) :
    Calls Try.prog 102 #[a.v, .int .i64 k] w fun e w' => e = .returned (.bool (a.inS k)) ∧ Below w.heap.size w w' := by
  have HE : Hid ((!anyI (fun n => !inB n (-k) k) [a.x, a.y, a.z]) = a.inS k) := hid (by simp [anyI, V3.inS, Bool.and_assoc])
  obtain ⟨ax, ay, az⟩ := a
  unfold V3.v
  simp only at *
  obtain ⟨W, hW⟩ : ∃ W, W = (w.alloc (.cells #[.int .i64 ax, .int .i64 ay, .int .i64 az] 135)).alloc (.cells #[.int .i64 k] 3) := ⟨_, rfl⟩
  have hbW : Below w.heap.size w W := by rw [hW]; (repeat (with_reducible first | exact Below.refl _ _ | assumption | refine Below.drewN _ ?_ | refine Below.drew ?_ | refine Below_alloc ?_ _ | refine Below.alloc ?_ (by first | (simp; done) | (simp; omega) | omega) _ | refine Below.setCell ?_ (by first | (simp; done) | (simp; omega) | omega) _ | refine Below_call ?_ (by assumption) | refine Below.trans ?_ (by assumption)))
  have HI : Hid (IntsAt W (.slice (some ⟨w.heap.size, 0, none⟩) 3 3) [ax, ay, az]) := hid (by rw [hW]; exact (intsAt_new w 135 [ax, ay, az] 3 w.heap.size rfl (by omega) rfl).below ((Below.refl _ _).alloc (Nat.le_refl _) _))
  have HC : Hid (W.cell? ⟨w.heap.size + 1, 0, none⟩ = some (.int .i64 k) ∧ w.heap.size + 1 < W.heap.size) := hid (by rw [hW]; simp)
  go_enter Try.func102, Try.ntmps102
  go_wp2_with (go_at_call 132; rw [← hW]; refine (fits_ContainsFunc _ _ k _ _ HI.out HC.out.2 HC.out.1 h0 h1).mono ?_; rintro _ w1 ⟨rfl, hb1⟩)
  go_ret
  exact ⟨ret_bool HE.out, by (repeat (with_reducible first | exact Below.refl _ _ | assumption | refine Below.drewN _ ?_ | refine Below.drew ?_ | refine Below_alloc ?_ _ | refine Below.alloc ?_ (by first | (simp; done) | (simp; omega) | omega) _ | refine Below.setCell ?_ (by first | (simp; done) | (simp; omega) | omega) _ | refine Below_call ?_ (by assumption) | refine Below.trans ?_ (by assumption)))⟩
end Go.Proofs.Ytlmdmpjfehpjeaa

/- Tracks: places, permitted steps. -/
set_option linter.unusedVariables false
set_option linter.unusedSimpArgs false
namespace Go.Proofs.Ytlmdmpjfehpjeaa
open Go.RowKit

theorem track_placeErr (p : V3) (w : World) : Calls Try.prog 70 #[p.v] w fun e w' => e = .returned (.int .i64 (plE p)) ∧ Below w.heap.size w w' := by
  have HF : Hid (∀ W, Calls Try.prog 102 #[p.v, .int .i64 1000] W fun e w' => e = .returned (.bool (p.inS 1000)) ∧ Below W.heap.size W w') := hid (fun W => track_fits p 1000 W (by omega) (by omega))
  have HE : Hid (plE p = unl (p.inS 1000) 2) := hid rfl
  obtain ⟨x, y, z⟩ := p
  unfold V3.v at *
  simp only at *
  go_enter Try.func70, Try.ntmps70
  go_wp2_with (first | (go_at_call 102; refine (HF.out _).mono ?_; rintro _ w1 ⟨rfl, hb1⟩) | (go_at_call 72; refine (track_unless _ _ _).mono ?_; rintro _ _ ⟨rfl, rfl⟩))
  go_ret
  exact ⟨ret_int HE.out.symm, by (repeat (with_reducible first | exact Below.refl _ _ | assumption | refine Below.drewN _ ?_ | refine Below.drew ?_ | refine Below_alloc ?_ _ | refine Below.alloc ?_ (by first | (simp; done) | (simp; omega) | omega) _ | refine Below.setCell ?_ (by first | (simp; done) | (simp; omega) | omega) _ | refine Below_call ?_ (by assumption) | refine Below.trans ?_ (by assumption)))⟩

/-- light times the square of the ticks stays small. -/
theorem slow_sz {m : TMod} (ho : m.Ok) : 0 ≤ m.li * m.tk ∧ m.li * m.tk ≤ 2000 ∧ 0 ≤ m.li * m.tk * m.tk ∧ m.li * m.tk * m.tk ≤ 40000 := by
  have h1 := ho.li
  have h2 := ho.tk
  have a := Int.mul_nonneg (show 0 ≤ m.li by omega) (show 0 ≤ m.tk by omega)
  have b := Int.mul_le_mul h1.2 h2.2 (by omega) (by omega)
  have c := Int.mul_nonneg a (show 0 ≤ m.tk by omega)
  have d := Int.mul_le_mul (show m.li * m.tk ≤ 2000 by omega) h2.2 (by omega) (by omega)
  omega
set_option maxRecDepth 100000 in
set_option maxHeartbeats 1000000 in
theorem track_slow (m : TMod) (w : World) (ho : m.Ok) : Calls Try.prog 121 #[m.v] w fun e w' => e = .returned (.int .i64 m.slow) ∧ Below w.heap.size w w' := by
  obtain ⟨a1, a2, b1, b2⟩ := slow_sz ho
  unfold TMod.v TMod.slow
  obtain ⟨px, py, pz, tm, tk, lo, hi, li, ea, la, no, mi⟩ := m
  simp only at *
  obtain ⟨A, hA⟩ : ∃ A, A = li * tk := ⟨_, rfl⟩
  rw [← hA] at a1 a2 b1 b2 ⊢
  obtain ⟨B, hB⟩ : ∃ B, B = A * tk := ⟨_, rfl⟩
  rw [← hB] at b1 b2 ⊢
  have e1 : li * tk = A := hA.symm
  have e2 : A * tk = B := hB.symm
  clear hA hB ho
  go_enter Try.func121, Try.ntmps121
  go_wp2_with fail
  go_ret
  exact ⟨rfl, by (repeat (with_reducible first | exact Below.refl _ _ | assumption | refine Below.drewN _ ?_ | refine Below.drew ?_ | refine Below_alloc ?_ _ | refine Below.alloc ?_ (by first | (simp; done) | (simp; omega) | omega) _ | refine Below.setCell ?_ (by first | (simp; done) | (simp; omega) | omega) _ | refine Below_call ?_ (by assumption) | refine Below.trans ?_ (by assumption)))⟩
end Go.Proofs.Ytlmdmpjfehpjeaa

/- Tracks: errors of the reference. -/
set_option linter.unusedVariables false
set_option linter.unusedSimpArgs false
namespace Go.Proofs.Ytlmdmpjfehpjeaa
open Go.RowKit

theorem al2 (w : World) (a b : Array Value) (t s : TypeId) : ∀ W, W = (w.alloc (.cells a t)).alloc (.cells b s) → W.heap[w.heap.size]? = some (.cells a t (0, 0)) ∧ W.heap[w.heap.size + 1]? = some (.cells b s (0, 0)) ∧ w.heap.size < W.heap.size ∧ w.heap.size + 1 < W.heap.size := by
  rintro W rfl
  refine ⟨?_, ?_, by simp; omega, by simp⟩
  · rw [Below.heap_alloc _ _ _ (by simp), heap_alloc_new]
  · have := heap_alloc_new (w.alloc (.cells a t)) (.cells b s)
    simpa using this

set_option maxRecDepth 100000 in
set_option maxHeartbeats 1000000 in
theorem ref_IsPermitted (m : TMod) (s : V3) (w : World) (h : s.sm s) : Calls Try.prog 107 #[m.v, s.v] w fun e w' => e = .returned (.bool (m.permB s)) ∧ Below w.heap.size w w' := by
  have HD : Hid (∀ W, Calls Try.prog 82 #[s.v, s.v] W fun e w' => e = .returned (.int .i64 (s.dot s)) ∧ Below W.heap.size W w') := hid (fun W => ref_Dot s s W h.1 h.2.1 h.2.2)
  have HE : Hid (m.permB s = inB (s.dot s) m.lo m.hi) := hid rfl
  obtain ⟨D, hD⟩ : ∃ D, D = s.dot s := ⟨_, rfl⟩
  rw [← hD] at HD HE
  obtain ⟨px, py, pz, tm, tk, lo, hi, li, ea, la, no, mi⟩ := m
  obtain ⟨x, y, z⟩ := s
  unfold TMod.v V3.v at *
  simp only at *
  clear hD h
  obtain ⟨W, hW⟩ : ∃ W, W = (w.alloc (.cells #[.int .i64 px, .int .i64 py, .int .i64 pz, .int .i64 tm, .int .i64 tk, .int .i64 lo, .int .i64 hi, .int .i64 li, .int .i64 ea, .int .i64 la, .int .i64 no, .int .i64 mi] 26)).alloc (.cells #[.int .i64 x, .int .i64 y, .int .i64 z] 22) := ⟨_, rfl⟩
  have hbW : Below w.heap.size w W := by rw [hW]; (repeat (with_reducible first | exact Below.refl _ _ | assumption | refine Below.drewN _ ?_ | refine Below.drew ?_ | refine Below_alloc ?_ _ | refine Below.alloc ?_ (by first | (simp; done) | (simp; omega) | omega) _ | refine Below.setCell ?_ (by first | (simp; done) | (simp; omega) | omega) _ | refine Below_call ?_ (by assumption) | refine Below.trans ?_ (by assumption)))
  obtain ⟨q0, q1, hl0, hl1⟩ := al2 w _ _ _ _ W hW
  have c5 : W.cell? ⟨w.heap.size, 5, none⟩ = some (.int .i64 lo) := by rw [cell_of_row W _ 5 _ _ (0, 0) q0]; rfl
  have c6 : W.cell? ⟨w.heap.size, 6, none⟩ = some (.int .i64 hi) := by rw [cell_of_row W _ 6 _ _ (0, 0) q0]; rfl
  have d0 : W.cell? ⟨w.heap.size + 1, 0, none⟩ = some (.int .i64 x) := by rw [cell_of_row W _ 0 _ _ (0, 0) q1]; rfl
  have d1 : W.cell? ⟨w.heap.size + 1, 1, none⟩ = some (.int .i64 y) := by rw [cell_of_row W _ 1 _ _ (0, 0) q1]; rfl
  have d2 : W.cell? ⟨w.heap.size + 1, 2, none⟩ = some (.int .i64 z) := by rw [cell_of_row W _ 2 _ _ (0, 0) q1]; rfl
  clear q0 q1
  go_enter Try.func107, Try.ntmps107
  go_wp2_with fail
  rw [← hW]
  clear hW
  refine wp_mixC (fun wc => Below (W.heap.size) W wc) 10 [.q [0, 1, 3, 4, 5, 6, 7, 8], .f [2, 9]] [.q [10]] (by kernel_rfl) (by kernel_rfl) ((Below.refl _ _).drew) ?_
  intro Q' hQ'
  (rw [wpMixC]; simp only [pick, List.drop_succ_cons, List.drop_zero, List.head?_cons, Option.toList_some, List.cons_append, List.nil_append])
  (repeat (first | go_big_quiet_skip | (go_big_quiet_want; refine quiet_simple rfl ?_; go_big_quiet_op; go_big_quiet_on) | (go_big_quiet_want; refine quiet_cellB (ty := 3) rfl rfl (by kernel_rfl) (by assumption) (by first | omega | (simp; omega)) ?_; simp only [Act.put, List.setIfInBounds_toArray, List.set_cons_succ, List.set_cons_zero]; go_big_quiet_on) | (go_big_quiet_want; refine quiet_agg3B (ty := 22) rfl rfl (by kernel_rfl) (by assumption) (by assumption) (by assumption) (by first | omega | (simp; omega)) ?_; simp only [Act.put, List.setIfInBounds_toArray, List.set_cons_succ, List.set_cons_zero]; go_big_quiet_on)))
  (try refine wpQuiet_nil ?_)
  (rw [wpMixC]; simp only [pick, List.drop_succ_cons, List.drop_zero, List.head?_cons, Option.toList_some, List.cons_append, List.nil_append])
  (rw [wpSteps]; go_wp2_with ((go_at_call 82; refine (HD.out _).mono ?_; rintro _ w1 ⟨rfl, hb1⟩)); rw [contF]; refine ⟨?_, ?_⟩; (next => (repeat (with_reducible first | exact Below.refl _ _ | assumption | refine Below.drewN _ ?_ | refine Below.drew ?_ | refine Below_alloc ?_ _ | refine Below.alloc ?_ (by first | (simp; done) | (simp; omega) | omega) _ | refine Below.setCell ?_ (by first | (simp; done) | (simp; omega) | omega) _ | refine Below_call ?_ (by assumption) | refine Below.trans ?_ (by assumption)))))
  (rw [wpSteps]; go_wp2_with ((go_at_call 26; refine (base_Within _ _ _ _).mono ?_; rintro _ _ ⟨rfl, rfl⟩)); rw [contF]; refine ⟨?_, ?_⟩; (next => (repeat (with_reducible first | exact Below.refl _ _ | assumption | refine Below.drewN _ ?_ | refine Below.drew ?_ | refine Below_alloc ?_ _ | refine Below.alloc ?_ (by first | (simp; done) | (simp; omega) | omega) _ | refine Below.setCell ?_ (by first | (simp; done) | (simp; omega) | omega) _ | refine Below_call ?_ (by assumption) | refine Below.trans ?_ (by assumption)))))
  (rw [wpSteps])
  (rw [wpMixC])
  (rw [wpMix]; simp only [pick, List.drop_succ_cons, List.drop_zero, List.head?_cons, Option.toList_some, List.cons_append, List.nil_append])
  (repeat (first | (go_big_quiet_step (fail)) | (quiet_step (fail))))
  (try refine wpQuiet_nil ?_)
  (rw [wpMix])
  (refine hQ' _ _ ?_)
  go_wp2_with fail
  go_ret
  exact ⟨ret_bool HE.out.symm, by (repeat (with_reducible first | exact Below.refl _ _ | assumption | refine Below.drewN _ ?_ | refine Below.drew ?_ | refine Below_alloc ?_ _ | refine Below.alloc ?_ (by first | (simp; done) | (simp; omega) | omega) _ | refine Below.setCell ?_ (by first | (simp; done) | (simp; omega) | omega) _ | refine Below_call ?_ (by assumption) | refine Below.trans ?_ (by assumption)))⟩

set_option maxRecDepth 100000 in
set_option maxHeartbeats 1000000 in
theorem ref_MomentErr (p : V3) (t : Int) (w : World) : Calls Try.prog 20 #[.agg #[.int .i64 p.x, .int .i64 p.y, .int .i64 p.z, .int .i64 t]] w fun e w' => e = .returned (.int .i64 (momE p t)) ∧ Below w.heap.size w w' := by
  obtain ⟨x, y, z⟩ := p
  simp only
  have HE : Hid ((plE ⟨x, y, z⟩ = 0 → momE ⟨x, y, z⟩ t = unl (inB t (-1000000) 1000000) 2) ∧ (plE ⟨x, y, z⟩ ≠ 0 → momE ⟨x, y, z⟩ t = plE ⟨x, y, z⟩)) := hid (by
    unfold momE
    constructor
    · intro h; simp only [firstNZ, h, if_true]; by_cases hu : unl (inB t (-1000000) 1000000) 2 = 0 <;> simp [hu]
    · intro h; simp only [firstNZ, if_neg h])
  have HP : Hid (∀ W, Calls Try.prog 21 #[.agg #[.int .i64 x, .int .i64 y, .int .i64 z]] W fun e w' => e = .returned (.int .i64 (plE ⟨x, y, z⟩)) ∧ Below W.heap.size W w') := hid (fun W => ref_PlaceErr x y z W)
  obtain ⟨E, hE⟩ : ∃ E, E = plE ⟨x, y, z⟩ := ⟨_, rfl⟩
  rw [← hE] at HE HP
  clear hE
  by_cases h0 : E = 0
  · subst h0
    cases hb : inB t (-1000000) 1000000
    all_goals
      have HB := hid hb
      go_enter Try.func20, Try.ntmps20
      go_wp2_with (first | (go_at_call 21; refine (HP.out _).mono ?_; rintro _ w1 ⟨rfl, hb1⟩; obtain ⟨hc1, hf1⟩ := bcell hb1; have hz1 := hb1.size; (try simp only [World.size_alloc, World.heap_drewN] at hz1); have hk1_0 : w.heap.size < w1.heap.size := (by omega); have q1_0_0 := hc1 (w.heap.size) 0 (by first | assumption | (simp; done) | (simp; omega)); (try simp at q1_0_0); have p1_0_0 := hf1 (w.heap.size) 0 (by first | assumption | (simp; done) | (simp; omega)); (try simp at p1_0_0); have q1_0_1 := hc1 (w.heap.size) 1 (by first | assumption | (simp; done) | (simp; omega)); (try simp at q1_0_1); have p1_0_1 := hf1 (w.heap.size) 1 (by first | assumption | (simp; done) | (simp; omega)); (try simp at p1_0_1); have q1_0_2 := hc1 (w.heap.size) 2 (by first | assumption | (simp; done) | (simp; omega)); (try simp at q1_0_2); have p1_0_2 := hf1 (w.heap.size) 2 (by first | assumption | (simp; done) | (simp; omega)); (try simp at p1_0_2); have q1_0_3 := hc1 (w.heap.size) 3 (by first | assumption | (simp; done) | (simp; omega)); (try simp at q1_0_3); have p1_0_3 := hf1 (w.heap.size) 3 (by first | assumption | (simp; done) | (simp; omega)); (try simp at p1_0_3)) | (go_at_call 26; refine (base_Within _ _ _ _).mono ?_; rintro _ _ ⟨rfl, rfl⟩))
      go_ret
      exact ⟨ret_int (by rw [HE.out.1 (by first | rfl | trivial), HB.out]; rfl), by (repeat (with_reducible first | exact Below.refl _ _ | assumption | refine Below.drewN _ ?_ | refine Below.drew ?_ | refine Below_alloc ?_ _ | refine Below.alloc ?_ (by first | (simp; done) | (simp; omega) | omega) _ | refine Below.setCell ?_ (by first | (simp; done) | (simp; omega) | omega) _ | refine Below_call ?_ (by assumption) | refine Below.trans ?_ (by assumption)))⟩
  · have h1 : (E != 0) = true := by simpa using h0
    have HN := hid h0
    clear h0
    go_enter Try.func20, Try.ntmps20
    go_wp2_with (first | (go_at_call 21; refine (HP.out _).mono ?_; rintro _ w1 ⟨rfl, hb1⟩; obtain ⟨hc1, hf1⟩ := bcell hb1; have hz1 := hb1.size; (try simp only [World.size_alloc, World.heap_drewN] at hz1); have hk1_0 : w.heap.size < w1.heap.size := (by omega); have q1_0_0 := hc1 (w.heap.size) 0 (by first | assumption | (simp; done) | (simp; omega)); (try simp at q1_0_0); have p1_0_0 := hf1 (w.heap.size) 0 (by first | assumption | (simp; done) | (simp; omega)); (try simp at p1_0_0); have q1_0_1 := hc1 (w.heap.size) 1 (by first | assumption | (simp; done) | (simp; omega)); (try simp at q1_0_1); have p1_0_1 := hf1 (w.heap.size) 1 (by first | assumption | (simp; done) | (simp; omega)); (try simp at p1_0_1); have q1_0_2 := hc1 (w.heap.size) 2 (by first | assumption | (simp; done) | (simp; omega)); (try simp at q1_0_2); have p1_0_2 := hf1 (w.heap.size) 2 (by first | assumption | (simp; done) | (simp; omega)); (try simp at p1_0_2); have q1_0_3 := hc1 (w.heap.size) 3 (by first | assumption | (simp; done) | (simp; omega)); (try simp at q1_0_3); have p1_0_3 := hf1 (w.heap.size) 3 (by first | assumption | (simp; done) | (simp; omega)); (try simp at p1_0_3)) | (go_at_call 26; refine (base_Within _ _ _ _).mono ?_; rintro _ _ ⟨rfl, rfl⟩))
    go_ret
    exact ⟨ret_int (HE.out.2 HN.out).symm, by (repeat (with_reducible first | exact Below.refl _ _ | assumption | refine Below.drewN _ ?_ | refine Below.drew ?_ | refine Below_alloc ?_ _ | refine Below.alloc ?_ (by first | (simp; done) | (simp; omega) | omega) _ | refine Below.setCell ?_ (by first | (simp; done) | (simp; omega) | omega) _ | refine Below_call ?_ (by assumption) | refine Below.trans ?_ (by assumption)))⟩
end Go.Proofs.Ytlmdmpjfehpjeaa

/- Tracks: errors of steps by the reference. -/
set_option linter.unusedVariables false
set_option linter.unusedSimpArgs false
namespace Go.Proofs.Ytlmdmpjfehpjeaa
open Go.RowKit

theorem sm_self {s : V3} (h : s.inS 20 = true) : s.sm s := by
  have := dot_sz h h (by omega) (by omega)
  unfold V3.sm; omega
set_option maxRecDepth 100000 in
set_option maxHeartbeats 2000000 in
theorem ref_StepErr (m : TMod) (s : V3) (w : World) : Calls Try.prog 55 #[m.v, s.v] w fun e w' => e = .returned (.int .i64 (m.stE s)) ∧ Below w.heap.size w w' := by
  have HI : Hid (s.inS 20 = true → ∀ W, Calls Try.prog 107 #[m.v, s.v] W fun e w' => e = .returned (.bool (m.permB s)) ∧ Below W.heap.size W w') := hid (fun h W => ref_IsPermitted m s W (sm_self h))
  have HE : Hid ((s.inS 20 = false → m.stE s = 2) ∧ (s.inS 20 = true → m.stE s = unl (m.permB s) 24)) := hid (by
    unfold TMod.stE
    constructor
    · intro h; rw [h]; rfl
    · intro h; rw [h]; cases m.permB s <;> rfl)
  have HS : Hid (s.inS 20 = (inB s.x (-20) 20 && inB s.y (-20) 20 && inB s.z (-20) 20)) := hid rfl
  obtain ⟨B, hB⟩ : ∃ B, B = m.permB s := ⟨_, rfl⟩
  rw [← hB] at HI HE
  obtain ⟨E, hE⟩ : ∃ E, E = m.stE s := ⟨_, rfl⟩
  rw [← hE] at HE ⊢
  obtain ⟨I, hI⟩ : ∃ I, I = s.inS 20 := ⟨_, rfl⟩
  rw [← hI] at HI HE HS
  obtain ⟨px, py, pz, tm, tk, lo, hi, li, ea, la, no, mi⟩ := m
  obtain ⟨x, y, z⟩ := s
  unfold TMod.v V3.v at *
  simp only at *
  clear hB hE hI
  cases hx : inB x (-20) 20
  · have HX := hid hx
    go_enter Try.func55, Try.ntmps55
    go_wp2_with (go_at_call 97; refine (ref_isSide _ _).mono ?_; rintro _ _ ⟨rfl, rfl⟩)
    go_ret
    exact ⟨ret_int (HE.out.1 (by rw [HS.out, HX.out]; rfl)).symm, by (repeat (with_reducible first | exact Below.refl _ _ | assumption | refine Below.drewN _ ?_ | refine Below.drew ?_ | refine Below_alloc ?_ _ | refine Below.alloc ?_ (by first | (simp; done) | (simp; omega) | omega) _ | refine Below.setCell ?_ (by first | (simp; done) | (simp; omega) | omega) _ | refine Below_call ?_ (by assumption) | refine Below.trans ?_ (by assumption)))⟩
  · cases hy : inB y (-20) 20
    · have HY := hid hy
      go_enter Try.func55, Try.ntmps55
      go_wp2_with (go_at_call 97; refine (ref_isSide _ _).mono ?_; rintro _ _ ⟨rfl, rfl⟩)
      go_ret
      exact ⟨ret_int (HE.out.1 (by rw [HS.out, HY.out]; simp)).symm, by (repeat (with_reducible first | exact Below.refl _ _ | assumption | refine Below.drewN _ ?_ | refine Below.drew ?_ | refine Below_alloc ?_ _ | refine Below.alloc ?_ (by first | (simp; done) | (simp; omega) | omega) _ | refine Below.setCell ?_ (by first | (simp; done) | (simp; omega) | omega) _ | refine Below_call ?_ (by assumption) | refine Below.trans ?_ (by assumption)))⟩
    · cases hz : inB z (-20) 20
      · have HZ := hid hz
        go_enter Try.func55, Try.ntmps55
        go_wp2_with (go_at_call 97; refine (ref_isSide _ _).mono ?_; rintro _ _ ⟨rfl, rfl⟩)
        go_ret
        exact ⟨ret_int (HE.out.1 (by rw [HS.out, HZ.out]; simp)).symm, by (repeat (with_reducible first | exact Below.refl _ _ | assumption | refine Below.drewN _ ?_ | refine Below.drew ?_ | refine Below_alloc ?_ _ | refine Below.alloc ?_ (by first | (simp; done) | (simp; omega) | omega) _ | refine Below.setCell ?_ (by first | (simp; done) | (simp; omega) | omega) _ | refine Below_call ?_ (by assumption) | refine Below.trans ?_ (by assumption)))⟩
      · have HT : Hid (I = true) := hid (by rw [HS.out, hx, hy, hz]; rfl)
        cases B
        all_goals
          go_enter Try.func55, Try.ntmps55
          go_wp2_with (first | (go_at_call 97; refine (ref_isSide _ _).mono ?_; rintro _ _ ⟨rfl, rfl⟩) | (go_at_call 107; refine (HI.out HT.out _).mono ?_; rintro _ w1 ⟨rfl, hb1⟩))
          go_ret
          exact ⟨ret_int (by rw [HE.out.2 HT.out]; rfl), by (repeat (with_reducible first | exact Below.refl _ _ | assumption | refine Below.drewN _ ?_ | refine Below.drew ?_ | refine Below_alloc ?_ _ | refine Below.alloc ?_ (by first | (simp; done) | (simp; omega) | omega) _ | refine Below.setCell ?_ (by first | (simp; done) | (simp; omega) | omega) _ | refine Below_call ?_ (by assumption) | refine Below.trans ?_ (by assumption)))⟩
end Go.Proofs.Ytlmdmpjfehpjeaa

