/- A class of worlds in which some blocks are as they were; loads of aggregates of many cells. -/
import Derived.Test.YtllddidjiabegaaK1
import Derived.Test.YtllddidjiabegaaK8
set_option linter.unusedVariables false
set_option linter.unusedSimpArgs false
namespace Go.Proofs.Ytllddidjiabegaa
open Go.RowKit

/-- the blocks of a list are as they were. -/
def KeepB (G : List Nat) (W wc : World) : Prop := ∀ g ∈ G, g < wc.heap.size ∧ wc.heap[g]? = W.heap[g]?
theorem KeepB.refl {G : List Nat} {W : World} (h : ∀ g ∈ G, g < W.heap.size) : KeepB G W W := fun g hg => ⟨h g hg, rfl⟩
theorem KeepB.drew {G : List Nat} {W w : World} (h : KeepB G W w) : KeepB G W w.drew := fun g hg => h g hg
theorem KeepB.below {G : List Nat} {W w w' : World} (h : KeepB G W w) (hb : Below w.heap.size w w') : KeepB G W w' := fun g hg => ⟨Nat.lt_of_lt_of_le (h g hg).1 hb.size, (hb.block g (h g hg).1).trans (h g hg).2⟩
theorem KeepB.alloc {G : List Nat} {W w : World} (h : KeepB G W w) (o : Obj) : KeepB G W (w.alloc o) := KeepB.below h ((Below.refl _ _).alloc (Nat.le_refl _) o)
theorem heap_setCell_ne (w : World) (g k off : Nat) (v : Value) (h : g ≠ k) : (w.setCell ⟨k, off, none⟩ v).heap[g]? = w.heap[g]? := heap_setCell_other w ⟨k, off, none⟩ g v h
theorem KeepB.setCell {G : List Nat} {W w : World} {k off : Nat} {v : Value} (h : KeepB G W w) (hk : ∀ g ∈ G, g ≠ k) : KeepB G W (w.setCell ⟨k, off, none⟩ v) := fun g hg => by
  rw [World.size_setCell, heap_setCell_ne _ _ _ _ _ (hk g hg)]; exact h g hg
theorem KeepB.cell {G : List Nat} {W w : World} (h : KeepB G W w) {g off : Nat} (hg : g ∈ G) : w.cell? ⟨g, off, none⟩ = W.cell? ⟨g, off, none⟩ := by
  simp only [World.cell?, (h g hg).2]
theorem quiet_cellK {P : Program} {o : Oper} {a : Act} {G : List Nat} {w0 : World} {K : Act → Prop} {ty : TypeId} {x : Operand} {b off : Nat} {v : Value} (ho : o.op = .load ty x) (hx : a.eval x = .pointer (some ⟨b, off, none⟩)) (hd : aggB P ty = false)
    (hc : w0.cell? ⟨b, off, none⟩ = some v) (hb : b ∈ G) (hK : K (a.put o.dst v)) : o.quiet P a (KeepB G w0) K :=
  quiet_val v (fun w hw => run_load_cell ho hx (isAgg_no hd) ((hw.cell hb).trans hc)) hK
theorem quiet_agg5B {P : Program} {o : Oper} {a : Act} {B : Nat} {w0 : World} {K : Act → Prop} {ty : TypeId} {x : Operand} {b off : Nat} {v0 v1 v2 v3 v4 : Value} (ho : o.op = .load ty x) (hx : a.eval x = .pointer (some ⟨b, off, none⟩)) (hd : yesB P ty 5 = true)
    (h0 : w0.cell? ⟨b, off, none⟩ = some v0) (h1 : w0.cell? ⟨b, off + 1, none⟩ = some v1) (h2 : w0.cell? ⟨b, off + 2, none⟩ = some v2) (h3 : w0.cell? ⟨b, off + 3, none⟩ = some v3) (h4 : w0.cell? ⟨b, off + 4, none⟩ = some v4) (hb : b < B) (hK : K (a.put o.dst (.agg #[v0, v1, v2, v3, v4]))) : o.quiet P a (fun w' => Below B w0 w') K :=
  quiet_val _ (fun w hw => run_load_agg [v0, v1, v2, v3, v4] ho hx hd (fun j v hj => by
    match j, hj with
    | 0, hj => cases hj; exact (hw.cell (p := ⟨b, off, none⟩) hb).trans h0
    | 1, hj => cases hj; exact (hw.cell (p := ⟨b, off + 1, none⟩) hb).trans h1
    | 2, hj => cases hj; exact (hw.cell (p := ⟨b, off + 2, none⟩) hb).trans h2
    | 3, hj => cases hj; exact (hw.cell (p := ⟨b, off + 3, none⟩) hb).trans h3
    | 4, hj => cases hj; exact (hw.cell (p := ⟨b, off + 4, none⟩) hb).trans h4
    | j + 5, hj => simp at hj)) hK
theorem quiet_agg6B {P : Program} {o : Oper} {a : Act} {B : Nat} {w0 : World} {K : Act → Prop} {ty : TypeId} {x : Operand} {b off : Nat} {v0 v1 v2 v3 v4 v5 : Value} (ho : o.op = .load ty x) (hx : a.eval x = .pointer (some ⟨b, off, none⟩)) (hd : yesB P ty 6 = true)
    (h0 : w0.cell? ⟨b, off, none⟩ = some v0) (h1 : w0.cell? ⟨b, off + 1, none⟩ = some v1) (h2 : w0.cell? ⟨b, off + 2, none⟩ = some v2) (h3 : w0.cell? ⟨b, off + 3, none⟩ = some v3) (h4 : w0.cell? ⟨b, off + 4, none⟩ = some v4) (h5 : w0.cell? ⟨b, off + 5, none⟩ = some v5) (hb : b < B) (hK : K (a.put o.dst (.agg #[v0, v1, v2, v3, v4, v5]))) : o.quiet P a (fun w' => Below B w0 w') K :=
  quiet_val _ (fun w hw => run_load_agg [v0, v1, v2, v3, v4, v5] ho hx hd (fun j v hj => by
    match j, hj with
    | 0, hj => cases hj; exact (hw.cell (p := ⟨b, off, none⟩) hb).trans h0
    | 1, hj => cases hj; exact (hw.cell (p := ⟨b, off + 1, none⟩) hb).trans h1
    | 2, hj => cases hj; exact (hw.cell (p := ⟨b, off + 2, none⟩) hb).trans h2
    | 3, hj => cases hj; exact (hw.cell (p := ⟨b, off + 3, none⟩) hb).trans h3
    | 4, hj => cases hj; exact (hw.cell (p := ⟨b, off + 4, none⟩) hb).trans h4
    | 5, hj => cases hj; exact (hw.cell (p := ⟨b, off + 5, none⟩) hb).trans h5
    | j + 6, hj => simp at hj)) hK
theorem quiet_agg7B {P : Program} {o : Oper} {a : Act} {B : Nat} {w0 : World} {K : Act → Prop} {ty : TypeId} {x : Operand} {b off : Nat} {v0 v1 v2 v3 v4 v5 v6 : Value} (ho : o.op = .load ty x) (hx : a.eval x = .pointer (some ⟨b, off, none⟩)) (hd : yesB P ty 7 = true)
    (h0 : w0.cell? ⟨b, off, none⟩ = some v0) (h1 : w0.cell? ⟨b, off + 1, none⟩ = some v1) (h2 : w0.cell? ⟨b, off + 2, none⟩ = some v2) (h3 : w0.cell? ⟨b, off + 3, none⟩ = some v3) (h4 : w0.cell? ⟨b, off + 4, none⟩ = some v4) (h5 : w0.cell? ⟨b, off + 5, none⟩ = some v5) (h6 : w0.cell? ⟨b, off + 6, none⟩ = some v6) (hb : b < B) (hK : K (a.put o.dst (.agg #[v0, v1, v2, v3, v4, v5, v6]))) : o.quiet P a (fun w' => Below B w0 w') K :=
  quiet_val _ (fun w hw => run_load_agg [v0, v1, v2, v3, v4, v5, v6] ho hx hd (fun j v hj => by
    match j, hj with
    | 0, hj => cases hj; exact (hw.cell (p := ⟨b, off, none⟩) hb).trans h0
    | 1, hj => cases hj; exact (hw.cell (p := ⟨b, off + 1, none⟩) hb).trans h1
    | 2, hj => cases hj; exact (hw.cell (p := ⟨b, off + 2, none⟩) hb).trans h2
    | 3, hj => cases hj; exact (hw.cell (p := ⟨b, off + 3, none⟩) hb).trans h3
    | 4, hj => cases hj; exact (hw.cell (p := ⟨b, off + 4, none⟩) hb).trans h4
    | 5, hj => cases hj; exact (hw.cell (p := ⟨b, off + 5, none⟩) hb).trans h5
    | 6, hj => cases hj; exact (hw.cell (p := ⟨b, off + 6, none⟩) hb).trans h6
    | j + 7, hj => simp at hj)) hK
theorem quiet_agg8B {P : Program} {o : Oper} {a : Act} {B : Nat} {w0 : World} {K : Act → Prop} {ty : TypeId} {x : Operand} {b off : Nat} {v0 v1 v2 v3 v4 v5 v6 v7 : Value} (ho : o.op = .load ty x) (hx : a.eval x = .pointer (some ⟨b, off, none⟩)) (hd : yesB P ty 8 = true)
    (h0 : w0.cell? ⟨b, off, none⟩ = some v0) (h1 : w0.cell? ⟨b, off + 1, none⟩ = some v1) (h2 : w0.cell? ⟨b, off + 2, none⟩ = some v2) (h3 : w0.cell? ⟨b, off + 3, none⟩ = some v3) (h4 : w0.cell? ⟨b, off + 4, none⟩ = some v4) (h5 : w0.cell? ⟨b, off + 5, none⟩ = some v5) (h6 : w0.cell? ⟨b, off + 6, none⟩ = some v6) (h7 : w0.cell? ⟨b, off + 7, none⟩ = some v7) (hb : b < B) (hK : K (a.put o.dst (.agg #[v0, v1, v2, v3, v4, v5, v6, v7]))) : o.quiet P a (fun w' => Below B w0 w') K :=
  quiet_val _ (fun w hw => run_load_agg [v0, v1, v2, v3, v4, v5, v6, v7] ho hx hd (fun j v hj => by
    match j, hj with
    | 0, hj => cases hj; exact (hw.cell (p := ⟨b, off, none⟩) hb).trans h0
    | 1, hj => cases hj; exact (hw.cell (p := ⟨b, off + 1, none⟩) hb).trans h1
    | 2, hj => cases hj; exact (hw.cell (p := ⟨b, off + 2, none⟩) hb).trans h2
    | 3, hj => cases hj; exact (hw.cell (p := ⟨b, off + 3, none⟩) hb).trans h3
    | 4, hj => cases hj; exact (hw.cell (p := ⟨b, off + 4, none⟩) hb).trans h4
    | 5, hj => cases hj; exact (hw.cell (p := ⟨b, off + 5, none⟩) hb).trans h5
    | 6, hj => cases hj; exact (hw.cell (p := ⟨b, off + 6, none⟩) hb).trans h6
    | 7, hj => cases hj; exact (hw.cell (p := ⟨b, off + 7, none⟩) hb).trans h7
    | j + 8, hj => simp at hj)) hK
theorem quiet_agg9B {P : Program} {o : Oper} {a : Act} {B : Nat} {w0 : World} {K : Act → Prop} {ty : TypeId} {x : Operand} {b off : Nat} {v0 v1 v2 v3 v4 v5 v6 v7 v8 : Value} (ho : o.op = .load ty x) (hx : a.eval x = .pointer (some ⟨b, off, none⟩)) (hd : yesB P ty 9 = true)
    (h0 : w0.cell? ⟨b, off, none⟩ = some v0) (h1 : w0.cell? ⟨b, off + 1, none⟩ = some v1) (h2 : w0.cell? ⟨b, off + 2, none⟩ = some v2) (h3 : w0.cell? ⟨b, off + 3, none⟩ = some v3) (h4 : w0.cell? ⟨b, off + 4, none⟩ = some v4) (h5 : w0.cell? ⟨b, off + 5, none⟩ = some v5) (h6 : w0.cell? ⟨b, off + 6, none⟩ = some v6) (h7 : w0.cell? ⟨b, off + 7, none⟩ = some v7) (h8 : w0.cell? ⟨b, off + 8, none⟩ = some v8) (hb : b < B) (hK : K (a.put o.dst (.agg #[v0, v1, v2, v3, v4, v5, v6, v7, v8]))) : o.quiet P a (fun w' => Below B w0 w') K :=
  quiet_val _ (fun w hw => run_load_agg [v0, v1, v2, v3, v4, v5, v6, v7, v8] ho hx hd (fun j v hj => by
    match j, hj with
    | 0, hj => cases hj; exact (hw.cell (p := ⟨b, off, none⟩) hb).trans h0
    | 1, hj => cases hj; exact (hw.cell (p := ⟨b, off + 1, none⟩) hb).trans h1
    | 2, hj => cases hj; exact (hw.cell (p := ⟨b, off + 2, none⟩) hb).trans h2
    | 3, hj => cases hj; exact (hw.cell (p := ⟨b, off + 3, none⟩) hb).trans h3
    | 4, hj => cases hj; exact (hw.cell (p := ⟨b, off + 4, none⟩) hb).trans h4
    | 5, hj => cases hj; exact (hw.cell (p := ⟨b, off + 5, none⟩) hb).trans h5
    | 6, hj => cases hj; exact (hw.cell (p := ⟨b, off + 6, none⟩) hb).trans h6
    | 7, hj => cases hj; exact (hw.cell (p := ⟨b, off + 7, none⟩) hb).trans h7
    | 8, hj => cases hj; exact (hw.cell (p := ⟨b, off + 8, none⟩) hb).trans h8
    | j + 9, hj => simp at hj)) hK
theorem quiet_agg10B {P : Program} {o : Oper} {a : Act} {B : Nat} {w0 : World} {K : Act → Prop} {ty : TypeId} {x : Operand} {b off : Nat} {v0 v1 v2 v3 v4 v5 v6 v7 v8 v9 : Value} (ho : o.op = .load ty x) (hx : a.eval x = .pointer (some ⟨b, off, none⟩)) (hd : yesB P ty 10 = true)
    (h0 : w0.cell? ⟨b, off, none⟩ = some v0) (h1 : w0.cell? ⟨b, off + 1, none⟩ = some v1) (h2 : w0.cell? ⟨b, off + 2, none⟩ = some v2) (h3 : w0.cell? ⟨b, off + 3, none⟩ = some v3) (h4 : w0.cell? ⟨b, off + 4, none⟩ = some v4) (h5 : w0.cell? ⟨b, off + 5, none⟩ = some v5) (h6 : w0.cell? ⟨b, off + 6, none⟩ = some v6) (h7 : w0.cell? ⟨b, off + 7, none⟩ = some v7) (h8 : w0.cell? ⟨b, off + 8, none⟩ = some v8) (h9 : w0.cell? ⟨b, off + 9, none⟩ = some v9) (hb : b < B) (hK : K (a.put o.dst (.agg #[v0, v1, v2, v3, v4, v5, v6, v7, v8, v9]))) : o.quiet P a (fun w' => Below B w0 w') K :=
  quiet_val _ (fun w hw => run_load_agg [v0, v1, v2, v3, v4, v5, v6, v7, v8, v9] ho hx hd (fun j v hj => by
    match j, hj with
    | 0, hj => cases hj; exact (hw.cell (p := ⟨b, off, none⟩) hb).trans h0
    | 1, hj => cases hj; exact (hw.cell (p := ⟨b, off + 1, none⟩) hb).trans h1
    | 2, hj => cases hj; exact (hw.cell (p := ⟨b, off + 2, none⟩) hb).trans h2
    | 3, hj => cases hj; exact (hw.cell (p := ⟨b, off + 3, none⟩) hb).trans h3
    | 4, hj => cases hj; exact (hw.cell (p := ⟨b, off + 4, none⟩) hb).trans h4
    | 5, hj => cases hj; exact (hw.cell (p := ⟨b, off + 5, none⟩) hb).trans h5
    | 6, hj => cases hj; exact (hw.cell (p := ⟨b, off + 6, none⟩) hb).trans h6
    | 7, hj => cases hj; exact (hw.cell (p := ⟨b, off + 7, none⟩) hb).trans h7
    | 8, hj => cases hj; exact (hw.cell (p := ⟨b, off + 8, none⟩) hb).trans h8
    | 9, hj => cases hj; exact (hw.cell (p := ⟨b, off + 9, none⟩) hb).trans h9
    | j + 10, hj => simp at hj)) hK
theorem quiet_agg11B {P : Program} {o : Oper} {a : Act} {B : Nat} {w0 : World} {K : Act → Prop} {ty : TypeId} {x : Operand} {b off : Nat} {v0 v1 v2 v3 v4 v5 v6 v7 v8 v9 v10 : Value} (ho : o.op = .load ty x) (hx : a.eval x = .pointer (some ⟨b, off, none⟩)) (hd : yesB P ty 11 = true)
    (h0 : w0.cell? ⟨b, off, none⟩ = some v0) (h1 : w0.cell? ⟨b, off + 1, none⟩ = some v1) (h2 : w0.cell? ⟨b, off + 2, none⟩ = some v2) (h3 : w0.cell? ⟨b, off + 3, none⟩ = some v3) (h4 : w0.cell? ⟨b, off + 4, none⟩ = some v4) (h5 : w0.cell? ⟨b, off + 5, none⟩ = some v5) (h6 : w0.cell? ⟨b, off + 6, none⟩ = some v6) (h7 : w0.cell? ⟨b, off + 7, none⟩ = some v7) (h8 : w0.cell? ⟨b, off + 8, none⟩ = some v8) (h9 : w0.cell? ⟨b, off + 9, none⟩ = some v9) (h10 : w0.cell? ⟨b, off + 10, none⟩ = some v10) (hb : b < B) (hK : K (a.put o.dst (.agg #[v0, v1, v2, v3, v4, v5, v6, v7, v8, v9, v10]))) : o.quiet P a (fun w' => Below B w0 w') K :=
  quiet_val _ (fun w hw => run_load_agg [v0, v1, v2, v3, v4, v5, v6, v7, v8, v9, v10] ho hx hd (fun j v hj => by
    match j, hj with
    | 0, hj => cases hj; exact (hw.cell (p := ⟨b, off, none⟩) hb).trans h0
    | 1, hj => cases hj; exact (hw.cell (p := ⟨b, off + 1, none⟩) hb).trans h1
    | 2, hj => cases hj; exact (hw.cell (p := ⟨b, off + 2, none⟩) hb).trans h2
    | 3, hj => cases hj; exact (hw.cell (p := ⟨b, off + 3, none⟩) hb).trans h3
    | 4, hj => cases hj; exact (hw.cell (p := ⟨b, off + 4, none⟩) hb).trans h4
    | 5, hj => cases hj; exact (hw.cell (p := ⟨b, off + 5, none⟩) hb).trans h5
    | 6, hj => cases hj; exact (hw.cell (p := ⟨b, off + 6, none⟩) hb).trans h6
    | 7, hj => cases hj; exact (hw.cell (p := ⟨b, off + 7, none⟩) hb).trans h7
    | 8, hj => cases hj; exact (hw.cell (p := ⟨b, off + 8, none⟩) hb).trans h8
    | 9, hj => cases hj; exact (hw.cell (p := ⟨b, off + 9, none⟩) hb).trans h9
    | 10, hj => cases hj; exact (hw.cell (p := ⟨b, off + 10, none⟩) hb).trans h10
    | j + 11, hj => simp at hj)) hK
theorem quiet_agg12B {P : Program} {o : Oper} {a : Act} {B : Nat} {w0 : World} {K : Act → Prop} {ty : TypeId} {x : Operand} {b off : Nat} {v0 v1 v2 v3 v4 v5 v6 v7 v8 v9 v10 v11 : Value} (ho : o.op = .load ty x) (hx : a.eval x = .pointer (some ⟨b, off, none⟩)) (hd : yesB P ty 12 = true)
    (h0 : w0.cell? ⟨b, off, none⟩ = some v0) (h1 : w0.cell? ⟨b, off + 1, none⟩ = some v1) (h2 : w0.cell? ⟨b, off + 2, none⟩ = some v2) (h3 : w0.cell? ⟨b, off + 3, none⟩ = some v3) (h4 : w0.cell? ⟨b, off + 4, none⟩ = some v4) (h5 : w0.cell? ⟨b, off + 5, none⟩ = some v5) (h6 : w0.cell? ⟨b, off + 6, none⟩ = some v6) (h7 : w0.cell? ⟨b, off + 7, none⟩ = some v7) (h8 : w0.cell? ⟨b, off + 8, none⟩ = some v8) (h9 : w0.cell? ⟨b, off + 9, none⟩ = some v9) (h10 : w0.cell? ⟨b, off + 10, none⟩ = some v10) (h11 : w0.cell? ⟨b, off + 11, none⟩ = some v11) (hb : b < B) (hK : K (a.put o.dst (.agg #[v0, v1, v2, v3, v4, v5, v6, v7, v8, v9, v10, v11]))) : o.quiet P a (fun w' => Below B w0 w') K :=
  quiet_val _ (fun w hw => run_load_agg [v0, v1, v2, v3, v4, v5, v6, v7, v8, v9, v10, v11] ho hx hd (fun j v hj => by
    match j, hj with
    | 0, hj => cases hj; exact (hw.cell (p := ⟨b, off, none⟩) hb).trans h0
    | 1, hj => cases hj; exact (hw.cell (p := ⟨b, off + 1, none⟩) hb).trans h1
    | 2, hj => cases hj; exact (hw.cell (p := ⟨b, off + 2, none⟩) hb).trans h2
    | 3, hj => cases hj; exact (hw.cell (p := ⟨b, off + 3, none⟩) hb).trans h3
    | 4, hj => cases hj; exact (hw.cell (p := ⟨b, off + 4, none⟩) hb).trans h4
    | 5, hj => cases hj; exact (hw.cell (p := ⟨b, off + 5, none⟩) hb).trans h5
    | 6, hj => cases hj; exact (hw.cell (p := ⟨b, off + 6, none⟩) hb).trans h6
    | 7, hj => cases hj; exact (hw.cell (p := ⟨b, off + 7, none⟩) hb).trans h7
    | 8, hj => cases hj; exact (hw.cell (p := ⟨b, off + 8, none⟩) hb).trans h8
    | 9, hj => cases hj; exact (hw.cell (p := ⟨b, off + 9, none⟩) hb).trans h9
    | 10, hj => cases hj; exact (hw.cell (p := ⟨b, off + 10, none⟩) hb).trans h10
    | 11, hj => cases hj; exact (hw.cell (p := ⟨b, off + 11, none⟩) hb).trans h11
    | j + 12, hj => simp at hj)) hK
theorem quiet_agg13B {P : Program} {o : Oper} {a : Act} {B : Nat} {w0 : World} {K : Act → Prop} {ty : TypeId} {x : Operand} {b off : Nat} {v0 v1 v2 v3 v4 v5 v6 v7 v8 v9 v10 v11 v12 : Value} (ho : o.op = .load ty x) (hx : a.eval x = .pointer (some ⟨b, off, none⟩)) (hd : yesB P ty 13 = true)
    (h0 : w0.cell? ⟨b, off, none⟩ = some v0) (h1 : w0.cell? ⟨b, off + 1, none⟩ = some v1) (h2 : w0.cell? ⟨b, off + 2, none⟩ = some v2) (h3 : w0.cell? ⟨b, off + 3, none⟩ = some v3) (h4 : w0.cell? ⟨b, off + 4, none⟩ = some v4) (h5 : w0.cell? ⟨b, off + 5, none⟩ = some v5) (h6 : w0.cell? ⟨b, off + 6, none⟩ = some v6) (h7 : w0.cell? ⟨b, off + 7, none⟩ = some v7) (h8 : w0.cell? ⟨b, off + 8, none⟩ = some v8) (h9 : w0.cell? ⟨b, off + 9, none⟩ = some v9) (h10 : w0.cell? ⟨b, off + 10, none⟩ = some v10) (h11 : w0.cell? ⟨b, off + 11, none⟩ = some v11) (h12 : w0.cell? ⟨b, off + 12, none⟩ = some v12) (hb : b < B) (hK : K (a.put o.dst (.agg #[v0, v1, v2, v3, v4, v5, v6, v7, v8, v9, v10, v11, v12]))) : o.quiet P a (fun w' => Below B w0 w') K :=
  quiet_val _ (fun w hw => run_load_agg [v0, v1, v2, v3, v4, v5, v6, v7, v8, v9, v10, v11, v12] ho hx hd (fun j v hj => by
    match j, hj with
    | 0, hj => cases hj; exact (hw.cell (p := ⟨b, off, none⟩) hb).trans h0
    | 1, hj => cases hj; exact (hw.cell (p := ⟨b, off + 1, none⟩) hb).trans h1
    | 2, hj => cases hj; exact (hw.cell (p := ⟨b, off + 2, none⟩) hb).trans h2
    | 3, hj => cases hj; exact (hw.cell (p := ⟨b, off + 3, none⟩) hb).trans h3
    | 4, hj => cases hj; exact (hw.cell (p := ⟨b, off + 4, none⟩) hb).trans h4
    | 5, hj => cases hj; exact (hw.cell (p := ⟨b, off + 5, none⟩) hb).trans h5
    | 6, hj => cases hj; exact (hw.cell (p := ⟨b, off + 6, none⟩) hb).trans h6
    | 7, hj => cases hj; exact (hw.cell (p := ⟨b, off + 7, none⟩) hb).trans h7
    | 8, hj => cases hj; exact (hw.cell (p := ⟨b, off + 8, none⟩) hb).trans h8
    | 9, hj => cases hj; exact (hw.cell (p := ⟨b, off + 9, none⟩) hb).trans h9
    | 10, hj => cases hj; exact (hw.cell (p := ⟨b, off + 10, none⟩) hb).trans h10
    | 11, hj => cases hj; exact (hw.cell (p := ⟨b, off + 11, none⟩) hb).trans h11
    | 12, hj => cases hj; exact (hw.cell (p := ⟨b, off + 12, none⟩) hb).trans h12
    | j + 13, hj => simp at hj)) hK
theorem quiet_agg14B {P : Program} {o : Oper} {a : Act} {B : Nat} {w0 : World} {K : Act → Prop} {ty : TypeId} {x : Operand} {b off : Nat} {v0 v1 v2 v3 v4 v5 v6 v7 v8 v9 v10 v11 v12 v13 : Value} (ho : o.op = .load ty x) (hx : a.eval x = .pointer (some ⟨b, off, none⟩)) (hd : yesB P ty 14 = true)
    (h0 : w0.cell? ⟨b, off, none⟩ = some v0) (h1 : w0.cell? ⟨b, off + 1, none⟩ = some v1) (h2 : w0.cell? ⟨b, off + 2, none⟩ = some v2) (h3 : w0.cell? ⟨b, off + 3, none⟩ = some v3) (h4 : w0.cell? ⟨b, off + 4, none⟩ = some v4) (h5 : w0.cell? ⟨b, off + 5, none⟩ = some v5) (h6 : w0.cell? ⟨b, off + 6, none⟩ = some v6) (h7 : w0.cell? ⟨b, off + 7, none⟩ = some v7) (h8 : w0.cell? ⟨b, off + 8, none⟩ = some v8) (h9 : w0.cell? ⟨b, off + 9, none⟩ = some v9) (h10 : w0.cell? ⟨b, off + 10, none⟩ = some v10) (h11 : w0.cell? ⟨b, off + 11, none⟩ = some v11) (h12 : w0.cell? ⟨b, off + 12, none⟩ = some v12) (h13 : w0.cell? ⟨b, off + 13, none⟩ = some v13) (hb : b < B) (hK : K (a.put o.dst (.agg #[v0, v1, v2, v3, v4, v5, v6, v7, v8, v9, v10, v11, v12, v13]))) : o.quiet P a (fun w' => Below B w0 w') K :=
  quiet_val _ (fun w hw => run_load_agg [v0, v1, v2, v3, v4, v5, v6, v7, v8, v9, v10, v11, v12, v13] ho hx hd (fun j v hj => by
    match j, hj with
    | 0, hj => cases hj; exact (hw.cell (p := ⟨b, off, none⟩) hb).trans h0
    | 1, hj => cases hj; exact (hw.cell (p := ⟨b, off + 1, none⟩) hb).trans h1
    | 2, hj => cases hj; exact (hw.cell (p := ⟨b, off + 2, none⟩) hb).trans h2
    | 3, hj => cases hj; exact (hw.cell (p := ⟨b, off + 3, none⟩) hb).trans h3
    | 4, hj => cases hj; exact (hw.cell (p := ⟨b, off + 4, none⟩) hb).trans h4
    | 5, hj => cases hj; exact (hw.cell (p := ⟨b, off + 5, none⟩) hb).trans h5
    | 6, hj => cases hj; exact (hw.cell (p := ⟨b, off + 6, none⟩) hb).trans h6
    | 7, hj => cases hj; exact (hw.cell (p := ⟨b, off + 7, none⟩) hb).trans h7
    | 8, hj => cases hj; exact (hw.cell (p := ⟨b, off + 8, none⟩) hb).trans h8
    | 9, hj => cases hj; exact (hw.cell (p := ⟨b, off + 9, none⟩) hb).trans h9
    | 10, hj => cases hj; exact (hw.cell (p := ⟨b, off + 10, none⟩) hb).trans h10
    | 11, hj => cases hj; exact (hw.cell (p := ⟨b, off + 11, none⟩) hb).trans h11
    | 12, hj => cases hj; exact (hw.cell (p := ⟨b, off + 12, none⟩) hb).trans h12
    | 13, hj => cases hj; exact (hw.cell (p := ⟨b, off + 13, none⟩) hb).trans h13
    | j + 14, hj => simp at hj)) hK
theorem quiet_agg15B {P : Program} {o : Oper} {a : Act} {B : Nat} {w0 : World} {K : Act → Prop} {ty : TypeId} {x : Operand} {b off : Nat} {v0 v1 v2 v3 v4 v5 v6 v7 v8 v9 v10 v11 v12 v13 v14 : Value} (ho : o.op = .load ty x) (hx : a.eval x = .pointer (some ⟨b, off, none⟩)) (hd : yesB P ty 15 = true)
    (h0 : w0.cell? ⟨b, off, none⟩ = some v0) (h1 : w0.cell? ⟨b, off + 1, none⟩ = some v1) (h2 : w0.cell? ⟨b, off + 2, none⟩ = some v2) (h3 : w0.cell? ⟨b, off + 3, none⟩ = some v3) (h4 : w0.cell? ⟨b, off + 4, none⟩ = some v4) (h5 : w0.cell? ⟨b, off + 5, none⟩ = some v5) (h6 : w0.cell? ⟨b, off + 6, none⟩ = some v6) (h7 : w0.cell? ⟨b, off + 7, none⟩ = some v7) (h8 : w0.cell? ⟨b, off + 8, none⟩ = some v8) (h9 : w0.cell? ⟨b, off + 9, none⟩ = some v9) (h10 : w0.cell? ⟨b, off + 10, none⟩ = some v10) (h11 : w0.cell? ⟨b, off + 11, none⟩ = some v11) (h12 : w0.cell? ⟨b, off + 12, none⟩ = some v12) (h13 : w0.cell? ⟨b, off + 13, none⟩ = some v13) (h14 : w0.cell? ⟨b, off + 14, none⟩ = some v14) (hb : b < B) (hK : K (a.put o.dst (.agg #[v0, v1, v2, v3, v4, v5, v6, v7, v8, v9, v10, v11, v12, v13, v14]))) : o.quiet P a (fun w' => Below B w0 w') K :=
  quiet_val _ (fun w hw => run_load_agg [v0, v1, v2, v3, v4, v5, v6, v7, v8, v9, v10, v11, v12, v13, v14] ho hx hd (fun j v hj => by
    match j, hj with
    | 0, hj => cases hj; exact (hw.cell (p := ⟨b, off, none⟩) hb).trans h0
    | 1, hj => cases hj; exact (hw.cell (p := ⟨b, off + 1, none⟩) hb).trans h1
    | 2, hj => cases hj; exact (hw.cell (p := ⟨b, off + 2, none⟩) hb).trans h2
    | 3, hj => cases hj; exact (hw.cell (p := ⟨b, off + 3, none⟩) hb).trans h3
    | 4, hj => cases hj; exact (hw.cell (p := ⟨b, off + 4, none⟩) hb).trans h4
    | 5, hj => cases hj; exact (hw.cell (p := ⟨b, off + 5, none⟩) hb).trans h5
    | 6, hj => cases hj; exact (hw.cell (p := ⟨b, off + 6, none⟩) hb).trans h6
    | 7, hj => cases hj; exact (hw.cell (p := ⟨b, off + 7, none⟩) hb).trans h7
    | 8, hj => cases hj; exact (hw.cell (p := ⟨b, off + 8, none⟩) hb).trans h8
    | 9, hj => cases hj; exact (hw.cell (p := ⟨b, off + 9, none⟩) hb).trans h9
    | 10, hj => cases hj; exact (hw.cell (p := ⟨b, off + 10, none⟩) hb).trans h10
    | 11, hj => cases hj; exact (hw.cell (p := ⟨b, off + 11, none⟩) hb).trans h11
    | 12, hj => cases hj; exact (hw.cell (p := ⟨b, off + 12, none⟩) hb).trans h12
    | 13, hj => cases hj; exact (hw.cell (p := ⟨b, off + 13, none⟩) hb).trans h13
    | 14, hj => cases hj; exact (hw.cell (p := ⟨b, off + 14, none⟩) hb).trans h14
    | j + 15, hj => simp at hj)) hK
theorem quiet_agg16B {P : Program} {o : Oper} {a : Act} {B : Nat} {w0 : World} {K : Act → Prop} {ty : TypeId} {x : Operand} {b off : Nat} {v0 v1 v2 v3 v4 v5 v6 v7 v8 v9 v10 v11 v12 v13 v14 v15 : Value} (ho : o.op = .load ty x) (hx : a.eval x = .pointer (some ⟨b, off, none⟩)) (hd : yesB P ty 16 = true)
    (h0 : w0.cell? ⟨b, off, none⟩ = some v0) (h1 : w0.cell? ⟨b, off + 1, none⟩ = some v1) (h2 : w0.cell? ⟨b, off + 2, none⟩ = some v2) (h3 : w0.cell? ⟨b, off + 3, none⟩ = some v3) (h4 : w0.cell? ⟨b, off + 4, none⟩ = some v4) (h5 : w0.cell? ⟨b, off + 5, none⟩ = some v5) (h6 : w0.cell? ⟨b, off + 6, none⟩ = some v6) (h7 : w0.cell? ⟨b, off + 7, none⟩ = some v7) (h8 : w0.cell? ⟨b, off + 8, none⟩ = some v8) (h9 : w0.cell? ⟨b, off + 9, none⟩ = some v9) (h10 : w0.cell? ⟨b, off + 10, none⟩ = some v10) (h11 : w0.cell? ⟨b, off + 11, none⟩ = some v11) (h12 : w0.cell? ⟨b, off + 12, none⟩ = some v12) (h13 : w0.cell? ⟨b, off + 13, none⟩ = some v13) (h14 : w0.cell? ⟨b, off + 14, none⟩ = some v14) (h15 : w0.cell? ⟨b, off + 15, none⟩ = some v15) (hb : b < B) (hK : K (a.put o.dst (.agg #[v0, v1, v2, v3, v4, v5, v6, v7, v8, v9, v10, v11, v12, v13, v14, v15]))) : o.quiet P a (fun w' => Below B w0 w') K :=
  quiet_val _ (fun w hw => run_load_agg [v0, v1, v2, v3, v4, v5, v6, v7, v8, v9, v10, v11, v12, v13, v14, v15] ho hx hd (fun j v hj => by
    match j, hj with
    | 0, hj => cases hj; exact (hw.cell (p := ⟨b, off, none⟩) hb).trans h0
    | 1, hj => cases hj; exact (hw.cell (p := ⟨b, off + 1, none⟩) hb).trans h1
    | 2, hj => cases hj; exact (hw.cell (p := ⟨b, off + 2, none⟩) hb).trans h2
    | 3, hj => cases hj; exact (hw.cell (p := ⟨b, off + 3, none⟩) hb).trans h3
    | 4, hj => cases hj; exact (hw.cell (p := ⟨b, off + 4, none⟩) hb).trans h4
    | 5, hj => cases hj; exact (hw.cell (p := ⟨b, off + 5, none⟩) hb).trans h5
    | 6, hj => cases hj; exact (hw.cell (p := ⟨b, off + 6, none⟩) hb).trans h6
    | 7, hj => cases hj; exact (hw.cell (p := ⟨b, off + 7, none⟩) hb).trans h7
    | 8, hj => cases hj; exact (hw.cell (p := ⟨b, off + 8, none⟩) hb).trans h8
    | 9, hj => cases hj; exact (hw.cell (p := ⟨b, off + 9, none⟩) hb).trans h9
    | 10, hj => cases hj; exact (hw.cell (p := ⟨b, off + 10, none⟩) hb).trans h10
    | 11, hj => cases hj; exact (hw.cell (p := ⟨b, off + 11, none⟩) hb).trans h11
    | 12, hj => cases hj; exact (hw.cell (p := ⟨b, off + 12, none⟩) hb).trans h12
    | 13, hj => cases hj; exact (hw.cell (p := ⟨b, off + 13, none⟩) hb).trans h13
    | 14, hj => cases hj; exact (hw.cell (p := ⟨b, off + 14, none⟩) hb).trans h14
    | 15, hj => cases hj; exact (hw.cell (p := ⟨b, off + 15, none⟩) hb).trans h15
    | j + 16, hj => simp at hj)) hK
theorem quiet_agg2K {P : Program} {o : Oper} {a : Act} {G : List Nat} {w0 : World} {K : Act → Prop} {ty : TypeId} {x : Operand} {b off : Nat} {v0 v1 : Value} (ho : o.op = .load ty x) (hx : a.eval x = .pointer (some ⟨b, off, none⟩)) (hd : yesB P ty 2 = true)
    (h0 : w0.cell? ⟨b, off, none⟩ = some v0) (h1 : w0.cell? ⟨b, off + 1, none⟩ = some v1) (hb : b ∈ G) (hK : K (a.put o.dst (.agg #[v0, v1]))) : o.quiet P a (KeepB G w0) K :=
  quiet_val _ (fun w hw => run_load_agg [v0, v1] ho hx hd (fun j v hj => by
    match j, hj with
    | 0, hj => cases hj; exact (hw.cell (g := b) (off := off) hb).trans h0
    | 1, hj => cases hj; exact (hw.cell (g := b) (off := off + 1) hb).trans h1
    | j + 2, hj => simp at hj)) hK
theorem quiet_agg3K {P : Program} {o : Oper} {a : Act} {G : List Nat} {w0 : World} {K : Act → Prop} {ty : TypeId} {x : Operand} {b off : Nat} {v0 v1 v2 : Value} (ho : o.op = .load ty x) (hx : a.eval x = .pointer (some ⟨b, off, none⟩)) (hd : yesB P ty 3 = true)
    (h0 : w0.cell? ⟨b, off, none⟩ = some v0) (h1 : w0.cell? ⟨b, off + 1, none⟩ = some v1) (h2 : w0.cell? ⟨b, off + 2, none⟩ = some v2) (hb : b ∈ G) (hK : K (a.put o.dst (.agg #[v0, v1, v2]))) : o.quiet P a (KeepB G w0) K :=
  quiet_val _ (fun w hw => run_load_agg [v0, v1, v2] ho hx hd (fun j v hj => by
    match j, hj with
    | 0, hj => cases hj; exact (hw.cell (g := b) (off := off) hb).trans h0
    | 1, hj => cases hj; exact (hw.cell (g := b) (off := off + 1) hb).trans h1
    | 2, hj => cases hj; exact (hw.cell (g := b) (off := off + 2) hb).trans h2
    | j + 3, hj => simp at hj)) hK
theorem quiet_agg4K {P : Program} {o : Oper} {a : Act} {G : List Nat} {w0 : World} {K : Act → Prop} {ty : TypeId} {x : Operand} {b off : Nat} {v0 v1 v2 v3 : Value} (ho : o.op = .load ty x) (hx : a.eval x = .pointer (some ⟨b, off, none⟩)) (hd : yesB P ty 4 = true)
    (h0 : w0.cell? ⟨b, off, none⟩ = some v0) (h1 : w0.cell? ⟨b, off + 1, none⟩ = some v1) (h2 : w0.cell? ⟨b, off + 2, none⟩ = some v2) (h3 : w0.cell? ⟨b, off + 3, none⟩ = some v3) (hb : b ∈ G) (hK : K (a.put o.dst (.agg #[v0, v1, v2, v3]))) : o.quiet P a (KeepB G w0) K :=
  quiet_val _ (fun w hw => run_load_agg [v0, v1, v2, v3] ho hx hd (fun j v hj => by
    match j, hj with
    | 0, hj => cases hj; exact (hw.cell (g := b) (off := off) hb).trans h0
    | 1, hj => cases hj; exact (hw.cell (g := b) (off := off + 1) hb).trans h1
    | 2, hj => cases hj; exact (hw.cell (g := b) (off := off + 2) hb).trans h2
    | 3, hj => cases hj; exact (hw.cell (g := b) (off := off + 3) hb).trans h3
    | j + 4, hj => simp at hj)) hK
theorem quiet_agg5K {P : Program} {o : Oper} {a : Act} {G : List Nat} {w0 : World} {K : Act → Prop} {ty : TypeId} {x : Operand} {b off : Nat} {v0 v1 v2 v3 v4 : Value} (ho : o.op = .load ty x) (hx : a.eval x = .pointer (some ⟨b, off, none⟩)) (hd : yesB P ty 5 = true)
    (h0 : w0.cell? ⟨b, off, none⟩ = some v0) (h1 : w0.cell? ⟨b, off + 1, none⟩ = some v1) (h2 : w0.cell? ⟨b, off + 2, none⟩ = some v2) (h3 : w0.cell? ⟨b, off + 3, none⟩ = some v3) (h4 : w0.cell? ⟨b, off + 4, none⟩ = some v4) (hb : b ∈ G) (hK : K (a.put o.dst (.agg #[v0, v1, v2, v3, v4]))) : o.quiet P a (KeepB G w0) K :=
  quiet_val _ (fun w hw => run_load_agg [v0, v1, v2, v3, v4] ho hx hd (fun j v hj => by
    match j, hj with
    | 0, hj => cases hj; exact (hw.cell (g := b) (off := off) hb).trans h0
    | 1, hj => cases hj; exact (hw.cell (g := b) (off := off + 1) hb).trans h1
    | 2, hj => cases hj; exact (hw.cell (g := b) (off := off + 2) hb).trans h2
    | 3, hj => cases hj; exact (hw.cell (g := b) (off := off + 3) hb).trans h3
    | 4, hj => cases hj; exact (hw.cell (g := b) (off := off + 4) hb).trans h4
    | j + 5, hj => simp at hj)) hK
theorem quiet_agg6K {P : Program} {o : Oper} {a : Act} {G : List Nat} {w0 : World} {K : Act → Prop} {ty : TypeId} {x : Operand} {b off : Nat} {v0 v1 v2 v3 v4 v5 : Value} (ho : o.op = .load ty x) (hx : a.eval x = .pointer (some ⟨b, off, none⟩)) (hd : yesB P ty 6 = true)
    (h0 : w0.cell? ⟨b, off, none⟩ = some v0) (h1 : w0.cell? ⟨b, off + 1, none⟩ = some v1) (h2 : w0.cell? ⟨b, off + 2, none⟩ = some v2) (h3 : w0.cell? ⟨b, off + 3, none⟩ = some v3) (h4 : w0.cell? ⟨b, off + 4, none⟩ = some v4) (h5 : w0.cell? ⟨b, off + 5, none⟩ = some v5) (hb : b ∈ G) (hK : K (a.put o.dst (.agg #[v0, v1, v2, v3, v4, v5]))) : o.quiet P a (KeepB G w0) K :=
  quiet_val _ (fun w hw => run_load_agg [v0, v1, v2, v3, v4, v5] ho hx hd (fun j v hj => by
    match j, hj with
    | 0, hj => cases hj; exact (hw.cell (g := b) (off := off) hb).trans h0
    | 1, hj => cases hj; exact (hw.cell (g := b) (off := off + 1) hb).trans h1
    | 2, hj => cases hj; exact (hw.cell (g := b) (off := off + 2) hb).trans h2
    | 3, hj => cases hj; exact (hw.cell (g := b) (off := off + 3) hb).trans h3
    | 4, hj => cases hj; exact (hw.cell (g := b) (off := off + 4) hb).trans h4
    | 5, hj => cases hj; exact (hw.cell (g := b) (off := off + 5) hb).trans h5
    | j + 6, hj => simp at hj)) hK
theorem quiet_agg7K {P : Program} {o : Oper} {a : Act} {G : List Nat} {w0 : World} {K : Act → Prop} {ty : TypeId} {x : Operand} {b off : Nat} {v0 v1 v2 v3 v4 v5 v6 : Value} (ho : o.op = .load ty x) (hx : a.eval x = .pointer (some ⟨b, off, none⟩)) (hd : yesB P ty 7 = true)
    (h0 : w0.cell? ⟨b, off, none⟩ = some v0) (h1 : w0.cell? ⟨b, off + 1, none⟩ = some v1) (h2 : w0.cell? ⟨b, off + 2, none⟩ = some v2) (h3 : w0.cell? ⟨b, off + 3, none⟩ = some v3) (h4 : w0.cell? ⟨b, off + 4, none⟩ = some v4) (h5 : w0.cell? ⟨b, off + 5, none⟩ = some v5) (h6 : w0.cell? ⟨b, off + 6, none⟩ = some v6) (hb : b ∈ G) (hK : K (a.put o.dst (.agg #[v0, v1, v2, v3, v4, v5, v6]))) : o.quiet P a (KeepB G w0) K :=
  quiet_val _ (fun w hw => run_load_agg [v0, v1, v2, v3, v4, v5, v6] ho hx hd (fun j v hj => by
    match j, hj with
    | 0, hj => cases hj; exact (hw.cell (g := b) (off := off) hb).trans h0
    | 1, hj => cases hj; exact (hw.cell (g := b) (off := off + 1) hb).trans h1
    | 2, hj => cases hj; exact (hw.cell (g := b) (off := off + 2) hb).trans h2
    | 3, hj => cases hj; exact (hw.cell (g := b) (off := off + 3) hb).trans h3
    | 4, hj => cases hj; exact (hw.cell (g := b) (off := off + 4) hb).trans h4
    | 5, hj => cases hj; exact (hw.cell (g := b) (off := off + 5) hb).trans h5
    | 6, hj => cases hj; exact (hw.cell (g := b) (off := off + 6) hb).trans h6
    | j + 7, hj => simp at hj)) hK
theorem quiet_agg8K {P : Program} {o : Oper} {a : Act} {G : List Nat} {w0 : World} {K : Act → Prop} {ty : TypeId} {x : Operand} {b off : Nat} {v0 v1 v2 v3 v4 v5 v6 v7 : Value} (ho : o.op = .load ty x) (hx : a.eval x = .pointer (some ⟨b, off, none⟩)) (hd : yesB P ty 8 = true)
    (h0 : w0.cell? ⟨b, off, none⟩ = some v0) (h1 : w0.cell? ⟨b, off + 1, none⟩ = some v1) (h2 : w0.cell? ⟨b, off + 2, none⟩ = some v2) (h3 : w0.cell? ⟨b, off + 3, none⟩ = some v3) (h4 : w0.cell? ⟨b, off + 4, none⟩ = some v4) (h5 : w0.cell? ⟨b, off + 5, none⟩ = some v5) (h6 : w0.cell? ⟨b, off + 6, none⟩ = some v6) (h7 : w0.cell? ⟨b, off + 7, none⟩ = some v7) (hb : b ∈ G) (hK : K (a.put o.dst (.agg #[v0, v1, v2, v3, v4, v5, v6, v7]))) : o.quiet P a (KeepB G w0) K :=
  quiet_val _ (fun w hw => run_load_agg [v0, v1, v2, v3, v4, v5, v6, v7] ho hx hd (fun j v hj => by
    match j, hj with
    | 0, hj => cases hj; exact (hw.cell (g := b) (off := off) hb).trans h0
    | 1, hj => cases hj; exact (hw.cell (g := b) (off := off + 1) hb).trans h1
    | 2, hj => cases hj; exact (hw.cell (g := b) (off := off + 2) hb).trans h2
    | 3, hj => cases hj; exact (hw.cell (g := b) (off := off + 3) hb).trans h3
    | 4, hj => cases hj; exact (hw.cell (g := b) (off := off + 4) hb).trans h4
    | 5, hj => cases hj; exact (hw.cell (g := b) (off := off + 5) hb).trans h5
    | 6, hj => cases hj; exact (hw.cell (g := b) (off := off + 6) hb).trans h6
    | 7, hj => cases hj; exact (hw.cell (g := b) (off := off + 7) hb).trans h7
    | j + 8, hj => simp at hj)) hK
theorem quiet_agg9K {P : Program} {o : Oper} {a : Act} {G : List Nat} {w0 : World} {K : Act → Prop} {ty : TypeId} {x : Operand} {b off : Nat} {v0 v1 v2 v3 v4 v5 v6 v7 v8 : Value} (ho : o.op = .load ty x) (hx : a.eval x = .pointer (some ⟨b, off, none⟩)) (hd : yesB P ty 9 = true)
    (h0 : w0.cell? ⟨b, off, none⟩ = some v0) (h1 : w0.cell? ⟨b, off + 1, none⟩ = some v1) (h2 : w0.cell? ⟨b, off + 2, none⟩ = some v2) (h3 : w0.cell? ⟨b, off + 3, none⟩ = some v3) (h4 : w0.cell? ⟨b, off + 4, none⟩ = some v4) (h5 : w0.cell? ⟨b, off + 5, none⟩ = some v5) (h6 : w0.cell? ⟨b, off + 6, none⟩ = some v6) (h7 : w0.cell? ⟨b, off + 7, none⟩ = some v7) (h8 : w0.cell? ⟨b, off + 8, none⟩ = some v8) (hb : b ∈ G) (hK : K (a.put o.dst (.agg #[v0, v1, v2, v3, v4, v5, v6, v7, v8]))) : o.quiet P a (KeepB G w0) K :=
  quiet_val _ (fun w hw => run_load_agg [v0, v1, v2, v3, v4, v5, v6, v7, v8] ho hx hd (fun j v hj => by
    match j, hj with
    | 0, hj => cases hj; exact (hw.cell (g := b) (off := off) hb).trans h0
    | 1, hj => cases hj; exact (hw.cell (g := b) (off := off + 1) hb).trans h1
    | 2, hj => cases hj; exact (hw.cell (g := b) (off := off + 2) hb).trans h2
    | 3, hj => cases hj; exact (hw.cell (g := b) (off := off + 3) hb).trans h3
    | 4, hj => cases hj; exact (hw.cell (g := b) (off := off + 4) hb).trans h4
    | 5, hj => cases hj; exact (hw.cell (g := b) (off := off + 5) hb).trans h5
    | 6, hj => cases hj; exact (hw.cell (g := b) (off := off + 6) hb).trans h6
    | 7, hj => cases hj; exact (hw.cell (g := b) (off := off + 7) hb).trans h7
    | 8, hj => cases hj; exact (hw.cell (g := b) (off := off + 8) hb).trans h8
    | j + 9, hj => simp at hj)) hK
theorem quiet_agg10K {P : Program} {o : Oper} {a : Act} {G : List Nat} {w0 : World} {K : Act → Prop} {ty : TypeId} {x : Operand} {b off : Nat} {v0 v1 v2 v3 v4 v5 v6 v7 v8 v9 : Value} (ho : o.op = .load ty x) (hx : a.eval x = .pointer (some ⟨b, off, none⟩)) (hd : yesB P ty 10 = true)
    (h0 : w0.cell? ⟨b, off, none⟩ = some v0) (h1 : w0.cell? ⟨b, off + 1, none⟩ = some v1) (h2 : w0.cell? ⟨b, off + 2, none⟩ = some v2) (h3 : w0.cell? ⟨b, off + 3, none⟩ = some v3) (h4 : w0.cell? ⟨b, off + 4, none⟩ = some v4) (h5 : w0.cell? ⟨b, off + 5, none⟩ = some v5) (h6 : w0.cell? ⟨b, off + 6, none⟩ = some v6) (h7 : w0.cell? ⟨b, off + 7, none⟩ = some v7) (h8 : w0.cell? ⟨b, off + 8, none⟩ = some v8) (h9 : w0.cell? ⟨b, off + 9, none⟩ = some v9) (hb : b ∈ G) (hK : K (a.put o.dst (.agg #[v0, v1, v2, v3, v4, v5, v6, v7, v8, v9]))) : o.quiet P a (KeepB G w0) K :=
  quiet_val _ (fun w hw => run_load_agg [v0, v1, v2, v3, v4, v5, v6, v7, v8, v9] ho hx hd (fun j v hj => by
    match j, hj with
    | 0, hj => cases hj; exact (hw.cell (g := b) (off := off) hb).trans h0
    | 1, hj => cases hj; exact (hw.cell (g := b) (off := off + 1) hb).trans h1
    | 2, hj => cases hj; exact (hw.cell (g := b) (off := off + 2) hb).trans h2
    | 3, hj => cases hj; exact (hw.cell (g := b) (off := off + 3) hb).trans h3
    | 4, hj => cases hj; exact (hw.cell (g := b) (off := off + 4) hb).trans h4
    | 5, hj => cases hj; exact (hw.cell (g := b) (off := off + 5) hb).trans h5
    | 6, hj => cases hj; exact (hw.cell (g := b) (off := off + 6) hb).trans h6
    | 7, hj => cases hj; exact (hw.cell (g := b) (off := off + 7) hb).trans h7
    | 8, hj => cases hj; exact (hw.cell (g := b) (off := off + 8) hb).trans h8
    | 9, hj => cases hj; exact (hw.cell (g := b) (off := off + 9) hb).trans h9
    | j + 10, hj => simp at hj)) hK
theorem quiet_agg11K {P : Program} {o : Oper} {a : Act} {G : List Nat} {w0 : World} {K : Act → Prop} {ty : TypeId} {x : Operand} {b off : Nat} {v0 v1 v2 v3 v4 v5 v6 v7 v8 v9 v10 : Value} (ho : o.op = .load ty x) (hx : a.eval x = .pointer (some ⟨b, off, none⟩)) (hd : yesB P ty 11 = true)
    (h0 : w0.cell? ⟨b, off, none⟩ = some v0) (h1 : w0.cell? ⟨b, off + 1, none⟩ = some v1) (h2 : w0.cell? ⟨b, off + 2, none⟩ = some v2) (h3 : w0.cell? ⟨b, off + 3, none⟩ = some v3) (h4 : w0.cell? ⟨b, off + 4, none⟩ = some v4) (h5 : w0.cell? ⟨b, off + 5, none⟩ = some v5) (h6 : w0.cell? ⟨b, off + 6, none⟩ = some v6) (h7 : w0.cell? ⟨b, off + 7, none⟩ = some v7) (h8 : w0.cell? ⟨b, off + 8, none⟩ = some v8) (h9 : w0.cell? ⟨b, off + 9, none⟩ = some v9) (h10 : w0.cell? ⟨b, off + 10, none⟩ = some v10) (hb : b ∈ G) (hK : K (a.put o.dst (.agg #[v0, v1, v2, v3, v4, v5, v6, v7, v8, v9, v10]))) : o.quiet P a (KeepB G w0) K :=
  quiet_val _ (fun w hw => run_load_agg [v0, v1, v2, v3, v4, v5, v6, v7, v8, v9, v10] ho hx hd (fun j v hj => by
    match j, hj with
    | 0, hj => cases hj; exact (hw.cell (g := b) (off := off) hb).trans h0
    | 1, hj => cases hj; exact (hw.cell (g := b) (off := off + 1) hb).trans h1
    | 2, hj => cases hj; exact (hw.cell (g := b) (off := off + 2) hb).trans h2
    | 3, hj => cases hj; exact (hw.cell (g := b) (off := off + 3) hb).trans h3
    | 4, hj => cases hj; exact (hw.cell (g := b) (off := off + 4) hb).trans h4
    | 5, hj => cases hj; exact (hw.cell (g := b) (off := off + 5) hb).trans h5
    | 6, hj => cases hj; exact (hw.cell (g := b) (off := off + 6) hb).trans h6
    | 7, hj => cases hj; exact (hw.cell (g := b) (off := off + 7) hb).trans h7
    | 8, hj => cases hj; exact (hw.cell (g := b) (off := off + 8) hb).trans h8
    | 9, hj => cases hj; exact (hw.cell (g := b) (off := off + 9) hb).trans h9
    | 10, hj => cases hj; exact (hw.cell (g := b) (off := off + 10) hb).trans h10
    | j + 11, hj => simp at hj)) hK
theorem quiet_agg12K {P : Program} {o : Oper} {a : Act} {G : List Nat} {w0 : World} {K : Act → Prop} {ty : TypeId} {x : Operand} {b off : Nat} {v0 v1 v2 v3 v4 v5 v6 v7 v8 v9 v10 v11 : Value} (ho : o.op = .load ty x) (hx : a.eval x = .pointer (some ⟨b, off, none⟩)) (hd : yesB P ty 12 = true)
    (h0 : w0.cell? ⟨b, off, none⟩ = some v0) (h1 : w0.cell? ⟨b, off + 1, none⟩ = some v1) (h2 : w0.cell? ⟨b, off + 2, none⟩ = some v2) (h3 : w0.cell? ⟨b, off + 3, none⟩ = some v3) (h4 : w0.cell? ⟨b, off + 4, none⟩ = some v4) (h5 : w0.cell? ⟨b, off + 5, none⟩ = some v5) (h6 : w0.cell? ⟨b, off + 6, none⟩ = some v6) (h7 : w0.cell? ⟨b, off + 7, none⟩ = some v7) (h8 : w0.cell? ⟨b, off + 8, none⟩ = some v8) (h9 : w0.cell? ⟨b, off + 9, none⟩ = some v9) (h10 : w0.cell? ⟨b, off + 10, none⟩ = some v10) (h11 : w0.cell? ⟨b, off + 11, none⟩ = some v11) (hb : b ∈ G) (hK : K (a.put o.dst (.agg #[v0, v1, v2, v3, v4, v5, v6, v7, v8, v9, v10, v11]))) : o.quiet P a (KeepB G w0) K :=
  quiet_val _ (fun w hw => run_load_agg [v0, v1, v2, v3, v4, v5, v6, v7, v8, v9, v10, v11] ho hx hd (fun j v hj => by
    match j, hj with
    | 0, hj => cases hj; exact (hw.cell (g := b) (off := off) hb).trans h0
    | 1, hj => cases hj; exact (hw.cell (g := b) (off := off + 1) hb).trans h1
    | 2, hj => cases hj; exact (hw.cell (g := b) (off := off + 2) hb).trans h2
    | 3, hj => cases hj; exact (hw.cell (g := b) (off := off + 3) hb).trans h3
    | 4, hj => cases hj; exact (hw.cell (g := b) (off := off + 4) hb).trans h4
    | 5, hj => cases hj; exact (hw.cell (g := b) (off := off + 5) hb).trans h5
    | 6, hj => cases hj; exact (hw.cell (g := b) (off := off + 6) hb).trans h6
    | 7, hj => cases hj; exact (hw.cell (g := b) (off := off + 7) hb).trans h7
    | 8, hj => cases hj; exact (hw.cell (g := b) (off := off + 8) hb).trans h8
    | 9, hj => cases hj; exact (hw.cell (g := b) (off := off + 9) hb).trans h9
    | 10, hj => cases hj; exact (hw.cell (g := b) (off := off + 10) hb).trans h10
    | 11, hj => cases hj; exact (hw.cell (g := b) (off := off + 11) hb).trans h11
    | j + 12, hj => simp at hj)) hK
theorem quiet_agg13K {P : Program} {o : Oper} {a : Act} {G : List Nat} {w0 : World} {K : Act → Prop} {ty : TypeId} {x : Operand} {b off : Nat} {v0 v1 v2 v3 v4 v5 v6 v7 v8 v9 v10 v11 v12 : Value} (ho : o.op = .load ty x) (hx : a.eval x = .pointer (some ⟨b, off, none⟩)) (hd : yesB P ty 13 = true)
    (h0 : w0.cell? ⟨b, off, none⟩ = some v0) (h1 : w0.cell? ⟨b, off + 1, none⟩ = some v1) (h2 : w0.cell? ⟨b, off + 2, none⟩ = some v2) (h3 : w0.cell? ⟨b, off + 3, none⟩ = some v3) (h4 : w0.cell? ⟨b, off + 4, none⟩ = some v4) (h5 : w0.cell? ⟨b, off + 5, none⟩ = some v5) (h6 : w0.cell? ⟨b, off + 6, none⟩ = some v6) (h7 : w0.cell? ⟨b, off + 7, none⟩ = some v7) (h8 : w0.cell? ⟨b, off + 8, none⟩ = some v8) (h9 : w0.cell? ⟨b, off + 9, none⟩ = some v9) (h10 : w0.cell? ⟨b, off + 10, none⟩ = some v10) (h11 : w0.cell? ⟨b, off + 11, none⟩ = some v11) (h12 : w0.cell? ⟨b, off + 12, none⟩ = some v12) (hb : b ∈ G) (hK : K (a.put o.dst (.agg #[v0, v1, v2, v3, v4, v5, v6, v7, v8, v9, v10, v11, v12]))) : o.quiet P a (KeepB G w0) K :=
  quiet_val _ (fun w hw => run_load_agg [v0, v1, v2, v3, v4, v5, v6, v7, v8, v9, v10, v11, v12] ho hx hd (fun j v hj => by
    match j, hj with
    | 0, hj => cases hj; exact (hw.cell (g := b) (off := off) hb).trans h0
    | 1, hj => cases hj; exact (hw.cell (g := b) (off := off + 1) hb).trans h1
    | 2, hj => cases hj; exact (hw.cell (g := b) (off := off + 2) hb).trans h2
    | 3, hj => cases hj; exact (hw.cell (g := b) (off := off + 3) hb).trans h3
    | 4, hj => cases hj; exact (hw.cell (g := b) (off := off + 4) hb).trans h4
    | 5, hj => cases hj; exact (hw.cell (g := b) (off := off + 5) hb).trans h5
    | 6, hj => cases hj; exact (hw.cell (g := b) (off := off + 6) hb).trans h6
    | 7, hj => cases hj; exact (hw.cell (g := b) (off := off + 7) hb).trans h7
    | 8, hj => cases hj; exact (hw.cell (g := b) (off := off + 8) hb).trans h8
    | 9, hj => cases hj; exact (hw.cell (g := b) (off := off + 9) hb).trans h9
    | 10, hj => cases hj; exact (hw.cell (g := b) (off := off + 10) hb).trans h10
    | 11, hj => cases hj; exact (hw.cell (g := b) (off := off + 11) hb).trans h11
    | 12, hj => cases hj; exact (hw.cell (g := b) (off := off + 12) hb).trans h12
    | j + 13, hj => simp at hj)) hK
theorem quiet_agg14K {P : Program} {o : Oper} {a : Act} {G : List Nat} {w0 : World} {K : Act → Prop} {ty : TypeId} {x : Operand} {b off : Nat} {v0 v1 v2 v3 v4 v5 v6 v7 v8 v9 v10 v11 v12 v13 : Value} (ho : o.op = .load ty x) (hx : a.eval x = .pointer (some ⟨b, off, none⟩)) (hd : yesB P ty 14 = true)
    (h0 : w0.cell? ⟨b, off, none⟩ = some v0) (h1 : w0.cell? ⟨b, off + 1, none⟩ = some v1) (h2 : w0.cell? ⟨b, off + 2, none⟩ = some v2) (h3 : w0.cell? ⟨b, off + 3, none⟩ = some v3) (h4 : w0.cell? ⟨b, off + 4, none⟩ = some v4) (h5 : w0.cell? ⟨b, off + 5, none⟩ = some v5) (h6 : w0.cell? ⟨b, off + 6, none⟩ = some v6) (h7 : w0.cell? ⟨b, off + 7, none⟩ = some v7) (h8 : w0.cell? ⟨b, off + 8, none⟩ = some v8) (h9 : w0.cell? ⟨b, off + 9, none⟩ = some v9) (h10 : w0.cell? ⟨b, off + 10, none⟩ = some v10) (h11 : w0.cell? ⟨b, off + 11, none⟩ = some v11) (h12 : w0.cell? ⟨b, off + 12, none⟩ = some v12) (h13 : w0.cell? ⟨b, off + 13, none⟩ = some v13) (hb : b ∈ G) (hK : K (a.put o.dst (.agg #[v0, v1, v2, v3, v4, v5, v6, v7, v8, v9, v10, v11, v12, v13]))) : o.quiet P a (KeepB G w0) K :=
  quiet_val _ (fun w hw => run_load_agg [v0, v1, v2, v3, v4, v5, v6, v7, v8, v9, v10, v11, v12, v13] ho hx hd (fun j v hj => by
    match j, hj with
    | 0, hj => cases hj; exact (hw.cell (g := b) (off := off) hb).trans h0
    | 1, hj => cases hj; exact (hw.cell (g := b) (off := off + 1) hb).trans h1
    | 2, hj => cases hj; exact (hw.cell (g := b) (off := off + 2) hb).trans h2
    | 3, hj => cases hj; exact (hw.cell (g := b) (off := off + 3) hb).trans h3
    | 4, hj => cases hj; exact (hw.cell (g := b) (off := off + 4) hb).trans h4
    | 5, hj => cases hj; exact (hw.cell (g := b) (off := off + 5) hb).trans h5
    | 6, hj => cases hj; exact (hw.cell (g := b) (off := off + 6) hb).trans h6
    | 7, hj => cases hj; exact (hw.cell (g := b) (off := off + 7) hb).trans h7
    | 8, hj => cases hj; exact (hw.cell (g := b) (off := off + 8) hb).trans h8
    | 9, hj => cases hj; exact (hw.cell (g := b) (off := off + 9) hb).trans h9
    | 10, hj => cases hj; exact (hw.cell (g := b) (off := off + 10) hb).trans h10
    | 11, hj => cases hj; exact (hw.cell (g := b) (off := off + 11) hb).trans h11
    | 12, hj => cases hj; exact (hw.cell (g := b) (off := off + 12) hb).trans h12
    | 13, hj => cases hj; exact (hw.cell (g := b) (off := off + 13) hb).trans h13
    | j + 14, hj => simp at hj)) hK
theorem quiet_agg15K {P : Program} {o : Oper} {a : Act} {G : List Nat} {w0 : World} {K : Act → Prop} {ty : TypeId} {x : Operand} {b off : Nat} {v0 v1 v2 v3 v4 v5 v6 v7 v8 v9 v10 v11 v12 v13 v14 : Value} (ho : o.op = .load ty x) (hx : a.eval x = .pointer (some ⟨b, off, none⟩)) (hd : yesB P ty 15 = true)
    (h0 : w0.cell? ⟨b, off, none⟩ = some v0) (h1 : w0.cell? ⟨b, off + 1, none⟩ = some v1) (h2 : w0.cell? ⟨b, off + 2, none⟩ = some v2) (h3 : w0.cell? ⟨b, off + 3, none⟩ = some v3) (h4 : w0.cell? ⟨b, off + 4, none⟩ = some v4) (h5 : w0.cell? ⟨b, off + 5, none⟩ = some v5) (h6 : w0.cell? ⟨b, off + 6, none⟩ = some v6) (h7 : w0.cell? ⟨b, off + 7, none⟩ = some v7) (h8 : w0.cell? ⟨b, off + 8, none⟩ = some v8) (h9 : w0.cell? ⟨b, off + 9, none⟩ = some v9) (h10 : w0.cell? ⟨b, off + 10, none⟩ = some v10) (h11 : w0.cell? ⟨b, off + 11, none⟩ = some v11) (h12 : w0.cell? ⟨b, off + 12, none⟩ = some v12) (h13 : w0.cell? ⟨b, off + 13, none⟩ = some v13) (h14 : w0.cell? ⟨b, off + 14, none⟩ = some v14) (hb : b ∈ G) (hK : K (a.put o.dst (.agg #[v0, v1, v2, v3, v4, v5, v6, v7, v8, v9, v10, v11, v12, v13, v14]))) : o.quiet P a (KeepB G w0) K :=
  quiet_val _ (fun w hw => run_load_agg [v0, v1, v2, v3, v4, v5, v6, v7, v8, v9, v10, v11, v12, v13, v14] ho hx hd (fun j v hj => by
    match j, hj with
    | 0, hj => cases hj; exact (hw.cell (g := b) (off := off) hb).trans h0
    | 1, hj => cases hj; exact (hw.cell (g := b) (off := off + 1) hb).trans h1
    | 2, hj => cases hj; exact (hw.cell (g := b) (off := off + 2) hb).trans h2
    | 3, hj => cases hj; exact (hw.cell (g := b) (off := off + 3) hb).trans h3
    | 4, hj => cases hj; exact (hw.cell (g := b) (off := off + 4) hb).trans h4
    | 5, hj => cases hj; exact (hw.cell (g := b) (off := off + 5) hb).trans h5
    | 6, hj => cases hj; exact (hw.cell (g := b) (off := off + 6) hb).trans h6
    | 7, hj => cases hj; exact (hw.cell (g := b) (off := off + 7) hb).trans h7
    | 8, hj => cases hj; exact (hw.cell (g := b) (off := off + 8) hb).trans h8
    | 9, hj => cases hj; exact (hw.cell (g := b) (off := off + 9) hb).trans h9
    | 10, hj => cases hj; exact (hw.cell (g := b) (off := off + 10) hb).trans h10
    | 11, hj => cases hj; exact (hw.cell (g := b) (off := off + 11) hb).trans h11
    | 12, hj => cases hj; exact (hw.cell (g := b) (off := off + 12) hb).trans h12
    | 13, hj => cases hj; exact (hw.cell (g := b) (off := off + 13) hb).trans h13
    | 14, hj => cases hj; exact (hw.cell (g := b) (off := off + 14) hb).trans h14
    | j + 15, hj => simp at hj)) hK
theorem quiet_agg16K {P : Program} {o : Oper} {a : Act} {G : List Nat} {w0 : World} {K : Act → Prop} {ty : TypeId} {x : Operand} {b off : Nat} {v0 v1 v2 v3 v4 v5 v6 v7 v8 v9 v10 v11 v12 v13 v14 v15 : Value} (ho : o.op = .load ty x) (hx : a.eval x = .pointer (some ⟨b, off, none⟩)) (hd : yesB P ty 16 = true)
    (h0 : w0.cell? ⟨b, off, none⟩ = some v0) (h1 : w0.cell? ⟨b, off + 1, none⟩ = some v1) (h2 : w0.cell? ⟨b, off + 2, none⟩ = some v2) (h3 : w0.cell? ⟨b, off + 3, none⟩ = some v3) (h4 : w0.cell? ⟨b, off + 4, none⟩ = some v4) (h5 : w0.cell? ⟨b, off + 5, none⟩ = some v5) (h6 : w0.cell? ⟨b, off + 6, none⟩ = some v6) (h7 : w0.cell? ⟨b, off + 7, none⟩ = some v7) (h8 : w0.cell? ⟨b, off + 8, none⟩ = some v8) (h9 : w0.cell? ⟨b, off + 9, none⟩ = some v9) (h10 : w0.cell? ⟨b, off + 10, none⟩ = some v10) (h11 : w0.cell? ⟨b, off + 11, none⟩ = some v11) (h12 : w0.cell? ⟨b, off + 12, none⟩ = some v12) (h13 : w0.cell? ⟨b, off + 13, none⟩ = some v13) (h14 : w0.cell? ⟨b, off + 14, none⟩ = some v14) (h15 : w0.cell? ⟨b, off + 15, none⟩ = some v15) (hb : b ∈ G) (hK : K (a.put o.dst (.agg #[v0, v1, v2, v3, v4, v5, v6, v7, v8, v9, v10, v11, v12, v13, v14, v15]))) : o.quiet P a (KeepB G w0) K :=
  quiet_val _ (fun w hw => run_load_agg [v0, v1, v2, v3, v4, v5, v6, v7, v8, v9, v10, v11, v12, v13, v14, v15] ho hx hd (fun j v hj => by
    match j, hj with
    | 0, hj => cases hj; exact (hw.cell (g := b) (off := off) hb).trans h0
    | 1, hj => cases hj; exact (hw.cell (g := b) (off := off + 1) hb).trans h1
    | 2, hj => cases hj; exact (hw.cell (g := b) (off := off + 2) hb).trans h2
    | 3, hj => cases hj; exact (hw.cell (g := b) (off := off + 3) hb).trans h3
    | 4, hj => cases hj; exact (hw.cell (g := b) (off := off + 4) hb).trans h4
    | 5, hj => cases hj; exact (hw.cell (g := b) (off := off + 5) hb).trans h5
    | 6, hj => cases hj; exact (hw.cell (g := b) (off := off + 6) hb).trans h6
    | 7, hj => cases hj; exact (hw.cell (g := b) (off := off + 7) hb).trans h7
    | 8, hj => cases hj; exact (hw.cell (g := b) (off := off + 8) hb).trans h8
    | 9, hj => cases hj; exact (hw.cell (g := b) (off := off + 9) hb).trans h9
    | 10, hj => cases hj; exact (hw.cell (g := b) (off := off + 10) hb).trans h10
    | 11, hj => cases hj; exact (hw.cell (g := b) (off := off + 11) hb).trans h11
    | 12, hj => cases hj; exact (hw.cell (g := b) (off := off + 12) hb).trans h12
    | 13, hj => cases hj; exact (hw.cell (g := b) (off := off + 13) hb).trans h13
    | 14, hj => cases hj; exact (hw.cell (g := b) (off := off + 14) hb).trans h14
    | 15, hj => cases hj; exact (hw.cell (g := b) (off := off + 15) hb).trans h15
    | j + 16, hj => simp at hj)) hK

section
variable {P : Program} {md : Region.Mode} {ops : Array Oper} {Q : Exit → Act → World → Prop} {C : World → Prop}
/-- operations one by one, and one beside them that may come anywhere. -/
def wpFlt (P : Program) (ops : Array Oper) (C : World → Prop) (X : Act → World → Prop) (js : List Oper) : List Oper → Act → World → Prop
  | [], a, w => wpSteps P ops C X js a w
  | o :: rest, a, w => wpList P ops (contF fun a' w' => C w' ∧ wpFlt P ops C X js rest a' w') [o] a w ∧ wpSteps P ops C X (js ++ o :: rest) a w
def fltB (md : Region.Mode) (ops : Array Oper) (j : Nat) (Z : Array Bool) : List Nat → Array Bool → Bool
  | [], L => fB md ops [j] L && (runSet L [j] == Z)
  | k :: ks, L => decide (Region.ready md ops L = [k, j]) && (ops[k]?).isSome && (ops[j]?).isSome && fB md ops (k :: ks) (runSet L [j]) && (runSet L (j :: k :: ks) == Z) && fltB md ops j Z ks (runSet L [k])
theorem wpAnyC_flt {l : List Oper} {Q : Exit → Act → World → Prop} {X : Act → World → Prop} {n n1 m j : Nat} {Z : Array Bool} (hX : ∀ a' w', C w' → X a' w' → wpAnyC P md l.toArray C Q n1 m n Z a' w') :
    ∀ (ks : List Nat) (L : Array Bool) (a : Act) (w : World), C w → fltB md l.toArray j Z ks L = true → wpFlt P l.toArray C X (pick l [j]) (pick l ks) a w →
      wpAnyC P md l.toArray C Q n1 m (ks.length + 1 + n) L a w := by
  intro ks
  induction ks with
  | nil =>
    intro L a w hC hB h
    simp only [fltB, Bool.and_eq_true, beq_iff_eq] at hB
    have := wpAnyC_f (P := P) (Q := Q) (n1 := n1) (m := m) (n := n) (X := X) [j] L a w hC hB.1 (fun a' w' hC' h' => by rw [hB.2]; exact hX a' w' hC' h') h
    simpa using this
  | cons k ks ih =>
    intro L a w hC hB h
    simp only [fltB, Bool.and_eq_true, decide_eq_true_eq, beq_iff_eq] at hB
    obtain ⟨⟨⟨⟨⟨hr, hk⟩, hj⟩, hf⟩, he⟩, hB'⟩ := hB
    obtain ⟨ok, hok⟩ := Option.isSome_iff_exists.1 hk
    obtain ⟨oj, hoj⟩ := Option.isSome_iff_exists.1 hj
    have hok' : l[k]? = some ok := by simpa using hok
    have hoj' : l[j]? = some oj := by simpa using hoj
    rw [pick_cons hok'] at h
    obtain ⟨ha, hb⟩ := h
    rw [List.length_cons, show ks.length + 1 + 1 + n = (ks.length + 1 + n) + 1 from by omega]
    refine ⟨fun h1 => (by rw [hr] at h1; cases h1), fun i hi => ?_⟩
    rw [hr] at hi
    rcases (by simpa using hi : i = k ∨ i = j) with rfl | rfl
    · have hw : wpOp P l.toArray (contF fun a' w' => C w' ∧ wpFlt P l.toArray C X (pick l [j]) (pick l ks) a' w') i (fun a' w' => C w' ∧ wpFlt P l.toArray C X (pick l [j]) (pick l ks) a' w') a w := by
        unfold wpOp; simp only [hok]; exact ha
      exact wpOp_mono (fun a' w' h' => ⟨h'.1, ih _ _ _ h'.1 hB' h'.2⟩) (wpOp_F hw)
    · rw [pick_cons hoj', show pick l [] = [] from rfl, List.cons_append, List.nil_append, wpSteps, ← pick_cons hok'] at hb
      have hw : wpOp P l.toArray (contF fun a' w' => C w' ∧ wpSteps P l.toArray C X (pick l (k :: ks)) a' w') i (fun a' w' => C w' ∧ wpSteps P l.toArray C X (pick l (k :: ks)) a' w') a w := by
        unfold wpOp; simp only [hoj]; exact hb
      refine wpOp_mono (fun a' w' h' => ⟨h'.1, ?_⟩) (wpOp_F hw)
      have := wpAnyC_f (P := P) (Q := Q) (n1 := n1) (m := m) (n := n) (X := X) (k :: ks) _ a' w' h'.1 hf (fun a'' w'' hC'' h'' => by
        rw [show runSet (runSet L [i]) (k :: ks) = Z from he]; exact hX a'' w'' hC'' h'') h'.2
      rw [List.length_cons] at this
      exact this
def mixfB (l : List Oper) (n1 : Nat) (qs ks : List Nat) (j : Nat) (s2 : List Stp) (Z : Array Bool) : Bool :=
  Region.noSelect l.toArray && phaseB .any l.toArray n1 && decide (qs.length + (ks.length + 1) + lenS s2 = l.length) && qcB .any l.toArray n1 qs (Array.replicate l.length false) && fltB .any l.toArray j Z ks (runSet (Array.replicate l.length false) qs) && (List.range n1).all (fun j => Z.getD j true) && mixB .any l.toArray s2 Z
/-- reads first, then operations in their order with one that may come anywhere among them, then the tail. -/
theorem wp_mixF (C : World → Prop) {id : Nat} {a : Act} {w : World} {l : List Oper} (n1 : Nat) (qs ks : List Nat) (j : Nat) (s2 : List Stp) (Z : Array Bool) (hm : P.follows .mixedOrders = true) (hB : mixfB l n1 qs ks j s2 Z = true) (hC : C w.drew)
    (h : ∀ Q' : Exit → Act → World → Prop, (∀ a w, Q .normal a w → Q' .normal a w) → wpQuiet P l.toArray C (fun a' => wpFlt P l.toArray C (fun a'' w'' => wpMix P l Q' s2 a'' w'') (pick l [j]) (pick l ks) a' w.drew) (pick l qs) a) :
    (Code.region id l.toArray true).wp P Q a w := by
  simp only [mixfB, Bool.and_eq_true, decide_eq_true_eq] at hB
  obtain ⟨⟨⟨⟨⟨⟨hsel, hp⟩, hlen⟩, hq⟩, hf⟩, hz⟩, hB⟩ := hB
  refine Code.wp_mono (Q := noPan Q) (fun e a w hq => by cases e <;> first | exact hq | exact (hq : False).elim) ?_
  refine wp_region_any hm ?_
  have hQ : ∀ c a a' w, noPan Q (.panic c) a w → noPan Q (.panic c) a' w := fun c a a' w hq => hq
  have h1 := wpAnyC_q (C := C) hp hQ hsel (m := lenS s2) (n := ks.length + 1 + 0) (X := fun a' _ => wpFlt P l.toArray C (fun a'' w'' => wpMix P l (noPan Q) s2 a'' w'') (pick l [j]) (pick l ks) a' w.drew) qs (Array.replicate l.length false) a w.drew hC hq
    (fun a' hx => wpAnyC_flt (n := 0) (Z := Z) (fun a'' w'' hC'' h'' => ⟨fun j hj => List.all_eq_true.1 hz j (List.mem_range.2 hj), wpAny_mix hQ hsel s2 Z a'' w'' hB h''⟩) ks _ a' w.drew hC hf hx)
    (h (noPan Q) fun _ _ h => h)
  have := wpAny_of_C (C := C) _ _ _ _ h1
  rw [show qs.length + (ks.length + 1 + 0) + lenS s2 = l.toArray.size from by simp; omega] at this
  simpa using this
end
end Go.Proofs.Ytllddidjiabegaa

/- The greatest common divisor of wide numbers. -/
set_option linter.unusedVariables false
set_option linter.unusedSimpArgs false
namespace Go.Proofs.Ytllddidjiabegaa
open Go.RowKit

theorem WideAt.abs {w : World} {ao : Option Addr} {cap n : Nat} {z : Int} {N : Nat → Prop} (h : WideAt w (.agg #[.int .i64 (sg z), .slice ao n cap]) z N) : WideAt w (.agg #[.int .i64 (sg (z.natAbs : Int)), .slice ao n cap]) (z.natAbs : Int) N := by
  obtain ⟨ao', cap', e, h1⟩ := h
  cases e
  exact ⟨ao, cap, by rw [Int.natAbs_natCast], by rw [Int.natAbs_natCast]; exact h1⟩
theorem sg_abs (z : Int) : (if sg z < 0 then -sg z else sg z) = sg (z.natAbs : Int) := by
  rcases Int.lt_trichotomy z 0 with h | h | h
  · have h1 : sg z = -1 := by unfold sg; rw [if_pos h]
    have h2 : sg (z.natAbs : Int) = 1 := by unfold sg; rw [if_neg (by omega), if_neg (by omega)]
    rw [h1, h2]; rfl
  · subst h; rfl
  · rw [show (z.natAbs : Int) = z by omega]
    have h1 : sg z = 1 := by unfold sg; rw [if_neg (by omega), if_neg (by omega)]
    rw [h1]; rfl
theorem sg_nat (n : Nat) : sg (n : Int) = if n = 0 then 0 else 1 := by
  unfold sg; split <;> (try split) <;> (try split) <;> omega
/-- two cells of a block, as its heap. -/
theorem lt_alloc (w : World) (o : Obj) : w.heap.size < (w.alloc o).heap.size := by simp
theorem row_lt {w : World} {g : Nat} {o : Obj} (h : w.heap[g]? = some o) : g < w.heap.size := (Array.getElem?_eq_some_iff.1 h).1
theorem four_set {w : World} {g k : Nat} {x y : Value} {a b : Value} {t : TypeId} (h : w.heap[g]? = some (.cells #[x, y] t (0, 0))) (hne : g ≠ k) :
    ((w.setCell ⟨k, 0, none⟩ a).setCell ⟨k, 1, none⟩ b).heap[g]? = some (.cells #[x, y] t (0, 0)) := by
  rw [heap_setCell_other _ _ _ _ hne, heap_setCell_other _ _ _ _ hne, h]

/-- digits never lie in a variable that holds nothing yet. -/
theorem WideAt.apart {w : World} {v : Value} {z : Int} {N : Nat → Prop} {G : Nat} {t : TypeId} (h : WideAt w v z N) (hrow : w.heap[G]? = some (.cells #[.int .i64 0, .slice none 0 0] t (0, 0))) : WideAt w v z (fun b => N b ∧ b ≠ G) := by
  obtain ⟨ao, cap, rfl, ⟨ao', cap', e, h1, h2, h3, h4⟩⟩ := h
  cases e
  refine ⟨ao, cap, rfl, ⟨ao, cap, rfl, h1, h2, fun h0 => ?_, h4⟩⟩
  obtain ⟨b, off, e, hlt, hN, hc⟩ := h3 h0
  refine ⟨b, off, e, hlt, ⟨hN, fun hbG => ?_⟩, hc⟩
  subst hbG
  have hl := dig_last (n := z.natAbs) (by omega)
  obtain ⟨k, hk⟩ : ∃ k, (dig z.natAbs).length = k + 1 := ⟨(dig z.natAbs).length - 1, by omega⟩
  have hcc := hc k 0 (by omega) (by omega)
  rw [hk, Nat.add_sub_cancel] at hl
  rw [cell_of_row w b _ _ t (0, 0) hrow] at hcc
  rcases (by omega : off + k * 1 + 0 = 0 ∨ off + k * 1 + 0 = 1 ∨ 2 ≤ off + k * 1 + 0) with h5 | h5 | h5
  · rw [h5] at hcc; simp at hcc; exact hl hcc.symm
  · rw [h5] at hcc; simp at hcc
  · rw [Array.getElem?_eq_none (by simpa using h5)] at hcc; cases hcc

/-- what is known of a variable that holds a wide number. -/
structure WVar (w : World) (g : Nat) (z : Int) (N : Nat → Prop) (ao : Option Addr) (n cap : Nat) : Prop where
  row : w.heap[g]? = some (.cells #[.int .i64 (sg z), .slice ao n cap] 60 (0, 0))
  wide : WideAt w (.agg #[.int .i64 (sg z), .slice ao n cap]) z N
theorem WVar.below {w w' : World} {g : Nat} {z : Int} {N : Nat → Prop} {ao : Option Addr} {n cap : Nat} (h : WVar w g z N ao n cap) (hb : Below w.heap.size w w') : WVar w' g z N ao n cap :=
  ⟨(hb.block g (Array.getElem?_eq_some_iff.1 h.row).1).trans h.row, h.wide.mono hb (fun _ _ h => h)⟩

/-- both variables stored anew. -/
theorem gcd_rot {W : World} {A B R : Nat} {x y s t : Int} {N : Nat → Prop} {ao bo : Option Addr} {n m cap cap2 : Nat} {a0 a1 b0 b1 r0 r1 : Value} (hs : s = sg x) (ht : t = sg y)
    (ha : W.heap[A]? = some (.cells #[a0, a1] 60 (0, 0))) (hb : W.heap[B]? = some (.cells #[b0, b1] 60 (0, 0))) (hr : W.heap[R]? = some (.cells #[r0, r1] 60 (0, 0)))
    (hab : A ≠ B) (hra : R ≠ A) (hrb : R ≠ B) (hx : WideAt W (.agg #[.int .i64 (sg x), .slice ao n cap]) x N) (hy : WideAt W (.agg #[.int .i64 (sg y), .slice bo m cap2]) y N) (hN : ∀ b, N b → b ≠ A ∧ b ≠ B) :
    WVar ((((W.setCell ⟨A, 0, none⟩ (.int .i64 s)).setCell ⟨A, 1, none⟩ (.slice ao n cap)).setCell ⟨B, 0, none⟩ (.int .i64 t)).setCell ⟨B, 1, none⟩ (.slice bo m cap2)) A x N ao n cap ∧
    WVar ((((W.setCell ⟨A, 0, none⟩ (.int .i64 s)).setCell ⟨A, 1, none⟩ (.slice ao n cap)).setCell ⟨B, 0, none⟩ (.int .i64 t)).setCell ⟨B, 1, none⟩ (.slice bo m cap2)) B y N bo m cap2 ∧
    ((((W.setCell ⟨A, 0, none⟩ (.int .i64 s)).setCell ⟨A, 1, none⟩ (.slice ao n cap)).setCell ⟨B, 0, none⟩ (.int .i64 t)).setCell ⟨B, 1, none⟩ (.slice bo m cap2)).heap[R]? = some (.cells #[r0, r1] 60 (0, 0)) := by
  subst hs; subst ht
  obtain ⟨W1, hW1⟩ : ∃ W1, W1 = (W.setCell ⟨A, 0, none⟩ (.int .i64 (sg x))).setCell ⟨A, 1, none⟩ (.slice ao n cap) := ⟨_, rfl⟩
  have h1 : W1.heap[A]? = some (.cells #[.int .i64 (sg x), .slice ao n cap] 60 (0, 0)) := by rw [hW1]; exact two_set ha
  have h2 : W1.heap[B]? = some (.cells #[b0, b1] 60 (0, 0)) := by rw [hW1]; exact four_set hb (Ne.symm hab)
  have h3 : W1.heap[R]? = some (.cells #[r0, r1] 60 (0, 0)) := by rw [hW1]; exact four_set hr hra
  have h4 : WideAt W1 (.agg #[.int .i64 (sg x), .slice ao n cap]) x N := by rw [hW1]; exact hx.store2 (Below.refl _ _) (fun b h => ⟨(hN b h).1, h⟩) _ _
  have h5 : WideAt W1 (.agg #[.int .i64 (sg y), .slice bo m cap2]) y N := by rw [hW1]; exact hy.store2 (Below.refl _ _) (fun b h => ⟨(hN b h).1, h⟩) _ _
  rw [← hW1]
  exact ⟨⟨four_set h1 hab, h4.store2 (Below.refl _ _) (fun b h => ⟨(hN b h).2, h⟩) _ _⟩, ⟨two_set h2, h5.store2 (Below.refl _ _) (fun b h => ⟨(hN b h).2, h⟩) _ _⟩, four_set h3 hrb⟩

set_option maxRecDepth 100000 in
set_option maxHeartbeats 4000000 in
theorem base_wideGcd (x y : Int) (u v : Value) (w : World) (N : Nat → Prop) (hN : ∀ b, w.heap.size ≤ b → N b) (hu : WideAt w u x N) (hv : WideAt w v y N) (hx : (dig x.natAbs).length ≤ 80000) (hy : (dig y.natAbs).length ≤ 80000) :
    Calls Try.prog 136 #[u, v] w (RetWide w (Int.gcd x y : Int) N) := by
  obtain ⟨ao, lx, cap, rfl⟩ := hu.shape
  obtain ⟨bo, ly, cap2, rfl⟩ := hv.shape
  have hu' := hu.abs
  have hv' := hv.abs
  have hrx := sg_range x
  have hry := sg_range y
  have HSX := hid (sg_abs x)
  have HSY := hid (sg_abs y)
  obtain ⟨sx, hsx⟩ : ∃ sx, sx = sg x := ⟨_, rfl⟩
  obtain ⟨sy, hsy⟩ : ∃ sy, sy = sg y := ⟨_, rfl⟩
  rw [← hsx] at hrx HSX ⊢
  rw [← hsy] at hry HSY ⊢
  obtain ⟨tx, htx⟩ : ∃ tx, tx = sg (x.natAbs : Int) := ⟨_, rfl⟩
  obtain ⟨ty, hty⟩ : ∃ ty, ty = sg (y.natAbs : Int) := ⟨_, rfl⟩
  have HU : Hid (tx = sg (x.natAbs : Int) ∧ WideAt w (.agg #[.int .i64 tx, .slice ao lx cap]) (x.natAbs : Int) N) := hid ⟨htx, by rw [htx]; exact hu'⟩
  have HV : Hid (ty = sg (y.natAbs : Int) ∧ WideAt w (.agg #[.int .i64 ty, .slice bo ly cap2]) (y.natAbs : Int) N) := hid ⟨hty, by rw [hty]; exact hv'⟩
  have HC1 : Hid (∀ W', Calls Try.prog 151 #[.agg #[.int .i64 sx, .slice ao lx cap]] W' fun e w' => e = .returned (.agg #[.int .i64 tx, .slice ao lx cap]) ∧ Below W'.heap.size W' w') := hid (fun W' => by
    have := base_wideSize sx ao lx cap W' hrx
    rw [HSX.out, ← htx] at this; exact this)
  have HC2 : Hid (∀ W', Calls Try.prog 151 #[.agg #[.int .i64 sy, .slice bo ly cap2]] W' fun e w' => e = .returned (.agg #[.int .i64 ty, .slice bo ly cap2]) ∧ Below W'.heap.size W' w') := hid (fun W' => by
    have := base_wideSize sy bo ly cap2 W' hry
    rw [HSY.out, ← hty] at this; exact this)
  have HXY := hid (And.intro hx hy)
  have HNN := hid hN
  have HGCD : Hid ((Int.gcd x y : Int) = ((Nat.gcd x.natAbs y.natAbs : Nat) : Int)) := hid rfl
  clear hu hv hu' hv' hsx hsy htx hty hx hy hN hrx hry
  obtain ⟨W, hW⟩ : ∃ W, W = ((w.alloc (.cells #[.int .i64 sx, .slice ao lx cap] 60)).alloc (.cells #[.int .i64 sy, .slice bo ly cap2] 60)).alloc (.cells #[.int .i64 0, .slice none 0 0] 60) := ⟨_, rfl⟩
  have hzW : W.heap.size = w.heap.size + 1 + 1 + 1 := by rw [hW]; simp
  have hBW : Below w.heap.size w W := by rw [hW]; (repeat (with_reducible first | exact Below.refl _ _ | assumption | refine Below.drewN _ ?_ | refine Below.drew ?_ | refine Below_alloc ?_ _ | refine Below.alloc ?_ (by first | (simp; done) | (simp; omega) | omega) _ | refine Below.setCell ?_ (by first | (simp; done) | (simp; omega) | omega) _ | refine Below_call ?_ (by assumption) | refine Below.trans ?_ (by assumption)))
  obtain ⟨q0, q1, q2⟩ := alloc3 w _ _ _ _ _ _ W hW
  have HQ := hid (And.intro q0 (And.intro q1 q2))
  obtain ⟨a0, a1, fa0, fa1, hl0⟩ := two_cells q0
  obtain ⟨b0, b1, fb0, fb1, hl1⟩ := two_cells q1
  clear q0 q1 q2
  go_enter Try.func136, Try.ntmps136
  go_wp2_with fail
  rw [← hW]
  clear hW
  have hm0 : w.heap.size < W.heap.size := hl0
  have hm1 : w.heap.size + 1 < W.heap.size := hl1
  have hm2 : w.heap.size + 1 + 1 < W.heap.size := by omega
  refine wp_mixC (KeepB [w.heap.size + 1] W) 5 [.q [2], .f [0, 1, 3, 4]] [.f [5]] (by kernel_rfl) (by kernel_rfl) ((KeepB.refl (by first | (simp; done) | (simp; omega))).drew) ?_
  intro Q' hQ'
  (rw [wpMixC]; simp only [pick, List.drop_succ_cons, List.drop_zero, List.head?_cons, Option.toList_some, List.cons_append, List.nil_append])
  (repeat (first | go_big_quiet_skip | (go_big_quiet_want; refine quiet_simple rfl ?_; go_big_quiet_op; go_big_quiet_on) | (go_big_quiet_want; refine quiet_agg2K (ty := 60) rfl rfl (by kernel_rfl) (by assumption) (by assumption) (by simp) ?_; simp only [Act.put, List.setIfInBounds_toArray, List.set_cons_succ, List.set_cons_zero]; go_big_quiet_on)))
  (try refine wpQuiet_nil ?_)
  (rw [wpMixC]; simp only [pick, List.drop_succ_cons, List.drop_zero, List.head?_cons, Option.toList_some, List.cons_append, List.nil_append])
  (rw [wpSteps]; go_wp2_with (fail); rw [contF]; refine ⟨?_, ?_⟩; (next => (repeat (with_reducible first | assumption | exact KeepB.refl (by first | (simp; done) | (simp; omega)) | refine KeepB.drew ?_ | refine KeepB.alloc ?_ _ | refine KeepB.setCell ?_ (by first | (simp; done) | (simp; omega)) | refine KeepB.below ?_ (by assumption)))))
  (rw [wpSteps]; go_wp2_with ((first | (go_at_call 151; (with_reducible refine (HC1.out _).mono ?_); rintro _ w1 ⟨rfl, hb1⟩; have HB1 := hid hb1; have hzw1 : W.heap.size ≤ w1.heap.size := hb1.size; clear a0 a1 b0 b1 fa0 fa1 fb0 fb1) | (go_at_call 151; ((with_reducible refine (HC2.out _).mono ?_); rintro _ w2 ⟨rfl, hb2⟩; have HB2 := hid hb2; have HR := hid (And.intro ((HB2.out.block w.heap.size (Nat.lt_of_lt_of_le hm0 hzw1)).trans ((HB1.out.block w.heap.size hm0).trans HQ.out.1)) (And.intro ((HB2.out.block (w.heap.size + 1) (Nat.lt_of_lt_of_le hm1 hzw1)).trans ((HB1.out.block (w.heap.size + 1) hm1).trans HQ.out.2.1)) ((HB2.out.block (w.heap.size + 1 + 1) (Nat.lt_of_lt_of_le hm2 hzw1)).trans ((HB1.out.block (w.heap.size + 1 + 1) hm2).trans HQ.out.2.2)))); obtain ⟨a0, a1, fa0, fa1, hl0'⟩ := two_cells HR.out.1; obtain ⟨b0, b1, fb0, fb1, hl1'⟩ := two_cells HR.out.2.1)))); rw [contF]; refine ⟨?_, ?_⟩; (next => (repeat (with_reducible first | assumption | exact KeepB.refl (by first | (simp; done) | (simp; omega)) | refine KeepB.drew ?_ | refine KeepB.alloc ?_ _ | refine KeepB.setCell ?_ (by first | (simp; done) | (simp; omega)) | refine KeepB.below ?_ (by assumption)))))
  (rw [wpSteps]; go_wp2_with ((first | (go_at_call 151; (with_reducible refine (HC1.out _).mono ?_); rintro _ w1 ⟨rfl, hb1⟩; have HB1 := hid hb1; have hzw1 : W.heap.size ≤ w1.heap.size := hb1.size; clear a0 a1 b0 b1 fa0 fa1 fb0 fb1) | (go_at_call 151; ((with_reducible refine (HC2.out _).mono ?_); rintro _ w2 ⟨rfl, hb2⟩; have HB2 := hid hb2; have HR := hid (And.intro ((HB2.out.block w.heap.size (Nat.lt_of_lt_of_le hm0 hzw1)).trans ((HB1.out.block w.heap.size hm0).trans HQ.out.1)) (And.intro ((HB2.out.block (w.heap.size + 1) (Nat.lt_of_lt_of_le hm1 hzw1)).trans ((HB1.out.block (w.heap.size + 1) hm1).trans HQ.out.2.1)) ((HB2.out.block (w.heap.size + 1 + 1) (Nat.lt_of_lt_of_le hm2 hzw1)).trans ((HB1.out.block (w.heap.size + 1 + 1) hm2).trans HQ.out.2.2)))); obtain ⟨a0, a1, fa0, fa1, hl0'⟩ := two_cells HR.out.1; obtain ⟨b0, b1, fb0, fb1, hl1'⟩ := two_cells HR.out.2.1)))); rw [contF]; refine ⟨?_, ?_⟩; (next => (repeat (with_reducible first | assumption | exact KeepB.refl (by first | (simp; done) | (simp; omega)) | refine KeepB.drew ?_ | refine KeepB.alloc ?_ _ | refine KeepB.setCell ?_ (by first | (simp; done) | (simp; omega)) | refine KeepB.below ?_ (by assumption)))))
  (rw [wpSteps]; go_wp2_with (fail); rw [contF]; refine ⟨?_, ?_⟩; (next => (repeat (with_reducible first | assumption | exact KeepB.refl (by first | (simp; done) | (simp; omega)) | refine KeepB.drew ?_ | refine KeepB.alloc ?_ _ | refine KeepB.setCell ?_ (by first | (simp; done) | (simp; omega)) | refine KeepB.below ?_ (by assumption)))))
  (rw [wpSteps])
  (rw [wpMixC])
  (rw [wpMix]; simp only [pick, List.drop_succ_cons, List.drop_zero, List.head?_cons, Option.toList_some, List.cons_append, List.nil_append])
  (go_wp2_with ((first | fail)); rw [contF])
  (rw [wpMix])
  (refine hQ' _ _ ?_)
  go_wp2_with fail
  clear a0 a1 b0 b1 fa0 fa1 fb0 fb1
  have hm02 : w.heap.size < w2.heap.size := Nat.lt_of_lt_of_le hm0 (Nat.le_trans hzw1 hb2.size)
  have hb12 : Below w.heap.size w w2 := (hBW.trans ((((Below.refl W.heap.size W).drew).trans HB1.out).mono (by omega))).trans (hb2.mono (by omega))
  have HBB := hid hb12
  have HG0 := hid (show Nat.gcd x.natAbs y.natAbs = Nat.gcd x.natAbs y.natAbs from rfl)
  clear hb1 hb2
  go_loopg [] (y.natAbs) (fun k wr => ∃ (p q : Nat) (po : Option Addr) (pn pc : Nat) (qo : Option Addr) (qn qc : Nat), q ≤ k ∧ Hid (Nat.gcd p q = Nat.gcd x.natAbs y.natAbs ∧ (dig p).length ≤ 80000 ∧ (dig q).length ≤ 80000) ∧ Hid (WVar wr w.heap.size p (fun b => b ≠ w.heap.size ∧ b ≠ w.heap.size + 1 ∧ b ≠ w.heap.size + 1 + 1 ∧ (b < w.heap.size → N b)) po pn pc ∧ WVar wr (w.heap.size + 1) q (fun b => b ≠ w.heap.size ∧ b ≠ w.heap.size + 1 ∧ b ≠ w.heap.size + 1 + 1 ∧ (b < w.heap.size → N b)) qo qn qc ∧ wr.heap[w.heap.size + 1 + 1]? = some (.cells #[.int .i64 0, .slice none 0 0] 60 (0, 0))) ∧ Below w.heap.size w wr)
  case atStart =>
    have hrot := gcd_rot (N := fun b => b < w.heap.size ∧ N b) HU.out.1 HV.out.1 HR.out.1 HR.out.2.1 HR.out.2.2 (by omega) (by omega) (by omega) (by rw [← HU.out.1]; exact HU.out.2.keep HBB.out.size (fun b h hN => ⟨HBB.out.block b h, h, hN⟩)) (by rw [← HV.out.1]; exact HV.out.2.keep HBB.out.size (fun b h hN => ⟨HBB.out.block b h, h, hN⟩)) (fun b h => ⟨by omega, by omega⟩)
    exact ⟨x.natAbs, y.natAbs, ao, lx, cap, bo, ly, cap2, Nat.le_refl _, hid ⟨rfl, HXY.out⟩, hid ⟨⟨hrot.1.row, hrot.1.wide.mono (Below.refl _ _) (fun b _ h => ⟨by omega, by omega, by omega, fun _ => h.2⟩)⟩, ⟨hrot.2.1.row, hrot.2.1.wide.mono (Below.refl _ _) (fun b _ h => ⟨by omega, by omega, by omega, fun _ => h.2⟩)⟩, hrot.2.2⟩, by (repeat (with_reducible first | exact Below.refl _ _ | assumption | refine Below.drewN _ ?_ | refine Below.drew ?_ | refine Below_alloc ?_ _ | refine Below.alloc ?_ (by first | (simp; done) | (simp; omega) | omega) _ | refine Below.setCell ?_ (by first | (simp; done) | (simp; omega) | omega) _ | refine Below_call ?_ (by assumption) | refine Below.trans ?_ (by assumption)))⟩
  case round =>
    obtain ⟨p, q, po, pn, pc, qo, qn, qc, hqk, HG, HW, hbel⟩ := hrel
    obtain ⟨a0, a1, fa0, fa1, hla⟩ := two_cells HW.out.1.row
    obtain ⟨b0, b1, fb0, fb1, hlb⟩ := two_cells HW.out.2.1.row
    obtain ⟨r0, r1, fr0, fr1, hlr⟩ := two_cells HW.out.2.2
    obtain ⟨sp, hsp⟩ : ∃ sp, sp = sg (p : Int) := ⟨_, rfl⟩
    obtain ⟨sq, hsq⟩ : ∃ sq, sq = sg (q : Int) := ⟨_, rfl⟩
    rw [← hsp] at a0
    rw [← hsq] at b0
    have HSP := hid hsp
    have HSQ := hid hsq
    have hsq0 : sq = 0 ↔ q = 0 := by rw [hsq, sg_zero]; omega
    clear hsp hsq
    by_cases hq0 : q = 0
    · obtain rfl : sq = 0 := hsq0.2 hq0
      have HE : Hid (q = 0) := hid hq0
      clear hsq0 hq0
      go_wp2_with (go_at_call 135; refine (base_WideSign _ _ _).mono ?_; rintro _ w3 ⟨rfl, hb3⟩; have HB3 := hid hb3; obtain ⟨a0, a1, fa0, fa1, hla'⟩ := two_cells ((hb3.block w.heap.size hla).trans HW.out.1.row); obtain ⟨r0, r1, fr0, fr1, hlr'⟩ := two_cells ((hb3.block (w.heap.size + 1 + 1) hlr).trans HW.out.2.2); rw [← HSP.out] at a0)
      ((try simp only [Exit.inBlock, Exit.then]); refine bodyPost_ret (v := .agg #[.int .i64 sp, .slice po pn pc]) ?_ rfl ?_; (next => simp [results, Try.results136, go_sem, hlr', r0, r1]))
      rw [HGCD.out, HSP.out, show Nat.gcd x.natAbs y.natAbs = p by rw [← HG.out.1, HE.out, Nat.gcd_zero_right]]
      exact ⟨_, rfl, HW.out.1.wide.store2 HB3.out (fun b h => ⟨h.2.2.1, by rcases Nat.lt_or_ge b w.heap.size with h1 | h1; exact h.2.2.2 h1; exact HNN.out b h1⟩) _ _, by (repeat (with_reducible first | exact Below.refl _ _ | assumption | refine Below.drewN _ ?_ | refine Below.drew ?_ | refine Below_alloc ?_ _ | refine Below.alloc ?_ (by first | (simp; done) | (simp; omega) | omega) _ | refine Below.setCell ?_ (by first | (simp; done) | (simp; omega) | omega) _ | refine Below_call ?_ (by assumption) | refine Below.trans ?_ (by assumption)))⟩
    · have hsq1 : ¬ sq = 0 := fun h => hq0 (hsq0.1 h)
      have HQ0 := hid (Nat.pos_of_ne_zero hq0)
      clear hsq0 hq0
      obtain ⟨wo, rfl⟩ : ∃ wo : World, wo = wr := ⟨_, rfl⟩
      have HPW : Hid (∀ W', Below wo.heap.size wo W' → WideAt W' (.agg #[.int .i64 sp, .slice po pn pc]) p (fun b => b ≠ w.heap.size ∧ b ≠ w.heap.size + 1 ∧ b ≠ w.heap.size + 1 + 1 ∧ (b < w.heap.size → N b))) := hid (fun W' h => by rw [HSP.out]; exact HW.out.1.wide.mono h (fun _ _ h => h))
      have HQW : Hid (∀ W', Below wo.heap.size wo W' → WideAt W' (.agg #[.int .i64 sq, .slice qo qn qc]) q (fun b => b ≠ w.heap.size ∧ b ≠ w.heap.size + 1 ∧ b ≠ w.heap.size + 1 + 1 ∧ (b < w.heap.size → N b))) := hid (fun W' h => by rw [HSQ.out]; exact HW.out.2.1.wide.mono h (fun _ _ h => h))
      have HNB : Hid (∀ W' : World, wo.heap.size ≤ W'.heap.size → ∀ b, W'.heap.size ≤ b → b ≠ w.heap.size ∧ b ≠ w.heap.size + 1 ∧ b ≠ w.heap.size + 1 + 1 ∧ (b < w.heap.size → N b)) := hid (fun W' h b hb => ⟨by omega, by omega, by omega, fun h => by omega⟩)
      have HST := hid (gcd_step (a := (p : Int)) (b := (q : Int)) (by omega) (by have := HQ0.out; omega))
      have HLEN : Hid ((dig (p : Int).natAbs).length ≤ 80000 ∧ (dig (q : Int).natAbs).length ≤ 80000 ∧ (dig ((p : Int) / (q : Int)).natAbs).length ≤ 80000 ∧ (dig ((p : Int) / (q : Int) * (q : Int)).natAbs).length ≤ 80000) := hid (by
        obtain ⟨g1, g2, g3⟩ := HG.out
        have e : (p : Int) / (q : Int) = ((p / q : Nat) : Int) := rfl
        rw [e, ← Int.natCast_mul, Int.natAbs_natCast, Int.natAbs_natCast, Int.natAbs_natCast, Int.natAbs_natCast]
        exact ⟨g2, g3, Nat.le_trans (dig_len_mono (Nat.div_le_self _ _)) g2, Nat.le_trans (dig_len_mono (Nat.div_mul_le_self _ _)) g2⟩)
      go_wp2_with (go_at_call 135; refine (base_WideSign _ _ _).mono ?_; rintro _ w3 ⟨rfl, hb3⟩; have HB3 := hid hb3; obtain ⟨a0, a1, fa0, fa1, hla'⟩ := two_cells ((hb3.block w.heap.size hla).trans HW.out.1.row); obtain ⟨b0, b1, fb0, fb1, hlb'⟩ := two_cells ((hb3.block (w.heap.size + 1) hlb).trans HW.out.2.1.row); rw [← HSP.out] at a0; rw [← HSQ.out] at b0)
      have hz3 : wo.heap.size ≤ w3.heap.size := HB3.out.size
      have hb3' : Below wo.heap.size wo w3 := HB3.out
      refine wp_mixF (fun wc => Below (w3.heap.size) w3 wc) 8 [0, 1, 2, 4] [3, 5, 6] 7 [.f [8]] #[true, true, true, true, true, true, true, true, false] (by kernel_rfl) (by kernel_rfl) ((Below.refl _ _).drew) ?_
      intro Q' hQ'
      simp only [pick, List.drop_succ_cons, List.drop_zero, List.head?_cons, Option.toList_some, List.cons_append, List.nil_append]
      (repeat (first | go_big_quiet_skip | (go_big_quiet_want; refine quiet_simple rfl ?_; go_big_quiet_op; go_big_quiet_on) | (go_big_quiet_want; refine quiet_agg2B (ty := 60) rfl rfl (by kernel_rfl) (by assumption) (by assumption) (by first | omega | (simp; omega)) ?_; simp only [Act.put, List.setIfInBounds_toArray, List.set_cons_succ, List.set_cons_zero]; go_big_quiet_on)))
      (try refine wpQuiet_nil ?_)
      (rw [wpFlt])
      (refine ⟨?_, ?_⟩)
      (go_wp2_with ((go_at_call 137; refine (base_WideFloor p q _ _ _ _ (HNB.out _ (by first | exact hz3 | (simp; omega) | omega)) (HPW.out _ (by (repeat (with_reducible first | exact Below.refl _ _ | assumption | refine Below.drewN _ ?_ | refine Below.drew ?_ | refine Below_alloc ?_ _ | refine Below.alloc ?_ (by first | (simp; done) | (simp; omega) | omega) _ | refine Below.setCell ?_ (by first | (simp; done) | (simp; omega) | omega) _ | refine Below_call ?_ (by assumption) | refine Below.trans ?_ (by assumption))))) (HQW.out _ (by (repeat (with_reducible first | exact Below.refl _ _ | assumption | refine Below.drewN _ ?_ | refine Below.drew ?_ | refine Below_alloc ?_ _ | refine Below.alloc ?_ (by first | (simp; done) | (simp; omega) | omega) _ | refine Below.setCell ?_ (by first | (simp; done) | (simp; omega) | omega) _ | refine Below_call ?_ (by assumption) | refine Below.trans ?_ (by assumption))))) (by have := HQ0.out; omega) (by have := HLEN.out.1; omega) (by have := HLEN.out.2.1; omega)).mono ?_; rintro _ w4 ⟨r4, rfl, hw4, hb4⟩; obtain ⟨ro4, rn4, rc4, rfl⟩ := hw4.shape; have HW4 := hid hw4; clear hw4; have hz4 : w3.heap.size ≤ w4.heap.size := (by have := hb4.size; first | exact this | (simp at this; omega)); (try (with_reducible have hrow := (hb4.block _ (lt_alloc _ _)).trans (heap_alloc_new _ _))))); rw [contF]; refine ⟨?_, ?_⟩; (next => (repeat (with_reducible first | exact Below.refl _ _ | assumption | refine Below.drewN _ ?_ | refine Below.drew ?_ | refine Below_alloc ?_ _ | refine Below.alloc ?_ (by first | (simp; done) | (simp; omega) | omega) _ | refine Below.setCell ?_ (by first | (simp; done) | (simp; omega) | omega) _ | refine Below_call ?_ (by assumption) | refine Below.trans ?_ (by assumption)))))
      rotate_left
      (simp only [List.cons_append, List.nil_append])
      (rw [wpSteps]; (go_wp2_with (fail); rw [contF]; refine ⟨?_, ?_⟩; (next => (repeat (with_reducible first | exact Below.refl _ _ | assumption | refine Below.drewN _ ?_ | refine Below.drew ?_ | refine Below_alloc ?_ _ | refine Below.alloc ?_ (by first | (simp; done) | (simp; omega) | omega) _ | refine Below.setCell ?_ (by first | (simp; done) | (simp; omega) | omega) _ | refine Below_call ?_ (by assumption) | refine Below.trans ?_ (by assumption))))))
      (rw [wpSteps]; (go_wp2_with ((go_at_call 137; refine (base_WideFloor p q _ _ _ _ (HNB.out _ (by first | exact hz3 | (simp; omega) | omega)) (HPW.out _ (by (repeat (with_reducible first | exact Below.refl _ _ | assumption | refine Below.drewN _ ?_ | refine Below.drew ?_ | refine Below_alloc ?_ _ | refine Below.alloc ?_ (by first | (simp; done) | (simp; omega) | omega) _ | refine Below.setCell ?_ (by first | (simp; done) | (simp; omega) | omega) _ | refine Below_call ?_ (by assumption) | refine Below.trans ?_ (by assumption))))) (HQW.out _ (by (repeat (with_reducible first | exact Below.refl _ _ | assumption | refine Below.drewN _ ?_ | refine Below.drew ?_ | refine Below_alloc ?_ _ | refine Below.alloc ?_ (by first | (simp; done) | (simp; omega) | omega) _ | refine Below.setCell ?_ (by first | (simp; done) | (simp; omega) | omega) _ | refine Below_call ?_ (by assumption) | refine Below.trans ?_ (by assumption))))) (by have := HQ0.out; omega) (by have := HLEN.out.1; omega) (by have := HLEN.out.2.1; omega)).mono ?_; rintro _ w4 ⟨r4, rfl, hw4, hb4⟩; obtain ⟨ro4, rn4, rc4, rfl⟩ := hw4.shape; have HW4 := hid hw4; clear hw4; have hz4 : w3.heap.size ≤ w4.heap.size := (by have := hb4.size; first | exact this | (simp at this; omega)); (try (with_reducible have hrow := (hb4.block _ (lt_alloc _ _)).trans (heap_alloc_new _ _))))); rw [contF]; refine ⟨?_, ?_⟩; (next => (repeat (with_reducible first | exact Below.refl _ _ | assumption | refine Below.drewN _ ?_ | refine Below.drew ?_ | refine Below_alloc ?_ _ | refine Below.alloc ?_ (by first | (simp; done) | (simp; omega) | omega) _ | refine Below.setCell ?_ (by first | (simp; done) | (simp; omega) | omega) _ | refine Below_call ?_ (by assumption) | refine Below.trans ?_ (by assumption))))))
      (rw [wpSteps]; (go_wp2_with ((go_at_call 97; refine (base_WideMul _ q _ _ _ _ (HNB.out _ (by first | exact Nat.le_trans hz3 hz4 | (simp; omega))) (HW4.out.mono (by (repeat (with_reducible first | exact Below.refl _ _ | assumption | refine Below.drewN _ ?_ | refine Below.drew ?_ | refine Below_alloc ?_ _ | refine Below.alloc ?_ (by first | (simp; done) | (simp; omega) | omega) _ | refine Below.setCell ?_ (by first | (simp; done) | (simp; omega) | omega) _ | refine Below_call ?_ (by assumption) | refine Below.trans ?_ (by assumption)))) (fun _ _ h => h)) (HQW.out _ (by (repeat (with_reducible first | exact Below.refl _ _ | assumption | refine Below.drewN _ ?_ | refine Below.drew ?_ | refine Below_alloc ?_ _ | refine Below.alloc ?_ (by first | (simp; done) | (simp; omega) | omega) _ | refine Below.setCell ?_ (by first | (simp; done) | (simp; omega) | omega) _ | refine Below_call ?_ (by assumption) | refine Below.trans ?_ (by assumption))))) (by have := HLEN.out.2.2.1; omega) (by have := HLEN.out.2.1; omega)).mono ?_; rintro _ w5 ⟨r5, rfl, hw5, hb5⟩; obtain ⟨ro5, rn5, rc5, rfl⟩ := hw5.shape; have HW5 := hid hw5; clear hw5; have hz5 : w4.heap.size ≤ w5.heap.size := (by have := hb5.size; first | exact this | (simp at this; omega)); (first | (with_reducible have hrow := (hb5.block _ (lt_alloc _ _)).trans (heap_alloc_new _ _)) | (have hrow := (hb5.block _ (row_lt hrow)).trans hrow) | skip))); rw [contF]; refine ⟨?_, ?_⟩; (next => (repeat (with_reducible first | exact Below.refl _ _ | assumption | refine Below.drewN _ ?_ | refine Below.drew ?_ | refine Below_alloc ?_ _ | refine Below.alloc ?_ (by first | (simp; done) | (simp; omega) | omega) _ | refine Below.setCell ?_ (by first | (simp; done) | (simp; omega) | omega) _ | refine Below_call ?_ (by assumption) | refine Below.trans ?_ (by assumption))))))
      (rw [wpSteps]; (go_wp2_with ((go_at_call 134; refine (base_WideSub p _ _ _ _ _ (HNB.out _ (by first | exact Nat.le_trans hz3 (Nat.le_trans hz4 hz5) | (simp; omega))) (HPW.out _ (by (repeat (with_reducible first | exact Below.refl _ _ | assumption | refine Below.drewN _ ?_ | refine Below.drew ?_ | refine Below_alloc ?_ _ | refine Below.alloc ?_ (by first | (simp; done) | (simp; omega) | omega) _ | refine Below.setCell ?_ (by first | (simp; done) | (simp; omega) | omega) _ | refine Below_call ?_ (by assumption) | refine Below.trans ?_ (by assumption))))) (HW5.out.mono (by (repeat (with_reducible first | exact Below.refl _ _ | assumption | refine Below.drewN _ ?_ | refine Below.drew ?_ | refine Below_alloc ?_ _ | refine Below.alloc ?_ (by first | (simp; done) | (simp; omega) | omega) _ | refine Below.setCell ?_ (by first | (simp; done) | (simp; omega) | omega) _ | refine Below_call ?_ (by assumption) | refine Below.trans ?_ (by assumption)))) (fun _ _ h => h)) (by have := HLEN.out.1; omega) (by have := HLEN.out.2.2.2; omega)).mono ?_; rintro _ w6 ⟨r6, rfl, hw6, hb6⟩; obtain ⟨ro6, rn6, rc6, rfl⟩ := hw6.shape; have HW6 := hid hw6; clear hw6; have hz6 : w5.heap.size ≤ w6.heap.size := (by have := hb6.size; first | exact this | (simp at this; omega)); (first | (with_reducible have hrow := (hb6.block _ (lt_alloc _ _)).trans (heap_alloc_new _ _)) | (have hrow := (hb6.block _ (row_lt hrow)).trans hrow) | skip); (first | (have hrow2 := hrow; obtain ⟨y0, y1, fy0, fy1, hly⟩ := two_cells hrow2) | skip))); rw [contF]; refine ⟨?_, ?_⟩; (next => (repeat (with_reducible first | exact Below.refl _ _ | assumption | refine Below.drewN _ ?_ | refine Below.drew ?_ | refine Below_alloc ?_ _ | refine Below.alloc ?_ (by first | (simp; done) | (simp; omega) | omega) _ | refine Below.setCell ?_ (by first | (simp; done) | (simp; omega) | omega) _ | refine Below_call ?_ (by assumption) | refine Below.trans ?_ (by assumption))))))
      (rw [wpSteps])
      rotate_right
      (rw [wpFlt])
      (refine ⟨?_, ?_⟩)
      (go_wp2_with ((go_at_call 97; refine (base_WideMul _ q _ _ _ _ (HNB.out _ (by first | exact Nat.le_trans hz3 hz4 | (simp; omega))) (HW4.out.mono (by (repeat (with_reducible first | exact Below.refl _ _ | assumption | refine Below.drewN _ ?_ | refine Below.drew ?_ | refine Below_alloc ?_ _ | refine Below.alloc ?_ (by first | (simp; done) | (simp; omega) | omega) _ | refine Below.setCell ?_ (by first | (simp; done) | (simp; omega) | omega) _ | refine Below_call ?_ (by assumption) | refine Below.trans ?_ (by assumption)))) (fun _ _ h => h)) (HQW.out _ (by (repeat (with_reducible first | exact Below.refl _ _ | assumption | refine Below.drewN _ ?_ | refine Below.drew ?_ | refine Below_alloc ?_ _ | refine Below.alloc ?_ (by first | (simp; done) | (simp; omega) | omega) _ | refine Below.setCell ?_ (by first | (simp; done) | (simp; omega) | omega) _ | refine Below_call ?_ (by assumption) | refine Below.trans ?_ (by assumption))))) (by have := HLEN.out.2.2.1; omega) (by have := HLEN.out.2.1; omega)).mono ?_; rintro _ w5 ⟨r5, rfl, hw5, hb5⟩; obtain ⟨ro5, rn5, rc5, rfl⟩ := hw5.shape; have HW5 := hid hw5; clear hw5; have hz5 : w4.heap.size ≤ w5.heap.size := (by have := hb5.size; first | exact this | (simp at this; omega)); (first | (with_reducible have hrow := (hb5.block _ (lt_alloc _ _)).trans (heap_alloc_new _ _)) | (have hrow := (hb5.block _ (row_lt hrow)).trans hrow) | skip))); rw [contF]; refine ⟨?_, ?_⟩; (next => (repeat (with_reducible first | exact Below.refl _ _ | assumption | refine Below.drewN _ ?_ | refine Below.drew ?_ | refine Below_alloc ?_ _ | refine Below.alloc ?_ (by first | (simp; done) | (simp; omega) | omega) _ | refine Below.setCell ?_ (by first | (simp; done) | (simp; omega) | omega) _ | refine Below_call ?_ (by assumption) | refine Below.trans ?_ (by assumption)))))
      rotate_left
      (simp only [List.cons_append, List.nil_append])
      (rw [wpSteps]; (go_wp2_with (fail); rw [contF]; refine ⟨?_, ?_⟩; (next => (repeat (with_reducible first | exact Below.refl _ _ | assumption | refine Below.drewN _ ?_ | refine Below.drew ?_ | refine Below_alloc ?_ _ | refine Below.alloc ?_ (by first | (simp; done) | (simp; omega) | omega) _ | refine Below.setCell ?_ (by first | (simp; done) | (simp; omega) | omega) _ | refine Below_call ?_ (by assumption) | refine Below.trans ?_ (by assumption))))))
      (rw [wpSteps]; (go_wp2_with ((go_at_call 97; refine (base_WideMul _ q _ _ _ _ (HNB.out _ (by first | exact Nat.le_trans hz3 hz4 | (simp; omega))) (HW4.out.mono (by (repeat (with_reducible first | exact Below.refl _ _ | assumption | refine Below.drewN _ ?_ | refine Below.drew ?_ | refine Below_alloc ?_ _ | refine Below.alloc ?_ (by first | (simp; done) | (simp; omega) | omega) _ | refine Below.setCell ?_ (by first | (simp; done) | (simp; omega) | omega) _ | refine Below_call ?_ (by assumption) | refine Below.trans ?_ (by assumption)))) (fun _ _ h => h)) (HQW.out _ (by (repeat (with_reducible first | exact Below.refl _ _ | assumption | refine Below.drewN _ ?_ | refine Below.drew ?_ | refine Below_alloc ?_ _ | refine Below.alloc ?_ (by first | (simp; done) | (simp; omega) | omega) _ | refine Below.setCell ?_ (by first | (simp; done) | (simp; omega) | omega) _ | refine Below_call ?_ (by assumption) | refine Below.trans ?_ (by assumption))))) (by have := HLEN.out.2.2.1; omega) (by have := HLEN.out.2.1; omega)).mono ?_; rintro _ w5 ⟨r5, rfl, hw5, hb5⟩; obtain ⟨ro5, rn5, rc5, rfl⟩ := hw5.shape; have HW5 := hid hw5; clear hw5; have hz5 : w4.heap.size ≤ w5.heap.size := (by have := hb5.size; first | exact this | (simp at this; omega)); (first | (with_reducible have hrow := (hb5.block _ (lt_alloc _ _)).trans (heap_alloc_new _ _)) | (have hrow := (hb5.block _ (row_lt hrow)).trans hrow) | skip))); rw [contF]; refine ⟨?_, ?_⟩; (next => (repeat (with_reducible first | exact Below.refl _ _ | assumption | refine Below.drewN _ ?_ | refine Below.drew ?_ | refine Below_alloc ?_ _ | refine Below.alloc ?_ (by first | (simp; done) | (simp; omega) | omega) _ | refine Below.setCell ?_ (by first | (simp; done) | (simp; omega) | omega) _ | refine Below_call ?_ (by assumption) | refine Below.trans ?_ (by assumption))))))
      (rw [wpSteps]; (go_wp2_with ((go_at_call 134; refine (base_WideSub p _ _ _ _ _ (HNB.out _ (by first | exact Nat.le_trans hz3 (Nat.le_trans hz4 hz5) | (simp; omega))) (HPW.out _ (by (repeat (with_reducible first | exact Below.refl _ _ | assumption | refine Below.drewN _ ?_ | refine Below.drew ?_ | refine Below_alloc ?_ _ | refine Below.alloc ?_ (by first | (simp; done) | (simp; omega) | omega) _ | refine Below.setCell ?_ (by first | (simp; done) | (simp; omega) | omega) _ | refine Below_call ?_ (by assumption) | refine Below.trans ?_ (by assumption))))) (HW5.out.mono (by (repeat (with_reducible first | exact Below.refl _ _ | assumption | refine Below.drewN _ ?_ | refine Below.drew ?_ | refine Below_alloc ?_ _ | refine Below.alloc ?_ (by first | (simp; done) | (simp; omega) | omega) _ | refine Below.setCell ?_ (by first | (simp; done) | (simp; omega) | omega) _ | refine Below_call ?_ (by assumption) | refine Below.trans ?_ (by assumption)))) (fun _ _ h => h)) (by have := HLEN.out.1; omega) (by have := HLEN.out.2.2.2; omega)).mono ?_; rintro _ w6 ⟨r6, rfl, hw6, hb6⟩; obtain ⟨ro6, rn6, rc6, rfl⟩ := hw6.shape; have HW6 := hid hw6; clear hw6; have hz6 : w5.heap.size ≤ w6.heap.size := (by have := hb6.size; first | exact this | (simp at this; omega)); (first | (with_reducible have hrow := (hb6.block _ (lt_alloc _ _)).trans (heap_alloc_new _ _)) | (have hrow := (hb6.block _ (row_lt hrow)).trans hrow) | skip); (first | (have hrow2 := hrow; obtain ⟨y0, y1, fy0, fy1, hly⟩ := two_cells hrow2) | skip))); rw [contF]; refine ⟨?_, ?_⟩; (next => (repeat (with_reducible first | exact Below.refl _ _ | assumption | refine Below.drewN _ ?_ | refine Below.drew ?_ | refine Below_alloc ?_ _ | refine Below.alloc ?_ (by first | (simp; done) | (simp; omega) | omega) _ | refine Below.setCell ?_ (by first | (simp; done) | (simp; omega) | omega) _ | refine Below_call ?_ (by assumption) | refine Below.trans ?_ (by assumption))))))
      (rw [wpSteps])
      rotate_right
      (rw [wpFlt])
      (refine ⟨?_, ?_⟩)
      (go_wp2_with ((go_at_call 134; refine (base_WideSub p _ _ _ _ _ (HNB.out _ (by first | exact Nat.le_trans hz3 (Nat.le_trans hz4 hz5) | (simp; omega))) (HPW.out _ (by (repeat (with_reducible first | exact Below.refl _ _ | assumption | refine Below.drewN _ ?_ | refine Below.drew ?_ | refine Below_alloc ?_ _ | refine Below.alloc ?_ (by first | (simp; done) | (simp; omega) | omega) _ | refine Below.setCell ?_ (by first | (simp; done) | (simp; omega) | omega) _ | refine Below_call ?_ (by assumption) | refine Below.trans ?_ (by assumption))))) (HW5.out.mono (by (repeat (with_reducible first | exact Below.refl _ _ | assumption | refine Below.drewN _ ?_ | refine Below.drew ?_ | refine Below_alloc ?_ _ | refine Below.alloc ?_ (by first | (simp; done) | (simp; omega) | omega) _ | refine Below.setCell ?_ (by first | (simp; done) | (simp; omega) | omega) _ | refine Below_call ?_ (by assumption) | refine Below.trans ?_ (by assumption)))) (fun _ _ h => h)) (by have := HLEN.out.1; omega) (by have := HLEN.out.2.2.2; omega)).mono ?_; rintro _ w6 ⟨r6, rfl, hw6, hb6⟩; obtain ⟨ro6, rn6, rc6, rfl⟩ := hw6.shape; have HW6 := hid hw6; clear hw6; have hz6 : w5.heap.size ≤ w6.heap.size := (by have := hb6.size; first | exact this | (simp at this; omega)); (first | (with_reducible have hrow := (hb6.block _ (lt_alloc _ _)).trans (heap_alloc_new _ _)) | (have hrow := (hb6.block _ (row_lt hrow)).trans hrow) | skip); (first | (have hrow2 := hrow; obtain ⟨y0, y1, fy0, fy1, hly⟩ := two_cells hrow2) | skip))); rw [contF]; refine ⟨?_, ?_⟩; (next => (repeat (with_reducible first | exact Below.refl _ _ | assumption | refine Below.drewN _ ?_ | refine Below.drew ?_ | refine Below_alloc ?_ _ | refine Below.alloc ?_ (by first | (simp; done) | (simp; omega) | omega) _ | refine Below.setCell ?_ (by first | (simp; done) | (simp; omega) | omega) _ | refine Below_call ?_ (by assumption) | refine Below.trans ?_ (by assumption)))))
      rotate_left
      (simp only [List.cons_append, List.nil_append])
      (rw [wpSteps]; (go_wp2_with (fail); rw [contF]; refine ⟨?_, ?_⟩; (next => (repeat (with_reducible first | exact Below.refl _ _ | assumption | refine Below.drewN _ ?_ | refine Below.drew ?_ | refine Below_alloc ?_ _ | refine Below.alloc ?_ (by first | (simp; done) | (simp; omega) | omega) _ | refine Below.setCell ?_ (by first | (simp; done) | (simp; omega) | omega) _ | refine Below_call ?_ (by assumption) | refine Below.trans ?_ (by assumption))))))
      (rw [wpSteps]; (go_wp2_with ((go_at_call 134; refine (base_WideSub p _ _ _ _ _ (HNB.out _ (by first | exact Nat.le_trans hz3 (Nat.le_trans hz4 hz5) | (simp; omega))) (HPW.out _ (by (repeat (with_reducible first | exact Below.refl _ _ | assumption | refine Below.drewN _ ?_ | refine Below.drew ?_ | refine Below_alloc ?_ _ | refine Below.alloc ?_ (by first | (simp; done) | (simp; omega) | omega) _ | refine Below.setCell ?_ (by first | (simp; done) | (simp; omega) | omega) _ | refine Below_call ?_ (by assumption) | refine Below.trans ?_ (by assumption))))) (HW5.out.mono (by (repeat (with_reducible first | exact Below.refl _ _ | assumption | refine Below.drewN _ ?_ | refine Below.drew ?_ | refine Below_alloc ?_ _ | refine Below.alloc ?_ (by first | (simp; done) | (simp; omega) | omega) _ | refine Below.setCell ?_ (by first | (simp; done) | (simp; omega) | omega) _ | refine Below_call ?_ (by assumption) | refine Below.trans ?_ (by assumption)))) (fun _ _ h => h)) (by have := HLEN.out.1; omega) (by have := HLEN.out.2.2.2; omega)).mono ?_; rintro _ w6 ⟨r6, rfl, hw6, hb6⟩; obtain ⟨ro6, rn6, rc6, rfl⟩ := hw6.shape; have HW6 := hid hw6; clear hw6; have hz6 : w5.heap.size ≤ w6.heap.size := (by have := hb6.size; first | exact this | (simp at this; omega)); (first | (with_reducible have hrow := (hb6.block _ (lt_alloc _ _)).trans (heap_alloc_new _ _)) | (have hrow := (hb6.block _ (row_lt hrow)).trans hrow) | skip); (first | (have hrow2 := hrow; obtain ⟨y0, y1, fy0, fy1, hly⟩ := two_cells hrow2) | skip))); rw [contF]; refine ⟨?_, ?_⟩; (next => (repeat (with_reducible first | exact Below.refl _ _ | assumption | refine Below.drewN _ ?_ | refine Below.drew ?_ | refine Below_alloc ?_ _ | refine Below.alloc ?_ (by first | (simp; done) | (simp; omega) | omega) _ | refine Below.setCell ?_ (by first | (simp; done) | (simp; omega) | omega) _ | refine Below_call ?_ (by assumption) | refine Below.trans ?_ (by assumption))))))
      (rw [wpSteps])
      rotate_right
      (rw [wpFlt, wpSteps]; (go_wp2_with (fail); rw [contF]; refine ⟨?_, ?_⟩; (next => (repeat (with_reducible first | exact Below.refl _ _ | assumption | refine Below.drewN _ ?_ | refine Below.drew ?_ | refine Below_alloc ?_ _ | refine Below.alloc ?_ (by first | (simp; done) | (simp; omega) | omega) _ | refine Below.setCell ?_ (by first | (simp; done) | (simp; omega) | omega) _ | refine Below_call ?_ (by assumption) | refine Below.trans ?_ (by assumption))))))
      (rw [wpSteps])
      all_goals (rw [wpMix]; simp only [pick, List.drop_succ_cons, List.drop_zero, List.head?_cons, Option.toList_some, List.cons_append, List.nil_append])
      all_goals (go_wp2_with (fail); rw [contF])
      all_goals (rw [wpMix])
      all_goals (refine hQ' _ _ ?_)
      all_goals go_wp2_with fail
      · obtain ⟨W7, hW7⟩ : ∃ W7, W7 = w6.alloc (.cells #[.int .i64 (sg ((p : Int) - (p : Int) / (q : Int) * (q : Int))), .slice ro6 rn6 rc6] 60) := ⟨_, rfl⟩
        rw [← hW7]
        have q7 : W7.heap[w6.heap.size]? = some (.cells #[.int .i64 (sg ((p : Int) - (p : Int) / (q : Int) * (q : Int))), .slice ro6 rn6 rc6] 60 (0, 0)) := by rw [hW7]; exact heap_alloc_new w6 _
        have hb7 : Below wo.heap.size wo W7 := by rw [hW7]; (repeat (with_reducible first | exact Below.refl _ _ | assumption | refine Below.drewN _ ?_ | refine Below.drew ?_ | refine Below_alloc ?_ _ | refine Below.alloc ?_ (by first | (simp; done) | (simp; omega) | omega) _ | refine Below.setCell ?_ (by first | (simp; done) | (simp; omega) | omega) _ | refine Below_call ?_ (by assumption) | refine Below.trans ?_ (by assumption)))
        have HW7 : Hid (WideAt W7 (.agg #[.int .i64 (sg ((p : Int) - (p : Int) / (q : Int) * (q : Int))), .slice ro6 rn6 rc6]) ((p : Int) - (p : Int) / (q : Int) * (q : Int)) (fun b => b ≠ w.heap.size ∧ b ≠ w.heap.size + 1 ∧ b ≠ w.heap.size + 1 + 1 ∧ (b < w.heap.size → N b))) := hid (by rw [hW7]; exact HW6.out.mono ((Below.refl _ _).alloc (Nat.le_refl _) _) (fun _ _ h => h))
        obtain ⟨g, hg⟩ : ∃ g, g = w6.heap.size := ⟨_, rfl⟩
        have hgw : wo.heap.size ≤ g := by omega
        rw [← hg] at q7 ⊢
        clear hW7 hg
        obtain ⟨sr, hsr⟩ : ∃ sr, sr = sg ((p : Int) - (p : Int) / (q : Int) * (q : Int)) := ⟨_, rfl⟩
        rw [← hsr] at q7 ⊢
        have HSR := hid hsr
        have HQ7 := hid q7
        have HB7 := hid hb7
        obtain ⟨z0, z1, fz0, fz1, hlg⟩ := two_cells q7
        obtain ⟨a0, a1, fa0, fa1, hla7⟩ := two_cells ((hb7.block w.heap.size hla).trans HW.out.1.row)
        obtain ⟨b0, b1, fb0, fb1, hlb7⟩ := two_cells ((hb7.block (w.heap.size + 1) hlb).trans HW.out.2.1.row)
        rw [← HSP.out] at a0
        rw [← HSQ.out] at b0
        have hga : g ≠ w.heap.size := by omega
        have hgb : g ≠ w.heap.size + 1 := by omega
        clear hb3 hb3' hb4 hb5 hb6 q7 hsr r0 r1 fr0 fr1
        refine wp_mixC (KeepB [g, w.heap.size + 1] W7) 3 [.q [0, 1], .f [2]] [.f [3]] (by kernel_rfl) (by kernel_rfl) ((KeepB.refl (by first | (simp; done) | (simp; omega))).drew) ?_
        intro Q' hQ'
        (rw [wpMixC]; simp only [pick, List.drop_succ_cons, List.drop_zero, List.head?_cons, Option.toList_some, List.cons_append, List.nil_append])
        (repeat (first | go_big_quiet_skip | (go_big_quiet_want; refine quiet_simple rfl ?_; go_big_quiet_op; go_big_quiet_on) | (go_big_quiet_want; refine quiet_agg2K (ty := 60) rfl rfl (by kernel_rfl) (by assumption) (by assumption) (by simp) ?_; simp only [Act.put, List.setIfInBounds_toArray, List.set_cons_succ, List.set_cons_zero]; go_big_quiet_on)))
        (try refine wpQuiet_nil ?_)
        (rw [wpMixC]; simp only [pick, List.drop_succ_cons, List.drop_zero, List.head?_cons, Option.toList_some, List.cons_append, List.nil_append])
        (rw [wpSteps]; go_wp2_with (fail); rw [contF]; refine ⟨?_, ?_⟩; (next => (repeat (with_reducible first | assumption | exact KeepB.refl (by first | (simp; done) | (simp; omega)) | refine KeepB.drew ?_ | refine KeepB.alloc ?_ _ | refine KeepB.setCell ?_ (by first | (simp; done) | (simp; omega)) | refine KeepB.below ?_ (by assumption)))))
        (rw [wpSteps])
        (rw [wpMixC])
        (rw [wpMix]; simp only [pick, List.drop_succ_cons, List.drop_zero, List.head?_cons, Option.toList_some, List.cons_append, List.nil_append])
        (go_wp2_with ((first | fail)); rw [contF])
        (rw [wpMix])
        (refine hQ' _ _ ?_)
        go_wp2_with fail
        go_roundg (p % q)
        case rel =>
          have hpq : (p : Int) - (p : Int) / (q : Int) * (q : Int) = ((p % q : Nat) : Int) := by rw [HST.out.1]; rfl
          have hmq : p % q ≤ p := Nat.mod_le _ _
          have ra := (HB7.out.block w.heap.size hla).trans HW.out.1.row
          have rb := (HB7.out.block (w.heap.size + 1) hlb).trans HW.out.2.1.row
          have rr := (HB7.out.block (w.heap.size + 1 + 1) hlr).trans HW.out.2.2
          have hrot := gcd_rot (N := fun b => b ≠ w.heap.size ∧ b ≠ w.heap.size + 1 ∧ b ≠ w.heap.size + 1 + 1 ∧ (b < w.heap.size → N b)) HSQ.out (HSR.out.trans (congrArg sg hpq)) ra rb rr (by omega) (by omega) (by omega) (by rw [← HSQ.out]; exact HQW.out _ HB7.out) (by have := HW7.out; rw [hpq] at this; exact this) (fun b h => ⟨h.1, h.2.1⟩)
          exact ⟨q, p % q, qo, qn, qc, ro6, rn6, rc6, Nat.le_refl _, hid ⟨by rw [← HG.out.1, Nat.gcd_comm p q, Nat.gcd_comm q (p % q)]; exact (Nat.gcd_rec q p).symm, HG.out.2.2, Nat.le_trans (dig_len_mono hmq) HG.out.2.1⟩, hid ⟨hrot.1.below ((Below.refl _ _).drew), hrot.2.1.below ((Below.refl _ _).drew), hrot.2.2⟩, by (repeat (with_reducible first | exact Below.refl _ _ | assumption | refine Below.drewN _ ?_ | refine Below.drew ?_ | refine Below_alloc ?_ _ | refine Below.alloc ?_ (by first | (simp; done) | (simp; omega) | omega) _ | refine Below.setCell ?_ (by first | (simp; done) | (simp; omega) | omega) _ | refine Below_call ?_ (by assumption) | refine Below.trans ?_ (by assumption)))⟩
        case measure => exact Nat.lt_of_lt_of_le (Nat.mod_lt _ HQ0.out) hqk
      · obtain ⟨W7, hW7⟩ : ∃ W7, W7 = (w6.setCell ⟨w5.heap.size, 0, none⟩ (.int .i64 (sg ((p : Int) - (p : Int) / (q : Int) * (q : Int))))).setCell ⟨w5.heap.size, 1, none⟩ (.slice ro6 rn6 rc6) := ⟨_, rfl⟩
        rw [← hW7]
        have q7 : W7.heap[w5.heap.size]? = some (.cells #[.int .i64 (sg ((p : Int) - (p : Int) / (q : Int) * (q : Int))), .slice ro6 rn6 rc6] 60 (0, 0)) := by rw [hW7]; exact two_set hrow
        have hb7 : Below wo.heap.size wo W7 := by rw [hW7]; (repeat (with_reducible first | exact Below.refl _ _ | assumption | refine Below.drewN _ ?_ | refine Below.drew ?_ | refine Below_alloc ?_ _ | refine Below.alloc ?_ (by first | (simp; done) | (simp; omega) | omega) _ | refine Below.setCell ?_ (by first | (simp; done) | (simp; omega) | omega) _ | refine Below_call ?_ (by assumption) | refine Below.trans ?_ (by assumption)))
        have HW7 : Hid (WideAt W7 (.agg #[.int .i64 (sg ((p : Int) - (p : Int) / (q : Int) * (q : Int))), .slice ro6 rn6 rc6]) ((p : Int) - (p : Int) / (q : Int) * (q : Int)) (fun b => b ≠ w.heap.size ∧ b ≠ w.heap.size + 1 ∧ b ≠ w.heap.size + 1 + 1 ∧ (b < w.heap.size → N b))) := hid (by rw [hW7]; exact (HW6.out.apart hrow).store2 (Below.refl _ _) (fun b h => ⟨h.2, h.1⟩) _ _)
        obtain ⟨g, hg⟩ : ∃ g, g = w5.heap.size := ⟨_, rfl⟩
        have hgw : wo.heap.size ≤ g := by omega
        rw [← hg] at q7 ⊢
        clear hW7 hrow y0 y1 fy0 fy1 hly hg
        obtain ⟨sr, hsr⟩ : ∃ sr, sr = sg ((p : Int) - (p : Int) / (q : Int) * (q : Int)) := ⟨_, rfl⟩
        rw [← hsr] at q7 ⊢
        have HSR := hid hsr
        have HQ7 := hid q7
        have HB7 := hid hb7
        obtain ⟨z0, z1, fz0, fz1, hlg⟩ := two_cells q7
        obtain ⟨a0, a1, fa0, fa1, hla7⟩ := two_cells ((hb7.block w.heap.size hla).trans HW.out.1.row)
        obtain ⟨b0, b1, fb0, fb1, hlb7⟩ := two_cells ((hb7.block (w.heap.size + 1) hlb).trans HW.out.2.1.row)
        rw [← HSP.out] at a0
        rw [← HSQ.out] at b0
        have hga : g ≠ w.heap.size := by omega
        have hgb : g ≠ w.heap.size + 1 := by omega
        clear hb3 hb3' hb4 hb5 hb6 q7 hsr r0 r1 fr0 fr1
        refine wp_mixC (KeepB [g, w.heap.size + 1] W7) 3 [.q [0, 1], .f [2]] [.f [3]] (by kernel_rfl) (by kernel_rfl) ((KeepB.refl (by first | (simp; done) | (simp; omega))).drew) ?_
        intro Q' hQ'
        (rw [wpMixC]; simp only [pick, List.drop_succ_cons, List.drop_zero, List.head?_cons, Option.toList_some, List.cons_append, List.nil_append])
        (repeat (first | go_big_quiet_skip | (go_big_quiet_want; refine quiet_simple rfl ?_; go_big_quiet_op; go_big_quiet_on) | (go_big_quiet_want; refine quiet_agg2K (ty := 60) rfl rfl (by kernel_rfl) (by assumption) (by assumption) (by simp) ?_; simp only [Act.put, List.setIfInBounds_toArray, List.set_cons_succ, List.set_cons_zero]; go_big_quiet_on)))
        (try refine wpQuiet_nil ?_)
        (rw [wpMixC]; simp only [pick, List.drop_succ_cons, List.drop_zero, List.head?_cons, Option.toList_some, List.cons_append, List.nil_append])
        (rw [wpSteps]; go_wp2_with (fail); rw [contF]; refine ⟨?_, ?_⟩; (next => (repeat (with_reducible first | assumption | exact KeepB.refl (by first | (simp; done) | (simp; omega)) | refine KeepB.drew ?_ | refine KeepB.alloc ?_ _ | refine KeepB.setCell ?_ (by first | (simp; done) | (simp; omega)) | refine KeepB.below ?_ (by assumption)))))
        (rw [wpSteps])
        (rw [wpMixC])
        (rw [wpMix]; simp only [pick, List.drop_succ_cons, List.drop_zero, List.head?_cons, Option.toList_some, List.cons_append, List.nil_append])
        (go_wp2_with ((first | fail)); rw [contF])
        (rw [wpMix])
        (refine hQ' _ _ ?_)
        go_wp2_with fail
        go_roundg (p % q)
        case rel =>
          have hpq : (p : Int) - (p : Int) / (q : Int) * (q : Int) = ((p % q : Nat) : Int) := by rw [HST.out.1]; rfl
          have hmq : p % q ≤ p := Nat.mod_le _ _
          have ra := (HB7.out.block w.heap.size hla).trans HW.out.1.row
          have rb := (HB7.out.block (w.heap.size + 1) hlb).trans HW.out.2.1.row
          have rr := (HB7.out.block (w.heap.size + 1 + 1) hlr).trans HW.out.2.2
          have hrot := gcd_rot (N := fun b => b ≠ w.heap.size ∧ b ≠ w.heap.size + 1 ∧ b ≠ w.heap.size + 1 + 1 ∧ (b < w.heap.size → N b)) HSQ.out (HSR.out.trans (congrArg sg hpq)) ra rb rr (by omega) (by omega) (by omega) (by rw [← HSQ.out]; exact HQW.out _ HB7.out) (by have := HW7.out; rw [hpq] at this; exact this) (fun b h => ⟨h.1, h.2.1⟩)
          exact ⟨q, p % q, qo, qn, qc, ro6, rn6, rc6, Nat.le_refl _, hid ⟨by rw [← HG.out.1, Nat.gcd_comm p q, Nat.gcd_comm q (p % q)]; exact (Nat.gcd_rec q p).symm, HG.out.2.2, Nat.le_trans (dig_len_mono hmq) HG.out.2.1⟩, hid ⟨hrot.1.below ((Below.refl _ _).drew), hrot.2.1.below ((Below.refl _ _).drew), hrot.2.2⟩, by (repeat (with_reducible first | exact Below.refl _ _ | assumption | refine Below.drewN _ ?_ | refine Below.drew ?_ | refine Below_alloc ?_ _ | refine Below.alloc ?_ (by first | (simp; done) | (simp; omega) | omega) _ | refine Below.setCell ?_ (by first | (simp; done) | (simp; omega) | omega) _ | refine Below_call ?_ (by assumption) | refine Below.trans ?_ (by assumption)))⟩
        case measure => exact Nat.lt_of_lt_of_le (Nat.mod_lt _ HQ0.out) hqk
      · obtain ⟨W7, hW7⟩ : ∃ W7, W7 = (w6.setCell ⟨w4.heap.size, 0, none⟩ (.int .i64 (sg ((p : Int) - (p : Int) / (q : Int) * (q : Int))))).setCell ⟨w4.heap.size, 1, none⟩ (.slice ro6 rn6 rc6) := ⟨_, rfl⟩
        rw [← hW7]
        have q7 : W7.heap[w4.heap.size]? = some (.cells #[.int .i64 (sg ((p : Int) - (p : Int) / (q : Int) * (q : Int))), .slice ro6 rn6 rc6] 60 (0, 0)) := by rw [hW7]; exact two_set hrow
        have hb7 : Below wo.heap.size wo W7 := by rw [hW7]; (repeat (with_reducible first | exact Below.refl _ _ | assumption | refine Below.drewN _ ?_ | refine Below.drew ?_ | refine Below_alloc ?_ _ | refine Below.alloc ?_ (by first | (simp; done) | (simp; omega) | omega) _ | refine Below.setCell ?_ (by first | (simp; done) | (simp; omega) | omega) _ | refine Below_call ?_ (by assumption) | refine Below.trans ?_ (by assumption)))
        have HW7 : Hid (WideAt W7 (.agg #[.int .i64 (sg ((p : Int) - (p : Int) / (q : Int) * (q : Int))), .slice ro6 rn6 rc6]) ((p : Int) - (p : Int) / (q : Int) * (q : Int)) (fun b => b ≠ w.heap.size ∧ b ≠ w.heap.size + 1 ∧ b ≠ w.heap.size + 1 + 1 ∧ (b < w.heap.size → N b))) := hid (by rw [hW7]; exact (HW6.out.apart hrow).store2 (Below.refl _ _) (fun b h => ⟨h.2, h.1⟩) _ _)
        obtain ⟨g, hg⟩ : ∃ g, g = w4.heap.size := ⟨_, rfl⟩
        have hgw : wo.heap.size ≤ g := by omega
        rw [← hg] at q7 ⊢
        clear hW7 hrow y0 y1 fy0 fy1 hly hg
        obtain ⟨sr, hsr⟩ : ∃ sr, sr = sg ((p : Int) - (p : Int) / (q : Int) * (q : Int)) := ⟨_, rfl⟩
        rw [← hsr] at q7 ⊢
        have HSR := hid hsr
        have HQ7 := hid q7
        have HB7 := hid hb7
        obtain ⟨z0, z1, fz0, fz1, hlg⟩ := two_cells q7
        obtain ⟨a0, a1, fa0, fa1, hla7⟩ := two_cells ((hb7.block w.heap.size hla).trans HW.out.1.row)
        obtain ⟨b0, b1, fb0, fb1, hlb7⟩ := two_cells ((hb7.block (w.heap.size + 1) hlb).trans HW.out.2.1.row)
        rw [← HSP.out] at a0
        rw [← HSQ.out] at b0
        have hga : g ≠ w.heap.size := by omega
        have hgb : g ≠ w.heap.size + 1 := by omega
        clear hb3 hb3' hb4 hb5 hb6 q7 hsr r0 r1 fr0 fr1
        refine wp_mixC (KeepB [g, w.heap.size + 1] W7) 3 [.q [0, 1], .f [2]] [.f [3]] (by kernel_rfl) (by kernel_rfl) ((KeepB.refl (by first | (simp; done) | (simp; omega))).drew) ?_
        intro Q' hQ'
        (rw [wpMixC]; simp only [pick, List.drop_succ_cons, List.drop_zero, List.head?_cons, Option.toList_some, List.cons_append, List.nil_append])
        (repeat (first | go_big_quiet_skip | (go_big_quiet_want; refine quiet_simple rfl ?_; go_big_quiet_op; go_big_quiet_on) | (go_big_quiet_want; refine quiet_agg2K (ty := 60) rfl rfl (by kernel_rfl) (by assumption) (by assumption) (by simp) ?_; simp only [Act.put, List.setIfInBounds_toArray, List.set_cons_succ, List.set_cons_zero]; go_big_quiet_on)))
        (try refine wpQuiet_nil ?_)
        (rw [wpMixC]; simp only [pick, List.drop_succ_cons, List.drop_zero, List.head?_cons, Option.toList_some, List.cons_append, List.nil_append])
        (rw [wpSteps]; go_wp2_with (fail); rw [contF]; refine ⟨?_, ?_⟩; (next => (repeat (with_reducible first | assumption | exact KeepB.refl (by first | (simp; done) | (simp; omega)) | refine KeepB.drew ?_ | refine KeepB.alloc ?_ _ | refine KeepB.setCell ?_ (by first | (simp; done) | (simp; omega)) | refine KeepB.below ?_ (by assumption)))))
        (rw [wpSteps])
        (rw [wpMixC])
        (rw [wpMix]; simp only [pick, List.drop_succ_cons, List.drop_zero, List.head?_cons, Option.toList_some, List.cons_append, List.nil_append])
        (go_wp2_with ((first | fail)); rw [contF])
        (rw [wpMix])
        (refine hQ' _ _ ?_)
        go_wp2_with fail
        go_roundg (p % q)
        case rel =>
          have hpq : (p : Int) - (p : Int) / (q : Int) * (q : Int) = ((p % q : Nat) : Int) := by rw [HST.out.1]; rfl
          have hmq : p % q ≤ p := Nat.mod_le _ _
          have ra := (HB7.out.block w.heap.size hla).trans HW.out.1.row
          have rb := (HB7.out.block (w.heap.size + 1) hlb).trans HW.out.2.1.row
          have rr := (HB7.out.block (w.heap.size + 1 + 1) hlr).trans HW.out.2.2
          have hrot := gcd_rot (N := fun b => b ≠ w.heap.size ∧ b ≠ w.heap.size + 1 ∧ b ≠ w.heap.size + 1 + 1 ∧ (b < w.heap.size → N b)) HSQ.out (HSR.out.trans (congrArg sg hpq)) ra rb rr (by omega) (by omega) (by omega) (by rw [← HSQ.out]; exact HQW.out _ HB7.out) (by have := HW7.out; rw [hpq] at this; exact this) (fun b h => ⟨h.1, h.2.1⟩)
          exact ⟨q, p % q, qo, qn, qc, ro6, rn6, rc6, Nat.le_refl _, hid ⟨by rw [← HG.out.1, Nat.gcd_comm p q, Nat.gcd_comm q (p % q)]; exact (Nat.gcd_rec q p).symm, HG.out.2.2, Nat.le_trans (dig_len_mono hmq) HG.out.2.1⟩, hid ⟨hrot.1.below ((Below.refl _ _).drew), hrot.2.1.below ((Below.refl _ _).drew), hrot.2.2⟩, by (repeat (with_reducible first | exact Below.refl _ _ | assumption | refine Below.drewN _ ?_ | refine Below.drew ?_ | refine Below_alloc ?_ _ | refine Below.alloc ?_ (by first | (simp; done) | (simp; omega) | omega) _ | refine Below.setCell ?_ (by first | (simp; done) | (simp; omega) | omega) _ | refine Below_call ?_ (by assumption) | refine Below.trans ?_ (by assumption)))⟩
        case measure => exact Nat.lt_of_lt_of_le (Nat.mod_lt _ HQ0.out) hqk
      · obtain ⟨W7, hW7⟩ : ∃ W7, W7 = (w6.setCell ⟨w3.heap.size, 0, none⟩ (.int .i64 (sg ((p : Int) - (p : Int) / (q : Int) * (q : Int))))).setCell ⟨w3.heap.size, 1, none⟩ (.slice ro6 rn6 rc6) := ⟨_, rfl⟩
        rw [← hW7]
        have q7 : W7.heap[w3.heap.size]? = some (.cells #[.int .i64 (sg ((p : Int) - (p : Int) / (q : Int) * (q : Int))), .slice ro6 rn6 rc6] 60 (0, 0)) := by rw [hW7]; exact two_set hrow
        have hb7 : Below wo.heap.size wo W7 := by rw [hW7]; (repeat (with_reducible first | exact Below.refl _ _ | assumption | refine Below.drewN _ ?_ | refine Below.drew ?_ | refine Below_alloc ?_ _ | refine Below.alloc ?_ (by first | (simp; done) | (simp; omega) | omega) _ | refine Below.setCell ?_ (by first | (simp; done) | (simp; omega) | omega) _ | refine Below_call ?_ (by assumption) | refine Below.trans ?_ (by assumption)))
        have HW7 : Hid (WideAt W7 (.agg #[.int .i64 (sg ((p : Int) - (p : Int) / (q : Int) * (q : Int))), .slice ro6 rn6 rc6]) ((p : Int) - (p : Int) / (q : Int) * (q : Int)) (fun b => b ≠ w.heap.size ∧ b ≠ w.heap.size + 1 ∧ b ≠ w.heap.size + 1 + 1 ∧ (b < w.heap.size → N b))) := hid (by rw [hW7]; exact (HW6.out.apart hrow).store2 (Below.refl _ _) (fun b h => ⟨h.2, h.1⟩) _ _)
        obtain ⟨g, hg⟩ : ∃ g, g = w3.heap.size := ⟨_, rfl⟩
        have hgw : wo.heap.size ≤ g := by omega
        rw [← hg] at q7 ⊢
        clear hW7 hrow y0 y1 fy0 fy1 hly hg
        obtain ⟨sr, hsr⟩ : ∃ sr, sr = sg ((p : Int) - (p : Int) / (q : Int) * (q : Int)) := ⟨_, rfl⟩
        rw [← hsr] at q7 ⊢
        have HSR := hid hsr
        have HQ7 := hid q7
        have HB7 := hid hb7
        obtain ⟨z0, z1, fz0, fz1, hlg⟩ := two_cells q7
        obtain ⟨a0, a1, fa0, fa1, hla7⟩ := two_cells ((hb7.block w.heap.size hla).trans HW.out.1.row)
        obtain ⟨b0, b1, fb0, fb1, hlb7⟩ := two_cells ((hb7.block (w.heap.size + 1) hlb).trans HW.out.2.1.row)
        rw [← HSP.out] at a0
        rw [← HSQ.out] at b0
        have hga : g ≠ w.heap.size := by omega
        have hgb : g ≠ w.heap.size + 1 := by omega
        clear hb3 hb3' hb4 hb5 hb6 q7 hsr r0 r1 fr0 fr1
        refine wp_mixC (KeepB [g, w.heap.size + 1] W7) 3 [.q [0, 1], .f [2]] [.f [3]] (by kernel_rfl) (by kernel_rfl) ((KeepB.refl (by first | (simp; done) | (simp; omega))).drew) ?_
        intro Q' hQ'
        (rw [wpMixC]; simp only [pick, List.drop_succ_cons, List.drop_zero, List.head?_cons, Option.toList_some, List.cons_append, List.nil_append])
        (repeat (first | go_big_quiet_skip | (go_big_quiet_want; refine quiet_simple rfl ?_; go_big_quiet_op; go_big_quiet_on) | (go_big_quiet_want; refine quiet_agg2K (ty := 60) rfl rfl (by kernel_rfl) (by assumption) (by assumption) (by simp) ?_; simp only [Act.put, List.setIfInBounds_toArray, List.set_cons_succ, List.set_cons_zero]; go_big_quiet_on)))
        (try refine wpQuiet_nil ?_)
        (rw [wpMixC]; simp only [pick, List.drop_succ_cons, List.drop_zero, List.head?_cons, Option.toList_some, List.cons_append, List.nil_append])
        (rw [wpSteps]; go_wp2_with (fail); rw [contF]; refine ⟨?_, ?_⟩; (next => (repeat (with_reducible first | assumption | exact KeepB.refl (by first | (simp; done) | (simp; omega)) | refine KeepB.drew ?_ | refine KeepB.alloc ?_ _ | refine KeepB.setCell ?_ (by first | (simp; done) | (simp; omega)) | refine KeepB.below ?_ (by assumption)))))
        (rw [wpSteps])
        (rw [wpMixC])
        (rw [wpMix]; simp only [pick, List.drop_succ_cons, List.drop_zero, List.head?_cons, Option.toList_some, List.cons_append, List.nil_append])
        (go_wp2_with ((first | fail)); rw [contF])
        (rw [wpMix])
        (refine hQ' _ _ ?_)
        go_wp2_with fail
        go_roundg (p % q)
        case rel =>
          have hpq : (p : Int) - (p : Int) / (q : Int) * (q : Int) = ((p % q : Nat) : Int) := by rw [HST.out.1]; rfl
          have hmq : p % q ≤ p := Nat.mod_le _ _
          have ra := (HB7.out.block w.heap.size hla).trans HW.out.1.row
          have rb := (HB7.out.block (w.heap.size + 1) hlb).trans HW.out.2.1.row
          have rr := (HB7.out.block (w.heap.size + 1 + 1) hlr).trans HW.out.2.2
          have hrot := gcd_rot (N := fun b => b ≠ w.heap.size ∧ b ≠ w.heap.size + 1 ∧ b ≠ w.heap.size + 1 + 1 ∧ (b < w.heap.size → N b)) HSQ.out (HSR.out.trans (congrArg sg hpq)) ra rb rr (by omega) (by omega) (by omega) (by rw [← HSQ.out]; exact HQW.out _ HB7.out) (by have := HW7.out; rw [hpq] at this; exact this) (fun b h => ⟨h.1, h.2.1⟩)
          exact ⟨q, p % q, qo, qn, qc, ro6, rn6, rc6, Nat.le_refl _, hid ⟨by rw [← HG.out.1, Nat.gcd_comm p q, Nat.gcd_comm q (p % q)]; exact (Nat.gcd_rec q p).symm, HG.out.2.2, Nat.le_trans (dig_len_mono hmq) HG.out.2.1⟩, hid ⟨hrot.1.below ((Below.refl _ _).drew), hrot.2.1.below ((Below.refl _ _).drew), hrot.2.2⟩, by (repeat (with_reducible first | exact Below.refl _ _ | assumption | refine Below.drewN _ ?_ | refine Below.drew ?_ | refine Below_alloc ?_ _ | refine Below.alloc ?_ (by first | (simp; done) | (simp; omega) | omega) _ | refine Below.setCell ?_ (by first | (simp; done) | (simp; omega) | omega) _ | refine Below_call ?_ (by assumption) | refine Below.trans ?_ (by assumption)))⟩
        case measure => exact Nat.lt_of_lt_of_le (Nat.mod_lt _ HQ0.out) hqk
end Go.Proofs.Ytllddidjiabegaa

