/- A class of worlds in which some blocks are as they were; loads of aggregates of many cells. -/
import Derived.Test.YtlmdmpjfehpjeaaL3
import Derived.Test.YtlmdmpjfehpjeaaL2
import Derived.LoopN
set_option linter.unusedVariables false
set_option linter.unusedSimpArgs false
namespace Go.Proofs.Ytlmdmpjfehpjeaa
open Go.RowKit

/-- the blocks of a list are as they were. -/
def KeepB (G : List Nat) (W wc : World) : Prop := ∀ g ∈ G, g < wc.heap.size ∧ wc.heap[g]? = W.heap[g]?
theorem KeepB.refl {G : List Nat} {W : World} (h : ∀ g ∈ G, g < W.heap.size) : KeepB G W W := fun g hg => ⟨h g hg, rfl⟩
theorem KeepB.drew {G : List Nat} {W w : World} (h : KeepB G W w) : KeepB G W w.drew := fun g hg => h g hg
theorem KeepB.below {G : List Nat} {W w w' : World} (h : KeepB G W w) (hb : Below w.heap.size w w') : KeepB G W w' := fun g hg => ⟨Nat.lt_of_lt_of_le (h g hg).1 hb.size, (hb.block g (h g hg).1).trans (h g hg).2⟩
theorem KeepB.alloc {G : List Nat} {W w : World} (h : KeepB G W w) (o : Obj) : KeepB G W (w.alloc o) := KeepB.below h ((Below.refl _ _).alloc (Nat.le_refl _) o)
theorem heap_setCell_ne (w : World) (g k off : Nat) (v : Value) (h : g ≠ k) : (w.setCell ⟨k, off, none⟩ v).heap[g]? = w.heap[g]? := heap_setCell_other w ⟨k, off, none⟩ g v h
theorem KeepB.setCell {G : List Nat} {W w : World} {k off : Nat} {v : Value} (h : KeepB G W w) (hk : ∀ g ∈ G, g ≠ k) : KeepB G W (w.setCell ⟨k, off, none⟩ v) := fun g hg => by
  rw [World.size_setCell, heap_setCell_ne _ _ _ _ _ (hk g hg)]; exact h g hg
theorem KeepB.cell {G : List Nat} {W w : World} (h : KeepB G W w) {g off : Nat} (hg : g ∈ G) : w.cell? ⟨g, off, none⟩ = W.cell? ⟨g, off, none⟩ := by
  simp only [World.cell?, (h g hg).2]
theorem quiet_cellK {P : Program} {o : Oper} {a : Act} {G : List Nat} {w0 : World} {K : Act → Prop} {ty : TypeId} {x : Operand} {b off : Nat} {v : Value} (ho : o.op = .load ty x) (hx : a.eval x = .pointer (some ⟨b, off, none⟩)) (hd : aggB P ty = false)
    (hc : w0.cell? ⟨b, off, none⟩ = some v) (hb : b ∈ G) (hK : K (a.put o.dst v)) : o.quiet P a (KeepB G w0) K :=
  quiet_val v (fun w hw => run_load_cell ho hx (isAgg_no hd) ((hw.cell hb).trans hc)) hK
theorem quiet_agg5B {P : Program} {o : Oper} {a : Act} {B : Nat} {w0 : World} {K : Act → Prop} {ty : TypeId} {x : Operand} {b off : Nat} {v0 v1 v2 v3 v4 : Value} (ho : o.op = .load ty x) (hx : a.eval x = .pointer (some ⟨b, off, none⟩)) (hd : yesB P ty 5 = true)
    (h0 : w0.cell? ⟨b, off, none⟩ = some v0) (h1 : w0.cell? ⟨b, off + 1, none⟩ = some v1) (h2 : w0.cell? ⟨b, off + 2, none⟩ = some v2) (h3 : w0.cell? ⟨b, off + 3, none⟩ = some v3) (h4 : w0.cell? ⟨b, off + 4, none⟩ = some v4) (hb : b < B) (hK : K (a.put o.dst (.agg #[v0, v1, v2, v3, v4]))) : o.quiet P a (fun w' => Below B w0 w') K :=
  quiet_val _ (fun w hw => run_load_agg [v0, v1, v2, v3, v4] ho hx hd (fun j v hj => by
    match j, hj with
    | 0, hj => cases hj; exact (hw.cell (p := ⟨b, off, none⟩) hb).trans h0
    | 1, hj => cases hj; exact (hw.cell (p := ⟨b, off + 1, none⟩) hb).trans h1
    | 2, hj => cases hj; exact (hw.cell (p := ⟨b, off + 2, none⟩) hb).trans h2
    | 3, hj => cases hj; exact (hw.cell (p := ⟨b, off + 3, none⟩) hb).trans h3
    | 4, hj => cases hj; exact (hw.cell (p := ⟨b, off + 4, none⟩) hb).trans h4
    | j + 5, hj => simp at hj)) hK
theorem quiet_agg6B {P : Program} {o : Oper} {a : Act} {B : Nat} {w0 : World} {K : Act → Prop} {ty : TypeId} {x : Operand} {b off : Nat} {v0 v1 v2 v3 v4 v5 : Value} (ho : o.op = .load ty x) (hx : a.eval x = .pointer (some ⟨b, off, none⟩)) (hd : yesB P ty 6 = true)
    (h0 : w0.cell? ⟨b, off, none⟩ = some v0) (h1 : w0.cell? ⟨b, off + 1, none⟩ = some v1) (h2 : w0.cell? ⟨b, off + 2, none⟩ = some v2) (h3 : w0.cell? ⟨b, off + 3, none⟩ = some v3) (h4 : w0.cell? ⟨b, off + 4, none⟩ = some v4) (h5 : w0.cell? ⟨b, off + 5, none⟩ = some v5) (hb : b < B) (hK : K (a.put o.dst (.agg #[v0, v1, v2, v3, v4, v5]))) : o.quiet P a (fun w' => Below B w0 w') K :=
  quiet_val _ (fun w hw => run_load_agg [v0, v1, v2, v3, v4, v5] ho hx hd (fun j v hj => by
    match j, hj with
    | 0, hj => cases hj; exact (hw.cell (p := ⟨b, off, none⟩) hb).trans h0
    | 1, hj => cases hj; exact (hw.cell (p := ⟨b, off + 1, none⟩) hb).trans h1
    | 2, hj => cases hj; exact (hw.cell (p := ⟨b, off + 2, none⟩) hb).trans h2
    | 3, hj => cases hj; exact (hw.cell (p := ⟨b, off + 3, none⟩) hb).trans h3
    | 4, hj => cases hj; exact (hw.cell (p := ⟨b, off + 4, none⟩) hb).trans h4
    | 5, hj => cases hj; exact (hw.cell (p := ⟨b, off + 5, none⟩) hb).trans h5
    | j + 6, hj => simp at hj)) hK
theorem quiet_agg7B {P : Program} {o : Oper} {a : Act} {B : Nat} {w0 : World} {K : Act → Prop} {ty : TypeId} {x : Operand} {b off : Nat} {v0 v1 v2 v3 v4 v5 v6 : Value} (ho : o.op = .load ty x) (hx : a.eval x = .pointer (some ⟨b, off, none⟩)) (hd : yesB P ty 7 = true)
    (h0 : w0.cell? ⟨b, off, none⟩ = some v0) (h1 : w0.cell? ⟨b, off + 1, none⟩ = some v1) (h2 : w0.cell? ⟨b, off + 2, none⟩ = some v2) (h3 : w0.cell? ⟨b, off + 3, none⟩ = some v3) (h4 : w0.cell? ⟨b, off + 4, none⟩ = some v4) (h5 : w0.cell? ⟨b, off + 5, none⟩ = some v5) (h6 : w0.cell? ⟨b, off + 6, none⟩ = some v6) (hb : b < B) (hK : K (a.put o.dst (.agg #[v0, v1, v2, v3, v4, v5, v6]))) : o.quiet P a (fun w' => Below B w0 w') K :=
  quiet_val _ (fun w hw => run_load_agg [v0, v1, v2, v3, v4, v5, v6] ho hx hd (fun j v hj => by
    match j, hj with
    | 0, hj => cases hj; exact (hw.cell (p := ⟨b, off, none⟩) hb).trans h0
    | 1, hj => cases hj; exact (hw.cell (p := ⟨b, off + 1, none⟩) hb).trans h1
    | 2, hj => cases hj; exact (hw.cell (p := ⟨b, off + 2, none⟩) hb).trans h2
    | 3, hj => cases hj; exact (hw.cell (p := ⟨b, off + 3, none⟩) hb).trans h3
    | 4, hj => cases hj; exact (hw.cell (p := ⟨b, off + 4, none⟩) hb).trans h4
    | 5, hj => cases hj; exact (hw.cell (p := ⟨b, off + 5, none⟩) hb).trans h5
    | 6, hj => cases hj; exact (hw.cell (p := ⟨b, off + 6, none⟩) hb).trans h6
    | j + 7, hj => simp at hj)) hK
theorem quiet_agg8B {P : Program} {o : Oper} {a : Act} {B : Nat} {w0 : World} {K : Act → Prop} {ty : TypeId} {x : Operand} {b off : Nat} {v0 v1 v2 v3 v4 v5 v6 v7 : Value} (ho : o.op = .load ty x) (hx : a.eval x = .pointer (some ⟨b, off, none⟩)) (hd : yesB P ty 8 = true)
    (h0 : w0.cell? ⟨b, off, none⟩ = some v0) (h1 : w0.cell? ⟨b, off + 1, none⟩ = some v1) (h2 : w0.cell? ⟨b, off + 2, none⟩ = some v2) (h3 : w0.cell? ⟨b, off + 3, none⟩ = some v3) (h4 : w0.cell? ⟨b, off + 4, none⟩ = some v4) (h5 : w0.cell? ⟨b, off + 5, none⟩ = some v5) (h6 : w0.cell? ⟨b, off + 6, none⟩ = some v6) (h7 : w0.cell? ⟨b, off + 7, none⟩ = some v7) (hb : b < B) (hK : K (a.put o.dst (.agg #[v0, v1, v2, v3, v4, v5, v6, v7]))) : o.quiet P a (fun w' => Below B w0 w') K :=
  quiet_val _ (fun w hw => run_load_agg [v0, v1, v2, v3, v4, v5, v6, v7] ho hx hd (fun j v hj => by
    match j, hj with
    | 0, hj => cases hj; exact (hw.cell (p := ⟨b, off, none⟩) hb).trans h0
    | 1, hj => cases hj; exact (hw.cell (p := ⟨b, off + 1, none⟩) hb).trans h1
    | 2, hj => cases hj; exact (hw.cell (p := ⟨b, off + 2, none⟩) hb).trans h2
    | 3, hj => cases hj; exact (hw.cell (p := ⟨b, off + 3, none⟩) hb).trans h3
    | 4, hj => cases hj; exact (hw.cell (p := ⟨b, off + 4, none⟩) hb).trans h4
    | 5, hj => cases hj; exact (hw.cell (p := ⟨b, off + 5, none⟩) hb).trans h5
    | 6, hj => cases hj; exact (hw.cell (p := ⟨b, off + 6, none⟩) hb).trans h6
    | 7, hj => cases hj; exact (hw.cell (p := ⟨b, off + 7, none⟩) hb).trans h7
    | j + 8, hj => simp at hj)) hK
theorem quiet_agg9B {P : Program} {o : Oper} {a : Act} {B : Nat} {w0 : World} {K : Act → Prop} {ty : TypeId} {x : Operand} {b off : Nat} {v0 v1 v2 v3 v4 v5 v6 v7 v8 : Value} (ho : o.op = .load ty x) (hx : a.eval x = .pointer (some ⟨b, off, none⟩)) (hd : yesB P ty 9 = true)
    (h0 : w0.cell? ⟨b, off, none⟩ = some v0) (h1 : w0.cell? ⟨b, off + 1, none⟩ = some v1) (h2 : w0.cell? ⟨b, off + 2, none⟩ = some v2) (h3 : w0.cell? ⟨b, off + 3, none⟩ = some v3) (h4 : w0.cell? ⟨b, off + 4, none⟩ = some v4) (h5 : w0.cell? ⟨b, off + 5, none⟩ = some v5) (h6 : w0.cell? ⟨b, off + 6, none⟩ = some v6) (h7 : w0.cell? ⟨b, off + 7, none⟩ = some v7) (h8 : w0.cell? ⟨b, off + 8, none⟩ = some v8) (hb : b < B) (hK : K (a.put o.dst (.agg #[v0, v1, v2, v3, v4, v5, v6, v7, v8]))) : o.quiet P a (fun w' => Below B w0 w') K :=
  quiet_val _ (fun w hw => run_load_agg [v0, v1, v2, v3, v4, v5, v6, v7, v8] ho hx hd (fun j v hj => by
    match j, hj with
    | 0, hj => cases hj; exact (hw.cell (p := ⟨b, off, none⟩) hb).trans h0
    | 1, hj => cases hj; exact (hw.cell (p := ⟨b, off + 1, none⟩) hb).trans h1
    | 2, hj => cases hj; exact (hw.cell (p := ⟨b, off + 2, none⟩) hb).trans h2
    | 3, hj => cases hj; exact (hw.cell (p := ⟨b, off + 3, none⟩) hb).trans h3
    | 4, hj => cases hj; exact (hw.cell (p := ⟨b, off + 4, none⟩) hb).trans h4
    | 5, hj => cases hj; exact (hw.cell (p := ⟨b, off + 5, none⟩) hb).trans h5
    | 6, hj => cases hj; exact (hw.cell (p := ⟨b, off + 6, none⟩) hb).trans h6
    | 7, hj => cases hj; exact (hw.cell (p := ⟨b, off + 7, none⟩) hb).trans h7
    | 8, hj => cases hj; exact (hw.cell (p := ⟨b, off + 8, none⟩) hb).trans h8
    | j + 9, hj => simp at hj)) hK
theorem quiet_agg10B {P : Program} {o : Oper} {a : Act} {B : Nat} {w0 : World} {K : Act → Prop} {ty : TypeId} {x : Operand} {b off : Nat} {v0 v1 v2 v3 v4 v5 v6 v7 v8 v9 : Value} (ho : o.op = .load ty x) (hx : a.eval x = .pointer (some ⟨b, off, none⟩)) (hd : yesB P ty 10 = true)
    (h0 : w0.cell? ⟨b, off, none⟩ = some v0) (h1 : w0.cell? ⟨b, off + 1, none⟩ = some v1) (h2 : w0.cell? ⟨b, off + 2, none⟩ = some v2) (h3 : w0.cell? ⟨b, off + 3, none⟩ = some v3) (h4 : w0.cell? ⟨b, off + 4, none⟩ = some v4) (h5 : w0.cell? ⟨b, off + 5, none⟩ = some v5) (h6 : w0.cell? ⟨b, off + 6, none⟩ = some v6) (h7 : w0.cell? ⟨b, off + 7, none⟩ = some v7) (h8 : w0.cell? ⟨b, off + 8, none⟩ = some v8) (h9 : w0.cell? ⟨b, off + 9, none⟩ = some v9) (hb : b < B) (hK : K (a.put o.dst (.agg #[v0, v1, v2, v3, v4, v5, v6, v7, v8, v9]))) : o.quiet P a (fun w' => Below B w0 w') K :=
  quiet_val _ (fun w hw => run_load_agg [v0, v1, v2, v3, v4, v5, v6, v7, v8, v9] ho hx hd (fun j v hj => by
    match j, hj with
    | 0, hj => cases hj; exact (hw.cell (p := ⟨b, off, none⟩) hb).trans h0
    | 1, hj => cases hj; exact (hw.cell (p := ⟨b, off + 1, none⟩) hb).trans h1
    | 2, hj => cases hj; exact (hw.cell (p := ⟨b, off + 2, none⟩) hb).trans h2
    | 3, hj => cases hj; exact (hw.cell (p := ⟨b, off + 3, none⟩) hb).trans h3
    | 4, hj => cases hj; exact (hw.cell (p := ⟨b, off + 4, none⟩) hb).trans h4
    | 5, hj => cases hj; exact (hw.cell (p := ⟨b, off + 5, none⟩) hb).trans h5
    | 6, hj => cases hj; exact (hw.cell (p := ⟨b, off + 6, none⟩) hb).trans h6
    | 7, hj => cases hj; exact (hw.cell (p := ⟨b, off + 7, none⟩) hb).trans h7
    | 8, hj => cases hj; exact (hw.cell (p := ⟨b, off + 8, none⟩) hb).trans h8
    | 9, hj => cases hj; exact (hw.cell (p := ⟨b, off + 9, none⟩) hb).trans h9
    | j + 10, hj => simp at hj)) hK
theorem quiet_agg11B {P : Program} {o : Oper} {a : Act} {B : Nat} {w0 : World} {K : Act → Prop} {ty : TypeId} {x : Operand} {b off : Nat} {v0 v1 v2 v3 v4 v5 v6 v7 v8 v9 v10 : Value} (ho : o.op = .load ty x) (hx : a.eval x = .pointer (some ⟨b, off, none⟩)) (hd : yesB P ty 11 = true)
    (h0 : w0.cell? ⟨b, off, none⟩ = some v0) (h1 : w0.cell? ⟨b, off + 1, none⟩ = some v1) (h2 : w0.cell? ⟨b, off + 2, none⟩ = some v2) (h3 : w0.cell? ⟨b, off + 3, none⟩ = some v3) (h4 : w0.cell? ⟨b, off + 4, none⟩ = some v4) (h5 : w0.cell? ⟨b, off + 5, none⟩ = some v5) (h6 : w0.cell? ⟨b, off + 6, none⟩ = some v6) (h7 : w0.cell? ⟨b, off + 7, none⟩ = some v7) (h8 : w0.cell? ⟨b, off + 8, none⟩ = some v8) (h9 : w0.cell? ⟨b, off + 9, none⟩ = some v9) (h10 : w0.cell? ⟨b, off + 10, none⟩ = some v10) (hb : b < B) (hK : K (a.put o.dst (.agg #[v0, v1, v2, v3, v4, v5, v6, v7, v8, v9, v10]))) : o.quiet P a (fun w' => Below B w0 w') K :=
  quiet_val _ (fun w hw => run_load_agg [v0, v1, v2, v3, v4, v5, v6, v7, v8, v9, v10] ho hx hd (fun j v hj => by
    match j, hj with
    | 0, hj => cases hj; exact (hw.cell (p := ⟨b, off, none⟩) hb).trans h0
    | 1, hj => cases hj; exact (hw.cell (p := ⟨b, off + 1, none⟩) hb).trans h1
    | 2, hj => cases hj; exact (hw.cell (p := ⟨b, off + 2, none⟩) hb).trans h2
    | 3, hj => cases hj; exact (hw.cell (p := ⟨b, off + 3, none⟩) hb).trans h3
    | 4, hj => cases hj; exact (hw.cell (p := ⟨b, off + 4, none⟩) hb).trans h4
    | 5, hj => cases hj; exact (hw.cell (p := ⟨b, off + 5, none⟩) hb).trans h5
    | 6, hj => cases hj; exact (hw.cell (p := ⟨b, off + 6, none⟩) hb).trans h6
    | 7, hj => cases hj; exact (hw.cell (p := ⟨b, off + 7, none⟩) hb).trans h7
    | 8, hj => cases hj; exact (hw.cell (p := ⟨b, off + 8, none⟩) hb).trans h8
    | 9, hj => cases hj; exact (hw.cell (p := ⟨b, off + 9, none⟩) hb).trans h9
    | 10, hj => cases hj; exact (hw.cell (p := ⟨b, off + 10, none⟩) hb).trans h10
    | j + 11, hj => simp at hj)) hK
theorem quiet_agg12B {P : Program} {o : Oper} {a : Act} {B : Nat} {w0 : World} {K : Act → Prop} {ty : TypeId} {x : Operand} {b off : Nat} {v0 v1 v2 v3 v4 v5 v6 v7 v8 v9 v10 v11 : Value} (ho : o.op = .load ty x) (hx : a.eval x = .pointer (some ⟨b, off, none⟩)) (hd : yesB P ty 12 = true)
    (h0 : w0.cell? ⟨b, off, none⟩ = some v0) (h1 : w0.cell? ⟨b, off + 1, none⟩ = some v1) (h2 : w0.cell? ⟨b, off + 2, none⟩ = some v2) (h3 : w0.cell? ⟨b, off + 3, none⟩ = some v3) (h4 : w0.cell? ⟨b, off + 4, none⟩ = some v4) (h5 : w0.cell? ⟨b, off + 5, none⟩ = some v5) (h6 : w0.cell? ⟨b, off + 6, none⟩ = some v6) (h7 : w0.cell? ⟨b, off + 7, none⟩ = some v7) (h8 : w0.cell? ⟨b, off + 8, none⟩ = some v8) (h9 : w0.cell? ⟨b, off + 9, none⟩ = some v9) (h10 : w0.cell? ⟨b, off + 10, none⟩ = some v10) (h11 : w0.cell? ⟨b, off + 11, none⟩ = some v11) (hb : b < B) (hK : K (a.put o.dst (.agg #[v0, v1, v2, v3, v4, v5, v6, v7, v8, v9, v10, v11]))) : o.quiet P a (fun w' => Below B w0 w') K :=
  quiet_val _ (fun w hw => run_load_agg [v0, v1, v2, v3, v4, v5, v6, v7, v8, v9, v10, v11] ho hx hd (fun j v hj => by
    match j, hj with
    | 0, hj => cases hj; exact (hw.cell (p := ⟨b, off, none⟩) hb).trans h0
    | 1, hj => cases hj; exact (hw.cell (p := ⟨b, off + 1, none⟩) hb).trans h1
    | 2, hj => cases hj; exact (hw.cell (p := ⟨b, off + 2, none⟩) hb).trans h2
    | 3, hj => cases hj; exact (hw.cell (p := ⟨b, off + 3, none⟩) hb).trans h3
    | 4, hj => cases hj; exact (hw.cell (p := ⟨b, off + 4, none⟩) hb).trans h4
    | 5, hj => cases hj; exact (hw.cell (p := ⟨b, off + 5, none⟩) hb).trans h5
    | 6, hj => cases hj; exact (hw.cell (p := ⟨b, off + 6, none⟩) hb).trans h6
    | 7, hj => cases hj; exact (hw.cell (p := ⟨b, off + 7, none⟩) hb).trans h7
    | 8, hj => cases hj; exact (hw.cell (p := ⟨b, off + 8, none⟩) hb).trans h8
    | 9, hj => cases hj; exact (hw.cell (p := ⟨b, off + 9, none⟩) hb).trans h9
    | 10, hj => cases hj; exact (hw.cell (p := ⟨b, off + 10, none⟩) hb).trans h10
    | 11, hj => cases hj; exact (hw.cell (p := ⟨b, off + 11, none⟩) hb).trans h11
    | j + 12, hj => simp at hj)) hK
theorem quiet_agg13B {P : Program} {o : Oper} {a : Act} {B : Nat} {w0 : World} {K : Act → Prop} {ty : TypeId} {x : Operand} {b off : Nat} {v0 v1 v2 v3 v4 v5 v6 v7 v8 v9 v10 v11 v12 : Value} (ho : o.op = .load ty x) (hx : a.eval x = .pointer (some ⟨b, off, none⟩)) (hd : yesB P ty 13 = true)
    (h0 : w0.cell? ⟨b, off, none⟩ = some v0) (h1 : w0.cell? ⟨b, off + 1, none⟩ = some v1) (h2 : w0.cell? ⟨b, off + 2, none⟩ = some v2) (h3 : w0.cell? ⟨b, off + 3, none⟩ = some v3) (h4 : w0.cell? ⟨b, off + 4, none⟩ = some v4) (h5 : w0.cell? ⟨b, off + 5, none⟩ = some v5) (h6 : w0.cell? ⟨b, off + 6, none⟩ = some v6) (h7 : w0.cell? ⟨b, off + 7, none⟩ = some v7) (h8 : w0.cell? ⟨b, off + 8, none⟩ = some v8) (h9 : w0.cell? ⟨b, off + 9, none⟩ = some v9) (h10 : w0.cell? ⟨b, off + 10, none⟩ = some v10) (h11 : w0.cell? ⟨b, off + 11, none⟩ = some v11) (h12 : w0.cell? ⟨b, off + 12, none⟩ = some v12) (hb : b < B) (hK : K (a.put o.dst (.agg #[v0, v1, v2, v3, v4, v5, v6, v7, v8, v9, v10, v11, v12]))) : o.quiet P a (fun w' => Below B w0 w') K :=
  quiet_val _ (fun w hw => run_load_agg [v0, v1, v2, v3, v4, v5, v6, v7, v8, v9, v10, v11, v12] ho hx hd (fun j v hj => by
    match j, hj with
    | 0, hj => cases hj; exact (hw.cell (p := ⟨b, off, none⟩) hb).trans h0
    | 1, hj => cases hj; exact (hw.cell (p := ⟨b, off + 1, none⟩) hb).trans h1
    | 2, hj => cases hj; exact (hw.cell (p := ⟨b, off + 2, none⟩) hb).trans h2
    | 3, hj => cases hj; exact (hw.cell (p := ⟨b, off + 3, none⟩) hb).trans h3
    | 4, hj => cases hj; exact (hw.cell (p := ⟨b, off + 4, none⟩) hb).trans h4
    | 5, hj => cases hj; exact (hw.cell (p := ⟨b, off + 5, none⟩) hb).trans h5
    | 6, hj => cases hj; exact (hw.cell (p := ⟨b, off + 6, none⟩) hb).trans h6
    | 7, hj => cases hj; exact (hw.cell (p := ⟨b, off + 7, none⟩) hb).trans h7
    | 8, hj => cases hj; exact (hw.cell (p := ⟨b, off + 8, none⟩) hb).trans h8
    | 9, hj => cases hj; exact (hw.cell (p := ⟨b, off + 9, none⟩) hb).trans h9
    | 10, hj => cases hj; exact (hw.cell (p := ⟨b, off + 10, none⟩) hb).trans h10
    | 11, hj => cases hj; exact (hw.cell (p := ⟨b, off + 11, none⟩) hb).trans h11
    | 12, hj => cases hj; exact (hw.cell (p := ⟨b, off + 12, none⟩) hb).trans h12
    | j + 13, hj => simp at hj)) hK
theorem quiet_agg14B {P : Program} {o : Oper} {a : Act} {B : Nat} {w0 : World} {K : Act → Prop} {ty : TypeId} {x : Operand} {b off : Nat} {v0 v1 v2 v3 v4 v5 v6 v7 v8 v9 v10 v11 v12 v13 : Value} (ho : o.op = .load ty x) (hx : a.eval x = .pointer (some ⟨b, off, none⟩)) (hd : yesB P ty 14 = true)
    (h0 : w0.cell? ⟨b, off, none⟩ = some v0) (h1 : w0.cell? ⟨b, off + 1, none⟩ = some v1) (h2 : w0.cell? ⟨b, off + 2, none⟩ = some v2) (h3 : w0.cell? ⟨b, off + 3, none⟩ = some v3) (h4 : w0.cell? ⟨b, off + 4, none⟩ = some v4) (h5 : w0.cell? ⟨b, off + 5, none⟩ = some v5) (h6 : w0.cell? ⟨b, off + 6, none⟩ = some v6) (h7 : w0.cell? ⟨b, off + 7, none⟩ = some v7) (h8 : w0.cell? ⟨b, off + 8, none⟩ = some v8) (h9 : w0.cell? ⟨b, off + 9, none⟩ = some v9) (h10 : w0.cell? ⟨b, off + 10, none⟩ = some v10) (h11 : w0.cell? ⟨b, off + 11, none⟩ = some v11) (h12 : w0.cell? ⟨b, off + 12, none⟩ = some v12) (h13 : w0.cell? ⟨b, off + 13, none⟩ = some v13) (hb : b < B) (hK : K (a.put o.dst (.agg #[v0, v1, v2, v3, v4, v5, v6, v7, v8, v9, v10, v11, v12, v13]))) : o.quiet P a (fun w' => Below B w0 w') K :=
  quiet_val _ (fun w hw => run_load_agg [v0, v1, v2, v3, v4, v5, v6, v7, v8, v9, v10, v11, v12, v13] ho hx hd (fun j v hj => by
    match j, hj with
    | 0, hj => cases hj; exact (hw.cell (p := ⟨b, off, none⟩) hb).trans h0
    | 1, hj => cases hj; exact (hw.cell (p := ⟨b, off + 1, none⟩) hb).trans h1
    | 2, hj => cases hj; exact (hw.cell (p := ⟨b, off + 2, none⟩) hb).trans h2
    | 3, hj => cases hj; exact (hw.cell (p := ⟨b, off + 3, none⟩) hb).trans h3
    | 4, hj => cases hj; exact (hw.cell (p := ⟨b, off + 4, none⟩) hb).trans h4
    | 5, hj => cases hj; exact (hw.cell (p := ⟨b, off + 5, none⟩) hb).trans h5
    | 6, hj => cases hj; exact (hw.cell (p := ⟨b, off + 6, none⟩) hb).trans h6
    | 7, hj => cases hj; exact (hw.cell (p := ⟨b, off + 7, none⟩) hb).trans h7
    | 8, hj => cases hj; exact (hw.cell (p := ⟨b, off + 8, none⟩) hb).trans h8
    | 9, hj => cases hj; exact (hw.cell (p := ⟨b, off + 9, none⟩) hb).trans h9
    | 10, hj => cases hj; exact (hw.cell (p := ⟨b, off + 10, none⟩) hb).trans h10
    | 11, hj => cases hj; exact (hw.cell (p := ⟨b, off + 11, none⟩) hb).trans h11
    | 12, hj => cases hj; exact (hw.cell (p := ⟨b, off + 12, none⟩) hb).trans h12
    | 13, hj => cases hj; exact (hw.cell (p := ⟨b, off + 13, none⟩) hb).trans h13
    | j + 14, hj => simp at hj)) hK
theorem quiet_agg15B {P : Program} {o : Oper} {a : Act} {B : Nat} {w0 : World} {K : Act → Prop} {ty : TypeId} {x : Operand} {b off : Nat} {v0 v1 v2 v3 v4 v5 v6 v7 v8 v9 v10 v11 v12 v13 v14 : Value} (ho : o.op = .load ty x) (hx : a.eval x = .pointer (some ⟨b, off, none⟩)) (hd : yesB P ty 15 = true)
    (h0 : w0.cell? ⟨b, off, none⟩ = some v0) (h1 : w0.cell? ⟨b, off + 1, none⟩ = some v1) (h2 : w0.cell? ⟨b, off + 2, none⟩ = some v2) (h3 : w0.cell? ⟨b, off + 3, none⟩ = some v3) (h4 : w0.cell? ⟨b, off + 4, none⟩ = some v4) (h5 : w0.cell? ⟨b, off + 5, none⟩ = some v5) (h6 : w0.cell? ⟨b, off + 6, none⟩ = some v6) (h7 : w0.cell? ⟨b, off + 7, none⟩ = some v7) (h8 : w0.cell? ⟨b, off + 8, none⟩ = some v8) (h9 : w0.cell? ⟨b, off + 9, none⟩ = some v9) (h10 : w0.cell? ⟨b, off + 10, none⟩ = some v10) (h11 : w0.cell? ⟨b, off + 11, none⟩ = some v11) (h12 : w0.cell? ⟨b, off + 12, none⟩ = some v12) (h13 : w0.cell? ⟨b, off + 13, none⟩ = some v13) (h14 : w0.cell? ⟨b, off + 14, none⟩ = some v14) (hb : b < B) (hK : K (a.put o.dst (.agg #[v0, v1, v2, v3, v4, v5, v6, v7, v8, v9, v10, v11, v12, v13, v14]))) : o.quiet P a (fun w' => Below B w0 w') K :=
  quiet_val _ (fun w hw => run_load_agg [v0, v1, v2, v3, v4, v5, v6, v7, v8, v9, v10, v11, v12, v13, v14] ho hx hd (fun j v hj => by
    match j, hj with
    | 0, hj => cases hj; exact (hw.cell (p := ⟨b, off, none⟩) hb).trans h0
    | 1, hj => cases hj; exact (hw.cell (p := ⟨b, off + 1, none⟩) hb).trans h1
    | 2, hj => cases hj; exact (hw.cell (p := ⟨b, off + 2, none⟩) hb).trans h2
    | 3, hj => cases hj; exact (hw.cell (p := ⟨b, off + 3, none⟩) hb).trans h3
    | 4, hj => cases hj; exact (hw.cell (p := ⟨b, off + 4, none⟩) hb).trans h4
    | 5, hj => cases hj; exact (hw.cell (p := ⟨b, off + 5, none⟩) hb).trans h5
    | 6, hj => cases hj; exact (hw.cell (p := ⟨b, off + 6, none⟩) hb).trans h6
    | 7, hj => cases hj; exact (hw.cell (p := ⟨b, off + 7, none⟩) hb).trans h7
    | 8, hj => cases hj; exact (hw.cell (p := ⟨b, off + 8, none⟩) hb).trans h8
    | 9, hj => cases hj; exact (hw.cell (p := ⟨b, off + 9, none⟩) hb).trans h9
    | 10, hj => cases hj; exact (hw.cell (p := ⟨b, off + 10, none⟩) hb).trans h10
    | 11, hj => cases hj; exact (hw.cell (p := ⟨b, off + 11, none⟩) hb).trans h11
    | 12, hj => cases hj; exact (hw.cell (p := ⟨b, off + 12, none⟩) hb).trans h12
    | 13, hj => cases hj; exact (hw.cell (p := ⟨b, off + 13, none⟩) hb).trans h13
    | 14, hj => cases hj; exact (hw.cell (p := ⟨b, off + 14, none⟩) hb).trans h14
    | j + 15, hj => simp at hj)) hK
theorem quiet_agg16B {P : Program} {o : Oper} {a : Act} {B : Nat} {w0 : World} {K : Act → Prop} {ty : TypeId} {x : Operand} {b off : Nat} {v0 v1 v2 v3 v4 v5 v6 v7 v8 v9 v10 v11 v12 v13 v14 v15 : Value} (ho : o.op = .load ty x) (hx : a.eval x = .pointer (some ⟨b, off, none⟩)) (hd : yesB P ty 16 = true)
    (h0 : w0.cell? ⟨b, off, none⟩ = some v0) (h1 : w0.cell? ⟨b, off + 1, none⟩ = some v1) (h2 : w0.cell? ⟨b, off + 2, none⟩ = some v2) (h3 : w0.cell? ⟨b, off + 3, none⟩ = some v3) (h4 : w0.cell? ⟨b, off + 4, none⟩ = some v4) (h5 : w0.cell? ⟨b, off + 5, none⟩ = some v5) (h6 : w0.cell? ⟨b, off + 6, none⟩ = some v6) (h7 : w0.cell? ⟨b, off + 7, none⟩ = some v7) (h8 : w0.cell? ⟨b, off + 8, none⟩ = some v8) (h9 : w0.cell? ⟨b, off + 9, none⟩ = some v9) (h10 : w0.cell? ⟨b, off + 10, none⟩ = some v10) (h11 : w0.cell? ⟨b, off + 11, none⟩ = some v11) (h12 : w0.cell? ⟨b, off + 12, none⟩ = some v12) (h13 : w0.cell? ⟨b, off + 13, none⟩ = some v13) (h14 : w0.cell? ⟨b, off + 14, none⟩ = some v14) (h15 : w0.cell? ⟨b, off + 15, none⟩ = some v15) (hb : b < B) (hK : K (a.put o.dst (.agg #[v0, v1, v2, v3, v4, v5, v6, v7, v8, v9, v10, v11, v12, v13, v14, v15]))) : o.quiet P a (fun w' => Below B w0 w') K :=
  quiet_val _ (fun w hw => run_load_agg [v0, v1, v2, v3, v4, v5, v6, v7, v8, v9, v10, v11, v12, v13, v14, v15] ho hx hd (fun j v hj => by
    match j, hj with
    | 0, hj => cases hj; exact (hw.cell (p := ⟨b, off, none⟩) hb).trans h0
    | 1, hj => cases hj; exact (hw.cell (p := ⟨b, off + 1, none⟩) hb).trans h1
    | 2, hj => cases hj; exact (hw.cell (p := ⟨b, off + 2, none⟩) hb).trans h2
    | 3, hj => cases hj; exact (hw.cell (p := ⟨b, off + 3, none⟩) hb).trans h3
    | 4, hj => cases hj; exact (hw.cell (p := ⟨b, off + 4, none⟩) hb).trans h4
    | 5, hj => cases hj; exact (hw.cell (p := ⟨b, off + 5, none⟩) hb).trans h5
    | 6, hj => cases hj; exact (hw.cell (p := ⟨b, off + 6, none⟩) hb).trans h6
    | 7, hj => cases hj; exact (hw.cell (p := ⟨b, off + 7, none⟩) hb).trans h7
    | 8, hj => cases hj; exact (hw.cell (p := ⟨b, off + 8, none⟩) hb).trans h8
    | 9, hj => cases hj; exact (hw.cell (p := ⟨b, off + 9, none⟩) hb).trans h9
    | 10, hj => cases hj; exact (hw.cell (p := ⟨b, off + 10, none⟩) hb).trans h10
    | 11, hj => cases hj; exact (hw.cell (p := ⟨b, off + 11, none⟩) hb).trans h11
    | 12, hj => cases hj; exact (hw.cell (p := ⟨b, off + 12, none⟩) hb).trans h12
    | 13, hj => cases hj; exact (hw.cell (p := ⟨b, off + 13, none⟩) hb).trans h13
    | 14, hj => cases hj; exact (hw.cell (p := ⟨b, off + 14, none⟩) hb).trans h14
    | 15, hj => cases hj; exact (hw.cell (p := ⟨b, off + 15, none⟩) hb).trans h15
    | j + 16, hj => simp at hj)) hK
theorem quiet_agg2K {P : Program} {o : Oper} {a : Act} {G : List Nat} {w0 : World} {K : Act → Prop} {ty : TypeId} {x : Operand} {b off : Nat} {v0 v1 : Value} (ho : o.op = .load ty x) (hx : a.eval x = .pointer (some ⟨b, off, none⟩)) (hd : yesB P ty 2 = true)
    (h0 : w0.cell? ⟨b, off, none⟩ = some v0) (h1 : w0.cell? ⟨b, off + 1, none⟩ = some v1) (hb : b ∈ G) (hK : K (a.put o.dst (.agg #[v0, v1]))) : o.quiet P a (KeepB G w0) K :=
  quiet_val _ (fun w hw => run_load_agg [v0, v1] ho hx hd (fun j v hj => by
    match j, hj with
    | 0, hj => cases hj; exact (hw.cell (g := b) (off := off) hb).trans h0
    | 1, hj => cases hj; exact (hw.cell (g := b) (off := off + 1) hb).trans h1
    | j + 2, hj => simp at hj)) hK
theorem quiet_agg3K {P : Program} {o : Oper} {a : Act} {G : List Nat} {w0 : World} {K : Act → Prop} {ty : TypeId} {x : Operand} {b off : Nat} {v0 v1 v2 : Value} (ho : o.op = .load ty x) (hx : a.eval x = .pointer (some ⟨b, off, none⟩)) (hd : yesB P ty 3 = true)
    (h0 : w0.cell? ⟨b, off, none⟩ = some v0) (h1 : w0.cell? ⟨b, off + 1, none⟩ = some v1) (h2 : w0.cell? ⟨b, off + 2, none⟩ = some v2) (hb : b ∈ G) (hK : K (a.put o.dst (.agg #[v0, v1, v2]))) : o.quiet P a (KeepB G w0) K :=
  quiet_val _ (fun w hw => run_load_agg [v0, v1, v2] ho hx hd (fun j v hj => by
    match j, hj with
    | 0, hj => cases hj; exact (hw.cell (g := b) (off := off) hb).trans h0
    | 1, hj => cases hj; exact (hw.cell (g := b) (off := off + 1) hb).trans h1
    | 2, hj => cases hj; exact (hw.cell (g := b) (off := off + 2) hb).trans h2
    | j + 3, hj => simp at hj)) hK
theorem quiet_agg4K {P : Program} {o : Oper} {a : Act} {G : List Nat} {w0 : World} {K : Act → Prop} {ty : TypeId} {x : Operand} {b off : Nat} {v0 v1 v2 v3 : Value} (ho : o.op = .load ty x) (hx : a.eval x = .pointer (some ⟨b, off, none⟩)) (hd : yesB P ty 4 = true)
    (h0 : w0.cell? ⟨b, off, none⟩ = some v0) (h1 : w0.cell? ⟨b, off + 1, none⟩ = some v1) (h2 : w0.cell? ⟨b, off + 2, none⟩ = some v2) (h3 : w0.cell? ⟨b, off + 3, none⟩ = some v3) (hb : b ∈ G) (hK : K (a.put o.dst (.agg #[v0, v1, v2, v3]))) : o.quiet P a (KeepB G w0) K :=
  quiet_val _ (fun w hw => run_load_agg [v0, v1, v2, v3] ho hx hd (fun j v hj => by
    match j, hj with
    | 0, hj => cases hj; exact (hw.cell (g := b) (off := off) hb).trans h0
    | 1, hj => cases hj; exact (hw.cell (g := b) (off := off + 1) hb).trans h1
    | 2, hj => cases hj; exact (hw.cell (g := b) (off := off + 2) hb).trans h2
    | 3, hj => cases hj; exact (hw.cell (g := b) (off := off + 3) hb).trans h3
    | j + 4, hj => simp at hj)) hK
theorem quiet_agg5K {P : Program} {o : Oper} {a : Act} {G : List Nat} {w0 : World} {K : Act → Prop} {ty : TypeId} {x : Operand} {b off : Nat} {v0 v1 v2 v3 v4 : Value} (ho : o.op = .load ty x) (hx : a.eval x = .pointer (some ⟨b, off, none⟩)) (hd : yesB P ty 5 = true)
    (h0 : w0.cell? ⟨b, off, none⟩ = some v0) (h1 : w0.cell? ⟨b, off + 1, none⟩ = some v1) (h2 : w0.cell? ⟨b, off + 2, none⟩ = some v2) (h3 : w0.cell? ⟨b, off + 3, none⟩ = some v3) (h4 : w0.cell? ⟨b, off + 4, none⟩ = some v4) (hb : b ∈ G) (hK : K (a.put o.dst (.agg #[v0, v1, v2, v3, v4]))) : o.quiet P a (KeepB G w0) K :=
  quiet_val _ (fun w hw => run_load_agg [v0, v1, v2, v3, v4] ho hx hd (fun j v hj => by
    match j, hj with
    | 0, hj => cases hj; exact (hw.cell (g := b) (off := off) hb).trans h0
    | 1, hj => cases hj; exact (hw.cell (g := b) (off := off + 1) hb).trans h1
    | 2, hj => cases hj; exact (hw.cell (g := b) (off := off + 2) hb).trans h2
    | 3, hj => cases hj; exact (hw.cell (g := b) (off := off + 3) hb).trans h3
    | 4, hj => cases hj; exact (hw.cell (g := b) (off := off + 4) hb).trans h4
    | j + 5, hj => simp at hj)) hK
theorem quiet_agg6K {P : Program} {o : Oper} {a : Act} {G : List Nat} {w0 : World} {K : Act → Prop} {ty : TypeId} {x : Operand} {b off : Nat} {v0 v1 v2 v3 v4 v5 : Value} (ho : o.op = .load ty x) (hx : a.eval x = .pointer (some ⟨b, off, none⟩)) (hd : yesB P ty 6 = true)
    (h0 : w0.cell? ⟨b, off, none⟩ = some v0) (h1 : w0.cell? ⟨b, off + 1, none⟩ = some v1) (h2 : w0.cell? ⟨b, off + 2, none⟩ = some v2) (h3 : w0.cell? ⟨b, off + 3, none⟩ = some v3) (h4 : w0.cell? ⟨b, off + 4, none⟩ = some v4) (h5 : w0.cell? ⟨b, off + 5, none⟩ = some v5) (hb : b ∈ G) (hK : K (a.put o.dst (.agg #[v0, v1, v2, v3, v4, v5]))) : o.quiet P a (KeepB G w0) K :=
  quiet_val _ (fun w hw => run_load_agg [v0, v1, v2, v3, v4, v5] ho hx hd (fun j v hj => by
    match j, hj with
    | 0, hj => cases hj; exact (hw.cell (g := b) (off := off) hb).trans h0
    | 1, hj => cases hj; exact (hw.cell (g := b) (off := off + 1) hb).trans h1
    | 2, hj => cases hj; exact (hw.cell (g := b) (off := off + 2) hb).trans h2
    | 3, hj => cases hj; exact (hw.cell (g := b) (off := off + 3) hb).trans h3
    | 4, hj => cases hj; exact (hw.cell (g := b) (off := off + 4) hb).trans h4
    | 5, hj => cases hj; exact (hw.cell (g := b) (off := off + 5) hb).trans h5
    | j + 6, hj => simp at hj)) hK
theorem quiet_agg7K {P : Program} {o : Oper} {a : Act} {G : List Nat} {w0 : World} {K : Act → Prop} {ty : TypeId} {x : Operand} {b off : Nat} {v0 v1 v2 v3 v4 v5 v6 : Value} (ho : o.op = .load ty x) (hx : a.eval x = .pointer (some ⟨b, off, none⟩)) (hd : yesB P ty 7 = true)
    (h0 : w0.cell? ⟨b, off, none⟩ = some v0) (h1 : w0.cell? ⟨b, off + 1, none⟩ = some v1) (h2 : w0.cell? ⟨b, off + 2, none⟩ = some v2) (h3 : w0.cell? ⟨b, off + 3, none⟩ = some v3) (h4 : w0.cell? ⟨b, off + 4, none⟩ = some v4) (h5 : w0.cell? ⟨b, off + 5, none⟩ = some v5) (h6 : w0.cell? ⟨b, off + 6, none⟩ = some v6) (hb : b ∈ G) (hK : K (a.put o.dst (.agg #[v0, v1, v2, v3, v4, v5, v6]))) : o.quiet P a (KeepB G w0) K :=
  quiet_val _ (fun w hw => run_load_agg [v0, v1, v2, v3, v4, v5, v6] ho hx hd (fun j v hj => by
    match j, hj with
    | 0, hj => cases hj; exact (hw.cell (g := b) (off := off) hb).trans h0
    | 1, hj => cases hj; exact (hw.cell (g := b) (off := off + 1) hb).trans h1
    | 2, hj => cases hj; exact (hw.cell (g := b) (off := off + 2) hb).trans h2
    | 3, hj => cases hj; exact (hw.cell (g := b) (off := off + 3) hb).trans h3
    | 4, hj => cases hj; exact (hw.cell (g := b) (off := off + 4) hb).trans h4
    | 5, hj => cases hj; exact (hw.cell (g := b) (off := off + 5) hb).trans h5
    | 6, hj => cases hj; exact (hw.cell (g := b) (off := off + 6) hb).trans h6
    | j + 7, hj => simp at hj)) hK
theorem quiet_agg8K {P : Program} {o : Oper} {a : Act} {G : List Nat} {w0 : World} {K : Act → Prop} {ty : TypeId} {x : Operand} {b off : Nat} {v0 v1 v2 v3 v4 v5 v6 v7 : Value} (ho : o.op = .load ty x) (hx : a.eval x = .pointer (some ⟨b, off, none⟩)) (hd : yesB P ty 8 = true)
    (h0 : w0.cell? ⟨b, off, none⟩ = some v0) (h1 : w0.cell? ⟨b, off + 1, none⟩ = some v1) (h2 : w0.cell? ⟨b, off + 2, none⟩ = some v2) (h3 : w0.cell? ⟨b, off + 3, none⟩ = some v3) (h4 : w0.cell? ⟨b, off + 4, none⟩ = some v4) (h5 : w0.cell? ⟨b, off + 5, none⟩ = some v5) (h6 : w0.cell? ⟨b, off + 6, none⟩ = some v6) (h7 : w0.cell? ⟨b, off + 7, none⟩ = some v7) (hb : b ∈ G) (hK : K (a.put o.dst (.agg #[v0, v1, v2, v3, v4, v5, v6, v7]))) : o.quiet P a (KeepB G w0) K :=
  quiet_val _ (fun w hw => run_load_agg [v0, v1, v2, v3, v4, v5, v6, v7] ho hx hd (fun j v hj => by
    match j, hj with
    | 0, hj => cases hj; exact (hw.cell (g := b) (off := off) hb).trans h0
    | 1, hj => cases hj; exact (hw.cell (g := b) (off := off + 1) hb).trans h1
    | 2, hj => cases hj; exact (hw.cell (g := b) (off := off + 2) hb).trans h2
    | 3, hj => cases hj; exact (hw.cell (g := b) (off := off + 3) hb).trans h3
    | 4, hj => cases hj; exact (hw.cell (g := b) (off := off + 4) hb).trans h4
    | 5, hj => cases hj; exact (hw.cell (g := b) (off := off + 5) hb).trans h5
    | 6, hj => cases hj; exact (hw.cell (g := b) (off := off + 6) hb).trans h6
    | 7, hj => cases hj; exact (hw.cell (g := b) (off := off + 7) hb).trans h7
    | j + 8, hj => simp at hj)) hK
theorem quiet_agg9K {P : Program} {o : Oper} {a : Act} {G : List Nat} {w0 : World} {K : Act → Prop} {ty : TypeId} {x : Operand} {b off : Nat} {v0 v1 v2 v3 v4 v5 v6 v7 v8 : Value} (ho : o.op = .load ty x) (hx : a.eval x = .pointer (some ⟨b, off, none⟩)) (hd : yesB P ty 9 = true)
    (h0 : w0.cell? ⟨b, off, none⟩ = some v0) (h1 : w0.cell? ⟨b, off + 1, none⟩ = some v1) (h2 : w0.cell? ⟨b, off + 2, none⟩ = some v2) (h3 : w0.cell? ⟨b, off + 3, none⟩ = some v3) (h4 : w0.cell? ⟨b, off + 4, none⟩ = some v4) (h5 : w0.cell? ⟨b, off + 5, none⟩ = some v5) (h6 : w0.cell? ⟨b, off + 6, none⟩ = some v6) (h7 : w0.cell? ⟨b, off + 7, none⟩ = some v7) (h8 : w0.cell? ⟨b, off + 8, none⟩ = some v8) (hb : b ∈ G) (hK : K (a.put o.dst (.agg #[v0, v1, v2, v3, v4, v5, v6, v7, v8]))) : o.quiet P a (KeepB G w0) K :=
  quiet_val _ (fun w hw => run_load_agg [v0, v1, v2, v3, v4, v5, v6, v7, v8] ho hx hd (fun j v hj => by
    match j, hj with
    | 0, hj => cases hj; exact (hw.cell (g := b) (off := off) hb).trans h0
    | 1, hj => cases hj; exact (hw.cell (g := b) (off := off + 1) hb).trans h1
    | 2, hj => cases hj; exact (hw.cell (g := b) (off := off + 2) hb).trans h2
    | 3, hj => cases hj; exact (hw.cell (g := b) (off := off + 3) hb).trans h3
    | 4, hj => cases hj; exact (hw.cell (g := b) (off := off + 4) hb).trans h4
    | 5, hj => cases hj; exact (hw.cell (g := b) (off := off + 5) hb).trans h5
    | 6, hj => cases hj; exact (hw.cell (g := b) (off := off + 6) hb).trans h6
    | 7, hj => cases hj; exact (hw.cell (g := b) (off := off + 7) hb).trans h7
    | 8, hj => cases hj; exact (hw.cell (g := b) (off := off + 8) hb).trans h8
    | j + 9, hj => simp at hj)) hK
theorem quiet_agg10K {P : Program} {o : Oper} {a : Act} {G : List Nat} {w0 : World} {K : Act → Prop} {ty : TypeId} {x : Operand} {b off : Nat} {v0 v1 v2 v3 v4 v5 v6 v7 v8 v9 : Value} (ho : o.op = .load ty x) (hx : a.eval x = .pointer (some ⟨b, off, none⟩)) (hd : yesB P ty 10 = true)
    (h0 : w0.cell? ⟨b, off, none⟩ = some v0) (h1 : w0.cell? ⟨b, off + 1, none⟩ = some v1) (h2 : w0.cell? ⟨b, off + 2, none⟩ = some v2) (h3 : w0.cell? ⟨b, off + 3, none⟩ = some v3) (h4 : w0.cell? ⟨b, off + 4, none⟩ = some v4) (h5 : w0.cell? ⟨b, off + 5, none⟩ = some v5) (h6 : w0.cell? ⟨b, off + 6, none⟩ = some v6) (h7 : w0.cell? ⟨b, off + 7, none⟩ = some v7) (h8 : w0.cell? ⟨b, off + 8, none⟩ = some v8) (h9 : w0.cell? ⟨b, off + 9, none⟩ = some v9) (hb : b ∈ G) (hK : K (a.put o.dst (.agg #[v0, v1, v2, v3, v4, v5, v6, v7, v8, v9]))) : o.quiet P a (KeepB G w0) K :=
  quiet_val _ (fun w hw => run_load_agg [v0, v1, v2, v3, v4, v5, v6, v7, v8, v9] ho hx hd (fun j v hj => by
    match j, hj with
    | 0, hj => cases hj; exact (hw.cell (g := b) (off := off) hb).trans h0
    | 1, hj => cases hj; exact (hw.cell (g := b) (off := off + 1) hb).trans h1
    | 2, hj => cases hj; exact (hw.cell (g := b) (off := off + 2) hb).trans h2
    | 3, hj => cases hj; exact (hw.cell (g := b) (off := off + 3) hb).trans h3
    | 4, hj => cases hj; exact (hw.cell (g := b) (off := off + 4) hb).trans h4
    | 5, hj => cases hj; exact (hw.cell (g := b) (off := off + 5) hb).trans h5
    | 6, hj => cases hj; exact (hw.cell (g := b) (off := off + 6) hb).trans h6
    | 7, hj => cases hj; exact (hw.cell (g := b) (off := off + 7) hb).trans h7
    | 8, hj => cases hj; exact (hw.cell (g := b) (off := off + 8) hb).trans h8
    | 9, hj => cases hj; exact (hw.cell (g := b) (off := off + 9) hb).trans h9
    | j + 10, hj => simp at hj)) hK
theorem quiet_agg11K {P : Program} {o : Oper} {a : Act} {G : List Nat} {w0 : World} {K : Act → Prop} {ty : TypeId} {x : Operand} {b off : Nat} {v0 v1 v2 v3 v4 v5 v6 v7 v8 v9 v10 : Value} (ho : o.op = .load ty x) (hx : a.eval x = .pointer (some ⟨b, off, none⟩)) (hd : yesB P ty 11 = true)
    (h0 : w0.cell? ⟨b, off, none⟩ = some v0) (h1 : w0.cell? ⟨b, off + 1, none⟩ = some v1) (h2 : w0.cell? ⟨b, off + 2, none⟩ = some v2) (h3 : w0.cell? ⟨b, off + 3, none⟩ = some v3) (h4 : w0.cell? ⟨b, off + 4, none⟩ = some v4) (h5 : w0.cell? ⟨b, off + 5, none⟩ = some v5) (h6 : w0.cell? ⟨b, off + 6, none⟩ = some v6) (h7 : w0.cell? ⟨b, off + 7, none⟩ = some v7) (h8 : w0.cell? ⟨b, off + 8, none⟩ = some v8) (h9 : w0.cell? ⟨b, off + 9, none⟩ = some v9) (h10 : w0.cell? ⟨b, off + 10, none⟩ = some v10) (hb : b ∈ G) (hK : K (a.put o.dst (.agg #[v0, v1, v2, v3, v4, v5, v6, v7, v8, v9, v10]))) : o.quiet P a (KeepB G w0) K :=
  quiet_val _ (fun w hw => run_load_agg [v0, v1, v2, v3, v4, v5, v6, v7, v8, v9, v10] ho hx hd (fun j v hj => by
    match j, hj with
    | 0, hj => cases hj; exact (hw.cell (g := b) (off := off) hb).trans h0
    | 1, hj => cases hj; exact (hw.cell (g := b) (off := off + 1) hb).trans h1
    | 2, hj => cases hj; exact (hw.cell (g := b) (off := off + 2) hb).trans h2
    | 3, hj => cases hj; exact (hw.cell (g := b) (off := off + 3) hb).trans h3
    | 4, hj => cases hj; exact (hw.cell (g := b) (off := off + 4) hb).trans h4
    | 5, hj => cases hj; exact (hw.cell (g := b) (off := off + 5) hb).trans h5
    | 6, hj => cases hj; exact (hw.cell (g := b) (off := off + 6) hb).trans h6
    | 7, hj => cases hj; exact (hw.cell (g := b) (off := off + 7) hb).trans h7
    | 8, hj => cases hj; exact (hw.cell (g := b) (off := off + 8) hb).trans h8
    | 9, hj => cases hj; exact (hw.cell (g := b) (off := off + 9) hb).trans h9
    | 10, hj => cases hj; exact (hw.cell (g := b) (off := off + 10) hb).trans h10
    | j + 11, hj => simp at hj)) hK
theorem quiet_agg12K {P : Program} {o : Oper} {a : Act} {G : List Nat} {w0 : World} {K : Act → Prop} {ty : TypeId} {x : Operand} {b off : Nat} {v0 v1 v2 v3 v4 v5 v6 v7 v8 v9 v10 v11 : Value} (ho : o.op = .load ty x) (hx : a.eval x = .pointer (some ⟨b, off, none⟩)) (hd : yesB P ty 12 = true)
    (h0 : w0.cell? ⟨b, off, none⟩ = some v0) (h1 : w0.cell? ⟨b, off + 1, none⟩ = some v1) (h2 : w0.cell? ⟨b, off + 2, none⟩ = some v2) (h3 : w0.cell? ⟨b, off + 3, none⟩ = some v3) (h4 : w0.cell? ⟨b, off + 4, none⟩ = some v4) (h5 : w0.cell? ⟨b, off + 5, none⟩ = some v5) (h6 : w0.cell? ⟨b, off + 6, none⟩ = some v6) (h7 : w0.cell? ⟨b, off + 7, none⟩ = some v7) (h8 : w0.cell? ⟨b, off + 8, none⟩ = some v8) (h9 : w0.cell? ⟨b, off + 9, none⟩ = some v9) (h10 : w0.cell? ⟨b, off + 10, none⟩ = some v10) (h11 : w0.cell? ⟨b, off + 11, none⟩ = some v11) (hb : b ∈ G) (hK : K (a.put o.dst (.agg #[v0, v1, v2, v3, v4, v5, v6, v7, v8, v9, v10, v11]))) : o.quiet P a (KeepB G w0) K :=
  quiet_val _ (fun w hw => run_load_agg [v0, v1, v2, v3, v4, v5, v6, v7, v8, v9, v10, v11] ho hx hd (fun j v hj => by
    match j, hj with
    | 0, hj => cases hj; exact (hw.cell (g := b) (off := off) hb).trans h0
    | 1, hj => cases hj; exact (hw.cell (g := b) (off := off + 1) hb).trans h1
    | 2, hj => cases hj; exact (hw.cell (g := b) (off := off + 2) hb).trans h2
    | 3, hj => cases hj; exact (hw.cell (g := b) (off := off + 3) hb).trans h3
    | 4, hj => cases hj; exact (hw.cell (g := b) (off := off + 4) hb).trans h4
    | 5, hj => cases hj; exact (hw.cell (g := b) (off := off + 5) hb).trans h5
    | 6, hj => cases hj; exact (hw.cell (g := b) (off := off + 6) hb).trans h6
    | 7, hj => cases hj; exact (hw.cell (g := b) (off := off + 7) hb).trans h7
    | 8, hj => cases hj; exact (hw.cell (g := b) (off := off + 8) hb).trans h8
    | 9, hj => cases hj; exact (hw.cell (g := b) (off := off + 9) hb).trans h9
    | 10, hj => cases hj; exact (hw.cell (g := b) (off := off + 10) hb).trans h10
    | 11, hj => cases hj; exact (hw.cell (g := b) (off := off + 11) hb).trans h11
    | j + 12, hj => simp at hj)) hK
theorem quiet_agg13K {P : Program} {o : Oper} {a : Act} {G : List Nat} {w0 : World} {K : Act → Prop} {ty : TypeId} {x : Operand} {b off : Nat} {v0 v1 v2 v3 v4 v5 v6 v7 v8 v9 v10 v11 v12 : Value} (ho : o.op = .load ty x) (hx : a.eval x = .pointer (some ⟨b, off, none⟩)) (hd : yesB P ty 13 = true)
    (h0 : w0.cell? ⟨b, off, none⟩ = some v0) (h1 : w0.cell? ⟨b, off + 1, none⟩ = some v1) (h2 : w0.cell? ⟨b, off + 2, none⟩ = some v2) (h3 : w0.cell? ⟨b, off + 3, none⟩ = some v3) (h4 : w0.cell? ⟨b, off + 4, none⟩ = some v4) (h5 : w0.cell? ⟨b, off + 5, none⟩ = some v5) (h6 : w0.cell? ⟨b, off + 6, none⟩ = some v6) (h7 : w0.cell? ⟨b, off + 7, none⟩ = some v7) (h8 : w0.cell? ⟨b, off + 8, none⟩ = some v8) (h9 : w0.cell? ⟨b, off + 9, none⟩ = some v9) (h10 : w0.cell? ⟨b, off + 10, none⟩ = some v10) (h11 : w0.cell? ⟨b, off + 11, none⟩ = some v11) (h12 : w0.cell? ⟨b, off + 12, none⟩ = some v12) (hb : b ∈ G) (hK : K (a.put o.dst (.agg #[v0, v1, v2, v3, v4, v5, v6, v7, v8, v9, v10, v11, v12]))) : o.quiet P a (KeepB G w0) K :=
  quiet_val _ (fun w hw => run_load_agg [v0, v1, v2, v3, v4, v5, v6, v7, v8, v9, v10, v11, v12] ho hx hd (fun j v hj => by
    match j, hj with
    | 0, hj => cases hj; exact (hw.cell (g := b) (off := off) hb).trans h0
    | 1, hj => cases hj; exact (hw.cell (g := b) (off := off + 1) hb).trans h1
    | 2, hj => cases hj; exact (hw.cell (g := b) (off := off + 2) hb).trans h2
    | 3, hj => cases hj; exact (hw.cell (g := b) (off := off + 3) hb).trans h3
    | 4, hj => cases hj; exact (hw.cell (g := b) (off := off + 4) hb).trans h4
    | 5, hj => cases hj; exact (hw.cell (g := b) (off := off + 5) hb).trans h5
    | 6, hj => cases hj; exact (hw.cell (g := b) (off := off + 6) hb).trans h6
    | 7, hj => cases hj; exact (hw.cell (g := b) (off := off + 7) hb).trans h7
    | 8, hj => cases hj; exact (hw.cell (g := b) (off := off + 8) hb).trans h8
    | 9, hj => cases hj; exact (hw.cell (g := b) (off := off + 9) hb).trans h9
    | 10, hj => cases hj; exact (hw.cell (g := b) (off := off + 10) hb).trans h10
    | 11, hj => cases hj; exact (hw.cell (g := b) (off := off + 11) hb).trans h11
    | 12, hj => cases hj; exact (hw.cell (g := b) (off := off + 12) hb).trans h12
    | j + 13, hj => simp at hj)) hK
theorem quiet_agg14K {P : Program} {o : Oper} {a : Act} {G : List Nat} {w0 : World} {K : Act → Prop} {ty : TypeId} {x : Operand} {b off : Nat} {v0 v1 v2 v3 v4 v5 v6 v7 v8 v9 v10 v11 v12 v13 : Value} (ho : o.op = .load ty x) (hx : a.eval x = .pointer (some ⟨b, off, none⟩)) (hd : yesB P ty 14 = true)
    (h0 : w0.cell? ⟨b, off, none⟩ = some v0) (h1 : w0.cell? ⟨b, off + 1, none⟩ = some v1) (h2 : w0.cell? ⟨b, off + 2, none⟩ = some v2) (h3 : w0.cell? ⟨b, off + 3, none⟩ = some v3) (h4 : w0.cell? ⟨b, off + 4, none⟩ = some v4) (h5 : w0.cell? ⟨b, off + 5, none⟩ = some v5) (h6 : w0.cell? ⟨b, off + 6, none⟩ = some v6) (h7 : w0.cell? ⟨b, off + 7, none⟩ = some v7) (h8 : w0.cell? ⟨b, off + 8, none⟩ = some v8) (h9 : w0.cell? ⟨b, off + 9, none⟩ = some v9) (h10 : w0.cell? ⟨b, off + 10, none⟩ = some v10) (h11 : w0.cell? ⟨b, off + 11, none⟩ = some v11) (h12 : w0.cell? ⟨b, off + 12, none⟩ = some v12) (h13 : w0.cell? ⟨b, off + 13, none⟩ = some v13) (hb : b ∈ G) (hK : K (a.put o.dst (.agg #[v0, v1, v2, v3, v4, v5, v6, v7, v8, v9, v10, v11, v12, v13]))) : o.quiet P a (KeepB G w0) K :=
  quiet_val _ (fun w hw => run_load_agg [v0, v1, v2, v3, v4, v5, v6, v7, v8, v9, v10, v11, v12, v13] ho hx hd (fun j v hj => by
    match j, hj with
    | 0, hj => cases hj; exact (hw.cell (g := b) (off := off) hb).trans h0
    | 1, hj => cases hj; exact (hw.cell (g := b) (off := off + 1) hb).trans h1
    | 2, hj => cases hj; exact (hw.cell (g := b) (off := off + 2) hb).trans h2
    | 3, hj => cases hj; exact (hw.cell (g := b) (off := off + 3) hb).trans h3
    | 4, hj => cases hj; exact (hw.cell (g := b) (off := off + 4) hb).trans h4
    | 5, hj => cases hj; exact (hw.cell (g := b) (off := off + 5) hb).trans h5
    | 6, hj => cases hj; exact (hw.cell (g := b) (off := off + 6) hb).trans h6
    | 7, hj => cases hj; exact (hw.cell (g := b) (off := off + 7) hb).trans h7
    | 8, hj => cases hj; exact (hw.cell (g := b) (off := off + 8) hb).trans h8
    | 9, hj => cases hj; exact (hw.cell (g := b) (off := off + 9) hb).trans h9
    | 10, hj => cases hj; exact (hw.cell (g := b) (off := off + 10) hb).trans h10
    | 11, hj => cases hj; exact (hw.cell (g := b) (off := off + 11) hb).trans h11
    | 12, hj => cases hj; exact (hw.cell (g := b) (off := off + 12) hb).trans h12
    | 13, hj => cases hj; exact (hw.cell (g := b) (off := off + 13) hb).trans h13
    | j + 14, hj => simp at hj)) hK
theorem quiet_agg15K {P : Program} {o : Oper} {a : Act} {G : List Nat} {w0 : World} {K : Act → Prop} {ty : TypeId} {x : Operand} {b off : Nat} {v0 v1 v2 v3 v4 v5 v6 v7 v8 v9 v10 v11 v12 v13 v14 : Value} (ho : o.op = .load ty x) (hx : a.eval x = .pointer (some ⟨b, off, none⟩)) (hd : yesB P ty 15 = true)
    (h0 : w0.cell? ⟨b, off, none⟩ = some v0) (h1 : w0.cell? ⟨b, off + 1, none⟩ = some v1) (h2 : w0.cell? ⟨b, off + 2, none⟩ = some v2) (h3 : w0.cell? ⟨b, off + 3, none⟩ = some v3) (h4 : w0.cell? ⟨b, off + 4, none⟩ = some v4) (h5 : w0.cell? ⟨b, off + 5, none⟩ = some v5) (h6 : w0.cell? ⟨b, off + 6, none⟩ = some v6) (h7 : w0.cell? ⟨b, off + 7, none⟩ = some v7) (h8 : w0.cell? ⟨b, off + 8, none⟩ = some v8) (h9 : w0.cell? ⟨b, off + 9, none⟩ = some v9) (h10 : w0.cell? ⟨b, off + 10, none⟩ = some v10) (h11 : w0.cell? ⟨b, off + 11, none⟩ = some v11) (h12 : w0.cell? ⟨b, off + 12, none⟩ = some v12) (h13 : w0.cell? ⟨b, off + 13, none⟩ = some v13) (h14 : w0.cell? ⟨b, off + 14, none⟩ = some v14) (hb : b ∈ G) (hK : K (a.put o.dst (.agg #[v0, v1, v2, v3, v4, v5, v6, v7, v8, v9, v10, v11, v12, v13, v14]))) : o.quiet P a (KeepB G w0) K :=
  quiet_val _ (fun w hw => run_load_agg [v0, v1, v2, v3, v4, v5, v6, v7, v8, v9, v10, v11, v12, v13, v14] ho hx hd (fun j v hj => by
    match j, hj with
    | 0, hj => cases hj; exact (hw.cell (g := b) (off := off) hb).trans h0
    | 1, hj => cases hj; exact (hw.cell (g := b) (off := off + 1) hb).trans h1
    | 2, hj => cases hj; exact (hw.cell (g := b) (off := off + 2) hb).trans h2
    | 3, hj => cases hj; exact (hw.cell (g := b) (off := off + 3) hb).trans h3
    | 4, hj => cases hj; exact (hw.cell (g := b) (off := off + 4) hb).trans h4
    | 5, hj => cases hj; exact (hw.cell (g := b) (off := off + 5) hb).trans h5
    | 6, hj => cases hj; exact (hw.cell (g := b) (off := off + 6) hb).trans h6
    | 7, hj => cases hj; exact (hw.cell (g := b) (off := off + 7) hb).trans h7
    | 8, hj => cases hj; exact (hw.cell (g := b) (off := off + 8) hb).trans h8
    | 9, hj => cases hj; exact (hw.cell (g := b) (off := off + 9) hb).trans h9
    | 10, hj => cases hj; exact (hw.cell (g := b) (off := off + 10) hb).trans h10
    | 11, hj => cases hj; exact (hw.cell (g := b) (off := off + 11) hb).trans h11
    | 12, hj => cases hj; exact (hw.cell (g := b) (off := off + 12) hb).trans h12
    | 13, hj => cases hj; exact (hw.cell (g := b) (off := off + 13) hb).trans h13
    | 14, hj => cases hj; exact (hw.cell (g := b) (off := off + 14) hb).trans h14
    | j + 15, hj => simp at hj)) hK
theorem quiet_agg16K {P : Program} {o : Oper} {a : Act} {G : List Nat} {w0 : World} {K : Act → Prop} {ty : TypeId} {x : Operand} {b off : Nat} {v0 v1 v2 v3 v4 v5 v6 v7 v8 v9 v10 v11 v12 v13 v14 v15 : Value} (ho : o.op = .load ty x) (hx : a.eval x = .pointer (some ⟨b, off, none⟩)) (hd : yesB P ty 16 = true)
    (h0 : w0.cell? ⟨b, off, none⟩ = some v0) (h1 : w0.cell? ⟨b, off + 1, none⟩ = some v1) (h2 : w0.cell? ⟨b, off + 2, none⟩ = some v2) (h3 : w0.cell? ⟨b, off + 3, none⟩ = some v3) (h4 : w0.cell? ⟨b, off + 4, none⟩ = some v4) (h5 : w0.cell? ⟨b, off + 5, none⟩ = some v5) (h6 : w0.cell? ⟨b, off + 6, none⟩ = some v6) (h7 : w0.cell? ⟨b, off + 7, none⟩ = some v7) (h8 : w0.cell? ⟨b, off + 8, none⟩ = some v8) (h9 : w0.cell? ⟨b, off + 9, none⟩ = some v9) (h10 : w0.cell? ⟨b, off + 10, none⟩ = some v10) (h11 : w0.cell? ⟨b, off + 11, none⟩ = some v11) (h12 : w0.cell? ⟨b, off + 12, none⟩ = some v12) (h13 : w0.cell? ⟨b, off + 13, none⟩ = some v13) (h14 : w0.cell? ⟨b, off + 14, none⟩ = some v14) (h15 : w0.cell? ⟨b, off + 15, none⟩ = some v15) (hb : b ∈ G) (hK : K (a.put o.dst (.agg #[v0, v1, v2, v3, v4, v5, v6, v7, v8, v9, v10, v11, v12, v13, v14, v15]))) : o.quiet P a (KeepB G w0) K :=
  quiet_val _ (fun w hw => run_load_agg [v0, v1, v2, v3, v4, v5, v6, v7, v8, v9, v10, v11, v12, v13, v14, v15] ho hx hd (fun j v hj => by
    match j, hj with
    | 0, hj => cases hj; exact (hw.cell (g := b) (off := off) hb).trans h0
    | 1, hj => cases hj; exact (hw.cell (g := b) (off := off + 1) hb).trans h1
    | 2, hj => cases hj; exact (hw.cell (g := b) (off := off + 2) hb).trans h2
    | 3, hj => cases hj; exact (hw.cell (g := b) (off := off + 3) hb).trans h3
    | 4, hj => cases hj; exact (hw.cell (g := b) (off := off + 4) hb).trans h4
    | 5, hj => cases hj; exact (hw.cell (g := b) (off := off + 5) hb).trans h5
    | 6, hj => cases hj; exact (hw.cell (g := b) (off := off + 6) hb).trans h6
    | 7, hj => cases hj; exact (hw.cell (g := b) (off := off + 7) hb).trans h7
    | 8, hj => cases hj; exact (hw.cell (g := b) (off := off + 8) hb).trans h8
    | 9, hj => cases hj; exact (hw.cell (g := b) (off := off + 9) hb).trans h9
    | 10, hj => cases hj; exact (hw.cell (g := b) (off := off + 10) hb).trans h10
    | 11, hj => cases hj; exact (hw.cell (g := b) (off := off + 11) hb).trans h11
    | 12, hj => cases hj; exact (hw.cell (g := b) (off := off + 12) hb).trans h12
    | 13, hj => cases hj; exact (hw.cell (g := b) (off := off + 13) hb).trans h13
    | 14, hj => cases hj; exact (hw.cell (g := b) (off := off + 14) hb).trans h14
    | 15, hj => cases hj; exact (hw.cell (g := b) (off := off + 15) hb).trans h15
    | j + 16, hj => simp at hj)) hK

section
variable {P : Program} {md : Region.Mode} {ops : Array Oper} {Q : Exit → Act → World → Prop} {C : World → Prop}
/-- operations one by one, and one beside them that may come anywhere. -/
def wpFlt (P : Program) (ops : Array Oper) (C : World → Prop) (X : Act → World → Prop) (js : List Oper) : List Oper → Act → World → Prop
  | [], a, w => wpSteps P ops C X js a w
  | o :: rest, a, w => wpList P ops (contF fun a' w' => C w' ∧ wpFlt P ops C X js rest a' w') [o] a w ∧ wpSteps P ops C X (js ++ o :: rest) a w
def fltB (md : Region.Mode) (ops : Array Oper) (j : Nat) (Z : Array Bool) : List Nat → Array Bool → Bool
  | [], L => fB md ops [j] L && (runSet L [j] == Z)
  | k :: ks, L => decide (Region.ready md ops L = [k, j]) && (ops[k]?).isSome && (ops[j]?).isSome && fB md ops (k :: ks) (runSet L [j]) && (runSet L (j :: k :: ks) == Z) && fltB md ops j Z ks (runSet L [k])
theorem wpAnyC_flt {l : List Oper} {Q : Exit → Act → World → Prop} {X : Act → World → Prop} {n n1 m j : Nat} {Z : Array Bool} (hX : ∀ a' w', C w' → X a' w' → wpAnyC P md l.toArray C Q n1 m n Z a' w') :
    ∀ (ks : List Nat) (L : Array Bool) (a : Act) (w : World), C w → fltB md l.toArray j Z ks L = true → wpFlt P l.toArray C X (pick l [j]) (pick l ks) a w →
      wpAnyC P md l.toArray C Q n1 m (ks.length + 1 + n) L a w := by
  intro ks
  induction ks with
  | nil =>
    intro L a w hC hB h
    simp only [fltB, Bool.and_eq_true, beq_iff_eq] at hB
    have := wpAnyC_f (P := P) (Q := Q) (n1 := n1) (m := m) (n := n) (X := X) [j] L a w hC hB.1 (fun a' w' hC' h' => by rw [hB.2]; exact hX a' w' hC' h') h
    simpa using this
  | cons k ks ih =>
    intro L a w hC hB h
    simp only [fltB, Bool.and_eq_true, decide_eq_true_eq, beq_iff_eq] at hB
    obtain ⟨⟨⟨⟨⟨hr, hk⟩, hj⟩, hf⟩, he⟩, hB'⟩ := hB
    obtain ⟨ok, hok⟩ := Option.isSome_iff_exists.1 hk
    obtain ⟨oj, hoj⟩ := Option.isSome_iff_exists.1 hj
    have hok' : l[k]? = some ok := by simpa using hok
    have hoj' : l[j]? = some oj := by simpa using hoj
    rw [pick_cons hok'] at h
    obtain ⟨ha, hb⟩ := h
    rw [List.length_cons, show ks.length + 1 + 1 + n = (ks.length + 1 + n) + 1 from by omega]
    refine ⟨fun h1 => (by rw [hr] at h1; cases h1), fun i hi => ?_⟩
    rw [hr] at hi
    rcases (by simpa using hi : i = k ∨ i = j) with rfl | rfl
    · have hw : wpOp P l.toArray (contF fun a' w' => C w' ∧ wpFlt P l.toArray C X (pick l [j]) (pick l ks) a' w') i (fun a' w' => C w' ∧ wpFlt P l.toArray C X (pick l [j]) (pick l ks) a' w') a w := by
        unfold wpOp; simp only [hok]; exact ha
      exact wpOp_mono (fun a' w' h' => ⟨h'.1, ih _ _ _ h'.1 hB' h'.2⟩) (wpOp_F hw)
    · rw [pick_cons hoj', show pick l [] = [] from rfl, List.cons_append, List.nil_append, wpSteps, ← pick_cons hok'] at hb
      have hw : wpOp P l.toArray (contF fun a' w' => C w' ∧ wpSteps P l.toArray C X (pick l (k :: ks)) a' w') i (fun a' w' => C w' ∧ wpSteps P l.toArray C X (pick l (k :: ks)) a' w') a w := by
        unfold wpOp; simp only [hoj]; exact hb
      refine wpOp_mono (fun a' w' h' => ⟨h'.1, ?_⟩) (wpOp_F hw)
      have := wpAnyC_f (P := P) (Q := Q) (n1 := n1) (m := m) (n := n) (X := X) (k :: ks) _ a' w' h'.1 hf (fun a'' w'' hC'' h'' => by
        rw [show runSet (runSet L [i]) (k :: ks) = Z from he]; exact hX a'' w'' hC'' h'') h'.2
      rw [List.length_cons] at this
      exact this
def mixfB (l : List Oper) (n1 : Nat) (qs ks : List Nat) (j : Nat) (s2 : List Stp) (Z : Array Bool) : Bool :=
  Region.noSelect l.toArray && phaseB .any l.toArray n1 && decide (qs.length + (ks.length + 1) + lenS s2 = l.length) && qcB .any l.toArray n1 qs (Array.replicate l.length false) && fltB .any l.toArray j Z ks (runSet (Array.replicate l.length false) qs) && (List.range n1).all (fun j => Z.getD j true) && mixB .any l.toArray s2 Z
/-- reads first, then operations in their order with one that may come anywhere among them, then the tail. -/
theorem wp_mixF (C : World → Prop) {id : Nat} {a : Act} {w : World} {l : List Oper} (n1 : Nat) (qs ks : List Nat) (j : Nat) (s2 : List Stp) (Z : Array Bool) (hm : P.follows .mixedOrders = true) (hB : mixfB l n1 qs ks j s2 Z = true) (hC : C w.drew)
    (h : ∀ Q' : Exit → Act → World → Prop, (∀ a w, Q .normal a w → Q' .normal a w) → wpQuiet P l.toArray C (fun a' => wpFlt P l.toArray C (fun a'' w'' => wpMix P l Q' s2 a'' w'') (pick l [j]) (pick l ks) a' w.drew) (pick l qs) a) :
    (Code.region id l.toArray true).wp P Q a w := by
  simp only [mixfB, Bool.and_eq_true, decide_eq_true_eq] at hB
  obtain ⟨⟨⟨⟨⟨⟨hsel, hp⟩, hlen⟩, hq⟩, hf⟩, hz⟩, hB⟩ := hB
  refine Code.wp_mono (Q := noPan Q) (fun e a w hq => by cases e <;> first | exact hq | exact (hq : False).elim) ?_
  refine wp_region_any hm ?_
  have hQ : ∀ c a a' w, noPan Q (.panic c) a w → noPan Q (.panic c) a' w := fun c a a' w hq => hq
  have h1 := wpAnyC_q (C := C) hp hQ hsel (m := lenS s2) (n := ks.length + 1 + 0) (X := fun a' _ => wpFlt P l.toArray C (fun a'' w'' => wpMix P l (noPan Q) s2 a'' w'') (pick l [j]) (pick l ks) a' w.drew) qs (Array.replicate l.length false) a w.drew hC hq
    (fun a' hx => wpAnyC_flt (n := 0) (Z := Z) (fun a'' w'' hC'' h'' => ⟨fun j hj => List.all_eq_true.1 hz j (List.mem_range.2 hj), wpAny_mix hQ hsel s2 Z a'' w'' hB h''⟩) ks _ a' w.drew hC hf hx)
    (h (noPan Q) fun _ _ h => h)
  have := wpAny_of_C (C := C) _ _ _ _ h1
  rw [show qs.length + (ks.length + 1 + 0) + lenS s2 = l.toArray.size from by simp; omega] at this
  simpa using this
end
end Go.Proofs.Ytlmdmpjfehpjeaa

/- Tracks: small functions of the reference. -/
set_option linter.unusedVariables false
set_option linter.unusedSimpArgs false
namespace Go.Proofs.Ytlmdmpjfehpjeaa
open Go.RowKit

def V3.v (p : V3) : Value := .agg #[.int .i64 p.x, .int .i64 p.y, .int .i64 p.z]
def TMod.v (m : TMod) : Value := .agg #[.int .i64 m.px, .int .i64 m.py, .int .i64 m.pz, .int .i64 m.tm, .int .i64 m.tk, .int .i64 m.lo, .int .i64 m.hi, .int .i64 m.li, .int .i64 m.ea, .int .i64 m.la, .int .i64 m.no, .int .i64 m.mi]

theorem ref_TimeErr (n : Int) (w : World) : Calls Try.prog 45 #[.int .i64 n] w fun e w' => e = .returned (.int .i64 (tmE n)) ∧ w = w' := by
  go_enter Try.func45, Try.ntmps45
  go_wp2_with (go_at_call 26; refine (base_Within _ _ _ _).mono ?_; rintro _ _ ⟨rfl, rfl⟩)
  all_goals (try simp only [Bool.not_eq_true', Bool.not_eq_false', Bool.not_eq_true, Bool.not_eq_false] at *)
  all_goals go_ret
  all_goals exact ⟨ret_int (by simp [tmE, unl, *]), rfl⟩
theorem ref_isWeight (n : Int) (w : World) : Calls Try.prog 80 #[.int .i64 n] w fun e w' => e = .returned (.bool (inB n 0 100)) ∧ w = w' := by
  go_enter Try.func80, Try.ntmps80
  go_wp2_with (go_at_call 26; refine (base_Within _ _ _ _).mono ?_; rintro _ _ ⟨rfl, rfl⟩)
  go_ret; exact ⟨rfl, rfl⟩
theorem ref_isSide (n : Int) (w : World) : Calls Try.prog 97 #[.int .i64 n] w fun e w' => e = .returned (.bool (inB n (-20) 20)) ∧ w = w' := by
  go_enter Try.func97, Try.ntmps97
  go_wp2_with (go_at_call 26; refine (base_Within _ _ _ _).mono ?_; rintro _ _ ⟨rfl, rfl⟩)
  go_ret; exact ⟨rfl, rfl⟩

set_option maxRecDepth 100000 in
set_option maxHeartbeats 1000000 in
theorem ref_PlaceErr (x y z : Int) (w : World) : Calls Try.prog 21 #[.agg #[.int .i64 x, .int .i64 y, .int .i64 z]] w fun e w' => e = .returned (.int .i64 (plE ⟨x, y, z⟩)) ∧ Below w.heap.size w w' := by
  go_enter Try.func21, Try.ntmps21
  go_wp2_with fail
  refine wp_loop_rounds 4 ?_
  repeat any_goals (rw [rounds_succ]; go_wp2_with (go_at_call 26; refine (base_Within _ _ _ _).mono ?_; rintro _ _ ⟨rfl, rfl⟩))
  all_goals (try simp only [Bool.not_eq_true', Bool.not_eq_false', Bool.not_eq_true, Bool.not_eq_false] at *)
  all_goals go_ret
  all_goals exact ⟨ret_int (by simp [plE, V3.inS, unl, *]), by (repeat (with_reducible first | exact Below.refl _ _ | assumption | refine Below.drewN _ ?_ | refine Below.drew ?_ | refine Below_alloc ?_ _ | refine Below.alloc ?_ (by first | (simp; done) | (simp; omega) | omega) _ | refine Below.setCell ?_ (by first | (simp; done) | (simp; omega) | omega) _ | refine Below_call ?_ (by assumption) | refine Below.trans ?_ (by assumption)))⟩

set_option maxRecDepth 100000 in
set_option maxHeartbeats 1000000 in
theorem ref_Dot (a b : V3) (w : World) (hx : -1000000000000000000 ≤ a.x * b.x ∧ a.x * b.x ≤ 1000000000000000000) (hy : -1000000000000000000 ≤ a.y * b.y ∧ a.y * b.y ≤ 1000000000000000000) (hz : -1000000000000000000 ≤ a.z * b.z ∧ a.z * b.z ≤ 1000000000000000000) :
    Calls Try.prog 82 #[a.v, b.v] w fun e w' => e = .returned (.int .i64 (a.dot b)) ∧ Below w.heap.size w w' := by
  unfold V3.v V3.dot
  obtain ⟨ax, ay, az⟩ := a
  obtain ⟨bx, bY, bz⟩ := b
  simp only at *
  obtain ⟨X, hX⟩ : ∃ X, X = ax * bx := ⟨_, rfl⟩
  obtain ⟨Y, hY⟩ : ∃ Y, Y = ay * bY := ⟨_, rfl⟩
  obtain ⟨Z, hZ⟩ : ∃ Z, Z = az * bz := ⟨_, rfl⟩
  rw [← hX] at hx ⊢
  rw [← hY] at hy ⊢
  rw [← hZ] at hz ⊢
  have e1 : ax * bx = X := hX.symm
  have e2 : ay * bY = Y := hY.symm
  have e3 : az * bz = Z := hZ.symm
  clear hX hY hZ
  go_enter Try.func82, Try.ntmps82
  go_wp2_with fail
  go_ret
  exact ⟨rfl, by (repeat (with_reducible first | exact Below.refl _ _ | assumption | refine Below.drewN _ ?_ | refine Below.drew ?_ | refine Below_alloc ?_ _ | refine Below.alloc ?_ (by first | (simp; done) | (simp; omega) | omega) _ | refine Below.setCell ?_ (by first | (simp; done) | (simp; omega) | omega) _ | refine Below_call ?_ (by assumption) | refine Below.trans ?_ (by assumption)))⟩
end Go.Proofs.Ytlmdmpjfehpjeaa

