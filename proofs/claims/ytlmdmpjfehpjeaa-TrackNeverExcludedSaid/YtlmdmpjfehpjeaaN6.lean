/- Texts of this claim, together. -/
import Derived.Test.YtlmdmpjfehpjeaaN5
import Derived.LoopN
import Derived.Laws.CopyOwn
import Derived.Laws.NewBlocks
import Derived.ProofKit
import Derived.OpenShut
import Derived.ShutString
import Derived.ChangeOld
import Derived.Below
import Derived.Lib.SmallJoins

set_option linter.unusedVariables false
set_option linter.unusedSimpArgs false
namespace Go.Proofs.Ytlmdmpjfehpjeaa
open Go.RowKit
def KeepB (G : List Nat) (W wc : World) : Prop := ∀ g ∈ G, g < wc.heap.size ∧ wc.heap[g]? = W.heap[g]?
theorem KeepB.refl {G : List Nat} {W : World} (h : ∀ g ∈ G, g < W.heap.size) : KeepB G W W := fun g hg => ⟨h g hg, rfl⟩
theorem KeepB.drew {G : List Nat} {W w : World} (h : KeepB G W w) : KeepB G W w.drew := fun g hg => h g hg
theorem KeepB.below {G : List Nat} {W w w' : World} (h : KeepB G W w) (hb : Below w.heap.size w w') : KeepB G W w' := fun g hg => ⟨Nat.lt_of_lt_of_le (h g hg).1 hb.size, (hb.block g (h g hg).1).trans (h g hg).2⟩
theorem KeepB.alloc {G : List Nat} {W w : World} (h : KeepB G W w) (o : Obj) : KeepB G W (w.alloc o) := KeepB.below h ((Below.refl _ _).alloc (Nat.le_refl _) o)
theorem heap_setCell_ne (w : World) (g k off : Nat) (v : Value) (h : g ≠ k) : (w.setCell ⟨k, off, none⟩ v).heap[g]? = w.heap[g]? := heap_setCell_other w ⟨k, off, none⟩ g v h
theorem KeepB.setCell {G : List Nat} {W w : World} {k off : Nat} {v : Value} (h : KeepB G W w) (hk : ∀ g ∈ G, g ≠ k) : KeepB G W (w.setCell ⟨k, off, none⟩ v) := fun g hg => by
 rw [World.size_setCell, heap_setCell_ne _ _ _ _ _ (hk g hg)]; exact h g hg
theorem KeepB.cell {G : List Nat} {W w : World} (h : KeepB G W w) {g off : Nat} (hg : g ∈ G) : w.cell? ⟨g, off, none⟩ = W.cell? ⟨g, off, none⟩ := by
 simp only [World.cell?, (h g hg).2]
theorem quiet_cellK {P : Program} {o : Oper} {a : Act} {G : List Nat} {w0 : World} {K : Act → Prop} {ty : TypeId} {x : Operand} {b off : Nat} {v : Value} (ho : o.op = .load ty x) (hx : a.eval x = .pointer (some ⟨b, off, none⟩)) (hd : aggB P ty = false)
  (hc : w0.cell? ⟨b, off, none⟩ = some v) (hb : b ∈ G) (hK : K (a.put o.dst v)) : o.quiet P a (KeepB G w0) K :=
 quiet_val v (fun w hw => run_load_cell ho hx (isAgg_no hd) ((hw.cell hb).trans hc)) hK
theorem quiet_agg6B {P : Program} {o : Oper} {a : Act} {B : Nat} {w0 : World} {K : Act → Prop} {ty : TypeId} {x : Operand} {b off : Nat} {v0 v1 v2 v3 v4 v5 : Value} (ho : o.op = .load ty x) (hx : a.eval x = .pointer (some ⟨b, off, none⟩)) (hd : yesB P ty 6 = true)
  (h0 : w0.cell? ⟨b, off, none⟩ = some v0) (h1 : w0.cell? ⟨b, off + 1, none⟩ = some v1) (h2 : w0.cell? ⟨b, off + 2, none⟩ = some v2) (h3 : w0.cell? ⟨b, off + 3, none⟩ = some v3) (h4 : w0.cell? ⟨b, off + 4, none⟩ = some v4) (h5 : w0.cell? ⟨b, off + 5, none⟩ = some v5) (hb : b < B) (hK : K (a.put o.dst (.agg #[v0, v1, v2, v3, v4, v5]))) : o.quiet P a (fun w' => Below B w0 w') K :=
 quiet_val _ (fun w hw => run_load_agg [v0, v1, v2, v3, v4, v5] ho hx hd (fun j v hj => by
  match j, hj with
  | 0, hj => cases hj; exact (hw.cell (p := ⟨b, off, none⟩) hb).trans h0
  | 1, hj => cases hj; exact (hw.cell (p := ⟨b, off + 1, none⟩) hb).trans h1
  | 2, hj => cases hj; exact (hw.cell (p := ⟨b, off + 2, none⟩) hb).trans h2
  | 3, hj => cases hj; exact (hw.cell (p := ⟨b, off + 3, none⟩) hb).trans h3
  | 4, hj => cases hj; exact (hw.cell (p := ⟨b, off + 4, none⟩) hb).trans h4
  | 5, hj => cases hj; exact (hw.cell (p := ⟨b, off + 5, none⟩) hb).trans h5
  | j + 6, hj => simp at hj)) hK
theorem quiet_agg12B {P : Program} {o : Oper} {a : Act} {B : Nat} {w0 : World} {K : Act → Prop} {ty : TypeId} {x : Operand} {b off : Nat} {v0 v1 v2 v3 v4 v5 v6 v7 v8 v9 v10 v11 : Value} (ho : o.op = .load ty x) (hx : a.eval x = .pointer (some ⟨b, off, none⟩)) (hd : yesB P ty 12 = true)
  (h0 : w0.cell? ⟨b, off, none⟩ = some v0) (h1 : w0.cell? ⟨b, off + 1, none⟩ = some v1) (h2 : w0.cell? ⟨b, off + 2, none⟩ = some v2) (h3 : w0.cell? ⟨b, off + 3, none⟩ = some v3) (h4 : w0.cell? ⟨b, off + 4, none⟩ = some v4) (h5 : w0.cell? ⟨b, off + 5, none⟩ = some v5) (h6 : w0.cell? ⟨b, off + 6, none⟩ = some v6) (h7 : w0.cell? ⟨b, off + 7, none⟩ = some v7) (h8 : w0.cell? ⟨b, off + 8, none⟩ = some v8) (h9 : w0.cell? ⟨b, off + 9, none⟩ = some v9) (h10 : w0.cell? ⟨b, off + 10, none⟩ = some v10) (h11 : w0.cell? ⟨b, off + 11, none⟩ = some v11) (hb : b < B) (hK : K (a.put o.dst (.agg #[v0, v1, v2, v3, v4, v5, v6, v7, v8, v9, v10, v11]))) : o.quiet P a (fun w' => Below B w0 w') K :=
 quiet_val _ (fun w hw => run_load_agg [v0, v1, v2, v3, v4, v5, v6, v7, v8, v9, v10, v11] ho hx hd (fun j v hj => by
  match j, hj with
  | 0, hj => cases hj; exact (hw.cell (p := ⟨b, off, none⟩) hb).trans h0
  | 1, hj => cases hj; exact (hw.cell (p := ⟨b, off + 1, none⟩) hb).trans h1
  | 2, hj => cases hj; exact (hw.cell (p := ⟨b, off + 2, none⟩) hb).trans h2
  | 3, hj => cases hj; exact (hw.cell (p := ⟨b, off + 3, none⟩) hb).trans h3
  | 4, hj => cases hj; exact (hw.cell (p := ⟨b, off + 4, none⟩) hb).trans h4
  | 5, hj => cases hj; exact (hw.cell (p := ⟨b, off + 5, none⟩) hb).trans h5
  | 6, hj => cases hj; exact (hw.cell (p := ⟨b, off + 6, none⟩) hb).trans h6
  | 7, hj => cases hj; exact (hw.cell (p := ⟨b, off + 7, none⟩) hb).trans h7
  | 8, hj => cases hj; exact (hw.cell (p := ⟨b, off + 8, none⟩) hb).trans h8
  | 9, hj => cases hj; exact (hw.cell (p := ⟨b, off + 9, none⟩) hb).trans h9
  | 10, hj => cases hj; exact (hw.cell (p := ⟨b, off + 10, none⟩) hb).trans h10
  | 11, hj => cases hj; exact (hw.cell (p := ⟨b, off + 11, none⟩) hb).trans h11
  | j + 12, hj => simp at hj)) hK
theorem quiet_agg2K {P : Program} {o : Oper} {a : Act} {G : List Nat} {w0 : World} {K : Act → Prop} {ty : TypeId} {x : Operand} {b off : Nat} {v0 v1 : Value} (ho : o.op = .load ty x) (hx : a.eval x = .pointer (some ⟨b, off, none⟩)) (hd : yesB P ty 2 = true)
  (h0 : w0.cell? ⟨b, off, none⟩ = some v0) (h1 : w0.cell? ⟨b, off + 1, none⟩ = some v1) (hb : b ∈ G) (hK : K (a.put o.dst (.agg #[v0, v1]))) : o.quiet P a (KeepB G w0) K :=
 quiet_val _ (fun w hw => run_load_agg [v0, v1] ho hx hd (fun j v hj => by
  match j, hj with
  | 0, hj => cases hj; exact (hw.cell (g := b) (off := off) hb).trans h0
  | 1, hj => cases hj; exact (hw.cell (g := b) (off := off + 1) hb).trans h1
  | j + 2, hj => simp at hj)) hK
theorem quiet_agg3K {P : Program} {o : Oper} {a : Act} {G : List Nat} {w0 : World} {K : Act → Prop} {ty : TypeId} {x : Operand} {b off : Nat} {v0 v1 v2 : Value} (ho : o.op = .load ty x) (hx : a.eval x = .pointer (some ⟨b, off, none⟩)) (hd : yesB P ty 3 = true)
  (h0 : w0.cell? ⟨b, off, none⟩ = some v0) (h1 : w0.cell? ⟨b, off + 1, none⟩ = some v1) (h2 : w0.cell? ⟨b, off + 2, none⟩ = some v2) (hb : b ∈ G) (hK : K (a.put o.dst (.agg #[v0, v1, v2]))) : o.quiet P a (KeepB G w0) K :=
 quiet_val _ (fun w hw => run_load_agg [v0, v1, v2] ho hx hd (fun j v hj => by
  match j, hj with
  | 0, hj => cases hj; exact (hw.cell (g := b) (off := off) hb).trans h0
  | 1, hj => cases hj; exact (hw.cell (g := b) (off := off + 1) hb).trans h1
  | 2, hj => cases hj; exact (hw.cell (g := b) (off := off + 2) hb).trans h2
  | j + 3, hj => simp at hj)) hK
theorem quiet_agg6K {P : Program} {o : Oper} {a : Act} {G : List Nat} {w0 : World} {K : Act → Prop} {ty : TypeId} {x : Operand} {b off : Nat} {v0 v1 v2 v3 v4 v5 : Value} (ho : o.op = .load ty x) (hx : a.eval x = .pointer (some ⟨b, off, none⟩)) (hd : yesB P ty 6 = true)
  (h0 : w0.cell? ⟨b, off, none⟩ = some v0) (h1 : w0.cell? ⟨b, off + 1, none⟩ = some v1) (h2 : w0.cell? ⟨b, off + 2, none⟩ = some v2) (h3 : w0.cell? ⟨b, off + 3, none⟩ = some v3) (h4 : w0.cell? ⟨b, off + 4, none⟩ = some v4) (h5 : w0.cell? ⟨b, off + 5, none⟩ = some v5) (hb : b ∈ G) (hK : K (a.put o.dst (.agg #[v0, v1, v2, v3, v4, v5]))) : o.quiet P a (KeepB G w0) K :=
 quiet_val _ (fun w hw => run_load_agg [v0, v1, v2, v3, v4, v5] ho hx hd (fun j v hj => by
  match j, hj with
  | 0, hj => cases hj; exact (hw.cell (g := b) (off := off) hb).trans h0
  | 1, hj => cases hj; exact (hw.cell (g := b) (off := off + 1) hb).trans h1
  | 2, hj => cases hj; exact (hw.cell (g := b) (off := off + 2) hb).trans h2
  | 3, hj => cases hj; exact (hw.cell (g := b) (off := off + 3) hb).trans h3
  | 4, hj => cases hj; exact (hw.cell (g := b) (off := off + 4) hb).trans h4
  | 5, hj => cases hj; exact (hw.cell (g := b) (off := off + 5) hb).trans h5
  | j + 6, hj => simp at hj)) hK
theorem quiet_agg12K {P : Program} {o : Oper} {a : Act} {G : List Nat} {w0 : World} {K : Act → Prop} {ty : TypeId} {x : Operand} {b off : Nat} {v0 v1 v2 v3 v4 v5 v6 v7 v8 v9 v10 v11 : Value} (ho : o.op = .load ty x) (hx : a.eval x = .pointer (some ⟨b, off, none⟩)) (hd : yesB P ty 12 = true)
  (h0 : w0.cell? ⟨b, off, none⟩ = some v0) (h1 : w0.cell? ⟨b, off + 1, none⟩ = some v1) (h2 : w0.cell? ⟨b, off + 2, none⟩ = some v2) (h3 : w0.cell? ⟨b, off + 3, none⟩ = some v3) (h4 : w0.cell? ⟨b, off + 4, none⟩ = some v4) (h5 : w0.cell? ⟨b, off + 5, none⟩ = some v5) (h6 : w0.cell? ⟨b, off + 6, none⟩ = some v6) (h7 : w0.cell? ⟨b, off + 7, none⟩ = some v7) (h8 : w0.cell? ⟨b, off + 8, none⟩ = some v8) (h9 : w0.cell? ⟨b, off + 9, none⟩ = some v9) (h10 : w0.cell? ⟨b, off + 10, none⟩ = some v10) (h11 : w0.cell? ⟨b, off + 11, none⟩ = some v11) (hb : b ∈ G) (hK : K (a.put o.dst (.agg #[v0, v1, v2, v3, v4, v5, v6, v7, v8, v9, v10, v11]))) : o.quiet P a (KeepB G w0) K :=
 quiet_val _ (fun w hw => run_load_agg [v0, v1, v2, v3, v4, v5, v6, v7, v8, v9, v10, v11] ho hx hd (fun j v hj => by
  match j, hj with
  | 0, hj => cases hj; exact (hw.cell (g := b) (off := off) hb).trans h0
  | 1, hj => cases hj; exact (hw.cell (g := b) (off := off + 1) hb).trans h1
  | 2, hj => cases hj; exact (hw.cell (g := b) (off := off + 2) hb).trans h2
  | 3, hj => cases hj; exact (hw.cell (g := b) (off := off + 3) hb).trans h3
  | 4, hj => cases hj; exact (hw.cell (g := b) (off := off + 4) hb).trans h4
  | 5, hj => cases hj; exact (hw.cell (g := b) (off := off + 5) hb).trans h5
  | 6, hj => cases hj; exact (hw.cell (g := b) (off := off + 6) hb).trans h6
  | 7, hj => cases hj; exact (hw.cell (g := b) (off := off + 7) hb).trans h7
  | 8, hj => cases hj; exact (hw.cell (g := b) (off := off + 8) hb).trans h8
  | 9, hj => cases hj; exact (hw.cell (g := b) (off := off + 9) hb).trans h9
  | 10, hj => cases hj; exact (hw.cell (g := b) (off := off + 10) hb).trans h10
  | 11, hj => cases hj; exact (hw.cell (g := b) (off := off + 11) hb).trans h11
  | j + 12, hj => simp at hj)) hK
section
variable {P : Program} {md : Region.Mode} {ops : Array Oper} {Q : Exit → Act → World → Prop} {C : World → Prop}
def wpFlt (P : Program) (ops : Array Oper) (C : World → Prop) (X : Act → World → Prop) (js : List Oper) : List Oper → Act → World → Prop
 | [], a, w => wpSteps P ops C X js a w
 | o :: rest, a, w => wpList P ops (contF fun a' w' => C w' ∧ wpFlt P ops C X js rest a' w') [o] a w ∧ wpSteps P ops C X (js ++ o :: rest) a w
def fltB (md : Region.Mode) (ops : Array Oper) (j : Nat) (Z : Array Bool) : List Nat → Array Bool → Bool
 | [], L => fB md ops [j] L && (runSet L [j] == Z)
 | k :: ks, L => decide (Region.ready md ops L = [k, j]) && (ops[k]?).isSome && (ops[j]?).isSome && fB md ops (k :: ks) (runSet L [j]) && (runSet L (j :: k :: ks) == Z) && fltB md ops j Z ks (runSet L [k])
theorem wpAnyC_flt {l : List Oper} {Q : Exit → Act → World → Prop} {X : Act → World → Prop} {n n1 m j : Nat} {Z : Array Bool} (hX : ∀ a' w', C w' → X a' w' → wpAnyC P md l.toArray C Q n1 m n Z a' w') :
  ∀ (ks : List Nat) (L : Array Bool) (a : Act) (w : World), C w → fltB md l.toArray j Z ks L = true → wpFlt P l.toArray C X (pick l [j]) (pick l ks) a w →
   wpAnyC P md l.toArray C Q n1 m (ks.length + 1 + n) L a w := by
 intro ks
 induction ks with
 | nil =>
  intro L a w hC hB h
  simp only [fltB, Bool.and_eq_true, beq_iff_eq] at hB
  have := wpAnyC_f (P := P) (Q := Q) (n1 := n1) (m := m) (n := n) (X := X) [j] L a w hC hB.1 (fun a' w' hC' h' => by rw [hB.2]; exact hX a' w' hC' h') h
  simpa using this
 | cons k ks ih =>
  intro L a w hC hB h
  simp only [fltB, Bool.and_eq_true, decide_eq_true_eq, beq_iff_eq] at hB
  obtain ⟨⟨⟨⟨⟨hr, hk⟩, hj⟩, hf⟩, he⟩, hB'⟩ := hB
  obtain ⟨ok, hok⟩ := Option.isSome_iff_exists.1 hk
  obtain ⟨oj, hoj⟩ := Option.isSome_iff_exists.1 hj
  have hok' : l[k]? = some ok := by simpa using hok
  have hoj' : l[j]? = some oj := by simpa using hoj
  rw [pick_cons hok'] at h
  obtain ⟨ha, hb⟩ := h
  rw [List.length_cons, show ks.length + 1 + 1 + n = (ks.length + 1 + n) + 1 from by omega]
  refine ⟨fun h1 => (by rw [hr] at h1; cases h1), fun i hi => ?_⟩
  rw [hr] at hi
  rcases (by simpa using hi : i = k ∨ i = j) with rfl | rfl
  ·have hw : wpOp P l.toArray (contF fun a' w' => C w' ∧ wpFlt P l.toArray C X (pick l [j]) (pick l ks) a' w') i (fun a' w' => C w' ∧ wpFlt P l.toArray C X (pick l [j]) (pick l ks) a' w') a w := by
    unfold wpOp; simp only [hok]; exact ha
   exact wpOp_mono (fun a' w' h' => ⟨h'.1, ih _ _ _ h'.1 hB' h'.2⟩) (wpOp_F hw)
  ·rw [pick_cons hoj', show pick l [] = [] from rfl, List.cons_append, List.nil_append, wpSteps, ← pick_cons hok'] at hb
   have hw : wpOp P l.toArray (contF fun a' w' => C w' ∧ wpSteps P l.toArray C X (pick l (k :: ks)) a' w') i (fun a' w' => C w' ∧ wpSteps P l.toArray C X (pick l (k :: ks)) a' w') a w := by
    unfold wpOp; simp only [hoj]; exact hb
   refine wpOp_mono (fun a' w' h' => ⟨h'.1, ?_⟩) (wpOp_F hw)
   have := wpAnyC_f (P := P) (Q := Q) (n1 := n1) (m := m) (n := n) (X := X) (k :: ks) _ a' w' h'.1 hf (fun a'' w'' hC'' h'' => by
    rw [show runSet (runSet L [i]) (k :: ks) = Z from he]; exact hX a'' w'' hC'' h'') h'.2
   rw [List.length_cons] at this
   exact this
end
end Go.Proofs.Ytlmdmpjfehpjeaa
set_option linter.unusedVariables false
set_option linter.unusedSimpArgs false
namespace Go.Proofs.Ytlmdmpjfehpjeaa
open Go.RowKit
def V3.v (p : V3) : Value := .agg #[.int .i64 p.x, .int .i64 p.y, .int .i64 p.z]
def TMod.v (m : TMod) : Value := .agg #[.int .i64 m.px, .int .i64 m.py, .int .i64 m.pz, .int .i64 m.tm, .int .i64 m.tk, .int .i64 m.lo, .int .i64 m.hi, .int .i64 m.li, .int .i64 m.ea, .int .i64 m.la, .int .i64 m.no, .int .i64 m.mi]
theorem ref_TimeErr (n : Int) (w : World) : Calls Try.prog 45 #[.int .i64 n] w fun e w' => e = .returned (.int .i64 (tmE n)) ∧ w = w' := by
 go_enter Try.func45, Try.ntmps45
 go_wp2_with (go_at_call 26; refine (base_Within _ _ _ _).mono ?_; rintro _ _ ⟨rfl, rfl⟩)
 all_goals (try simp only [Bool.not_eq_true', Bool.not_eq_false', Bool.not_eq_true, Bool.not_eq_false] at *)
 all_goals go_ret
 all_goals exact ⟨ret_int (by simp [tmE, unl, *]), rfl⟩
theorem ref_isWeight (n : Int) (w : World) : Calls Try.prog 80 #[.int .i64 n] w fun e w' => e = .returned (.bool (inB n 0 100)) ∧ w = w' := by
 go_enter Try.func80, Try.ntmps80
 go_wp2_with (go_at_call 26; refine (base_Within _ _ _ _).mono ?_; rintro _ _ ⟨rfl, rfl⟩)
 go_ret; exact ⟨rfl, rfl⟩
theorem ref_isSide (n : Int) (w : World) : Calls Try.prog 97 #[.int .i64 n] w fun e w' => e = .returned (.bool (inB n (-20) 20)) ∧ w = w' := by
 go_enter Try.func97, Try.ntmps97
 go_wp2_with (go_at_call 26; refine (base_Within _ _ _ _).mono ?_; rintro _ _ ⟨rfl, rfl⟩)
 go_ret; exact ⟨rfl, rfl⟩
theorem BelowA {h : Nat} {w w' : World} (g : Below h w w' := by (repeat (with_reducible first | exact Below.refl _ _ | assumption | refine Below.drewN _ ?_ | refine Below.drew ?_ | refine Below_alloc ?_ _ | refine Below.alloc ?_ (by first | (simp; done) | (simp; omega) | omega) _ | refine Below.setCell ?_ (by first | (simp; done) | (simp; omega) | omega) _ | refine Below_call ?_ (by assumption) | refine Below.trans ?_ (by assumption)))) : Below h w w' := g
set_option maxRecDepth 100000 in
set_option maxHeartbeats 1000000 in
theorem ref_PlaceErr (x y z : Int) (w : World) : Calls Try.prog 21 #[.agg #[.int .i64 x, .int .i64 y, .int .i64 z]] w fun e w' => e = .returned (.int .i64 (plE ⟨x, y, z⟩)) ∧ Below w.heap.size w w' := by
 go_enter Try.func21, Try.ntmps21
 go_wp2_with fail
 refine wp_loop_rounds 4 ?_
 repeat any_goals (rw [rounds_succ]; go_wp2_with (go_at_call 26; refine (base_Within _ _ _ _).mono ?_; rintro _ _ ⟨rfl, rfl⟩))
 all_goals (try simp only [Bool.not_eq_true', Bool.not_eq_false', Bool.not_eq_true, Bool.not_eq_false] at *)
 all_goals go_ret
 all_goals exact ⟨ret_int (by simp [plE, V3.inS, unl, *]), by exact BelowA⟩
set_option maxRecDepth 100000 in
set_option maxHeartbeats 1000000 in
theorem ref_Dot (a b : V3) (w : World) (hx : -1000000000000000000 ≤ a.x * b.x ∧ a.x * b.x ≤ 1000000000000000000) (hy : -1000000000000000000 ≤ a.y * b.y ∧ a.y * b.y ≤ 1000000000000000000) (hz : -1000000000000000000 ≤ a.z * b.z ∧ a.z * b.z ≤ 1000000000000000000) :
  Calls Try.prog 82 #[a.v, b.v] w fun e w' => e = .returned (.int .i64 (a.dot b)) ∧ Below w.heap.size w w' := by
 unfold V3.v V3.dot
 obtain ⟨ax, ay, az⟩ := a
 obtain ⟨bx, bY, bz⟩ := b
 simp only at *
 obtain ⟨X, hX⟩ : ∃ X, X = ax * bx := ⟨_, rfl⟩
 obtain ⟨Y, hY⟩ : ∃ Y, Y = ay * bY := ⟨_, rfl⟩
 obtain ⟨Z, hZ⟩ : ∃ Z, Z = az * bz := ⟨_, rfl⟩
 rw [← hX] at hx ⊢
 rw [← hY] at hy ⊢
 rw [← hZ] at hz ⊢
 have e1 : ax * bx = X := hX.symm
 have e2 : ay * bY = Y := hY.symm
 have e3 : az * bz = Z := hZ.symm
 clear hX hY hZ
 go_enter Try.func82, Try.ntmps82
 go_wp2_with fail
 go_ret
 exact ⟨rfl, by exact BelowA⟩
end Go.Proofs.Ytlmdmpjfehpjeaa
set_option linter.unusedVariables false
set_option linter.unusedSimpArgs false
namespace Go.Proofs.Ytlmdmpjfehpjeaa
open Go.RowKit
theorem add_plain' (g i j : Nat) : (⟨g, i, none⟩ : Addr).add j = ⟨g, i + j, none⟩ := by unfold Addr.add; split <;> simp_all
def flat (n sz : Nat) (c : Nat → Nat → Value) : List Value := (List.range (n * sz)).map fun q => c (q / sz) (q % sz)
theorem flat_at {n sz : Nat} {c : Nat → Nat → Value} {q : Nat} {u : Value} (h : (flat n sz c)[q]? = some u) : q < n * sz ∧ u = c (q / sz) (q % sz) := by
 have hq : q < n * sz := by have := (List.getElem?_eq_some_iff.1 h).1; simpa [flat] using this
 refine ⟨hq, ?_⟩
 simp [flat, hq] at h
 exact h.symm
theorem flat_ints (l : List Int) : flat l.length 1 (fun i _ => .int .i64 (nth l i)) = l.map (Value.int .i64) := by
 apply List.ext_getElem (by simp [flat])
 intro i h1 h2
 have h3 : i < l.length := by simpa using h2
 simp [flat, nth, List.getD, h3]
theorem SlAt.src {w : World} {v : Value} {n sz : Nat} {c : Nat → Nat → Value} (h : SlAt w v n sz c) : ∃ ao cap, v = .slice ao n cap ∧ n ≤ cap ∧ cap ≤ maxLen ∧
  ∀ W : World, Below w.heap.size w W → ((ao = none ∧ n = 0 ∧ cap = 0) ∨ ∃ ad, ao = some ad ∧ ∀ q u, (flat n sz c)[q]? = some u → W.cell? (ad.add q) = some u) := by
 obtain ⟨ao, cap, rfl, h1, h2, h3, h4⟩ := h
 refine ⟨ao, cap, rfl, h1, h2, fun W hW => ?_⟩
 by_cases hn : 0 < n
 ·obtain ⟨b, off, e, hlt, hc⟩ := h3 hn
  refine Or.inr ⟨_, e, fun q u hq => ?_⟩
  obtain ⟨hq1, rfl⟩ := flat_at hq
  have hs : 0 < sz := Nat.pos_of_ne_zero (by rintro rfl; simp at hq1)
  have hi : q / sz < n := Nat.div_lt_of_lt_mul (by rwa [Nat.mul_comm])
  rw [add_plain', ← hc (q / sz) (q % sz) hi (Nat.mod_lt _ hs), show off + q / sz * sz + q % sz = off + q from by rw [Nat.add_assoc, Nat.mul_comm, Nat.div_add_mod]]
  exact hW.cell (p := ⟨b, off + q, none⟩) hlt
 ·have hn0 : n = 0 := by omega
  subst hn0
  cases ao with
  | none => exact Or.inl ⟨rfl, rfl, h4 rfl⟩
  | some ad => exact Or.inr ⟨ad, rfl, fun q u hq => absurd (flat_at hq).1 (by omega)⟩
theorem IntsAt.src {w : World} {v : Value} {l : List Int} (h : IntsAt w v l) : ∃ ao cap, v = .slice ao l.length cap ∧ l.length ≤ cap ∧ cap ≤ maxLen ∧
  ∀ W : World, Below w.heap.size w W → ((ao = none ∧ l.length = 0 ∧ cap = 0) ∨ ∃ ad, ao = some ad ∧ ∀ q u, (l.map (Value.int .i64))[q]? = some u → W.cell? (ad.add q) = some u) := by
 have := SlAt.src h
 rwa [show flat l.length 1 (fun i _ => Value.int .i64 (l.getD i 0)) = l.map (Value.int .i64) from flat_ints l] at this
theorem two_cells {w : World} {g : Nat} {x y : Value} {t : TypeId} (h : w.heap[g]? = some (.cells #[x, y] t (0, 0))) :
  w.cell? ⟨g, 0, none⟩ = some x ∧ w.cell? ⟨g, 1, none⟩ = some y ∧ w.frozen? ⟨g, 0, none⟩ = false ∧ w.frozen? ⟨g, 1, none⟩ = false ∧ g < w.heap.size := by
 refine ⟨?_, ?_, frozen_of_row w g 0 _ t h, frozen_of_row w g 1 _ t h, (Array.getElem?_eq_some_iff.1 h).1⟩
 ·rw [cell_of_row w g 0 _ t (0, 0) h]; rfl
 ·rw [cell_of_row w g 1 _ t (0, 0) h]; rfl
theorem two_set {w : World} {g : Nat} {x y x' y' : Value} {t : TypeId} (h : w.heap[g]? = some (.cells #[x, y] t (0, 0))) :
  ((w.setCell ⟨g, 0, none⟩ x').setCell ⟨g, 1, none⟩ y').heap[g]? = some (.cells #[x', y'] t (0, 0)) := by
 have h1 := heap_setCell_same w g 0 _ t x' h
 exact heap_setCell_same _ g 1 _ t y' h1
def SlIn (w : World) (v : Value) (n sz : Nat) (c : Nat → Nat → Value) (N : Nat → Prop) : Prop :=
 ∃ ao cap, v = .slice ao n cap ∧ n ≤ cap ∧ cap ≤ maxLen ∧
  (0 < n → ∃ b off, ao = some ⟨b, off, none⟩ ∧ b < w.heap.size ∧ N b ∧ ∀ i j, i < n → j < sz → w.cell? ⟨b, off + i * sz + j, none⟩ = some (c i j)) ∧ (ao = none → cap = 0)
theorem SlIn.sl {w : World} {v : Value} {n sz : Nat} {c : Nat → Nat → Value} {N : Nat → Prop} (h : SlIn w v n sz c N) : SlAt w v n sz c := by
 obtain ⟨ao, cap, rfl, h1, h2, h3, h4⟩ := h
 refine ⟨ao, cap, rfl, h1, h2, fun h0 => ?_, h4⟩
 obtain ⟨b, off, e, hlt, _, hc⟩ := h3 h0
 exact ⟨b, off, e, hlt, hc⟩
theorem cell_of_heap {w w' : World} {b o : Nat} (h : w'.heap[b]? = w.heap[b]?) : w'.cell? ⟨b, o, none⟩ = w.cell? ⟨b, o, none⟩ := by
 simp only [World.cell?, h]
theorem SlIn.keep {w w' : World} {v : Value} {n sz : Nat} {c : Nat → Nat → Value} {N N' : Nat → Prop} (h : SlIn w v n sz c N) (hs : w.heap.size ≤ w'.heap.size) (hk : ∀ b, b < w.heap.size → N b → w'.heap[b]? = w.heap[b]? ∧ N' b) : SlIn w' v n sz c N' := by
 obtain ⟨ao, cap, rfl, h1, h2, h3, h4⟩ := h
 refine ⟨ao, cap, rfl, h1, h2, fun h0 => ?_, h4⟩
 obtain ⟨b, off, e, hlt, hN, hc⟩ := h3 h0
 obtain ⟨h5, h6⟩ := hk b hlt hN
 exact ⟨b, off, e, Nat.lt_of_lt_of_le hlt hs, h6, fun i j hi hj => (cell_of_heap h5).trans (hc i j hi hj)⟩
def Pair2 (w : World) (b : Nat) (x y : Value) : Prop := b < w.heap.size ∧ w.cell? ⟨b, 0, none⟩ = some x ∧ w.cell? ⟨b, 1, none⟩ = some y
theorem Pair2.below {w w' : World} {b : Nat} {x y : Value} (h : Pair2 w b x y) (hb : Below w.heap.size w w') : Pair2 w' b x y :=
 ⟨Nat.lt_of_lt_of_le h.1 hb.size, (hb.cell (p := ⟨b, 0, none⟩) h.1).trans h.2.1, (hb.cell (p := ⟨b, 1, none⟩) h.1).trans h.2.2⟩
def Quad (w : World) (b : Nat) (x y z u : Value) : Prop := b < w.heap.size ∧ w.cell? ⟨b, 0, none⟩ = some x ∧ w.cell? ⟨b, 1, none⟩ = some y ∧ w.cell? ⟨b, 2, none⟩ = some z ∧ w.cell? ⟨b, 3, none⟩ = some u
theorem Quad.below {w w' : World} {b : Nat} {x y z u : Value} (h : Quad w b x y z u) (hb : Below w.heap.size w w') : Quad w' b x y z u :=
 ⟨Nat.lt_of_lt_of_le h.1 hb.size, (hb.cell (p := ⟨b, 0, none⟩) h.1).trans h.2.1, (hb.cell (p := ⟨b, 1, none⟩) h.1).trans h.2.2.1, (hb.cell (p := ⟨b, 2, none⟩) h.1).trans h.2.2.2.1, (hb.cell (p := ⟨b, 3, none⟩) h.1).trans h.2.2.2.2⟩
def scan (f : Nat → Int) (n : Nat) : Int := firstNZ ((List.range n).map f)
theorem scan_end {f : Nat → Int} {n : Nat} (h : ∀ j, j < n → f j = 0) : scan f n = 0 := by
 unfold scan
 rw [firstNZ_zero]
 intro x hx
 obtain ⟨j, hj, rfl⟩ := List.mem_map.1 hx
 exact h j (List.mem_range.1 hj)
theorem scan_zero {f : Nat → Int} {n : Nat} (h : scan f n = 0) : ∀ j, j < n → f j = 0 := by
 unfold scan at h
 rw [firstNZ_zero] at h
 exact fun j hj => h _ (List.mem_map.2 ⟨j, List.mem_range.2 hj, rfl⟩)
theorem scan_at {f : Nat → Int} {n k : Nat} (h : ∀ j, j < k → f j = 0) (hk : k < n) (hne : f k ≠ 0) : scan f n = f k := by
 unfold scan
 obtain ⟨m, rfl⟩ : ∃ m, n = k + (m + 1) := ⟨n - k - 1, by omega⟩
 rw [List.range_add, List.map_append, firstNZ_append_zero]
 ·rw [List.range_succ_eq_map]
  simp [firstNZ, hne]
 ·intro x hx
  obtain ⟨j, hj, rfl⟩ := List.mem_map.1 hx
  exact h j (List.mem_range.1 hj)
def scanI (f : Nat → Int) (n : Nat) : Int := (((List.range n).find? (fun i => f i != 0)).getD 0 : Nat)
theorem scanI_end {f : Nat → Int} {n : Nat} (h : ∀ j, j < n → f j = 0) : scanI f n = 0 := by
 unfold scanI
 rw [List.find?_eq_none.2]
 ·rfl
 ·intro x hx; rw [h x (List.mem_range.1 hx)]; simp
theorem scanI_at {f : Nat → Int} {n k : Nat} (h : ∀ j, j < k → f j = 0) (hk : k < n) (hne : f k ≠ 0) : scanI f n = k := by
 unfold scanI
 obtain ⟨m, rfl⟩ : ∃ m, n = k + (m + 1) := ⟨n - k - 1, by omega⟩
 rw [List.range_add, List.find?_append, List.find?_eq_none.2, List.range_succ_eq_map]
 ·simp [hne]
 ·intro x hx; rw [h x (List.mem_range.1 hx)]; simp
end Go.Proofs.Ytlmdmpjfehpjeaa
set_option linter.unusedVariables false
set_option linter.unusedSimpArgs false
namespace Go.Proofs.Ytlmdmpjfehpjeaa
open Go.RowKit
section
variable {H : Type} {enc : TypeId × Value → H} {P : Program} {w : World} {base : Nat} {spare : Nat → Bool} {held : Bool}
theorem cell_lt {w : World} {a : Addr} {v : Value} (h : w.cell? a = some v) : a.block < w.heap.size := by
 unfold World.cell? at h
 cases e : w.heap[a.block]? with
 | none => simp [e] at h
 | some o => exact (Array.getElem?_eq_some_iff.1 e).1
theorem list_of {α : Type} (d : α) : ∀ (n : Nat) {R : Nat → α → Prop}, (∀ i, i < n → ∃ x, R i x) → ∃ l : List α, l.length = n ∧ ∀ i, i < n → R i (l.getD i d) := by
 intro n
 induction n with
 | zero => intro R _; exact ⟨[], rfl, fun i hi => absurd hi (by omega)⟩
 | succ n ih =>
  intro R h
  obtain ⟨l, hl, hr⟩ := ih (fun i hi => h i (by omega))
  obtain ⟨x, hx⟩ := h n (by omega)
  refine ⟨l ++ [x], by simp [hl], fun i hi => ?_⟩
  rcases Nat.lt_or_ge i n with h1 | h1
  ·have : (l ++ [x]).getD i d = l.getD i d := by simp [List.getD, List.getElem?_append_left (show i < l.length by omega)]
   rw [this]; exact hr i h1
  ·have e : i = n := by omega
   subst e
   have : (l ++ [x]).getD i d = x := by rw [← hl]; simp [List.getD]
   rw [this]; exact hx
theorem SlAt.congr {w : World} {v : Value} {n sz : Nat} {c d : Nat → Nat → Value} (h : SlAt w v n sz c) (e : ∀ i j, i < n → j < sz → c i j = d i j) : SlAt w v n sz d := by
 obtain ⟨ao, cap, rfl, h1, h2, h3, h4⟩ := h
 refine ⟨ao, cap, rfl, h1, h2, fun h0 => ?_, h4⟩
 obtain ⟨b, off, e1, hlt, hc⟩ := h3 h0
 exact ⟨b, off, e1, hlt, fun i j hi hj => by rw [hc i j hi hj, e i j hi hj]⟩
theorem slAt_of_trod {t e : TypeId} {sz fuel : Nat} {v : Value} {x : DataW H × List MemPlace} (ht : P.underlying t = some (.slice e)) (hc : P.cellsOf e = sz) (hsz : 0 < sz)
  (h : DataW.trod enc P w base spare held fuel t [v] = some x) :
  ∃ (n : Nat) (css : Nat → List Value), SlAt w v n sz (fun i j => (css i).getD j undef) ∧ ∀ i, i < n → (css i).length = sz ∧ ∃ m y, DataW.trod enc P w base spare held m e (css i) = some y := by
 rcases DataW.trod_slice ht h with ⟨h0, _⟩ | ⟨a, len, cap, elems, rest, m, _, h0, _, hb, hl, hm, hlen, hel, _, _⟩
 ·obtain rfl : v = .slice none 0 0 := by simpa using h0
  exact ⟨0, fun _ => [], ⟨none, 0, rfl, by simp, by simp, fun h => absurd h (by omega), fun _ => rfl⟩, fun i hi => absurd hi (by omega)⟩
 ·obtain rfl : v = .slice (some a) len cap := by simpa using h0
  have each : ∀ i, i < len → ∃ cs : List Value, w.cells? base (a.add (i * sz)) sz = some cs ∧ ∃ y, DataW.trod enc P w base spare held m e cs = some y := by
   intro i hi
   have h1 := hel i hi
   rw [hc] at h1
   have h2 : elems[i]? = some elems[i] := by simp
   rw [h2, Option.bind_eq_some_iff] at h1
   obtain ⟨cs, h3, h4⟩ := h1
   exact ⟨cs, h3, _, h4⟩
  obtain ⟨css, hcl, hcs⟩ := list_of ([] : List Value) len each
  have hcell : ∀ i j, i < len → j < sz → w.cell? ((a.add (i * sz)).add j) = some ((css.getD i []).getD j undef) := by
   intro i j hi hj
   obtain ⟨_, h2, h3⟩ := World.cells?_some (hcs i hi).1
   rw [h3 j hj]
   generalize css.getD i [] = c at h2 ⊢
   rw [List.getElem?_eq_getElem (by omega)]
   simp [List.getD, List.getElem?_eq_getElem (show j < c.length by omega)]
  refine ⟨len, fun i => css.getD i [], ⟨some a, cap, rfl, hl, hm, fun hp => ?_, fun h => by cases h⟩, fun i hi => ⟨(World.cells?_some (hcs i hi).1).2.1, m, (hcs i hi).2⟩⟩
  obtain ⟨b, off, spot⟩ := a
  have hspot : spot = none := by simpa [Addr.add] using World.cell?_spot (hcell 0 0 hp hsz)
  subst hspot
  refine ⟨b, off, rfl, by simpa [Addr.add] using cell_lt (hcell 0 0 hp hsz), fun i j hi hj => ?_⟩
  have := hcell i j hi hj
  rw [add_plain', add_plain'] at this
  exact this
end
end Go.Proofs.Ytlmdmpjfehpjeaa
set_option linter.unusedVariables false
set_option linter.unusedSimpArgs false
namespace Go.Proofs.Ytlmdmpjfehpjeaa
open Go.RowKit
def anyI {α : Type} (f : α → Bool) (l : List α) : Bool := l.any f
theorem anyN_take {f : Int → Bool} {l : List Int} {k : Nat} (h : k < l.length) : anyI f (l.take (k + 1)) = (anyI f (l.take k) || f (nth l k)) := by
 have e : l.take (k + 1) = l.take k ++ [nth l k] := by
  unfold nth
  rw [List.take_succ_eq_append_getElem h, List.getD_eq_getElem?_getD, List.getElem?_eq_getElem h]; rfl
 rw [e]; simp [anyI]
theorem anyN_at {f : Int → Bool} {l : List Int} {k : Nat} (h : k < l.length) (hf : f (nth l k) = true) : anyI f l = true := by
 have e : nth l k = l[k] := by unfold nth; rw [List.getD_eq_getElem?_getD, List.getElem?_eq_getElem h]; rfl
 rw [e] at hf; simp only [anyI, List.any_eq_true]; exact ⟨_, List.getElem_mem h, hf⟩
set_option maxRecDepth 100000 in
theorem track_fits1 (n k : Int) (lb : Nat) (w : World) (hc : w.cell? ⟨lb, 0, none⟩ = some (.int .i64 k)) (h0 : 0 ≤ k) (h1 : k ≤ 1000000) :
  Calls Try.prog 133 #[.int .i64 n, .pointer (some ⟨lb, 0, none⟩)] w fun e w' => e = .returned (.bool (!inB n (-k) k)) ∧ Below w.heap.size w w' := by
 go_enter Try.func133, Try.ntmps133
 go_wp2_with (go_at_call 68; refine (track_within _ _ _ _).mono ?_; rintro _ _ ⟨rfl, rfl⟩)
 go_ret
 exact ⟨rfl, by exact BelowA⟩
set_option maxRecDepth 100000 in
theorem fits_IndexFunc (l : List Int) (v : Value) (k0 : Int) (lb : Nat) (w : World) (h : IntsAt w v l) (hlb : lb < w.heap.size) (hc0 : w.cell? ⟨lb, 0, none⟩ = some (.int .i64 k0)) (h00 : 0 ≤ k0) (h01 : k0 ≤ 1000000) :
  Calls Try.prog 147 #[v, .func (.func 133) #[] #[.pointer (some ⟨lb, 0, none⟩)]] w fun e w' => ∃ r : Int, e = .returned (.int .i64 r) ∧ decide (0 ≤ r) = anyI (fun n => !inB n (-k0) k0) l ∧ Below w.heap.size w w' := by
 obtain ⟨ao, cap, rfl, h1, h2, h3⟩ := h.opn
 unfold maxLen at h2
 go_enter Try.func147, Try.ntmps147
 go_wp2_with fail
 go_loopw [8] (fun i wr => ∃ k : Nat, k ≤ l.length ∧ i = .int .i64 k ∧ Hid (anyI (fun n => !inB n (-k0) k0) (l.take k) = false) ∧ Below w.heap.size w wr) (fun i _ => l.length - (intOf i).toNat)
 case atStart => exact ⟨0, Nat.zero_le _, rfl, hid (by simp [anyI]), Below.refl _ _⟩
 case round =>
  obtain ⟨k, hk, rfl, HZ, hbel⟩ := hrel
  have hzw := hbel.size
  by_cases hlt : k < l.length
  ·obtain ⟨b, off, rfl, hb, hc⟩ := h3 k hlt
   have c0 := hc k hlt
   obtain ⟨hcb, hfb⟩ := bcell hbel
   rw [← hcb b _ hb] at c0
   have ck : wr.cell? ⟨lb, 0, none⟩ = some (.int .i64 k0) := (hcb lb 0 hlb).trans hc0
   have HAT := hid (anyN_take (f := fun n => !inB n (-k0) k0) hlt)
   have HAA := hid (anyN_at (f := fun n => !inB n (-k0) k0) hlt)
   obtain ⟨x, hx⟩ : ∃ x, x = nth l k := ⟨_, rfl⟩
   rw [← hx] at c0 HAT HAA
   clear hc h3 hcb hfb hx h hc0
   cases ht : (!inB x (-k0) k0)
   ·have HT := hid ht
    go_wp2_with (go_at_call 133; refine (track_fits1 x k0 lb _ ck h00 h01).mono ?_; rintro _ w1 ⟨rfl, hb1⟩; obtain ⟨hc1, hf1⟩ := bcell hb1; have hz1 := hb1.size; (try simp only [World.size_alloc, World.heap_drewN] at hz1))
    go_roundw
    case rel => exact ⟨k + 1, by omega, by go_num, hid (by rw [HAT.out, HZ.out, HT.out]; rfl), by exact BelowA⟩
    case measure => simp [intOf]; omega
   ·have HT := hid ht
    go_wp2_with (go_at_call 133; refine (track_fits1 x k0 lb _ ck h00 h01).mono ?_; rintro _ w1 ⟨rfl, hb1⟩; obtain ⟨hc1, hf1⟩ := bcell hb1; have hz1 := hb1.size; (try simp only [World.size_alloc, World.heap_drewN] at hz1))
    go_ret
    exact ⟨k, rfl, by rw [HAA.out HT.out]; simp, by exact BelowA⟩
  ·have hkl : k = l.length := by omega
   subst hkl
   go_wp2_with fail
   go_ret
   refine ⟨-1, rfl, ?_, hbel⟩
   have := HZ.out
   rw [List.take_length] at this
   rw [this]; rfl
theorem fits_ContainsFunc (l : List Int) (v : Value) (k0 : Int) (lb : Nat) (w : World) (h : IntsAt w v l) (hlb : lb < w.heap.size) (hc0 : w.cell? ⟨lb, 0, none⟩ = some (.int .i64 k0)) (h00 : 0 ≤ k0) (h01 : k0 ≤ 1000000) :
  Calls Try.prog 132 #[v, .func (.func 133) #[] #[.pointer (some ⟨lb, 0, none⟩)]] w fun e w' => e = .returned (.bool (anyI (fun n => !inB n (-k0) k0) l)) ∧ Below w.heap.size w w' := by
 go_enter Try.func132, Try.ntmps132
 go_wp2_with (go_at_call 147; refine (fits_IndexFunc _ _ _ _ _ h hlb hc0 h00 h01).mono ?_; rintro _ w1 ⟨r, rfl, hr, hb1⟩)
 go_ret
 exact ⟨ret_bool (by rw [← hr]), hb1⟩
end Go.Proofs.Ytlmdmpjfehpjeaa
set_option linter.unusedVariables false
set_option linter.unusedSimpArgs false
namespace Go.Proofs.Ytlmdmpjfehpjeaa
open Go.RowKit
def V3.sm (a b : V3) : Prop := (-1000000000000000000 ≤ a.x * b.x ∧ a.x * b.x ≤ 1000000000000000000) ∧ (-1000000000000000000 ≤ a.y * b.y ∧ a.y * b.y ≤ 1000000000000000000) ∧ (-1000000000000000000 ≤ a.z * b.z ∧ a.z * b.z ≤ 1000000000000000000)
set_option maxRecDepth 100000 in
set_option maxHeartbeats 1000000 in
theorem track_dot (a b : V3) (w : World) (h : a.sm b) :
  Calls Try.prog 78 #[a.v, b.v] w fun e w' => e = .returned (.int .i64 (a.dot b)) ∧ Below w.heap.size w w' := by
 obtain ⟨hx, hy, hz⟩ := h
 unfold V3.v V3.dot
 obtain ⟨ax, ay, az⟩ := a
 obtain ⟨bx, bY, bz⟩ := b
 simp only at *
 obtain ⟨X, hX⟩ : ∃ X, X = ax * bx := ⟨_, rfl⟩
 obtain ⟨Y, hY⟩ : ∃ Y, Y = ay * bY := ⟨_, rfl⟩
 obtain ⟨Z, hZ⟩ : ∃ Z, Z = az * bz := ⟨_, rfl⟩
 rw [← hX] at hx ⊢
 rw [← hY] at hy ⊢
 rw [← hZ] at hz ⊢
 have e1 : ax * bx = X := hX.symm
 have e2 : ay * bY = Y := hY.symm
 have e3 : az * bz = Z := hZ.symm
 clear hX hY hZ
 go_enter Try.func78, Try.ntmps78
 go_wp2_with fail
 go_ret
 exact ⟨rfl, by exact BelowA⟩
set_option maxRecDepth 100000 in
set_option maxHeartbeats 1000000 in
theorem track_minus (a b : V3) (w : World) (ha : a.inS 100000000 = true) (hb : b.inS 100000000 = true) :
  Calls Try.prog 77 #[a.v, b.v] w fun e w' => e = .returned (V3.v ⟨a.x - b.x, a.y - b.y, a.z - b.z⟩) ∧ Below w.heap.size w w' := by
 obtain ⟨⟨a1, a1'⟩, ⟨a2, a2'⟩, ⟨a3, a3'⟩⟩ := inS_iff.1 ha
 obtain ⟨⟨b1, b1'⟩, ⟨b2, b2'⟩, ⟨b3, b3'⟩⟩ := inS_iff.1 hb
 unfold V3.v
 obtain ⟨ax, ay, az⟩ := a
 obtain ⟨bx, bY, bz⟩ := b
 simp only at *
 clear ha hb
 go_enter Try.func77, Try.ntmps77
 go_wp2_with fail
 ((try simp only [Exit.inBlock, Exit.then]); refine bodyPost_ret (v := .agg #[.int .i64 (ax - bx), .int .i64 (ay - bY), .int .i64 (az - bz)]) ?_ rfl ?_; (next => simp [results, Try.results77, go_sem]); refine ⟨?_, ?_⟩; (next => rfl); (next => exact BelowA))
theorem track_timeErr (n : Int) (w : World) : Calls Try.prog 71 #[.int .i64 n] w fun e w' => e = .returned (.int .i64 (tmE n)) ∧ w = w' := by
 go_enter Try.func71, Try.ntmps71
 go_wp2_with (first | (go_at_call 68; refine (track_within _ _ _ _).mono ?_; rintro _ _ ⟨rfl, rfl⟩) | (go_at_call 72; refine (track_unless _ _ _).mono ?_; rintro _ _ ⟨rfl, rfl⟩))
 go_ret
 exact ⟨rfl, rfl⟩
set_option maxRecDepth 100000 in
set_option maxHeartbeats 1000000 in
theorem track_fits (a : V3) (k : Int) (w : World) (h0 : 0 ≤ k) (h1 : k ≤ 1000000) :
  Calls Try.prog 102 #[a.v, .int .i64 k] w fun e w' => e = .returned (.bool (a.inS k)) ∧ Below w.heap.size w w' := by
 have HE : Hid ((!anyI (fun n => !inB n (-k) k) [a.x, a.y, a.z]) = a.inS k) := hid (by simp [anyI, V3.inS, Bool.and_assoc])
 obtain ⟨ax, ay, az⟩ := a
 unfold V3.v
 simp only at *
 obtain ⟨W, hW⟩ : ∃ W, W = (w.alloc (.cells #[.int .i64 ax, .int .i64 ay, .int .i64 az] 135)).alloc (.cells #[.int .i64 k] 3) := ⟨_, rfl⟩
 have hbW : Below w.heap.size w W := by rw [hW]; exact BelowA
 have HI : Hid (IntsAt W (.slice (some ⟨w.heap.size, 0, none⟩) 3 3) [ax, ay, az]) := hid (by rw [hW]; exact (intsAt_new w 135 [ax, ay, az] 3 w.heap.size rfl (by omega) rfl).below ((Below.refl _ _).alloc (Nat.le_refl _) _))
 have HC : Hid (W.cell? ⟨w.heap.size + 1, 0, none⟩ = some (.int .i64 k) ∧ w.heap.size + 1 < W.heap.size) := hid (by rw [hW]; simp)
 go_enter Try.func102, Try.ntmps102
 go_wp2_with (go_at_call 132; rw [← hW]; refine (fits_ContainsFunc _ _ k _ _ HI.out HC.out.2 HC.out.1 h0 h1).mono ?_; rintro _ w1 ⟨rfl, hb1⟩)
 go_ret
 exact ⟨ret_bool HE.out, by exact BelowA⟩
end Go.Proofs.Ytlmdmpjfehpjeaa
set_option linter.unusedVariables false
set_option linter.unusedSimpArgs false
namespace Go.Proofs.Ytlmdmpjfehpjeaa
open Go.RowKit
theorem track_placeErr (p : V3) (w : World) : Calls Try.prog 70 #[p.v] w fun e w' => e = .returned (.int .i64 (plE p)) ∧ Below w.heap.size w w' := by
 have HF : Hid (∀ W, Calls Try.prog 102 #[p.v, .int .i64 1000] W fun e w' => e = .returned (.bool (p.inS 1000)) ∧ Below W.heap.size W w') := hid (fun W => track_fits p 1000 W (by omega) (by omega))
 have HE : Hid (plE p = unl (p.inS 1000) 2) := hid rfl
 obtain ⟨x, y, z⟩ := p
 unfold V3.v at *
 simp only at *
 go_enter Try.func70, Try.ntmps70
 go_wp2_with (first | (go_at_call 102; refine (HF.out _).mono ?_; rintro _ w1 ⟨rfl, hb1⟩) | (go_at_call 72; refine (track_unless _ _ _).mono ?_; rintro _ _ ⟨rfl, rfl⟩))
 go_ret
 exact ⟨ret_int HE.out.symm, by exact BelowA⟩
theorem slow_sz {m : TMod} (ho : m.Ok) : 0 ≤ m.li * m.tk ∧ m.li * m.tk ≤ 2000 ∧ 0 ≤ m.li * m.tk * m.tk ∧ m.li * m.tk * m.tk ≤ 40000 := by
 have h1 := ho.li
 have h2 := ho.tk
 have a := Int.mul_nonneg (show 0 ≤ m.li by omega) (show 0 ≤ m.tk by omega)
 have b := Int.mul_le_mul h1.2 h2.2 (by omega) (by omega)
 have c := Int.mul_nonneg a (show 0 ≤ m.tk by omega)
 have d := Int.mul_le_mul (show m.li * m.tk ≤ 2000 by omega) h2.2 (by omega) (by omega)
 omega
set_option maxRecDepth 100000 in
set_option maxHeartbeats 1000000 in
theorem track_slow (m : TMod) (w : World) (ho : m.Ok) : Calls Try.prog 121 #[m.v] w fun e w' => e = .returned (.int .i64 m.slow) ∧ Below w.heap.size w w' := by
 obtain ⟨a1, a2, b1, b2⟩ := slow_sz ho
 unfold TMod.v TMod.slow
 obtain ⟨px, py, pz, tm, tk, lo, hi, li, ea, la, no, mi⟩ := m
 simp only at *
 obtain ⟨A, hA⟩ : ∃ A, A = li * tk := ⟨_, rfl⟩
 rw [← hA] at a1 a2 b1 b2 ⊢
 obtain ⟨B, hB⟩ : ∃ B, B = A * tk := ⟨_, rfl⟩
 rw [← hB] at b1 b2 ⊢
 have e1 : li * tk = A := hA.symm
 have e2 : A * tk = B := hB.symm
 clear hA hB ho
 go_enter Try.func121, Try.ntmps121
 go_wp2_with fail
 go_ret
 exact ⟨rfl, by exact BelowA⟩
end Go.Proofs.Ytlmdmpjfehpjeaa
set_option linter.unusedVariables false
set_option linter.unusedSimpArgs false
namespace Go.Proofs.Ytlmdmpjfehpjeaa
open Go.RowKit
theorem al2 (w : World) (a b : Array Value) (t s : TypeId) : ∀ W, W = (w.alloc (.cells a t)).alloc (.cells b s) → W.heap[w.heap.size]? = some (.cells a t (0, 0)) ∧ W.heap[w.heap.size + 1]? = some (.cells b s (0, 0)) ∧ w.heap.size < W.heap.size ∧ w.heap.size + 1 < W.heap.size := by
 rintro W rfl
 refine ⟨?_, ?_, by simp; omega, by simp⟩
 ·rw [Below.heap_alloc _ _ _ (by simp), heap_alloc_new]
 ·have := heap_alloc_new (w.alloc (.cells a t)) (.cells b s)
  simpa using this
set_option maxRecDepth 100000 in
set_option maxHeartbeats 1000000 in
theorem ref_IsPermitted (m : TMod) (s : V3) (w : World) (h : s.sm s) : Calls Try.prog 107 #[m.v, s.v] w fun e w' => e = .returned (.bool (m.permB s)) ∧ Below w.heap.size w w' := by
 have HD : Hid (∀ W, Calls Try.prog 82 #[s.v, s.v] W fun e w' => e = .returned (.int .i64 (s.dot s)) ∧ Below W.heap.size W w') := hid (fun W => ref_Dot s s W h.1 h.2.1 h.2.2)
 have HE : Hid (m.permB s = inB (s.dot s) m.lo m.hi) := hid rfl
 obtain ⟨D, hD⟩ : ∃ D, D = s.dot s := ⟨_, rfl⟩
 rw [← hD] at HD HE
 obtain ⟨px, py, pz, tm, tk, lo, hi, li, ea, la, no, mi⟩ := m
 obtain ⟨x, y, z⟩ := s
 unfold TMod.v V3.v at *
 simp only at *
 clear hD h
 obtain ⟨W, hW⟩ : ∃ W, W = (w.alloc (.cells #[.int .i64 px, .int .i64 py, .int .i64 pz, .int .i64 tm, .int .i64 tk, .int .i64 lo, .int .i64 hi, .int .i64 li, .int .i64 ea, .int .i64 la, .int .i64 no, .int .i64 mi] 26)).alloc (.cells #[.int .i64 x, .int .i64 y, .int .i64 z] 22) := ⟨_, rfl⟩
 have hbW : Below w.heap.size w W := by rw [hW]; exact BelowA
 obtain ⟨q0, q1, hl0, hl1⟩ := al2 w _ _ _ _ W hW
 have c5 : W.cell? ⟨w.heap.size, 5, none⟩ = some (.int .i64 lo) := by rw [cell_of_row W _ 5 _ _ (0, 0) q0]; rfl
 have c6 : W.cell? ⟨w.heap.size, 6, none⟩ = some (.int .i64 hi) := by rw [cell_of_row W _ 6 _ _ (0, 0) q0]; rfl
 have d0 : W.cell? ⟨w.heap.size + 1, 0, none⟩ = some (.int .i64 x) := by rw [cell_of_row W _ 0 _ _ (0, 0) q1]; rfl
 have d1 : W.cell? ⟨w.heap.size + 1, 1, none⟩ = some (.int .i64 y) := by rw [cell_of_row W _ 1 _ _ (0, 0) q1]; rfl
 have d2 : W.cell? ⟨w.heap.size + 1, 2, none⟩ = some (.int .i64 z) := by rw [cell_of_row W _ 2 _ _ (0, 0) q1]; rfl
 clear q0 q1
 go_enter Try.func107, Try.ntmps107
 go_wp2_with fail
 rw [← hW]
 clear hW
 refine wp_mixC (fun wc => Below (W.heap.size) W wc) 10 [.q [0, 1, 3, 4, 5, 6, 7, 8], .f [2, 9]] [.q [10]] (by kernel_rfl) (by kernel_rfl) ((Below.refl _ _).drew) ?_
 intro Q' hQ'
 (rw [wpMixC]; simp only [pick, List.drop_succ_cons, List.drop_zero, List.head?_cons, Option.toList_some, List.cons_append, List.nil_append])
 (repeat (first | go_big_quiet_skip | (go_big_quiet_want; refine quiet_simple rfl ?_; go_big_quiet_op; go_big_quiet_on) | (go_big_quiet_want; refine quiet_cellB (ty := 3) rfl rfl (by kernel_rfl) (by assumption) (by first | omega | (simp; omega)) ?_; simp only [Act.put, List.setIfInBounds_toArray, List.set_cons_succ, List.set_cons_zero]; go_big_quiet_on) | (go_big_quiet_want; refine quiet_agg3B (ty := 22) rfl rfl (by kernel_rfl) (by assumption) (by assumption) (by assumption) (by first | omega | (simp; omega)) ?_; simp only [Act.put, List.setIfInBounds_toArray, List.set_cons_succ, List.set_cons_zero]; go_big_quiet_on)))
 (try refine wpQuiet_nil ?_)
 (rw [wpMixC]; simp only [pick, List.drop_succ_cons, List.drop_zero, List.head?_cons, Option.toList_some, List.cons_append, List.nil_append])
 (rw [wpSteps]; go_wp2_with ((go_at_call 82; refine (HD.out _).mono ?_; rintro _ w1 ⟨rfl, hb1⟩)); rw [contF]; refine ⟨?_, ?_⟩; (next => exact BelowA))
 (rw [wpSteps]; go_wp2_with ((go_at_call 26; refine (base_Within _ _ _ _).mono ?_; rintro _ _ ⟨rfl, rfl⟩)); rw [contF]; refine ⟨?_, ?_⟩; (next => exact BelowA))
 (rw [wpSteps])
 (rw [wpMixC])
 (rw [wpMix]; simp only [pick, List.drop_succ_cons, List.drop_zero, List.head?_cons, Option.toList_some, List.cons_append, List.nil_append])
 (repeat (first | (go_big_quiet_step (fail)) | (quiet_step (fail))))
 (try refine wpQuiet_nil ?_)
 (rw [wpMix])
 (refine hQ' _ _ ?_)
 go_wp2_with fail
 go_ret
 exact ⟨ret_bool HE.out.symm, by exact BelowA⟩
set_option maxRecDepth 100000 in
set_option maxHeartbeats 1000000 in
theorem ref_MomentErr (p : V3) (t : Int) (w : World) : Calls Try.prog 20 #[.agg #[.int .i64 p.x, .int .i64 p.y, .int .i64 p.z, .int .i64 t]] w fun e w' => e = .returned (.int .i64 (momE p t)) ∧ Below w.heap.size w w' := by
 obtain ⟨x, y, z⟩ := p
 simp only
 have HE : Hid ((plE ⟨x, y, z⟩ = 0 → momE ⟨x, y, z⟩ t = unl (inB t (-1000000) 1000000) 2) ∧ (plE ⟨x, y, z⟩ ≠ 0 → momE ⟨x, y, z⟩ t = plE ⟨x, y, z⟩)) := hid (by
  unfold momE
  constructor
  ·intro h; simp only [firstNZ, h, if_true]; by_cases hu : unl (inB t (-1000000) 1000000) 2 = 0 <;> simp [hu]
  ·intro h; simp only [firstNZ, if_neg h])
 have HP : Hid (∀ W, Calls Try.prog 21 #[.agg #[.int .i64 x, .int .i64 y, .int .i64 z]] W fun e w' => e = .returned (.int .i64 (plE ⟨x, y, z⟩)) ∧ Below W.heap.size W w') := hid (fun W => ref_PlaceErr x y z W)
 obtain ⟨E, hE⟩ : ∃ E, E = plE ⟨x, y, z⟩ := ⟨_, rfl⟩
 rw [← hE] at HE HP
 clear hE
 by_cases h0 : E = 0
 ·subst h0
  cases hb : inB t (-1000000) 1000000
  all_goals
   have HB := hid hb
   go_enter Try.func20, Try.ntmps20
   go_wp2_with (first | (go_at_call 21; refine (HP.out _).mono ?_; rintro _ w1 ⟨rfl, hb1⟩; obtain ⟨hc1, hf1⟩ := bcell hb1; have hz1 := hb1.size; (try simp only [World.size_alloc, World.heap_drewN] at hz1); have hk1_0 : w.heap.size < w1.heap.size := (by omega); have q1_0_0 := hc1 (w.heap.size) 0 (by first | assumption | (simp; done) | (simp; omega)); (try simp at q1_0_0); have p1_0_0 := hf1 (w.heap.size) 0 (by first | assumption | (simp; done) | (simp; omega)); (try simp at p1_0_0); have q1_0_1 := hc1 (w.heap.size) 1 (by first | assumption | (simp; done) | (simp; omega)); (try simp at q1_0_1); have p1_0_1 := hf1 (w.heap.size) 1 (by first | assumption | (simp; done) | (simp; omega)); (try simp at p1_0_1); have q1_0_2 := hc1 (w.heap.size) 2 (by first | assumption | (simp; done) | (simp; omega)); (try simp at q1_0_2); have p1_0_2 := hf1 (w.heap.size) 2 (by first | assumption | (simp; done) | (simp; omega)); (try simp at p1_0_2); have q1_0_3 := hc1 (w.heap.size) 3 (by first | assumption | (simp; done) | (simp; omega)); (try simp at q1_0_3); have p1_0_3 := hf1 (w.heap.size) 3 (by first | assumption | (simp; done) | (simp; omega)); (try simp at p1_0_3)) | (go_at_call 26; refine (base_Within _ _ _ _).mono ?_; rintro _ _ ⟨rfl, rfl⟩))
   go_ret
   exact ⟨ret_int (by rw [HE.out.1 (by first | rfl | trivial), HB.out]; rfl), by exact BelowA⟩
 ·have h1 : (E != 0) = true := by simpa using h0
  have HN := hid h0
  clear h0
  go_enter Try.func20, Try.ntmps20
  go_wp2_with (first | (go_at_call 21; refine (HP.out _).mono ?_; rintro _ w1 ⟨rfl, hb1⟩; obtain ⟨hc1, hf1⟩ := bcell hb1; have hz1 := hb1.size; (try simp only [World.size_alloc, World.heap_drewN] at hz1); have hk1_0 : w.heap.size < w1.heap.size := (by omega); have q1_0_0 := hc1 (w.heap.size) 0 (by first | assumption | (simp; done) | (simp; omega)); (try simp at q1_0_0); have p1_0_0 := hf1 (w.heap.size) 0 (by first | assumption | (simp; done) | (simp; omega)); (try simp at p1_0_0); have q1_0_1 := hc1 (w.heap.size) 1 (by first | assumption | (simp; done) | (simp; omega)); (try simp at q1_0_1); have p1_0_1 := hf1 (w.heap.size) 1 (by first | assumption | (simp; done) | (simp; omega)); (try simp at p1_0_1); have q1_0_2 := hc1 (w.heap.size) 2 (by first | assumption | (simp; done) | (simp; omega)); (try simp at q1_0_2); have p1_0_2 := hf1 (w.heap.size) 2 (by first | assumption | (simp; done) | (simp; omega)); (try simp at p1_0_2); have q1_0_3 := hc1 (w.heap.size) 3 (by first | assumption | (simp; done) | (simp; omega)); (try simp at q1_0_3); have p1_0_3 := hf1 (w.heap.size) 3 (by first | assumption | (simp; done) | (simp; omega)); (try simp at p1_0_3)) | (go_at_call 26; refine (base_Within _ _ _ _).mono ?_; rintro _ _ ⟨rfl, rfl⟩))
  go_ret
  exact ⟨ret_int (HE.out.2 HN.out).symm, by exact BelowA⟩
end Go.Proofs.Ytlmdmpjfehpjeaa
set_option linter.unusedVariables false
set_option linter.unusedSimpArgs false
namespace Go.Proofs.Ytlmdmpjfehpjeaa
open Go.RowKit
theorem sm_self {s : V3} (h : s.inS 20 = true) : s.sm s := by
 have := dot_sz h h (by omega) (by omega)
 unfold V3.sm; omega
set_option maxRecDepth 100000 in
set_option maxHeartbeats 2000000 in
theorem ref_StepErr (m : TMod) (s : V3) (w : World) : Calls Try.prog 55 #[m.v, s.v] w fun e w' => e = .returned (.int .i64 (m.stE s)) ∧ Below w.heap.size w w' := by
 have HI : Hid (s.inS 20 = true → ∀ W, Calls Try.prog 107 #[m.v, s.v] W fun e w' => e = .returned (.bool (m.permB s)) ∧ Below W.heap.size W w') := hid (fun h W => ref_IsPermitted m s W (sm_self h))
 have HE : Hid ((s.inS 20 = false → m.stE s = 2) ∧ (s.inS 20 = true → m.stE s = unl (m.permB s) 24)) := hid (by
  unfold TMod.stE
  constructor
  ·intro h; rw [h]; rfl
  ·intro h; rw [h]; cases m.permB s <;> rfl)
 have HS : Hid (s.inS 20 = (inB s.x (-20) 20 && inB s.y (-20) 20 && inB s.z (-20) 20)) := hid rfl
 obtain ⟨B, hB⟩ : ∃ B, B = m.permB s := ⟨_, rfl⟩
 rw [← hB] at HI HE
 obtain ⟨E, hE⟩ : ∃ E, E = m.stE s := ⟨_, rfl⟩
 rw [← hE] at HE ⊢
 obtain ⟨I, hI⟩ : ∃ I, I = s.inS 20 := ⟨_, rfl⟩
 rw [← hI] at HI HE HS
 obtain ⟨px, py, pz, tm, tk, lo, hi, li, ea, la, no, mi⟩ := m
 obtain ⟨x, y, z⟩ := s
 unfold TMod.v V3.v at *
 simp only at *
 clear hB hE hI
 cases hx : inB x (-20) 20
 ·have HX := hid hx
  go_enter Try.func55, Try.ntmps55
  go_wp2_with (go_at_call 97; refine (ref_isSide _ _).mono ?_; rintro _ _ ⟨rfl, rfl⟩)
  go_ret
  exact ⟨ret_int (HE.out.1 (by rw [HS.out, HX.out]; rfl)).symm, by exact BelowA⟩
 ·cases hy : inB y (-20) 20
  ·have HY := hid hy
   go_enter Try.func55, Try.ntmps55
   go_wp2_with (go_at_call 97; refine (ref_isSide _ _).mono ?_; rintro _ _ ⟨rfl, rfl⟩)
   go_ret
   exact ⟨ret_int (HE.out.1 (by rw [HS.out, HY.out]; simp)).symm, by exact BelowA⟩
  ·cases hz : inB z (-20) 20
   ·have HZ := hid hz
    go_enter Try.func55, Try.ntmps55
    go_wp2_with (go_at_call 97; refine (ref_isSide _ _).mono ?_; rintro _ _ ⟨rfl, rfl⟩)
    go_ret
    exact ⟨ret_int (HE.out.1 (by rw [HS.out, HZ.out]; simp)).symm, by exact BelowA⟩
   ·have HT : Hid (I = true) := hid (by rw [HS.out, hx, hy, hz]; rfl)
    cases B
    all_goals
     go_enter Try.func55, Try.ntmps55
     go_wp2_with (first | (go_at_call 97; refine (ref_isSide _ _).mono ?_; rintro _ _ ⟨rfl, rfl⟩) | (go_at_call 107; refine (HI.out HT.out _).mono ?_; rintro _ w1 ⟨rfl, hb1⟩))
     go_ret
     exact ⟨ret_int (by rw [HE.out.2 HT.out]; rfl), by exact BelowA⟩
end Go.Proofs.Ytlmdmpjfehpjeaa
set_option linter.unusedVariables false
set_option linter.unusedSimpArgs false
namespace Go.Proofs.Ytlmdmpjfehpjeaa
open Go.RowKit
set_option maxRecDepth 100000 in
set_option maxHeartbeats 1000000 in
theorem track_permitted (m : TMod) (s : V3) (w : World) (h : s.sm s) : Calls Try.prog 120 #[m.v, s.v] w fun e w' => e = .returned (.bool (m.permB s)) ∧ Below w.heap.size w w' := by
 have HD : Hid (∀ W, Calls Try.prog 78 #[s.v, s.v] W fun e w' => e = .returned (.int .i64 (s.dot s)) ∧ Below W.heap.size W w') := hid (fun W => track_dot s s W h)
 have HE : Hid (m.permB s = inB (s.dot s) m.lo m.hi) := hid rfl
 obtain ⟨D, hD⟩ : ∃ D, D = s.dot s := ⟨_, rfl⟩
 rw [← hD] at HD HE
 obtain ⟨px, py, pz, tm, tk, lo, hi, li, ea, la, no, mi⟩ := m
 obtain ⟨x, y, z⟩ := s
 unfold TMod.v V3.v at *
 simp only at *
 clear hD h
 obtain ⟨W, hW⟩ : ∃ W, W = (w.alloc (.cells #[.int .i64 px, .int .i64 py, .int .i64 pz, .int .i64 tm, .int .i64 tk, .int .i64 lo, .int .i64 hi, .int .i64 li, .int .i64 ea, .int .i64 la, .int .i64 no, .int .i64 mi] 134)).alloc (.cells #[.int .i64 x, .int .i64 y, .int .i64 z] 135) := ⟨_, rfl⟩
 have hbW : Below w.heap.size w W := by rw [hW]; exact BelowA
 obtain ⟨q0, q1, hl0, hl1⟩ := al2 w _ _ _ _ W hW
 have c5 : W.cell? ⟨w.heap.size, 5, none⟩ = some (.int .i64 lo) := by rw [cell_of_row W _ 5 _ _ (0, 0) q0]; rfl
 have c6 : W.cell? ⟨w.heap.size, 6, none⟩ = some (.int .i64 hi) := by rw [cell_of_row W _ 6 _ _ (0, 0) q0]; rfl
 have d0 : W.cell? ⟨w.heap.size + 1, 0, none⟩ = some (.int .i64 x) := by rw [cell_of_row W _ 0 _ _ (0, 0) q1]; rfl
 have d1 : W.cell? ⟨w.heap.size + 1, 1, none⟩ = some (.int .i64 y) := by rw [cell_of_row W _ 1 _ _ (0, 0) q1]; rfl
 have d2 : W.cell? ⟨w.heap.size + 1, 2, none⟩ = some (.int .i64 z) := by rw [cell_of_row W _ 2 _ _ (0, 0) q1]; rfl
 clear q0 q1
 go_enter Try.func120, Try.ntmps120
 go_wp2_with fail
 rw [← hW]
 clear hW
 refine wp_mixC (fun wc => Below (W.heap.size) W wc) 12 [.q [0, 1, 3, 4, 5, 6, 7, 8, 9, 10], .f [2, 11]] [.q [12]] (by kernel_rfl) (by kernel_rfl) ((Below.refl _ _).drew) ?_
 intro Q' hQ'
 (rw [wpMixC]; simp only [pick, List.drop_succ_cons, List.drop_zero, List.head?_cons, Option.toList_some, List.cons_append, List.nil_append])
 (repeat (first | go_big_quiet_skip | (go_big_quiet_want; refine quiet_simple rfl ?_; go_big_quiet_op; go_big_quiet_on) | (go_big_quiet_want; refine quiet_cellB (ty := 3) rfl rfl (by kernel_rfl) (by assumption) (by first | omega | (simp; omega)) ?_; simp only [Act.put, List.setIfInBounds_toArray, List.set_cons_succ, List.set_cons_zero]; go_big_quiet_on) | (go_big_quiet_want; refine quiet_agg3B (ty := 135) rfl rfl (by kernel_rfl) (by assumption) (by assumption) (by assumption) (by first | omega | (simp; omega)) ?_; simp only [Act.put, List.setIfInBounds_toArray, List.set_cons_succ, List.set_cons_zero]; go_big_quiet_on)))
 (try refine wpQuiet_nil ?_)
 (rw [wpMixC]; simp only [pick, List.drop_succ_cons, List.drop_zero, List.head?_cons, Option.toList_some, List.cons_append, List.nil_append])
 (rw [wpSteps]; go_wp2_with ((go_at_call 78; refine (HD.out _).mono ?_; rintro _ w1 ⟨rfl, hb1⟩)); rw [contF]; refine ⟨?_, ?_⟩; (next => exact BelowA))
 (rw [wpSteps]; go_wp2_with ((go_at_call 68; refine (track_within _ _ _ _).mono ?_; rintro _ _ ⟨rfl, rfl⟩)); rw [contF]; refine ⟨?_, ?_⟩; (next => exact BelowA))
 (rw [wpSteps])
 (rw [wpMixC])
 (rw [wpMix]; simp only [pick, List.drop_succ_cons, List.drop_zero, List.head?_cons, Option.toList_some, List.cons_append, List.nil_append])
 (repeat (first | (go_big_quiet_step (fail)) | (quiet_step (fail))))
 (try refine wpQuiet_nil ?_)
 (rw [wpMix])
 (refine hQ' _ _ ?_)
 go_wp2_with fail
 go_ret
 exact ⟨ret_bool HE.out.symm, by exact BelowA⟩
end Go.Proofs.Ytlmdmpjfehpjeaa
set_option linter.unusedVariables false
set_option linter.unusedSimpArgs false
namespace Go.Proofs.Ytlmdmpjfehpjeaa
open Go.RowKit
theorem err_cases (m : TMod) : (plE m.pl ≠ 0 → m.err = plE m.pl) ∧ (plE m.pl = 0 → tmE m.tm ≠ 0 → m.err = tmE m.tm) ∧ (plE m.pl = 0 → tmE m.tm = 0 → m.right = false → m.err = 2) ∧
  (plE m.pl = 0 → tmE m.tm = 0 → m.right = true → m.err = if m.lo ≤ m.hi then (if m.slow < m.lo then 0 else 13) else 9) := by
 unfold TMod.err
 refine ⟨fun h => by simp [firstNZ, h], fun h h2 => by simp [firstNZ, h, h2], fun h h2 h3 => by simp [firstNZ, h, h2, h3, unl], fun h h2 h3 => ?_⟩
 by_cases a : m.lo ≤ m.hi <;> by_cases b : m.slow < m.lo <;> simp [firstNZ, h, h2, h3, unl, a, b]
theorem right_sz {m : TMod} (h : m.right = true) : 0 ≤ m.li * m.tk ∧ m.li * m.tk ≤ 2000 ∧ 0 ≤ m.li * m.tk * m.tk ∧ m.li * m.tk * m.tk ≤ 40000 := by
 unfold TMod.right at h
 simp only [Bool.and_eq_true, inB_true] at h
 obtain ⟨⟨⟨⟨⟨⟨⟨b1, b2⟩, b3⟩, b4⟩, b5⟩, b6⟩, b7⟩, b8⟩ := h
 have a := Int.mul_nonneg (show 0 ≤ m.li by omega) (show 0 ≤ m.tk by omega)
 have b := Int.mul_le_mul b4.2 b1.2 (by omega) (by omega)
 have c := Int.mul_nonneg a (show 0 ≤ m.tk by omega)
 have d := Int.mul_le_mul (show m.li * m.tk ≤ 2000 by omega) b1.2 (by omega) (by omega)
 omega
set_option maxRecDepth 100000 in
set_option maxHeartbeats 4000000 in
theorem ref_ModelErr (m : TMod) (w : World) : Calls Try.prog 18 #[m.v] w fun e w' => e = .returned (.int .i64 m.err) ∧ Below w.heap.size w w' := by
 obtain ⟨E1, E2, E3, E4⟩ := err_cases m
 have HE1 := hid E1
 have HE2 := hid E2
 have HE3 := hid E3
 have HE4 := hid E4
 have HSZ : Hid (m.right = true → 0 ≤ m.li * m.tk ∧ m.li * m.tk ≤ 2000 ∧ 0 ≤ m.li * m.tk * m.tk ∧ m.li * m.tk * m.tk ≤ 40000) := hid right_sz
 have HP : Hid (∀ W, Calls Try.prog 21 #[.agg #[.int .i64 m.px, .int .i64 m.py, .int .i64 m.pz]] W fun e w' => e = .returned (.int .i64 (plE m.pl)) ∧ Below W.heap.size W w') := hid (fun W => ref_PlaceErr _ _ _ W)
 have HT : Hid (∀ W, Calls Try.prog 45 #[.int .i64 m.tm] W fun e w' => e = .returned (.int .i64 (tmE m.tm)) ∧ W = w') := hid (fun W => ref_TimeErr _ W)
 have HR : Hid (m.right = (inB m.tk 1 20 && inB m.lo 1 1200 && inB m.hi 1 1200 && inB m.li 1 100 && inB m.ea 0 100 && inB m.la 0 100 && inB m.no 0 100 && inB m.mi 0 100)) := hid rfl
 have HSL : Hid (m.slow = m.li * m.tk * m.tk) := hid rfl
 obtain ⟨P, hP⟩ : ∃ P, P = plE m.pl := ⟨_, rfl⟩
 obtain ⟨T, hT⟩ : ∃ T, T = tmE m.tm := ⟨_, rfl⟩
 obtain ⟨E, hE⟩ : ∃ E, E = m.err := ⟨_, rfl⟩
 obtain ⟨R, hR⟩ : ∃ R, R = m.right := ⟨_, rfl⟩
 obtain ⟨S, hS⟩ : ∃ S, S = m.slow := ⟨_, rfl⟩
 rw [← hP, ← hE] at HE1
 rw [← hP, ← hT, ← hE] at HE2
 rw [← hP, ← hT, ← hR, ← hE] at HE3
 rw [← hP, ← hT, ← hR, ← hE, ← hS] at HE4
 rw [← hR] at HSZ HR
 rw [← hP] at HP
 rw [← hT] at HT
 rw [← hS] at HSL
 rw [← hE]
 clear E1 E2 E3 E4 hP hT hE hR hS
 obtain ⟨px, py, pz, tm, tk, lo, hi, li, ea, la, no, mi⟩ := m
 unfold TMod.v
 simp only at *
 by_cases hp : P = 0
 ·subst hp
  by_cases ht : T = 0
  ·subst ht
   cases R
   ·have HE : Hid (E = 2) := hid (by have := HE3.out; simpa using this)
    have HB : Hid (¬ (inB tk 1 20 = true ∧ inB lo 1 1200 = true ∧ inB hi 1 1200 = true ∧ inB li 1 100 = true ∧ inB ea 0 100 = true ∧ inB la 0 100 = true ∧ inB no 0 100 = true ∧ inB mi 0 100 = true)) := hid (by
     rintro ⟨b1, b2, b3, b4, b5, b6, b7, b8⟩
     have := HR.out
     rw [b1, b2, b3, b4, b5, b6, b7, b8] at this
     exact absurd this (by decide))
    go_enter Try.func18, Try.ntmps18
    go_wp2_with (first | (go_at_call 21; refine (HP.out _).mono ?_; rintro _ w1 ⟨rfl, hb1⟩; obtain ⟨hc1, hf1⟩ := bcell hb1; have hz1 := hb1.size; (try simp only [World.size_alloc, World.heap_drewN] at hz1); have hk1_0 : w.heap.size < w1.heap.size := (by omega); have q1_0_0 := hc1 (w.heap.size) 0 (by first | assumption | (simp; done) | (simp; omega)); (try simp at q1_0_0); have p1_0_0 := hf1 (w.heap.size) 0 (by first | assumption | (simp; done) | (simp; omega)); (try simp at p1_0_0); have q1_0_1 := hc1 (w.heap.size) 1 (by first | assumption | (simp; done) | (simp; omega)); (try simp at q1_0_1); have p1_0_1 := hf1 (w.heap.size) 1 (by first | assumption | (simp; done) | (simp; omega)); (try simp at p1_0_1); have q1_0_2 := hc1 (w.heap.size) 2 (by first | assumption | (simp; done) | (simp; omega)); (try simp at q1_0_2); have p1_0_2 := hf1 (w.heap.size) 2 (by first | assumption | (simp; done) | (simp; omega)); (try simp at p1_0_2); have q1_0_3 := hc1 (w.heap.size) 3 (by first | assumption | (simp; done) | (simp; omega)); (try simp at q1_0_3); have p1_0_3 := hf1 (w.heap.size) 3 (by first | assumption | (simp; done) | (simp; omega)); (try simp at p1_0_3); have q1_0_4 := hc1 (w.heap.size) 4 (by first | assumption | (simp; done) | (simp; omega)); (try simp at q1_0_4); have p1_0_4 := hf1 (w.heap.size) 4 (by first | assumption | (simp; done) | (simp; omega)); (try simp at p1_0_4); have q1_0_5 := hc1 (w.heap.size) 5 (by first | assumption | (simp; done) | (simp; omega)); (try simp at q1_0_5); have p1_0_5 := hf1 (w.heap.size) 5 (by first | assumption | (simp; done) | (simp; omega)); (try simp at p1_0_5); have q1_0_6 := hc1 (w.heap.size) 6 (by first | assumption | (simp; done) | (simp; omega)); (try simp at q1_0_6); have p1_0_6 := hf1 (w.heap.size) 6 (by first | assumption | (simp; done) | (simp; omega)); (try simp at p1_0_6); have q1_0_7 := hc1 (w.heap.size) 7 (by first | assumption | (simp; done) | (simp; omega)); (try simp at q1_0_7); have p1_0_7 := hf1 (w.heap.size) 7 (by first | assumption | (simp; done) | (simp; omega)); (try simp at p1_0_7); have q1_0_8 := hc1 (w.heap.size) 8 (by first | assumption | (simp; done) | (simp; omega)); (try simp at q1_0_8); have p1_0_8 := hf1 (w.heap.size) 8 (by first | assumption | (simp; done) | (simp; omega)); (try simp at p1_0_8); have q1_0_9 := hc1 (w.heap.size) 9 (by first | assumption | (simp; done) | (simp; omega)); (try simp at q1_0_9); have p1_0_9 := hf1 (w.heap.size) 9 (by first | assumption | (simp; done) | (simp; omega)); (try simp at p1_0_9); have q1_0_10 := hc1 (w.heap.size) 10 (by first | assumption | (simp; done) | (simp; omega)); (try simp at q1_0_10); have p1_0_10 := hf1 (w.heap.size) 10 (by first | assumption | (simp; done) | (simp; omega)); (try simp at p1_0_10); have q1_0_11 := hc1 (w.heap.size) 11 (by first | assumption | (simp; done) | (simp; omega)); (try simp at q1_0_11); have p1_0_11 := hf1 (w.heap.size) 11 (by first | assumption | (simp; done) | (simp; omega)); (try simp at p1_0_11)) | (go_at_call 45; refine (HT.out _).mono ?_; rintro _ _ ⟨rfl, rfl⟩) | (go_at_call 26; refine (base_Within _ _ _ _).mono ?_; rintro _ _ ⟨rfl, rfl⟩) | (go_at_call 80; refine (ref_isWeight _ _).mono ?_; rintro _ _ ⟨rfl, rfl⟩))
    all_goals (try simp only [Bool.not_eq_true', Bool.not_eq_false', Bool.not_eq_true, Bool.not_eq_false] at *)
    all_goals first
     | (exfalso; exact HB.out ⟨by assumption, by assumption, by assumption, by assumption, by assumption, by assumption, by assumption, by assumption⟩)
     | (go_ret; exact ⟨ret_int HE.out.symm, by exact BelowA⟩)
   ·have hall := HR.out.symm
    simp only [Bool.and_eq_true] at hall
    obtain ⟨⟨⟨⟨⟨⟨⟨b1, b2⟩, b3⟩, b4⟩, b5⟩, b6⟩, b7⟩, b8⟩ := hall
    obtain ⟨z1, z2, z3, z4⟩ := HSZ.out rfl
    have HEE : Hid (E = if lo ≤ hi then (if S < lo then 0 else 13) else 9) := hid (HE4.out rfl rfl rfl)
    obtain ⟨A, hA⟩ : ∃ A, A = li * tk := ⟨_, rfl⟩
    rw [← hA] at z1 z2 z3 z4 HSL
    obtain ⟨B, hB⟩ : ∃ B, B = A * tk := ⟨_, rfl⟩
    rw [← hB] at z3 z4 HSL
    have e1 : li * tk = A := hA.symm
    have e2 : A * tk = B := hB.symm
    clear hA hB
    obtain rfl : S = B := HSL.out
    by_cases g1 : lo ≤ hi
    ·have g1' : ¬ hi < lo := by omega
     by_cases g2 : S < lo
     ·have g2' : ¬ lo ≤ S := by omega
      have HV : Hid (E = 0) := hid (by rw [HEE.out, if_pos g1, if_pos g2])
      go_enter Try.func18, Try.ntmps18
      go_wp2_with (first | (go_at_call 21; refine (HP.out _).mono ?_; rintro _ w1 ⟨rfl, hb1⟩; obtain ⟨hc1, hf1⟩ := bcell hb1; have hz1 := hb1.size; (try simp only [World.size_alloc, World.heap_drewN] at hz1); have hk1_0 : w.heap.size < w1.heap.size := (by omega); have q1_0_0 := hc1 (w.heap.size) 0 (by first | assumption | (simp; done) | (simp; omega)); (try simp at q1_0_0); have p1_0_0 := hf1 (w.heap.size) 0 (by first | assumption | (simp; done) | (simp; omega)); (try simp at p1_0_0); have q1_0_1 := hc1 (w.heap.size) 1 (by first | assumption | (simp; done) | (simp; omega)); (try simp at q1_0_1); have p1_0_1 := hf1 (w.heap.size) 1 (by first | assumption | (simp; done) | (simp; omega)); (try simp at p1_0_1); have q1_0_2 := hc1 (w.heap.size) 2 (by first | assumption | (simp; done) | (simp; omega)); (try simp at q1_0_2); have p1_0_2 := hf1 (w.heap.size) 2 (by first | assumption | (simp; done) | (simp; omega)); (try simp at p1_0_2); have q1_0_3 := hc1 (w.heap.size) 3 (by first | assumption | (simp; done) | (simp; omega)); (try simp at q1_0_3); have p1_0_3 := hf1 (w.heap.size) 3 (by first | assumption | (simp; done) | (simp; omega)); (try simp at p1_0_3); have q1_0_4 := hc1 (w.heap.size) 4 (by first | assumption | (simp; done) | (simp; omega)); (try simp at q1_0_4); have p1_0_4 := hf1 (w.heap.size) 4 (by first | assumption | (simp; done) | (simp; omega)); (try simp at p1_0_4); have q1_0_5 := hc1 (w.heap.size) 5 (by first | assumption | (simp; done) | (simp; omega)); (try simp at q1_0_5); have p1_0_5 := hf1 (w.heap.size) 5 (by first | assumption | (simp; done) | (simp; omega)); (try simp at p1_0_5); have q1_0_6 := hc1 (w.heap.size) 6 (by first | assumption | (simp; done) | (simp; omega)); (try simp at q1_0_6); have p1_0_6 := hf1 (w.heap.size) 6 (by first | assumption | (simp; done) | (simp; omega)); (try simp at p1_0_6); have q1_0_7 := hc1 (w.heap.size) 7 (by first | assumption | (simp; done) | (simp; omega)); (try simp at q1_0_7); have p1_0_7 := hf1 (w.heap.size) 7 (by first | assumption | (simp; done) | (simp; omega)); (try simp at p1_0_7); have q1_0_8 := hc1 (w.heap.size) 8 (by first | assumption | (simp; done) | (simp; omega)); (try simp at q1_0_8); have p1_0_8 := hf1 (w.heap.size) 8 (by first | assumption | (simp; done) | (simp; omega)); (try simp at p1_0_8); have q1_0_9 := hc1 (w.heap.size) 9 (by first | assumption | (simp; done) | (simp; omega)); (try simp at q1_0_9); have p1_0_9 := hf1 (w.heap.size) 9 (by first | assumption | (simp; done) | (simp; omega)); (try simp at p1_0_9); have q1_0_10 := hc1 (w.heap.size) 10 (by first | assumption | (simp; done) | (simp; omega)); (try simp at q1_0_10); have p1_0_10 := hf1 (w.heap.size) 10 (by first | assumption | (simp; done) | (simp; omega)); (try simp at p1_0_10); have q1_0_11 := hc1 (w.heap.size) 11 (by first | assumption | (simp; done) | (simp; omega)); (try simp at q1_0_11); have p1_0_11 := hf1 (w.heap.size) 11 (by first | assumption | (simp; done) | (simp; omega)); (try simp at p1_0_11)) | (go_at_call 45; refine (HT.out _).mono ?_; rintro _ _ ⟨rfl, rfl⟩) | (go_at_call 26; refine (base_Within _ _ _ _).mono ?_; rintro _ _ ⟨rfl, rfl⟩) | (go_at_call 80; refine (ref_isWeight _ _).mono ?_; rintro _ _ ⟨rfl, rfl⟩))
      go_ret
      exact ⟨ret_int HV.out.symm, by exact BelowA⟩
     ·have g2' : lo ≤ S := by omega
      have HV : Hid (E = 13) := hid (by rw [HEE.out, if_pos g1, if_neg g2])
      go_enter Try.func18, Try.ntmps18
      go_wp2_with (first | (go_at_call 21; refine (HP.out _).mono ?_; rintro _ w1 ⟨rfl, hb1⟩; obtain ⟨hc1, hf1⟩ := bcell hb1; have hz1 := hb1.size; (try simp only [World.size_alloc, World.heap_drewN] at hz1); have hk1_0 : w.heap.size < w1.heap.size := (by omega); have q1_0_0 := hc1 (w.heap.size) 0 (by first | assumption | (simp; done) | (simp; omega)); (try simp at q1_0_0); have p1_0_0 := hf1 (w.heap.size) 0 (by first | assumption | (simp; done) | (simp; omega)); (try simp at p1_0_0); have q1_0_1 := hc1 (w.heap.size) 1 (by first | assumption | (simp; done) | (simp; omega)); (try simp at q1_0_1); have p1_0_1 := hf1 (w.heap.size) 1 (by first | assumption | (simp; done) | (simp; omega)); (try simp at p1_0_1); have q1_0_2 := hc1 (w.heap.size) 2 (by first | assumption | (simp; done) | (simp; omega)); (try simp at q1_0_2); have p1_0_2 := hf1 (w.heap.size) 2 (by first | assumption | (simp; done) | (simp; omega)); (try simp at p1_0_2); have q1_0_3 := hc1 (w.heap.size) 3 (by first | assumption | (simp; done) | (simp; omega)); (try simp at q1_0_3); have p1_0_3 := hf1 (w.heap.size) 3 (by first | assumption | (simp; done) | (simp; omega)); (try simp at p1_0_3); have q1_0_4 := hc1 (w.heap.size) 4 (by first | assumption | (simp; done) | (simp; omega)); (try simp at q1_0_4); have p1_0_4 := hf1 (w.heap.size) 4 (by first | assumption | (simp; done) | (simp; omega)); (try simp at p1_0_4); have q1_0_5 := hc1 (w.heap.size) 5 (by first | assumption | (simp; done) | (simp; omega)); (try simp at q1_0_5); have p1_0_5 := hf1 (w.heap.size) 5 (by first | assumption | (simp; done) | (simp; omega)); (try simp at p1_0_5); have q1_0_6 := hc1 (w.heap.size) 6 (by first | assumption | (simp; done) | (simp; omega)); (try simp at q1_0_6); have p1_0_6 := hf1 (w.heap.size) 6 (by first | assumption | (simp; done) | (simp; omega)); (try simp at p1_0_6); have q1_0_7 := hc1 (w.heap.size) 7 (by first | assumption | (simp; done) | (simp; omega)); (try simp at q1_0_7); have p1_0_7 := hf1 (w.heap.size) 7 (by first | assumption | (simp; done) | (simp; omega)); (try simp at p1_0_7); have q1_0_8 := hc1 (w.heap.size) 8 (by first | assumption | (simp; done) | (simp; omega)); (try simp at q1_0_8); have p1_0_8 := hf1 (w.heap.size) 8 (by first | assumption | (simp; done) | (simp; omega)); (try simp at p1_0_8); have q1_0_9 := hc1 (w.heap.size) 9 (by first | assumption | (simp; done) | (simp; omega)); (try simp at q1_0_9); have p1_0_9 := hf1 (w.heap.size) 9 (by first | assumption | (simp; done) | (simp; omega)); (try simp at p1_0_9); have q1_0_10 := hc1 (w.heap.size) 10 (by first | assumption | (simp; done) | (simp; omega)); (try simp at q1_0_10); have p1_0_10 := hf1 (w.heap.size) 10 (by first | assumption | (simp; done) | (simp; omega)); (try simp at p1_0_10); have q1_0_11 := hc1 (w.heap.size) 11 (by first | assumption | (simp; done) | (simp; omega)); (try simp at q1_0_11); have p1_0_11 := hf1 (w.heap.size) 11 (by first | assumption | (simp; done) | (simp; omega)); (try simp at p1_0_11)) | (go_at_call 45; refine (HT.out _).mono ?_; rintro _ _ ⟨rfl, rfl⟩) | (go_at_call 26; refine (base_Within _ _ _ _).mono ?_; rintro _ _ ⟨rfl, rfl⟩) | (go_at_call 80; refine (ref_isWeight _ _).mono ?_; rintro _ _ ⟨rfl, rfl⟩))
      go_ret
      exact ⟨ret_int HV.out.symm, by exact BelowA⟩
    ·have g1' : hi < lo := by omega
     have HV : Hid (E = 9) := hid (by rw [HEE.out, if_neg g1])
     go_enter Try.func18, Try.ntmps18
     go_wp2_with (first | (go_at_call 21; refine (HP.out _).mono ?_; rintro _ w1 ⟨rfl, hb1⟩; obtain ⟨hc1, hf1⟩ := bcell hb1; have hz1 := hb1.size; (try simp only [World.size_alloc, World.heap_drewN] at hz1); have hk1_0 : w.heap.size < w1.heap.size := (by omega); have q1_0_0 := hc1 (w.heap.size) 0 (by first | assumption | (simp; done) | (simp; omega)); (try simp at q1_0_0); have p1_0_0 := hf1 (w.heap.size) 0 (by first | assumption | (simp; done) | (simp; omega)); (try simp at p1_0_0); have q1_0_1 := hc1 (w.heap.size) 1 (by first | assumption | (simp; done) | (simp; omega)); (try simp at q1_0_1); have p1_0_1 := hf1 (w.heap.size) 1 (by first | assumption | (simp; done) | (simp; omega)); (try simp at p1_0_1); have q1_0_2 := hc1 (w.heap.size) 2 (by first | assumption | (simp; done) | (simp; omega)); (try simp at q1_0_2); have p1_0_2 := hf1 (w.heap.size) 2 (by first | assumption | (simp; done) | (simp; omega)); (try simp at p1_0_2); have q1_0_3 := hc1 (w.heap.size) 3 (by first | assumption | (simp; done) | (simp; omega)); (try simp at q1_0_3); have p1_0_3 := hf1 (w.heap.size) 3 (by first | assumption | (simp; done) | (simp; omega)); (try simp at p1_0_3); have q1_0_4 := hc1 (w.heap.size) 4 (by first | assumption | (simp; done) | (simp; omega)); (try simp at q1_0_4); have p1_0_4 := hf1 (w.heap.size) 4 (by first | assumption | (simp; done) | (simp; omega)); (try simp at p1_0_4); have q1_0_5 := hc1 (w.heap.size) 5 (by first | assumption | (simp; done) | (simp; omega)); (try simp at q1_0_5); have p1_0_5 := hf1 (w.heap.size) 5 (by first | assumption | (simp; done) | (simp; omega)); (try simp at p1_0_5); have q1_0_6 := hc1 (w.heap.size) 6 (by first | assumption | (simp; done) | (simp; omega)); (try simp at q1_0_6); have p1_0_6 := hf1 (w.heap.size) 6 (by first | assumption | (simp; done) | (simp; omega)); (try simp at p1_0_6); have q1_0_7 := hc1 (w.heap.size) 7 (by first | assumption | (simp; done) | (simp; omega)); (try simp at q1_0_7); have p1_0_7 := hf1 (w.heap.size) 7 (by first | assumption | (simp; done) | (simp; omega)); (try simp at p1_0_7); have q1_0_8 := hc1 (w.heap.size) 8 (by first | assumption | (simp; done) | (simp; omega)); (try simp at q1_0_8); have p1_0_8 := hf1 (w.heap.size) 8 (by first | assumption | (simp; done) | (simp; omega)); (try simp at p1_0_8); have q1_0_9 := hc1 (w.heap.size) 9 (by first | assumption | (simp; done) | (simp; omega)); (try simp at q1_0_9); have p1_0_9 := hf1 (w.heap.size) 9 (by first | assumption | (simp; done) | (simp; omega)); (try simp at p1_0_9); have q1_0_10 := hc1 (w.heap.size) 10 (by first | assumption | (simp; done) | (simp; omega)); (try simp at q1_0_10); have p1_0_10 := hf1 (w.heap.size) 10 (by first | assumption | (simp; done) | (simp; omega)); (try simp at p1_0_10); have q1_0_11 := hc1 (w.heap.size) 11 (by first | assumption | (simp; done) | (simp; omega)); (try simp at q1_0_11); have p1_0_11 := hf1 (w.heap.size) 11 (by first | assumption | (simp; done) | (simp; omega)); (try simp at p1_0_11)) | (go_at_call 45; refine (HT.out _).mono ?_; rintro _ _ ⟨rfl, rfl⟩) | (go_at_call 26; refine (base_Within _ _ _ _).mono ?_; rintro _ _ ⟨rfl, rfl⟩) | (go_at_call 80; refine (ref_isWeight _ _).mono ?_; rintro _ _ ⟨rfl, rfl⟩))
     go_ret
     exact ⟨ret_int HV.out.symm, by exact BelowA⟩
  ·have h1 : (T != 0) = true := by simpa using ht
   have HN : Hid (E = T) := hid (HE2.out rfl ht)
   clear ht
   go_enter Try.func18, Try.ntmps18
   go_wp2_with (first | (go_at_call 21; refine (HP.out _).mono ?_; rintro _ w1 ⟨rfl, hb1⟩; obtain ⟨hc1, hf1⟩ := bcell hb1; have hz1 := hb1.size; (try simp only [World.size_alloc, World.heap_drewN] at hz1); have hk1_0 : w.heap.size < w1.heap.size := (by omega); have q1_0_0 := hc1 (w.heap.size) 0 (by first | assumption | (simp; done) | (simp; omega)); (try simp at q1_0_0); have p1_0_0 := hf1 (w.heap.size) 0 (by first | assumption | (simp; done) | (simp; omega)); (try simp at p1_0_0); have q1_0_1 := hc1 (w.heap.size) 1 (by first | assumption | (simp; done) | (simp; omega)); (try simp at q1_0_1); have p1_0_1 := hf1 (w.heap.size) 1 (by first | assumption | (simp; done) | (simp; omega)); (try simp at p1_0_1); have q1_0_2 := hc1 (w.heap.size) 2 (by first | assumption | (simp; done) | (simp; omega)); (try simp at q1_0_2); have p1_0_2 := hf1 (w.heap.size) 2 (by first | assumption | (simp; done) | (simp; omega)); (try simp at p1_0_2); have q1_0_3 := hc1 (w.heap.size) 3 (by first | assumption | (simp; done) | (simp; omega)); (try simp at q1_0_3); have p1_0_3 := hf1 (w.heap.size) 3 (by first | assumption | (simp; done) | (simp; omega)); (try simp at p1_0_3); have q1_0_4 := hc1 (w.heap.size) 4 (by first | assumption | (simp; done) | (simp; omega)); (try simp at q1_0_4); have p1_0_4 := hf1 (w.heap.size) 4 (by first | assumption | (simp; done) | (simp; omega)); (try simp at p1_0_4); have q1_0_5 := hc1 (w.heap.size) 5 (by first | assumption | (simp; done) | (simp; omega)); (try simp at q1_0_5); have p1_0_5 := hf1 (w.heap.size) 5 (by first | assumption | (simp; done) | (simp; omega)); (try simp at p1_0_5); have q1_0_6 := hc1 (w.heap.size) 6 (by first | assumption | (simp; done) | (simp; omega)); (try simp at q1_0_6); have p1_0_6 := hf1 (w.heap.size) 6 (by first | assumption | (simp; done) | (simp; omega)); (try simp at p1_0_6); have q1_0_7 := hc1 (w.heap.size) 7 (by first | assumption | (simp; done) | (simp; omega)); (try simp at q1_0_7); have p1_0_7 := hf1 (w.heap.size) 7 (by first | assumption | (simp; done) | (simp; omega)); (try simp at p1_0_7); have q1_0_8 := hc1 (w.heap.size) 8 (by first | assumption | (simp; done) | (simp; omega)); (try simp at q1_0_8); have p1_0_8 := hf1 (w.heap.size) 8 (by first | assumption | (simp; done) | (simp; omega)); (try simp at p1_0_8); have q1_0_9 := hc1 (w.heap.size) 9 (by first | assumption | (simp; done) | (simp; omega)); (try simp at q1_0_9); have p1_0_9 := hf1 (w.heap.size) 9 (by first | assumption | (simp; done) | (simp; omega)); (try simp at p1_0_9); have q1_0_10 := hc1 (w.heap.size) 10 (by first | assumption | (simp; done) | (simp; omega)); (try simp at q1_0_10); have p1_0_10 := hf1 (w.heap.size) 10 (by first | assumption | (simp; done) | (simp; omega)); (try simp at p1_0_10); have q1_0_11 := hc1 (w.heap.size) 11 (by first | assumption | (simp; done) | (simp; omega)); (try simp at q1_0_11); have p1_0_11 := hf1 (w.heap.size) 11 (by first | assumption | (simp; done) | (simp; omega)); (try simp at p1_0_11)) | (go_at_call 45; refine (HT.out _).mono ?_; rintro _ _ ⟨rfl, rfl⟩))
   go_ret
   exact ⟨ret_int HN.out.symm, by exact BelowA⟩
 ·have h1 : (P != 0) = true := by simpa using hp
  have HN : Hid (E = P) := hid (HE1.out hp)
  clear hp
  go_enter Try.func18, Try.ntmps18
  go_wp2_with (first | (go_at_call 21; refine (HP.out _).mono ?_; rintro _ w1 ⟨rfl, hb1⟩; obtain ⟨hc1, hf1⟩ := bcell hb1; have hz1 := hb1.size; (try simp only [World.size_alloc, World.heap_drewN] at hz1); have hk1_0 : w.heap.size < w1.heap.size := (by omega); have q1_0_0 := hc1 (w.heap.size) 0 (by first | assumption | (simp; done) | (simp; omega)); (try simp at q1_0_0); have p1_0_0 := hf1 (w.heap.size) 0 (by first | assumption | (simp; done) | (simp; omega)); (try simp at p1_0_0); have q1_0_1 := hc1 (w.heap.size) 1 (by first | assumption | (simp; done) | (simp; omega)); (try simp at q1_0_1); have p1_0_1 := hf1 (w.heap.size) 1 (by first | assumption | (simp; done) | (simp; omega)); (try simp at p1_0_1); have q1_0_2 := hc1 (w.heap.size) 2 (by first | assumption | (simp; done) | (simp; omega)); (try simp at q1_0_2); have p1_0_2 := hf1 (w.heap.size) 2 (by first | assumption | (simp; done) | (simp; omega)); (try simp at p1_0_2); have q1_0_3 := hc1 (w.heap.size) 3 (by first | assumption | (simp; done) | (simp; omega)); (try simp at q1_0_3); have p1_0_3 := hf1 (w.heap.size) 3 (by first | assumption | (simp; done) | (simp; omega)); (try simp at p1_0_3); have q1_0_4 := hc1 (w.heap.size) 4 (by first | assumption | (simp; done) | (simp; omega)); (try simp at q1_0_4); have p1_0_4 := hf1 (w.heap.size) 4 (by first | assumption | (simp; done) | (simp; omega)); (try simp at p1_0_4); have q1_0_5 := hc1 (w.heap.size) 5 (by first | assumption | (simp; done) | (simp; omega)); (try simp at q1_0_5); have p1_0_5 := hf1 (w.heap.size) 5 (by first | assumption | (simp; done) | (simp; omega)); (try simp at p1_0_5); have q1_0_6 := hc1 (w.heap.size) 6 (by first | assumption | (simp; done) | (simp; omega)); (try simp at q1_0_6); have p1_0_6 := hf1 (w.heap.size) 6 (by first | assumption | (simp; done) | (simp; omega)); (try simp at p1_0_6); have q1_0_7 := hc1 (w.heap.size) 7 (by first | assumption | (simp; done) | (simp; omega)); (try simp at q1_0_7); have p1_0_7 := hf1 (w.heap.size) 7 (by first | assumption | (simp; done) | (simp; omega)); (try simp at p1_0_7); have q1_0_8 := hc1 (w.heap.size) 8 (by first | assumption | (simp; done) | (simp; omega)); (try simp at q1_0_8); have p1_0_8 := hf1 (w.heap.size) 8 (by first | assumption | (simp; done) | (simp; omega)); (try simp at p1_0_8); have q1_0_9 := hc1 (w.heap.size) 9 (by first | assumption | (simp; done) | (simp; omega)); (try simp at q1_0_9); have p1_0_9 := hf1 (w.heap.size) 9 (by first | assumption | (simp; done) | (simp; omega)); (try simp at p1_0_9); have q1_0_10 := hc1 (w.heap.size) 10 (by first | assumption | (simp; done) | (simp; omega)); (try simp at q1_0_10); have p1_0_10 := hf1 (w.heap.size) 10 (by first | assumption | (simp; done) | (simp; omega)); (try simp at p1_0_10); have q1_0_11 := hc1 (w.heap.size) 11 (by first | assumption | (simp; done) | (simp; omega)); (try simp at q1_0_11); have p1_0_11 := hf1 (w.heap.size) 11 (by first | assumption | (simp; done) | (simp; omega)); (try simp at p1_0_11)) | (go_at_call 45; refine (HT.out _).mono ?_; rintro _ _ ⟨rfl, rfl⟩))
  go_ret
  exact ⟨ret_int HN.out.symm, by exact BelowA⟩
end Go.Proofs.Ytlmdmpjfehpjeaa
set_option linter.unusedVariables false
set_option linter.unusedSimpArgs false
namespace Go.Proofs.Ytlmdmpjfehpjeaa
open Go.RowKit
def V3.at (a : V3) (k : Nat) : Int := if k = 0 then a.x else if k = 1 then a.y else a.z
theorem at_rg {a : V3} {A : Int} (h : a.inS A = true) (k : Nat) : -A ≤ a.at k ∧ a.at k ≤ A := by
 obtain ⟨h1, h2, h3⟩ := inS_iff.1 h
 unfold V3.at
 split
 ·exact h1
 ·split
  ·exact h2
  ·exact h3
theorem way_at (m : TMod) (s p : V3) (t : Int) {k : Nat} (hk : k < 3) : (m.way s p t).at k = m.tk * (p.at k - m.pl.at k) - (t - m.tm) * s.at k := by
 match k, hk with
 | 0, _ => rfl
 | 1, _ => rfl
 | 2, _ => rfl
theorem way_nums {m : TMod} {s p : V3} {t : Int} (ho : m.Ok) (hs : s.inS 20 = true) (hp : p.inS 1000 = true) (ht : -1000101 ≤ t ∧ t ≤ 1000100) (k : Nat) :
  (-2000 ≤ p.at k - m.pl.at k ∧ p.at k - m.pl.at k ≤ 2000) ∧ (-40000 ≤ m.tk * (p.at k - m.pl.at k) ∧ m.tk * (p.at k - m.pl.at k) ≤ 40000) ∧ (-1010101 ≤ t - m.tm ∧ t - m.tm ≤ 1010101) ∧ (-20202020 ≤ (t - m.tm) * s.at k ∧ (t - m.tm) * s.at k ≤ 20202020) := by
 have hpl : m.pl.inS 1000 = true := inS_iff.2 ⟨ho.px, ho.py, ho.pz⟩
 have h1 := at_rg hpl k
 have h2 := at_rg hp k
 have h3 := at_rg hs k
 have h4 := ho.tm
 have h5 := ho.tk
 exact ⟨by omega, mul_rg (A := 20) (B := 2000) (by omega) (by omega) (by decide), by omega, mul_rg (A := 1010101) (B := 20) (by omega) h3 (by decide)⟩
theorem reach_nums {m : TMod} {s p : V3} {t : Int} (ho : m.Ok) (hs : s.inS 20 = true) (hpm : m.permit s) (hp : p.inS 1000 = true) (ht : -1000101 ≤ t ∧ t ≤ 1000100) :
  s.sm s ∧ (m.way s p t).sm s ∧ (m.way s p t).sm (m.way s p t) ∧ (1 ≤ s.dot s ∧ s.dot s ≤ 1200) ∧ (1 ≤ s.dot s - m.slow ∧ s.dot s - m.slow ≤ 1200) ∧
  (-1214521200 ≤ (m.way s p t).dot s ∧ (m.way s p t).dot s ≤ 1214521200) ∧ (0 ≤ (m.way s p t).dot (m.way s p t) ∧ (m.way s p t).dot (m.way s p t) ≤ 1229218121041200) ∧
  (0 ≤ (m.way s p t).dot s * (m.way s p t).dot s ∧ (m.way s p t).dot s * (m.way s p t).dot s ≤ 2000000000000000000) ∧
  (0 ≤ (s.dot s - m.slow) * (m.way s p t).dot (m.way s p t) ∧ (s.dot s - m.slow) * (m.way s p t).dot (m.way s p t) ≤ 2000000000000000000) := by
 have hw := way_sz ho hs hp ht
 have h1 := dot_sz hs hs (by omega) (by omega)
 have h2 := dot_sz hw hs (by omega) (by omega)
 have h3 := dot_sz hw hw (by omega) (by omega)
 have hS := hpm.1
 have hS2 := hpm.2
 have hl := ho.lo
 have hh := ho.hi
 have hsl := ho.slo
 have hsp := ho.slp
 have hn := V3.dot_self (m.way s p t)
 have hb : -1214521200 ≤ (m.way s p t).dot s ∧ (m.way s p t).dot s ≤ 1214521200 := by unfold V3.dot; omega
 have hc : (m.way s p t).dot (m.way s p t) ≤ 1229218121041200 := by unfold V3.dot; omega
 have hbb := mul_rg hb hb (C := 1475061745249440000) (by decide)
 have hac := mul_rg (x := s.dot s - m.slow) (y := (m.way s p t).dot (m.way s p t)) (A := 1200) (B := 1229218121041200) (C := 1475061745249440000) (by omega) (by omega) (by decide)
 have hbn := sq_nn ((m.way s p t).dot s)
 have han := Int.mul_nonneg (show 0 ≤ s.dot s - m.slow by omega) hn
 refine ⟨?_, ?_, ?_, by omega, by omega, hb, ⟨hn, hc⟩, ⟨hbn, by omega⟩, ⟨han, by omega⟩⟩
 all_goals (unfold V3.sm; omega)
def At3 (w : World) (b : Nat) (a : V3) : Prop := ∀ k, k < 3 → w.cell? ⟨b, k, none⟩ = some (.int .i64 (a.at k))
theorem At3.below {w w' : World} {B b : Nat} {a : V3} (h : At3 w b a) (hb : Below B w w') (hlt : b < B) : At3 w' b a := fun k hk => (hb.cell (p := ⟨b, k, none⟩) hlt).trans (h k hk)
end Go.Proofs.Ytlmdmpjfehpjeaa
set_option linter.unusedVariables false
set_option linter.unusedSimpArgs false
namespace Go.Proofs.Ytlmdmpjfehpjeaa
open Go.RowKit
theorem three_cells {w : World} {g : Nat} {x y z : Value} {t : TypeId} (h : w.heap[g]? = some (.cells #[x, y, z] t (0, 0))) :
  w.cell? ⟨g, 0, none⟩ = some x ∧ w.cell? ⟨g, 1, none⟩ = some y ∧ w.cell? ⟨g, 2, none⟩ = some z ∧ w.frozen? ⟨g, 0, none⟩ = false ∧ w.frozen? ⟨g, 1, none⟩ = false ∧ w.frozen? ⟨g, 2, none⟩ = false ∧ g < w.heap.size := by
 refine ⟨?_, ?_, ?_, frozen_of_row w g 0 _ t h, frozen_of_row w g 1 _ t h, frozen_of_row w g 2 _ t h, (Array.getElem?_eq_some_iff.1 h).1⟩
 ·rw [cell_of_row w g 0 _ t (0, 0) h]; rfl
 ·rw [cell_of_row w g 1 _ t (0, 0) h]; rfl
 ·rw [cell_of_row w g 2 _ t (0, 0) h]; rfl
end Go.Proofs.Ytlmdmpjfehpjeaa
set_option linter.unusedVariables false
set_option linter.unusedSimpArgs false
namespace Go.Proofs.Ytlmdmpjfehpjeaa
open Go.RowKit
theorem al3 (w : World) (a b c : Array Value) (t s r : TypeId) : ∀ W, W = ((w.alloc (.cells a t)).alloc (.cells b s)).alloc (.cells c r) →
  W.heap[w.heap.size]? = some (.cells a t (0, 0)) ∧ W.heap[w.heap.size + 1]? = some (.cells b s (0, 0)) ∧ W.heap[w.heap.size + 1 + 1]? = some (.cells c r (0, 0)) := by
 rintro W rfl
 refine ⟨?_, ?_, ?_⟩
 ·rw [Below.heap_alloc _ _ _ (by simp <;> omega), Below.heap_alloc _ _ _ (by simp), heap_alloc_new]
 ·rw [Below.heap_alloc _ _ _ (by simp)]
  have := heap_alloc_new (w.alloc (.cells a t)) (.cells b s)
  simpa using this
 ·have := heap_alloc_new ((w.alloc (.cells a t)).alloc (.cells b s)) (.cells c r)
  simpa using this
end Go.Proofs.Ytlmdmpjfehpjeaa
set_option linter.unusedVariables false
set_option linter.unusedSimpArgs false
namespace Go.Proofs.Ytlmdmpjfehpjeaa
open Go.RowKit
theorem left_steps {m : TMod} {s p : V3} {t : Int} (ho : m.Ok) (hs : s.inS 20 = true) (hp : p.inS 1000 = true) (ht : -1000101 ≤ t ∧ t ≤ 1000100) {k : Nat} (hk : k < 3) :
  ∃ T P, IntKind.i64.wrap (m.tk * (p.at k - m.pl.at k)) = T ∧ IntKind.i64.wrap ((t - m.tm) * s.at k) = P ∧ IntKind.i64.wrap (T - P) = (m.way s p t).at k := by
 obtain ⟨h1, h2, h3, h4⟩ := way_nums ho hs hp ht k
 refine ⟨m.tk * (p.at k - m.pl.at k), (t - m.tm) * s.at k, IntWalk.i64_in _ (by omega), IntWalk.i64_in _ (by omega), ?_⟩
 rw [way_at m s p t hk]
 exact IntWalk.i64_in _ (by omega)
theorem row_drew {w w1 : World} {a : Array Value} {t : TypeId} (hb : Below (w.alloc (.cells a t)).drew.heap.size (w.alloc (.cells a t)).drew w1) : w1.heap[w.heap.size]? = some (.cells a t (0, 0)) := (hb.block _ (by simp)).trans (heap_alloc_new w _)
theorem row_k {Q : Prop} {w w1 : World} {a : Array Value} {t : TypeId} (hb : Below (w.alloc (.cells a t)).drew.heap.size (w.alloc (.cells a t)).drew w1) (k : w1.heap[w.heap.size]? = some (.cells a t (0, 0)) → Q) : Q := k (row_drew hb)
set_option maxRecDepth 100000 in
set_option maxHeartbeats 8000000 in
theorem track_reached (m : TMod) (s p : V3) (t : Int) (w : World) (ho : m.Ok) (hs : s.inS 20 = true) (hpm : m.permit s) (hp : p.inS 1000 = true) (ht : -1000101 ≤ t ∧ t ≤ 1000100) :
    Calls Try.prog 75 #[m.v, s.v, .agg #[.int .i64 p.x, .int .i64 p.y, .int .i64 p.z, .int .i64 t]] w fun e w' => e = .returned (.bool (m.reached s p t)) ∧ Below w.heap.size w w' := by
  obtain ⟨n1, n2, n3, nS, na, nb, nc, nbb, nac⟩ := reach_nums ho hs hpm hp ht
  have hpl : m.pl.inS 100000000 = true := inS_iff.2 (by have h1 := ho.px; have h2 := ho.py; have h3 := ho.pz; unfold TMod.pl; simp only; omega)
  have hpp : p.inS 100000000 = true := inS_iff.2 (by have := inS_iff.1 hp; omega)
  have hat : IntKind.i64.wrap (t - m.tm) = t - m.tm := IntWalk.i64_in _ (by have := ho.tm; omega)
  have HS0 := hid (left_steps ho hs hp ht (k := 0) (by omega))
  have HS1 := hid (left_steps ho hs hp ht (k := 1) (by omega))
  have HS2 := hid (left_steps ho hs hp ht (k := 2) (by omega))
  have HMI : Hid (∀ W, Calls Try.prog 77 #[p.v, m.pl.v] W fun e w' => e = .returned (V3.v ⟨p.x - m.px, p.y - m.py, p.z - m.pz⟩) ∧ Below W.heap.size W w') := hid (fun W => track_minus p m.pl W hpp hpl)
  have HSL : Hid (∀ W, Calls Try.prog 121 #[m.v] W fun e w' => e = .returned (.int .i64 m.slow) ∧ Below W.heap.size W w') := hid (fun W => track_slow m W ho)
  have HD1 : Hid (∀ W, Calls Try.prog 78 #[s.v, s.v] W fun e w' => e = .returned (.int .i64 (s.dot s)) ∧ Below W.heap.size W w') := hid (fun W => track_dot s s W n1)
  have HD2 : Hid (∀ W, Calls Try.prog 78 #[(m.way s p t).v, s.v] W fun e w' => e = .returned (.int .i64 ((m.way s p t).dot s)) ∧ Below W.heap.size W w') := hid (fun W => track_dot _ s W n2)
  have HD3 : Hid (∀ W, Calls Try.prog 78 #[(m.way s p t).v, (m.way s p t).v] W fun e w' => e = .returned (.int .i64 ((m.way s p t).dot (m.way s p t))) ∧ Below W.heap.size W w') := hid (fun W => track_dot _ _ W n3)
  have HE : Hid (m.reached s p t = reachB (s.dot s - m.slow) ((m.way s p t).dot s) ((m.way s p t).dot (m.way s p t))) := hid rfl
  have k3 : IntKind.i64.wrap (s.dot s - m.slow) = s.dot s - m.slow := IntWalk.i64_in _ (by omega)
  have k4 : IntKind.i64.wrap ((m.way s p t).dot s * (m.way s p t).dot s) = (m.way s p t).dot s * (m.way s p t).dot s := IntWalk.i64_in _ (by omega)
  have k5 : IntKind.i64.wrap ((s.dot s - m.slow) * (m.way s p t).dot (m.way s p t)) = (s.dot s - m.slow) * (m.way s p t).dot (m.way s p t) := IntWalk.i64_in _ (by omega)
  generalize m.reached s p t = R at HE ⊢
  generalize m.way s p t = V at HS0 HS1 HS2 HD2 HD3 HE nb nc nbb nac k4 k5
  generalize s.dot s = S at HD1 HE nS na nac k3 k5
  generalize m.slow = L at HE na nac HSL k3 k5
  generalize V.dot s = B at HD2 HE nb nbb k4
  generalize V.dot V = C at HD3 HE nc nac k5
  generalize hF : S - L = F at HE na nac k3 k5
  have k3' : IntKind.i64.wrap (S - L) = F := by rw [hF]; exact k3
  clear k3 hF
  obtain ⟨BB, hBB⟩ : ∃ BB, BB = B * B := ⟨_, rfl⟩
  rw [← hBB] at k4 nbb
  have hBB' : B * B = BB := hBB.symm
  obtain ⟨FC, hFC⟩ : ∃ FC, FC = F * C := ⟨_, rfl⟩
  rw [← hFC] at k5 nac
  have hFC' : F * C = FC := hFC.symm
  have HER : Hid (R = (decide (C = 0) || (decide (B ≤ 0) && decide (FC ≤ BB)))) := hid (by rw [HE.out, ← hFC', ← hBB']; rfl)
  obtain ⟨px, py, pz, tm, tk, lo, hi, li, ea, la, no, mi⟩ := m
  obtain ⟨sx, sy, sz⟩ := s
  obtain ⟨qx, qy, qz⟩ := p
  obtain ⟨vx, vy, vz⟩ := V
  simp only [V3.at, TMod.pl, if_true, if_false, Nat.one_ne_zero, show ¬ ((2:Nat) = 0) from by decide, show ¬ ((2:Nat) = 1) from by decide] at HS0 HS1 HS2 HMI
  unfold TMod.v V3.v at *
  simp only at *
  generalize qx - px = dx at HS0 HMI
  generalize qy - py = dy at HS1 HMI
  generalize qz - pz = dz at HS2 HMI
  generalize hA : t - tm = A at HS0 HS1 HS2 hat
  have hat' : IntKind.i64.wrap (t - tm) = A := by rw [hA]; exact hat
  clear hBB hFC HE ho hs hpm hp ht n1 n2 n3 hpl hpp hA hat
  obtain ⟨W0, hW0⟩ : ∃ W0, W0 = ((w.alloc (.cells #[.int .i64 px, .int .i64 py, .int .i64 pz, .int .i64 tm, .int .i64 tk, .int .i64 lo, .int .i64 hi, .int .i64 li, .int .i64 ea, .int .i64 la, .int .i64 no, .int .i64 mi] 134)).alloc (.cells #[.int .i64 sx, .int .i64 sy, .int .i64 sz] 135)).alloc (.cells #[.int .i64 qx, .int .i64 qy, .int .i64 qz, .int .i64 t] 28) := ⟨_, rfl⟩
  have hbW0 : Below w.heap.size w W0 := by rw [hW0]; exact BelowA
  obtain ⟨q0, q1, q2⟩ := al3 w _ _ _ _ _ _ W0 hW0
  have l0 := (Array.getElem?_eq_some_iff.1 q0).1
  have l1 := (Array.getElem?_eq_some_iff.1 q1).1
  have l2 := (Array.getElem?_eq_some_iff.1 q2).1
  have H0 := hid q0
  have H1 := hid q1
  have c0 : W0.cell? ⟨w.heap.size, 0, none⟩ = some (.int .i64 px) := by rw [cell_of_row W0 _ 0 _ _ (0, 0) q0]; rfl
  have c1 : W0.cell? ⟨w.heap.size, 1, none⟩ = some (.int .i64 py) := by rw [cell_of_row W0 _ 1 _ _ (0, 0) q0]; rfl
  have c2 : W0.cell? ⟨w.heap.size, 2, none⟩ = some (.int .i64 pz) := by rw [cell_of_row W0 _ 2 _ _ (0, 0) q0]; rfl
  have c3 : W0.cell? ⟨w.heap.size, 3, none⟩ = some (.int .i64 tm) := by rw [cell_of_row W0 _ 3 _ _ (0, 0) q0]; rfl
  have e0 : W0.cell? ⟨w.heap.size + 1 + 1, 0, none⟩ = some (.int .i64 qx) := by rw [cell_of_row W0 _ 0 _ _ (0, 0) q2]; rfl
  have e1 : W0.cell? ⟨w.heap.size + 1 + 1, 1, none⟩ = some (.int .i64 qy) := by rw [cell_of_row W0 _ 1 _ _ (0, 0) q2]; rfl
  have e2 : W0.cell? ⟨w.heap.size + 1 + 1, 2, none⟩ = some (.int .i64 qz) := by rw [cell_of_row W0 _ 2 _ _ (0, 0) q2]; rfl
  have e3 : W0.cell? ⟨w.heap.size + 1 + 1, 3, none⟩ = some (.int .i64 t) := by rw [cell_of_row W0 _ 3 _ _ (0, 0) q2]; rfl
  clear q0 q1 q2
  have GB : Hid ((C == 0) = decide (C = 0)) := hid (by by_cases h : C = 0 <;> simp [h])
  go_enter Try.func75, Try.ntmps75
  go_wp2_with fail
  rw [← hW0]
  clear hW0
  refine wp_mixC (fun wc => Below (W0.heap.size) W0 wc) 14 [.q [0, 1, 2, 3, 4, 6, 7, 8, 9, 10, 11], .p 5 12, .f [13]] [.q [14]] (by kernel_rfl) (by kernel_rfl) ((Below.refl _ _).drew) ?_
  intro Q' hQ'
  (rw [wpMixC]; simp only [pick, List.drop_succ_cons, List.drop_zero, List.head?_cons, Option.toList_some, List.cons_append, List.nil_append])
  (repeat (first | go_big_quiet_skip | (go_big_quiet_want; refine quiet_simple rfl ?_; go_big_quiet_op; go_big_quiet_on) | (go_big_quiet_want; refine quiet_cellB (ty := 3) rfl rfl (by kernel_rfl) (by assumption) (by first | omega | (simp; omega)) ?_; simp only [Act.put, List.setIfInBounds_toArray, List.set_cons_succ, List.set_cons_zero]; go_big_quiet_on) | (go_big_quiet_want; refine quiet_agg3B (ty := 22) rfl rfl (by kernel_rfl) (by assumption) (by assumption) (by assumption) (by first | omega | (simp; omega)) ?_; simp only [Act.put, List.setIfInBounds_toArray, List.set_cons_succ, List.set_cons_zero]; go_big_quiet_on)))
  (try refine wpQuiet_nil ?_)
  (rw [wpMixC]; simp only [pick, List.drop_succ_cons, List.drop_zero, List.head?_cons, Option.toList_some, List.cons_append, List.nil_append])
  (refine ⟨?_, ?_⟩)
  all_goals (rw [wpSteps]; go_wp2_with ((go_at_call 77; refine (HMI.out _).mono ?_; rintro _ w1 ⟨rfl, hb1⟩; (try (refine row_k hb1 (fun hrow => ?_); obtain ⟨f0, f1, f2, ff0, ff1, ff2, hlf⟩ := three_cells hrow)))); rw [contF]; refine ⟨?_, ?_⟩; (next => exact BelowA))
  all_goals (rw [wpSteps]; go_wp2_with ((go_at_call 77; refine (HMI.out _).mono ?_; rintro _ w1 ⟨rfl, hb1⟩; (try (refine row_k hb1 (fun hrow => ?_); obtain ⟨f0, f1, f2, ff0, ff1, ff2, hlf⟩ := three_cells hrow)))); rw [contF]; refine ⟨?_, ?_⟩; (next => exact BelowA))
  all_goals (rw [wpSteps])
  all_goals (rw [wpMixC]; simp only [pick, List.drop_succ_cons, List.drop_zero, List.head?_cons, Option.toList_some, List.cons_append, List.nil_append])
  all_goals (rw [wpSteps]; go_wp2_with (fail); rw [contF]; refine ⟨?_, ?_⟩; (next => exact BelowA))
  all_goals (rw [wpSteps])
  all_goals (rw [wpMixC])
  all_goals (rw [wpMix]; simp only [pick, List.drop_succ_cons, List.drop_zero, List.head?_cons, Option.toList_some, List.cons_append, List.nil_append])
  all_goals (repeat (first | (go_big_quiet_step (fail)) | (quiet_step (fail))))
  all_goals (try refine wpQuiet_nil ?_)
  all_goals (rw [wpMix])
  all_goals (refine hQ' _ _ ?_)
  all_goals first
    | (have hb2 : Below W0.heap.size W0 w1 := by exact BelowA
       obtain ⟨W, hW⟩ : ∃ W, W = w1.alloc (.cells #[.int .i64 dx, .int .i64 dy, .int .i64 dz] 135) := ⟨_, rfl⟩
       have hrow : W.heap[w1.heap.size]? = some (.cells #[.int .i64 dx, .int .i64 dy, .int .i64 dz] 135 (0, 0)) := by rw [hW]; exact heap_alloc_new w1 _
       have hgg : W0.heap.size ≤ w1.heap.size := hb2.size
       have hbb : Below W0.heap.size W0 W := by rw [hW]; exact BelowA
       rw [← hW]
       generalize w1.heap.size = g at hrow hgg ⊢
       clear hW hb1 hb2)
    | (have hb2 : Below W0.heap.size W0 w1 := by exact BelowA
       obtain ⟨W, hW⟩ : ∃ W, W = ((w1.setCell ⟨W0.heap.size, 0, none⟩ (.int .i64 dx)).setCell ⟨W0.heap.size, 1, none⟩ (.int .i64 dy)).setCell ⟨W0.heap.size, 2, none⟩ (.int .i64 dz) := ⟨_, rfl⟩
       have hrow : W.heap[W0.heap.size]? = some (.cells #[.int .i64 dx, .int .i64 dy, .int .i64 dz] 135 (0, 0)) := by rw [hW]; exact heap_setCell_same _ _ 2 _ _ (.int .i64 dz) (heap_setCell_same _ _ 1 _ _ (.int .i64 dy) (heap_setCell_same _ _ 0 _ _ (.int .i64 dx) hrow))
       have hbb : Below W0.heap.size W0 W := by rw [hW]; exact BelowA
       rw [← hW]
       obtain ⟨g, hg⟩ : ∃ g, g = W0.heap.size := ⟨_, rfl⟩
       have hgg : W0.heap.size ≤ g := by omega
       rw [← hg] at hrow ⊢
       clear hW hg hb1 hb2 f0 f1 f2 ff0 ff1 ff2 hlf)
  all_goals
    have hlg := (Array.getElem?_eq_some_iff.1 hrow).1
    have hzWW : W0.heap.size ≤ W.heap.size := hbb.size
    obtain ⟨W2, hW2⟩ : ∃ W2, W2 = W.alloc (.cells #[.int .i64 0, .int .i64 0, .int .i64 0] 135) := ⟨_, rfl⟩
    have hb2 : Below W.heap.size W W2 := by rw [hW2]; exact BelowA
    have R9 : Hid (W2.heap[W.heap.size]? = some (.cells #[.int .i64 0, .int .i64 0, .int .i64 0] 135 (0, 0))) := hid (by rw [hW2]; exact heap_alloc_new W _)
    have R0 := hid ((hb2.block w.heap.size (by omega)).trans ((hbb.block w.heap.size l0).trans H0.out))
    have R1 := hid ((hb2.block (w.heap.size + 1) (by omega)).trans ((hbb.block (w.heap.size + 1) l1).trans H1.out))
    have RG := hid ((hb2.block g hlg).trans hrow)
    have hbx : Below w.heap.size w W2 := (hbW0.trans (hbb.mono (by omega))).trans (hb2.mono (by omega))
    go_wp2_with fail
    rw [← hW2]
    clear hW2 hrow
    go_loopw [25] (fun i wr => ∃ (k : Nat) (o0 o1 o2 : Int), k ≤ 3 ∧ i = .int .i64 k ∧ Hid (wr.heap[W.heap.size]? = some (.cells #[.int .i64 o0, .int .i64 o1, .int .i64 o2] 135 (0, 0))) ∧ Hid ((0 < k → o0 = vx) ∧ (1 < k → o1 = vy) ∧ (2 < k → o2 = vz)) ∧ Below W.heap.size W2 wr) (fun i _ => 3 - (intOf i).toNat)
    case atStart => exact ⟨0, 0, 0, 0, by omega, rfl, R9, hid ⟨by omega, by omega, by omega⟩, Below.refl _ _⟩
    case round =>
      obtain ⟨k, o0, o1, o2, hk, rfl, HR, HO, hbel⟩ := hrel
      have hzw := hbel.size
      have r0 := (hbel.block w.heap.size (by omega)).trans R0.out
      have r1 := (hbel.block (w.heap.size + 1) (by omega)).trans R1.out
      have rg := (hbel.block g hlg).trans RG.out
      have hby : Below w.heap.size w wr := hbx.trans (hbel.mono (by omega))
      have a4 : wr.cell? ⟨w.heap.size, 4, none⟩ = some (.int .i64 tk) := by rw [cell_of_row wr _ 4 _ _ (0, 0) r0]; rfl
      obtain ⟨b0, b1, b2, fb0, fb1, fb2, hl1⟩ := three_cells r1
      obtain ⟨d0, d1, d2, fd0, fd1, fd2, hlg'⟩ := three_cells rg
      have hro := HR.out
      obtain ⟨f0, f1, f2, ff0, ff1, ff2, hl9⟩ := three_cells hro
      have hl0 : w.heap.size < wr.heap.size := (Array.getElem?_eq_some_iff.1 r0).1
      clear c0 c1 c2 c3 e0 e1 e2 e3 fb0 fb1 fb2 fd0 fd1 fd2 hro r0 r1 rg
      have hl0W : w.heap.size < W.heap.size := by omega
      have hl1W : w.heap.size + 1 < W.heap.size := by omega
      rcases (by omega : k = 0 ∨ k = 1 ∨ k = 2 ∨ k = 3) with rfl | rfl | rfl | rfl
      · obtain ⟨T, P, k1, k2, k6⟩ := HS0.out
        go_wp2_with fail
        refine wp_mixC (fun wc => Below (W.heap.size) wr wc) 14 [.q [0, 1, 2, 3, 4, 5, 6, 7, 8, 9, 10, 11, 12, 13]] [.q [14], .f [15]] (by kernel_rfl) (by kernel_rfl) ((Below.refl _ _).drew) ?_
        intro Q' hQ'
        (rw [wpMixC]; simp only [pick, List.drop_succ_cons, List.drop_zero, List.head?_cons, Option.toList_some, List.cons_append, List.nil_append])
        (repeat (first | go_big_quiet_skip | (go_big_quiet_want; refine quiet_simple rfl ?_; go_big_quiet_op; go_big_quiet_on) | (go_big_quiet_want; refine quiet_cellB (ty := 3) rfl rfl (by kernel_rfl) (by assumption) (by first | omega | (simp; omega)) ?_; simp only [Act.put, List.setIfInBounds_toArray, List.set_cons_succ, List.set_cons_zero]; go_big_quiet_on)))
        (try refine wpQuiet_nil ?_)
        (rw [wpMixC])
        (rw [wpMix]; simp only [pick, List.drop_succ_cons, List.drop_zero, List.head?_cons, Option.toList_some, List.cons_append, List.nil_append])
        (repeat (first | (go_big_quiet_step (fail)) | (quiet_step (fail))))
        (try refine wpQuiet_nil ?_)
        (rw [wpMix]; simp only [pick, List.drop_succ_cons, List.drop_zero, List.head?_cons, Option.toList_some, List.cons_append, List.nil_append])
        (go_wp2_with ((first | fail)); rw [contF])
        (rw [wpMix])
        (refine hQ' _ _ ?_)
        go_wp2_with fail
        go_roundw
        case rel => exact ⟨1, vx, o1, o2, by omega, by go_num, hid (heap_setCell_same _ _ 0 _ _ _ HR.out), hid ⟨fun _ => rfl, fun h => absurd h (by omega), fun h => absurd h (by omega)⟩, by exact BelowA⟩
        case measure => simp [intOf]
      · obtain ⟨T, P, k1, k2, k6⟩ := HS1.out
        go_wp2_with fail
        refine wp_mixC (fun wc => Below (W.heap.size) wr wc) 14 [.q [0, 1, 2, 3, 4, 5, 6, 7, 8, 9, 10, 11, 12, 13]] [.q [14], .f [15]] (by kernel_rfl) (by kernel_rfl) ((Below.refl _ _).drew) ?_
        intro Q' hQ'
        (rw [wpMixC]; simp only [pick, List.drop_succ_cons, List.drop_zero, List.head?_cons, Option.toList_some, List.cons_append, List.nil_append])
        (repeat (first | go_big_quiet_skip | (go_big_quiet_want; refine quiet_simple rfl ?_; go_big_quiet_op; go_big_quiet_on) | (go_big_quiet_want; refine quiet_cellB (ty := 3) rfl rfl (by kernel_rfl) (by assumption) (by first | omega | (simp; omega)) ?_; simp only [Act.put, List.setIfInBounds_toArray, List.set_cons_succ, List.set_cons_zero]; go_big_quiet_on)))
        (try refine wpQuiet_nil ?_)
        (rw [wpMixC])
        (rw [wpMix]; simp only [pick, List.drop_succ_cons, List.drop_zero, List.head?_cons, Option.toList_some, List.cons_append, List.nil_append])
        (repeat (first | (go_big_quiet_step (fail)) | (quiet_step (fail))))
        (try refine wpQuiet_nil ?_)
        (rw [wpMix]; simp only [pick, List.drop_succ_cons, List.drop_zero, List.head?_cons, Option.toList_some, List.cons_append, List.nil_append])
        (go_wp2_with ((first | fail)); rw [contF])
        (rw [wpMix])
        (refine hQ' _ _ ?_)
        go_wp2_with fail
        go_roundw
        case rel => exact ⟨2, o0, vy, o2, by omega, by go_num, hid (heap_setCell_same _ _ 1 _ _ _ HR.out), hid ⟨fun _ => HO.out.1 (by omega), fun h => rfl, fun h => absurd h (by omega)⟩, by exact BelowA⟩
        case measure => simp [intOf]
      · obtain ⟨T, P, k1, k2, k6⟩ := HS2.out
        go_wp2_with fail
        refine wp_mixC (fun wc => Below (W.heap.size) wr wc) 14 [.q [0, 1, 2, 3, 4, 5, 6, 7, 8, 9, 10, 11, 12, 13]] [.q [14], .f [15]] (by kernel_rfl) (by kernel_rfl) ((Below.refl _ _).drew) ?_
        intro Q' hQ'
        (rw [wpMixC]; simp only [pick, List.drop_succ_cons, List.drop_zero, List.head?_cons, Option.toList_some, List.cons_append, List.nil_append])
        (repeat (first | go_big_quiet_skip | (go_big_quiet_want; refine quiet_simple rfl ?_; go_big_quiet_op; go_big_quiet_on) | (go_big_quiet_want; refine quiet_cellB (ty := 3) rfl rfl (by kernel_rfl) (by assumption) (by first | omega | (simp; omega)) ?_; simp only [Act.put, List.setIfInBounds_toArray, List.set_cons_succ, List.set_cons_zero]; go_big_quiet_on)))
        (try refine wpQuiet_nil ?_)
        (rw [wpMixC])
        (rw [wpMix]; simp only [pick, List.drop_succ_cons, List.drop_zero, List.head?_cons, Option.toList_some, List.cons_append, List.nil_append])
        (repeat (first | (go_big_quiet_step (fail)) | (quiet_step (fail))))
        (try refine wpQuiet_nil ?_)
        (rw [wpMix]; simp only [pick, List.drop_succ_cons, List.drop_zero, List.head?_cons, Option.toList_some, List.cons_append, List.nil_append])
        (go_wp2_with ((first | fail)); rw [contF])
        (rw [wpMix])
        (refine hQ' _ _ ?_)
        go_wp2_with fail
        go_roundw
        case rel => exact ⟨3, o0, o1, vz, by omega, by go_num, hid (heap_setCell_same _ _ 2 _ _ _ HR.out), hid ⟨fun _ => HO.out.1 (by omega), fun _ => HO.out.2.1 (by omega), fun _ => rfl⟩, by exact BelowA⟩
        case measure => simp [intOf]
      · have r0x := (hbel.block w.heap.size (by omega)).trans R0.out
        obtain rfl := HO.out.1 (by omega)
        obtain rfl := HO.out.2.1 (by omega)
        obtain rfl := HO.out.2.2 (by omega)
        go_wp2_with fail
        have hB3 := hid hby
        have R0z := hid r0x
        have R1z := hid ((hbel.block (w.heap.size + 1) (by omega)).trans R1.out)
        clear r0x
        refine wp_mixC (fun wc => Below (wr.heap.size) wr wc) 7 [.q [0, 1, 3, 4], .f [2, 5], .q [6]] [.q [7]] (by kernel_rfl) (by kernel_rfl) ((Below.refl _ _).drew) ?_
        intro Q' hQ'
        (rw [wpMixC]; simp only [pick, List.drop_succ_cons, List.drop_zero, List.head?_cons, Option.toList_some, List.cons_append, List.nil_append])
        (repeat (first | go_big_quiet_skip | (go_big_quiet_want; refine quiet_simple rfl ?_; go_big_quiet_op; go_big_quiet_on) | (go_big_quiet_want; refine quiet_agg3B (ty := 135) rfl rfl (by kernel_rfl) (by assumption) (by assumption) (by assumption) (by first | omega | (simp; omega)) ?_; simp only [Act.put, List.setIfInBounds_toArray, List.set_cons_succ, List.set_cons_zero]; go_big_quiet_on)))
        (try refine wpQuiet_nil ?_)
        (rw [wpMixC]; simp only [pick, List.drop_succ_cons, List.drop_zero, List.head?_cons, Option.toList_some, List.cons_append, List.nil_append])
        (rw [wpSteps]; go_wp2_with ((first | (go_at_call 78; ((with_reducible refine (HD2.out _).mono ?_); rintro _ w3 ⟨rfl, hb3⟩)) | (go_at_call 78; ((with_reducible refine (HD3.out _).mono ?_); rintro _ w4 ⟨rfl, hb4⟩)))); rw [contF]; refine ⟨?_, ?_⟩; (next => exact BelowA))
        (rw [wpSteps]; go_wp2_with ((first | (go_at_call 78; ((with_reducible refine (HD2.out _).mono ?_); rintro _ w3 ⟨rfl, hb3⟩)) | (go_at_call 78; ((with_reducible refine (HD3.out _).mono ?_); rintro _ w4 ⟨rfl, hb4⟩)))); rw [contF]; refine ⟨?_, ?_⟩; (next => exact BelowA))
        (rw [wpSteps])
        (rw [wpMixC]; simp only [pick, List.drop_succ_cons, List.drop_zero, List.head?_cons, Option.toList_some, List.cons_append, List.nil_append])
        (repeat (first | go_big_quiet_skip | (go_big_quiet_want; refine quiet_simple rfl ?_; go_big_quiet_op; go_big_quiet_on) | (go_big_quiet_want; refine quiet_agg3B (ty := 135) rfl rfl (by kernel_rfl) (by assumption) (by assumption) (by assumption) (by first | omega | (simp; omega)) ?_; simp only [Act.put, List.setIfInBounds_toArray, List.set_cons_succ, List.set_cons_zero]; go_big_quiet_on)))
        (try refine wpQuiet_nil ?_)
        (rw [wpMixC])
        (rw [wpMix]; simp only [pick, List.drop_succ_cons, List.drop_zero, List.head?_cons, Option.toList_some, List.cons_append, List.nil_append])
        (repeat (first | (go_big_quiet_step (fail)) | (quiet_step (fail))))
        (try refine wpQuiet_nil ?_)
        (rw [wpMix])
        (refine hQ' _ _ ?_)
        go_wp2_with fail
        have hb5 : Below wr.heap.size wr w4 := by exact BelowA
        have hb6 : Below w.heap.size w w4 := hB3.out.trans (hb5.mono (by omega))
        have hB6 := hid hb6
        have y0 := (hb5.block w.heap.size (by omega)).trans R0z.out
        have y1 := (hb5.block (w.heap.size + 1) (by omega)).trans R1z.out
        obtain ⟨s0, s1, s2, fs0, fs1, fs2, hls⟩ := three_cells y1
        have m0 : w4.cell? ⟨w.heap.size, 0, none⟩ = some (.int .i64 px) := by rw [cell_of_row w4 _ 0 _ _ (0, 0) y0]; rfl
        have m1 : w4.cell? ⟨w.heap.size, 1, none⟩ = some (.int .i64 py) := by rw [cell_of_row w4 _ 1 _ _ (0, 0) y0]; rfl
        have m2 : w4.cell? ⟨w.heap.size, 2, none⟩ = some (.int .i64 pz) := by rw [cell_of_row w4 _ 2 _ _ (0, 0) y0]; rfl
        have m3 : w4.cell? ⟨w.heap.size, 3, none⟩ = some (.int .i64 tm) := by rw [cell_of_row w4 _ 3 _ _ (0, 0) y0]; rfl
        have m4 : w4.cell? ⟨w.heap.size, 4, none⟩ = some (.int .i64 tk) := by rw [cell_of_row w4 _ 4 _ _ (0, 0) y0]; rfl
        have m5 : w4.cell? ⟨w.heap.size, 5, none⟩ = some (.int .i64 lo) := by rw [cell_of_row w4 _ 5 _ _ (0, 0) y0]; rfl
        have m6 : w4.cell? ⟨w.heap.size, 6, none⟩ = some (.int .i64 hi) := by rw [cell_of_row w4 _ 6 _ _ (0, 0) y0]; rfl
        have m7 : w4.cell? ⟨w.heap.size, 7, none⟩ = some (.int .i64 li) := by rw [cell_of_row w4 _ 7 _ _ (0, 0) y0]; rfl
        have m8 : w4.cell? ⟨w.heap.size, 8, none⟩ = some (.int .i64 ea) := by rw [cell_of_row w4 _ 8 _ _ (0, 0) y0]; rfl
        have m9 : w4.cell? ⟨w.heap.size, 9, none⟩ = some (.int .i64 la) := by rw [cell_of_row w4 _ 9 _ _ (0, 0) y0]; rfl
        have m10 : w4.cell? ⟨w.heap.size, 10, none⟩ = some (.int .i64 no) := by rw [cell_of_row w4 _ 10 _ _ (0, 0) y0]; rfl
        have m11 : w4.cell? ⟨w.heap.size, 11, none⟩ = some (.int .i64 mi) := by rw [cell_of_row w4 _ 11 _ _ (0, 0) y0]; rfl
        have hlm : w.heap.size < w4.heap.size := (Array.getElem?_eq_some_iff.1 y0).1
        clear y0 y1 fs0 fs1 fs2 hb3 hb4 hb5 f0 f1 f2 ff0 ff1 ff2 b0 b1 b2 d0 d1 d2 a4 hby hbel
        by_cases g1 : C = 0
        · have g1a : (C == 0) = true := by simpa using g1
          have HV : Hid (R = true) := hid (by rw [HER.out]; simp [g1])
          clear g1
          refine wp_mixC (fun wc => Below (w4.heap.size) w4 wc) 20 [.q [0, 1, 2, 3, 4, 5, 6, 7, 8, 9, 10, 12, 15], .f [11, 13], .q [14, 16, 17, 18, 19]] [.q [20]] (by kernel_rfl) (by kernel_rfl) ((Below.refl _ _).drew) ?_
          intro Q' hQ'
          (rw [wpMixC]; simp only [pick, List.drop_succ_cons, List.drop_zero, List.head?_cons, Option.toList_some, List.cons_append, List.nil_append])
          (repeat (first | go_big_quiet_skip | (go_big_quiet_want; refine quiet_simple rfl ?_; go_big_quiet_op; go_big_quiet_on) | (go_big_quiet_want; refine quiet_agg12B (ty := 134) rfl rfl (by kernel_rfl) (by assumption) (by assumption) (by assumption) (by assumption) (by assumption) (by assumption) (by assumption) (by assumption) (by assumption) (by assumption) (by assumption) (by assumption) (by first | omega | (simp; omega)) ?_; simp only [Act.put, List.setIfInBounds_toArray, List.set_cons_succ, List.set_cons_zero]; go_big_quiet_on) | (go_big_quiet_want; refine quiet_agg3B (ty := 135) rfl rfl (by kernel_rfl) (by assumption) (by assumption) (by assumption) (by first | omega | (simp; omega)) ?_; simp only [Act.put, List.setIfInBounds_toArray, List.set_cons_succ, List.set_cons_zero]; go_big_quiet_on)))
          (try refine wpQuiet_nil ?_)
          (rw [wpMixC]; simp only [pick, List.drop_succ_cons, List.drop_zero, List.head?_cons, Option.toList_some, List.cons_append, List.nil_append])
          (rw [wpSteps]; go_wp2_with ((go_at_call 78; ((with_reducible refine (HD1.out _).mono ?_); rintro _ w5 ⟨rfl, hb5⟩))); rw [contF]; refine ⟨?_, ?_⟩; (next => exact BelowA))
          (rw [wpSteps]; go_wp2_with ((go_at_call 121; ((with_reducible refine (HSL.out _).mono ?_); rintro _ w6 ⟨rfl, hb6'⟩))); rw [contF]; refine ⟨?_, ?_⟩; (next => exact BelowA))
          (rw [wpSteps])
          (rw [wpMixC]; simp only [pick, List.drop_succ_cons, List.drop_zero, List.head?_cons, Option.toList_some, List.cons_append, List.nil_append])
          (repeat (first | go_big_quiet_skip | (go_big_quiet_want; refine quiet_simple rfl ?_; go_big_quiet_op; go_big_quiet_on) | (go_big_quiet_want; refine quiet_agg12B (ty := 134) rfl rfl (by kernel_rfl) (by assumption) (by assumption) (by assumption) (by assumption) (by assumption) (by assumption) (by assumption) (by assumption) (by assumption) (by assumption) (by assumption) (by assumption) (by first | omega | (simp; omega)) ?_; simp only [Act.put, List.setIfInBounds_toArray, List.set_cons_succ, List.set_cons_zero]; go_big_quiet_on) | (go_big_quiet_want; refine quiet_agg3B (ty := 135) rfl rfl (by kernel_rfl) (by assumption) (by assumption) (by assumption) (by first | omega | (simp; omega)) ?_; simp only [Act.put, List.setIfInBounds_toArray, List.set_cons_succ, List.set_cons_zero]; go_big_quiet_on)))
          (try refine wpQuiet_nil ?_)
          (rw [wpMixC])
          (rw [wpMix]; simp only [pick, List.drop_succ_cons, List.drop_zero, List.head?_cons, Option.toList_some, List.cons_append, List.nil_append])
          (repeat (first | (go_big_quiet_step (fail)) | (quiet_step (fail))))
          (try refine wpQuiet_nil ?_)
          (rw [wpMix])
          (refine hQ' _ _ ?_)
          go_wp2_with fail
          go_ret
          exact ⟨ret_bool (by rw [HV.out]), by exact BelowA⟩
        · have g1a : (C == 0) = false := by simpa using g1
          by_cases g2 : B ≤ 0
          · have g2a : decide (B ≤ 0) = true := by simpa using g2
            have HV : Hid (R = decide (FC ≤ BB)) := hid (by rw [HER.out]; simp [g1, g2])
            refine wp_mixC (fun wc => Below (w4.heap.size) w4 wc) 20 [.q [0, 1, 2, 3, 4, 5, 6, 7, 8, 9, 10, 12, 15], .f [11, 13], .q [14, 16, 17, 18, 19]] [.q [20]] (by kernel_rfl) (by kernel_rfl) ((Below.refl _ _).drew) ?_
            intro Q' hQ'
            (rw [wpMixC]; simp only [pick, List.drop_succ_cons, List.drop_zero, List.head?_cons, Option.toList_some, List.cons_append, List.nil_append])
            (repeat (first | go_big_quiet_skip | (go_big_quiet_want; refine quiet_simple rfl ?_; go_big_quiet_op; go_big_quiet_on) | (go_big_quiet_want; refine quiet_agg12B (ty := 134) rfl rfl (by kernel_rfl) (by assumption) (by assumption) (by assumption) (by assumption) (by assumption) (by assumption) (by assumption) (by assumption) (by assumption) (by assumption) (by assumption) (by assumption) (by first | omega | (simp; omega)) ?_; simp only [Act.put, List.setIfInBounds_toArray, List.set_cons_succ, List.set_cons_zero]; go_big_quiet_on) | (go_big_quiet_want; refine quiet_agg3B (ty := 135) rfl rfl (by kernel_rfl) (by assumption) (by assumption) (by assumption) (by first | omega | (simp; omega)) ?_; simp only [Act.put, List.setIfInBounds_toArray, List.set_cons_succ, List.set_cons_zero]; go_big_quiet_on)))
            (try refine wpQuiet_nil ?_)
            (rw [wpMixC]; simp only [pick, List.drop_succ_cons, List.drop_zero, List.head?_cons, Option.toList_some, List.cons_append, List.nil_append])
            (rw [wpSteps]; go_wp2_with ((go_at_call 78; ((with_reducible refine (HD1.out _).mono ?_); rintro _ w5 ⟨rfl, hb5⟩))); rw [contF]; refine ⟨?_, ?_⟩; (next => exact BelowA))
            (rw [wpSteps]; go_wp2_with ((go_at_call 121; ((with_reducible refine (HSL.out _).mono ?_); rintro _ w6 ⟨rfl, hb6'⟩))); rw [contF]; refine ⟨?_, ?_⟩; (next => exact BelowA))
            (rw [wpSteps])
            (rw [wpMixC]; simp only [pick, List.drop_succ_cons, List.drop_zero, List.head?_cons, Option.toList_some, List.cons_append, List.nil_append])
            (repeat (first | go_big_quiet_skip | (go_big_quiet_want; refine quiet_simple rfl ?_; go_big_quiet_op; go_big_quiet_on) | (go_big_quiet_want; refine quiet_agg12B (ty := 134) rfl rfl (by kernel_rfl) (by assumption) (by assumption) (by assumption) (by assumption) (by assumption) (by assumption) (by assumption) (by assumption) (by assumption) (by assumption) (by assumption) (by assumption) (by first | omega | (simp; omega)) ?_; simp only [Act.put, List.setIfInBounds_toArray, List.set_cons_succ, List.set_cons_zero]; go_big_quiet_on) | (go_big_quiet_want; refine quiet_agg3B (ty := 135) rfl rfl (by kernel_rfl) (by assumption) (by assumption) (by assumption) (by first | omega | (simp; omega)) ?_; simp only [Act.put, List.setIfInBounds_toArray, List.set_cons_succ, List.set_cons_zero]; go_big_quiet_on)))
            (try refine wpQuiet_nil ?_)
            (rw [wpMixC])
            (rw [wpMix]; simp only [pick, List.drop_succ_cons, List.drop_zero, List.head?_cons, Option.toList_some, List.cons_append, List.nil_append])
            (repeat (first | (go_big_quiet_step (fail)) | (quiet_step (fail))))
            (try refine wpQuiet_nil ?_)
            (rw [wpMix])
            (refine hQ' _ _ ?_)
            go_wp2_with fail
            go_ret
            exact ⟨ret_bool (by rw [HV.out]), by exact BelowA⟩
          · have g2a : decide (B ≤ 0) = false := by simpa using g2
            have HV : Hid (R = false) := hid (by rw [HER.out]; simp [g1, g2])
            refine wp_mixC (fun wc => Below (w4.heap.size) w4 wc) 20 [.q [0, 1, 2, 3, 4, 5, 6, 7, 8, 9, 10, 12, 15], .f [11, 13], .q [14, 16, 17, 18, 19]] [.q [20]] (by kernel_rfl) (by kernel_rfl) ((Below.refl _ _).drew) ?_
            intro Q' hQ'
            (rw [wpMixC]; simp only [pick, List.drop_succ_cons, List.drop_zero, List.head?_cons, Option.toList_some, List.cons_append, List.nil_append])
            (repeat (first | go_big_quiet_skip | (go_big_quiet_want; refine quiet_simple rfl ?_; go_big_quiet_op; go_big_quiet_on) | (go_big_quiet_want; refine quiet_agg12B (ty := 134) rfl rfl (by kernel_rfl) (by assumption) (by assumption) (by assumption) (by assumption) (by assumption) (by assumption) (by assumption) (by assumption) (by assumption) (by assumption) (by assumption) (by assumption) (by first | omega | (simp; omega)) ?_; simp only [Act.put, List.setIfInBounds_toArray, List.set_cons_succ, List.set_cons_zero]; go_big_quiet_on) | (go_big_quiet_want; refine quiet_agg3B (ty := 135) rfl rfl (by kernel_rfl) (by assumption) (by assumption) (by assumption) (by first | omega | (simp; omega)) ?_; simp only [Act.put, List.setIfInBounds_toArray, List.set_cons_succ, List.set_cons_zero]; go_big_quiet_on)))
            (try refine wpQuiet_nil ?_)
            (rw [wpMixC]; simp only [pick, List.drop_succ_cons, List.drop_zero, List.head?_cons, Option.toList_some, List.cons_append, List.nil_append])
            (rw [wpSteps]; go_wp2_with ((go_at_call 78; ((with_reducible refine (HD1.out _).mono ?_); rintro _ w5 ⟨rfl, hb5⟩))); rw [contF]; refine ⟨?_, ?_⟩; (next => exact BelowA))
            (rw [wpSteps]; go_wp2_with ((go_at_call 121; ((with_reducible refine (HSL.out _).mono ?_); rintro _ w6 ⟨rfl, hb6'⟩))); rw [contF]; refine ⟨?_, ?_⟩; (next => exact BelowA))
            (rw [wpSteps])
            (rw [wpMixC]; simp only [pick, List.drop_succ_cons, List.drop_zero, List.head?_cons, Option.toList_some, List.cons_append, List.nil_append])
            (repeat (first | go_big_quiet_skip | (go_big_quiet_want; refine quiet_simple rfl ?_; go_big_quiet_op; go_big_quiet_on) | (go_big_quiet_want; refine quiet_agg12B (ty := 134) rfl rfl (by kernel_rfl) (by assumption) (by assumption) (by assumption) (by assumption) (by assumption) (by assumption) (by assumption) (by assumption) (by assumption) (by assumption) (by assumption) (by assumption) (by first | omega | (simp; omega)) ?_; simp only [Act.put, List.setIfInBounds_toArray, List.set_cons_succ, List.set_cons_zero]; go_big_quiet_on) | (go_big_quiet_want; refine quiet_agg3B (ty := 135) rfl rfl (by kernel_rfl) (by assumption) (by assumption) (by assumption) (by first | omega | (simp; omega)) ?_; simp only [Act.put, List.setIfInBounds_toArray, List.set_cons_succ, List.set_cons_zero]; go_big_quiet_on)))
            (try refine wpQuiet_nil ?_)
            (rw [wpMixC])
            (rw [wpMix]; simp only [pick, List.drop_succ_cons, List.drop_zero, List.head?_cons, Option.toList_some, List.cons_append, List.nil_append])
            (repeat (first | (go_big_quiet_step (fail)) | (quiet_step (fail))))
            (try refine wpQuiet_nil ?_)
            (rw [wpMix])
            (refine hQ' _ _ ?_)
            go_wp2_with fail
            go_ret
            exact ⟨ret_bool (by rw [HV.out]), by exact BelowA⟩
end Go.Proofs.Ytlmdmpjfehpjeaa