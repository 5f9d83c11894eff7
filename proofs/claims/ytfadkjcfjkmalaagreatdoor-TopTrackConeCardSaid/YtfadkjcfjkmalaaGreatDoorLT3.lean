/- Texts of this claim, together. -/
import Derived.Test.YtfadkjcfjkmalaaGreatDoorLT2
import Derived.TacticsIn
import Derived.OrdersIn

set_option maxRecDepth 100000
set_option linter.unusedVariables false
set_option linter.unusedSimpArgs false
namespace Go.Proofs.YtfadkjcfjkmalaaGreatDoor.Ev
open Go.RowKit
variable {w0 : World} {N0 : Nat → Prop} {Z : Pins} {P : Program} {T : Tab} {S : Sum} {forb : Nat → Bool} {M : Map} {st : DS} {a : Act} {w : World} {o : Oper}
theorem RelF.all {N N' : Nat → Prop} {x : CV} {v : Value} (h : RelF w N x v) (hN : ∀ b, N b → N' b) : RelF w N' x v :=
 RelF.mono (Nat.le_refl _) (fun _ _ _ _ => rfl) (fun b hb _ => hN b hb) x h
theorem qbc {α : Type} {l : List α} {i : Nat} {d : α} (h : i < l.length) : l[i]? = some (l.getD i d) := by simp [List.getD, h]
theorem qeH {N : Nat → Prop} {base : Nat} (hN : ∀ b, base ≤ b → N b) {e : TypeId} {sz : Nat} {v : Value} {n : Nat} {xs : List Value} (h : w.ownsRow base e sz v n xs) {c : Nat → Nat → CV} (hc : ∀ i j, i < n → j < sz → ∃ u, xs[i * sz + j]? = some u ∧ RelF w N (c i j) u) : RelF w N (.sl sz n c) v := by
 obtain ⟨h1, h2⟩ := h
 rcases h2 with ⟨rfl, rfl⟩ | ⟨g, cap, cur, rfl, hb, hg, hn, hm, hs, ht⟩
 ·exact ⟨none, 0, rfl, Nat.le_refl _, by simp, fun _ => rfl, fun h => absurd h (by omega)⟩
 ·refine ⟨_, cap, rfl, hn, hm, (fun h => by cases h), fun h0 => ⟨g, 0, rfl, (Array.getElem?_eq_some_iff.1 hg).1, hN g hb, fun i j hi hj => ?_⟩⟩
  obtain ⟨u, h3, h4⟩ := hc i j hi hj
  refine ⟨u, ?_, h4⟩
  rw [cell_of_row w g _ cur e (0, 0) hg, Nat.zero_add]
  rw [← ht, List.getElem?_take] at h3
  split at h3
  ·simpa using h3
  ·cases h3
theorem qdK {N : Nat → Prop} (ha : Abs w0 N0 Z M st a w) (hN1 : ∀ b, fgn w0 N0 M b → N b) (hN2 : ∀ b, w0.heap.size ≤ b → N b) {x y : CV} {v : Value} (h : toF st forb x = some y) (hr : RelC w (fgn w0 N0 M) M x v) : RelF w N y v := by
 cases x with
 | v x => simp only [toF, Option.some.injEq] at h; subst h; exact hr
 | sl sz n c => simp only [toF, Option.some.injEq] at h; subst h; exact RelF.all (x := .sl sz n c) hr hN1
 | px n off c => simp only [toF, Option.some.injEq] at h; subst h; exact RelF.all (x := .px n off c) hr hN1
 | er b => simp only [toF, Option.some.injEq] at h; subst h; exact RelF.all (x := .er b) hr hN1
 | any => simp only [toF, Option.some.injEq] at h; subst h; exact RelF.all (x := .any) hr hN1
 | pe k i sz off => simp [toF] at h
 | os k =>
  obtain ⟨hM, hsh⟩ := hr
  simp only [toF] at h
  split at h
  ·rename_i ty sz l hrow
   cases h
   obtain ⟨v', xs, g1, g2, g3, g4⟩ := ha.row k _ (rd_at hrow)
   rw [hM] at g1; cases g1
   refine qeH hN2 g2 fun i j hi hj => ?_
   have e1 : l[i]? = some (l.getD i []) := qbc hi
   have e2 := g3 _ (List.mem_of_getElem? e1)
   have e3 := q7c g3 e1 hj
   have e4 : (l.getD i [])[j]? = some (genC l i j) := qbc (by omega)
   rw [e4] at e3
   obtain ⟨u, q1, q2⟩ := g4.get e3
   exact ⟨u, q1, q2.all hN1⟩
  ·rename_i ty kd l hrow
   cases h
   obtain ⟨v', g1, g2⟩ := ha.row k _ (rd_at hrow)
   rw [hM] at g1; cases g1
   refine qeH hN2 g2 fun i j hi hj => ⟨.int kd (l.getD i 0), ?_, rfl, rfl⟩
   obtain rfl : j = 0 := by omega
   simp [List.getElem?_map, hi]
  ·cases h
 | p k off =>
  obtain ⟨b, hM, hv⟩ := hr
  simp only [toF] at h
  split at h
  ·rename_i ty c hrow
   cases hq : allF c with
   | false => rw [hq] at h; cases h
   | true =>
    rw [hq] at h
    cases h
    obtain ⟨b', cs, g1, g2, g3⟩ := ha.row k _ (rd_at hrow)
    rw [hM] at g1; cases g1
    refine ⟨b, 0, by rw [Nat.zero_add]; exact hv, (Array.getElem?_eq_some_iff.1 g2).1, hN2 b (ha.own k _ b hM rfl).1, fun j hj => ?_⟩
    obtain ⟨u, q1, q2⟩ := (qcH hq g3).get (qbc (d := .v (.bool false)) hj)
    exact ⟨u, by rw [cell_of_row w b _ cs ty (0, 0) g2, Nat.zero_add]; simpa using q1, q2.all hN1⟩
  ·cases h
 | ob k off sz n =>
  simp only [toF] at h
  split at h
  ·rename_i ty c hrow
   rcases hr with ⟨b, cap, hM, hv, hn, hm⟩ | ⟨b, c', o, cap, hM, _⟩
   case inr =>
    obtain ⟨b', cs, g1, _⟩ := ha.row k _ (rd_at hrow)
    rw [hM] at g1; cases g1
   cases hq : (allF c && Nat.ble (off + n * sz) c.length) with
   | false => rw [hq] at h; cases h
   | true =>
    rw [hq] at h
    cases h
    simp only [Bool.and_eq_true] at hq
    have hle := Nat.le_of_ble_eq_true hq.2
    obtain ⟨b', cs, g1, g2, g3⟩ := ha.row k _ (rd_at hrow)
    rw [hM] at g1; cases g1
    refine ⟨_, cap, hv, hn, hm, (fun h => by cases h), fun h0 => ⟨b, off, rfl, (Array.getElem?_eq_some_iff.1 g2).1, hN2 b (ha.own k _ b hM rfl).1, fun i j hi hj => ?_⟩⟩
    have hb : i * sz + sz ≤ n * sz := by rw [← Nat.succ_mul]; exact Nat.mul_le_mul_right _ hi
    obtain ⟨u, q1, q2⟩ := (qcH hq.1 g3).get (qbc (d := .v (.bool false)) (i := off + i * sz + j) (by omega))
    exact ⟨u, by rw [cell_of_row w b _ cs ty (0, 0) g2]; simpa using q1, q2.all hN1⟩
  ·rename_i ty kd l hrow
   cases hq : Nat.beq 1 sz with
   | false => rw [hq] at h; cases h
   | true =>
    rw [hq] at h
    cases h
    obtain ⟨v', g1, g2⟩ := ha.row k _ (rd_at hrow)
    rcases hr with ⟨b, cap, hM, _⟩ | ⟨b, c', o, cap, hM, ho, hv, hn, hm⟩
    ·rw [hM] at g1; cases g1
    rw [hM] at g1
    cases g1
    obtain ⟨_, g3⟩ := g2
    rcases g3 with ⟨e0, _⟩ | ⟨g, cap2, cur, e0, hb, hg, hn2, hm2, hs, ht⟩
    ·cases e0
    simp only [Value.slice.injEq, Option.some.injEq, Addr.mk.injEq, and_true] at e0
    obtain ⟨rfl, e1, rfl⟩ := e0
    refine ⟨_, cap, hv, hn, hm, (fun h => by cases h), fun h0 => ⟨b, o, rfl, (Array.getElem?_eq_some_iff.1 hg).1, hN2 b hb, fun i j hi hj => ?_⟩⟩
    obtain rfl := ho h0
    obtain rfl : j = 0 := by omega
    have hl : o + i < l.length := by omega
    have h3 : (l.map (Value.int kd))[o + i]? = some (.int kd (l.getD (o + i) 0)) := by simp [List.getElem?_map, hl, List.getD]
    refine ⟨.int kd (l.getD (o + i) 0), ?_, rfl, rfl⟩
    rw [cell_of_row w b _ cur ty (0, 0) hg]
    rw [← ht, List.getElem?_take] at h3
    split at h3
    ·simpa using h3
    ·cases h3
  ·cases h
theorem qfT {x y : CV} {v : Value} (hf : isF x = true) (h : toF st forb x = some y) (hr : RelC w (fgn w0 N0 M) M x v) : RelF w (fgn w0 N0 M) y v := by
 cases x <;> first | (simp [isF] at hf; done) | (simp only [toF, Option.some.injEq] at h; subst h; exact hr)
section
variable {R R' : CV → Value → Prop} (good : CV → Bool)
theorem qbd (hR : ∀ x y v, good x = true → toF st forb x = some y → R x v → R' y v) : ∀ {l l' : List CV} {vs : List Value}, (∀ x ∈ l, good x = true) → toFs st forb l = some l' → All2 R l vs → All2 R' l' vs
 | [], l', [], _, h, _ => by simp only [toFs, Option.some.injEq] at h; subst h; trivial
 | x :: l, l', v :: vs, hg, h, g => by
  simp only [toFs] at h
  split at h
  ·rename_i d ds h1 h2
   simp only [Option.some.injEq] at h; subst h
   exact ⟨hR x d v (hg x (by simp)) h1 g.1, qbd hR (fun y hy => hg y (by simp [hy])) h2 g.2⟩
  ·cases h
 | [], _, _ :: _, _, _, g => g.elim
 | _ :: _, _, [], _, _, g => g.elim
def q8a : TV → Prop
 | .c x => good x = true
 | .a l => ∀ x ∈ l, good x = true
 | .fn _ l => ∀ x ∈ l, good x = true
 | .fb _ l => ∀ x ∈ l, good x = true
theorem qjv (hR : ∀ x y v, good x = true → toF st forb x = some y → R x v → R' y v) {x y : TV} {v : Value} (hg : q8a good x) (h : toFT st forb x = some y) (g : RelT R x v) : RelT R' y v := by
 cases x with
 | c x =>
  simp only [toFT, Option.map_eq_some_iff] at h
  obtain ⟨d, h1, rfl⟩ := h
  exact hR x d v hg h1 g
 | a l =>
  simp only [toFT, Option.map_eq_some_iff] at h
  obtain ⟨d, h1, rfl⟩ := h
  obtain ⟨vs, e, g⟩ := g
  exact ⟨vs, e, qbd good hR hg h1 g⟩
 | fn f l =>
  simp only [toFT, Option.map_eq_some_iff] at h
  obtain ⟨d, h1, rfl⟩ := h
  obtain ⟨vs, e, g⟩ := g
  exact ⟨vs, e, qbd good hR hg h1 g⟩
 | fb f l =>
  simp only [toFT, Option.map_eq_some_iff] at h
  obtain ⟨d, h1, rfl⟩ := h
  obtain ⟨vs, e, g⟩ := g
  exact ⟨vs, e, qbd good hR hg h1 g⟩
theorem qi3 (hR : ∀ x y v, good x = true → toF st forb x = some y → R x v → R' y v) : ∀ {l l' : List TV} {vs : List Value}, (∀ x ∈ l, q8a good x) → q9D st forb l = some l' → All2 (RelT R) l vs → All2 (RelT R') l' vs
 | [], l', [], _, h, _ => by simp only [q9D, Option.some.injEq] at h; subst h; trivial
 | x :: l, l', v :: vs, hg, h, g => by
  simp only [q9D] at h
  split at h
  ·rename_i d ds h1 h2
   simp only [Option.some.injEq] at h; subst h
   exact ⟨qjv good hR (hg x (by simp)) h1 g.1, qi3 hR (fun y hy => hg y (by simp [hy])) h2 g.2⟩
  ·cases h
 | [], _, _ :: _, _, _, g => g.elim
 | _ :: _, _, [], _, _, g => g.elim
def qdU : DV → Prop
 | .t x => q8a good x
 | .tu l => ∀ x ∈ l, q8a good x
theorem q8l (hR : ∀ x y v, good x = true → toF st forb x = some y → R x v → R' y v) {x y : DV} {v : Value} (hg : qdU good x) (h : toFD st forb x = some y) (g : RelD R x v) : RelD R' y v := by
 cases x with
 | t x =>
  simp only [toFD, Option.map_eq_some_iff] at h
  obtain ⟨d, h1, rfl⟩ := h
  exact qjv good hR hg h1 g
 | tu l =>
  simp only [toFD, Option.map_eq_some_iff] at h
  obtain ⟨d, h1, rfl⟩ := h
  obtain ⟨vs, e, g⟩ := g
  exact ⟨vs, e, qi3 good hR hg h1 g⟩
theorem q7h (hR : ∀ x y v, good x = true → toF st forb x = some y → R x v → R' y v) : ∀ {l l' : List DV} {vs : List Value}, (∀ x ∈ l, qdU good x) → q4T st forb l = some l' → All2 (RelD R) l vs → All2 (RelD R') l' vs
 | [], l', [], _, h, _ => by simp only [q4T, Option.some.injEq] at h; subst h; trivial
 | x :: l, l', v :: vs, hg, h, g => by
  simp only [q4T] at h
  split at h
  ·rename_i d ds h1 h2
   simp only [Option.some.injEq] at h; subst h
   exact ⟨q8l good hR (hg x (by simp)) h1 g.1, q7h hR (fun y hy => hg y (by simp [hy])) h2 g.2⟩
  ·cases h
 | [], _, _ :: _, _, _, g => g.elim
 | _ :: _, _, [], _, _, g => g.elim
end
theorem qbe : ∀ {l : List CV}, allF l = true → ∀ x ∈ l, isF x = true
 | [], _, x, hx => by simp at hx
 | y :: l, h, x, hx => by
  simp only [allF, Bool.and_eq_true] at h
  rcases List.mem_cons.1 hx with rfl | hx
  ·exact h.1
  ·exact qbe h.2 x hx
theorem qi4 {x : TV} (h : ownT x = false) : q8a isF x := by
 cases x with
 | c x => simpa [ownT, q8a] using h
 | a l => exact qbe (by simpa [ownT] using h)
 | fn f l => exact qbe (by simpa [ownT] using h)
 | fb f l => exact qbe (by simpa [ownT] using h)
theorem qfU : ∀ {l : List TV}, ownTs l = false → ∀ x ∈ l, q8a isF x
 | [], _, x, hx => by simp at hx
 | y :: l, h, x, hx => by
  simp only [ownTs, Bool.or_eq_false_iff] at h
  rcases List.mem_cons.1 hx with rfl | hx
  ·exact qi4 h.1
  ·exact qfU h.2 x hx
theorem ownD_good {x : DV} (h : ownD x = false) : qdU isF x := by
 cases x with
 | t x => exact qi4 h
 | tu l => exact qfU h
theorem q5I : ∀ {l : List DV}, q4r l = false → ∀ x ∈ l, qdU isF x
 | [], _, x, hx => by simp at hx
 | y :: l, h, x, hx => by
  simp only [q4r, Bool.or_eq_false_iff] at h
  rcases List.mem_cons.1 hx with rfl | hx
  ·exact ownD_good h.1
  ·exact q5I h.2 x hx
theorem qcI : ∀ {x : DV}, qdU (fun _ => true) x
 | .t (.c _) => rfl
 | .t (.a _) => fun _ _ => rfl
 | .t (.fn _ _) => fun _ _ => rfl
 | .t (.fb _ _) => fun _ _ => rfl
 | .tu l => fun x _ => match x with
  | .c _ => rfl
  | .a _ => fun _ _ => rfl
  | .fn _ _ => fun _ _ => rfl
  | .fb _ _ => fun _ _ => rfl
theorem qcJ {w w' : World} {N N' : Nat → Prop} : ∀ {x : CV} {v : Value}, q4s x = true → RelF w N x v → RelC w' N' M x v
 | .v _, _, _, h => h
 | .sl _ _ _, _, h, _ | .px _ _ _, _, h, _ | .os _, _, h, _ | .p _ _, _, h, _ | .pe _ _ _ _, _, h, _ | .ob _ _ _ _, _, h, _ | .er _, _, h, _ | .any, _, h, _ => by simp [q4s] at h
theorem q2V {w w' : World} {N N' : Nat → Prop} : ∀ {l : List CV} {vs : List Value}, q0b l = true → All2 (RelF w N) l vs → All2 (RelC w' N' M) l vs
 | [], [], _, _ => trivial
 | x :: l, v :: vs, h, g => by
  simp only [q0b, Bool.and_eq_true] at h
  exact ⟨qcJ h.1 g.1, q2V h.2 g.2⟩
 | [], _ :: _, _, g => g.elim
 | _ :: _, [], _, g => g.elim
theorem qcK {w w' : World} {N N' : Nat → Prop} {x : TV} {v : Value} (h : q9E x = true) (g : RelT (RelF w N) x v) : RelT (RelC w' N' M) x v := by
 cases x with
 | c x => exact qcJ h g
 | a l => obtain ⟨vs, e, g⟩ := g; exact ⟨vs, e, q2V h g⟩
 | fn f l => obtain ⟨vs, e, g⟩ := g; exact ⟨vs, e, q2V h g⟩
 | fb f l => obtain ⟨vs, e, g⟩ := g; exact ⟨vs, e, q2V h g⟩
theorem qfV {w w' : World} {N N' : Nat → Prop} : ∀ {l : List TV} {vs : List Value}, q1x l = true → All2 (RelT (RelF w N)) l vs → All2 (RelT (RelC w' N' M)) l vs
 | [], [], _, _ => trivial
 | x :: l, v :: vs, h, g => by
  simp only [q1x, Bool.and_eq_true] at h
  exact ⟨qcK h.1 g.1, qfV h.2 g.2⟩
 | [], _ :: _, _, g => g.elim
 | _ :: _, [], _, g => g.elim
theorem qi5 {w w' : World} {N N' : Nat → Prop} {x : DV} {v : Value} (h : q1D x = true) (g : RelD (RelF w N) x v) : RelD (RelC w' N' M) x v := by
 cases x with
 | t x => exact qcK h g
 | tu l => obtain ⟨vs, e, g⟩ := g; exact ⟨vs, e, qfV h g⟩
theorem qjw {w w' : World} {N N' : Nat → Prop} {x : TV} {v : Value} (h : anyT x = true) (g : RelT (RelF w N) x v) : RelT (RelC w' N' M) x v := by
 unfold anyT at h
 split at h
 ·exact g
 ·exact qcK h g
theorem qi6 {w w' : World} {N N' : Nat → Prop} : ∀ {l : List TV} {vs : List Value}, qdR l = true → All2 (RelT (RelF w N)) l vs → All2 (RelT (RelC w' N' M)) l vs
 | [], [], _, _ => trivial
 | x :: l, v :: vs, h, g => by
  simp only [qdR, Bool.and_eq_true] at h
  exact ⟨qjw h.1 g.1, qi6 h.2 g.2⟩
 | [], _ :: _, _, g => g.elim
 | _ :: _, [], _, g => g.elim
theorem qi7 {w w' : World} {N N' : Nat → Prop} {x : DV} {v : Value} (h : qdS x = true) (g : RelD (RelF w N) x v) : RelD (RelC w' N' M) x v := by
 cases x with
 | t x => exact qjw h g
 | tu l => obtain ⟨vs, e, g⟩ := g; exact ⟨vs, e, qi6 h g⟩
theorem flatD_A : ∀ {x : DV}, q1D x = true → qdS x = true := by
 have tt : ∀ {x : TV}, q9E x = true → anyT x = true := by
  intro x h
  unfold anyT
  split
  ·rfl
  ·exact h
 intro x h
 cases x with
 | t x => exact tt h
 | tu l =>
  have : ∀ l : List TV, q1x l = true → qdR l = true := by
   intro l
   induction l with
   | nil => intro _; rfl
   | cons x l ih =>
    intro h
    simp only [q1x, Bool.and_eq_true] at h
    simp only [qdR, Bool.and_eq_true]
    exact ⟨tt h.1, ih h.2⟩
  exact this l h
theorem qdL (ha : Abs w0 N0 Z M st a w) {b : Nat} (h : w.heap.size ≤ b) : fgn w0 N0 M b :=
 ⟨fun h1 => by have := ha.below.size; omega, fun k l h1 h2 => by have := ha.own k l b h1 h2; omega⟩
theorem q8m {f : FuncId} (he : Enters P f) {c : Call} (ho : o.op = .call c) {g : Operand} (hc : c.callee = .value g) {caps : List Value} (hg : a.eval g = .func (.func f) #[] caps.toArray) :
  (execOp a.eval o).run P w = .ok (.enter f ((c.args.toList.map a.eval) ++ caps).toArray) w := by
 have : (c.args.map a.eval ++ caps.toArray) = ((c.args.toList.map a.eval) ++ caps).toArray := by
  apply Array.toList_inj.1; simp
 unfold execOp
 simp only [ho, resolve, hc, hg, Deferred.ofValue, Sem.run_bind, Sem.run_pure, Result.andThen_ok, invoke, Array.empty_append, this]
 exact he _ _
theorem run_callB {f : FuncId} (he : Enters P f) {c : Call} (ho : o.op = .call c) {g : Operand} (hc : c.callee = .value g) {x : Value} (hg : a.eval g = .func (.func f) #[x] #[]) :
  (execOp a.eval o).run P w = .ok (.enter f (x :: c.args.toList.map a.eval).toArray) w := by
 have : (#[x] ++ c.args.map a.eval ++ #[]) = (x :: c.args.toList.map a.eval).toArray := by
  apply Array.toList_inj.1; simp
 unfold execOp
 simp only [ho, resolve, hc, hg, Deferred.ofValue, Sem.run_bind, Sem.run_pure, Result.andThen_ok, invoke, this]
 exact he _ _
theorem q8k {base base' : Nat} {e : TypeId} {sz : Nat} {v : Value} {n : Nat} {xs : List Value} (h : w.ownsRow base e sz v n xs) (hb : base' ≤ base) : w.ownsRow base' e sz v n xs := by
 refine ⟨h.1, ?_⟩
 rcases h.2 with h2 | ⟨g, cap, cur, hv, hg, r⟩
 ·exact Or.inl h2
 ·exact Or.inr ⟨g, cap, cur, hv, Nat.le_trans hb hg, r⟩
theorem qeI {base : Nat} {e : TypeId} {sz : Nat} {v : Value} {n : Nat} {xs : List Value} (h : w.ownsRow base e sz v n xs) : ∀ b, v.ownBlock = some b → base ≤ b ∧ b < w.heap.size := by
 rcases h.2 with ⟨rfl, _⟩ | ⟨g, cap, cur, rfl, hg, hh, _⟩
 ·intro b h; cases h
 ·intro b h; cases h; exact ⟨hg, (Array.getElem?_eq_some_iff.1 hh).1⟩
theorem Abs.adopt (ha : Abs w0 N0 Z M st a w) (d : Nat) {r : Row} {u : Loc} {x : DV} {v : Value} {w' : World} (hd : st.at d = none) (hlt : d < st.h.length) (hal : r.alive = true) (hbe : Below w.heap.size w w') (hu : ∀ b, u.block = some b → w.heap.size ≤ b ∧ b < w'.heap.size)
  (hrow : ∀ M' : Map, M' d = some u → RelR w' w0.heap.size (fgn w0 N0 M') M' d r)
  (hv : ∀ M' : Map, M' d = some u → (∀ k, k ≠ d → M' k = M k) → RelD (RelC w' (fgn w0 N0 M') M') x v) :
  ∃ M', Abs w0 N0 Z M' (({ st with h := st.h.set d (some r) } : DS).putO (some d) (some x)) (a.put (some d) v) w' := by
 let M' : Map := fun k => if k = d then some u else M k
 have hMd : M d = none := ha.dom d hd
 have hM'd : M' d = some u := by simp [M']
 have hM' : ∀ k, k ≠ d → M' k = M k := fun k h => by simp [M', h]
 have hsz := hbe.size
 have stp : Stp w0 N0 M M' w w' := by
  refine ⟨hbe.size, fun b _ hb => hbe.block b hb, fun k l' h => ?_, fun k l' b h1 h2 => ?_⟩
  ·rw [hM' k (fun e => by rw [e, hMd] at h; cases h)]; exact h
  ·by_cases e : k = d
   ·subst e; rw [hM'd] at h1; cases h1; exact Or.inr (hu b h2).1
   ·rw [hM' k e] at h1; exact Or.inl ⟨k, l', h1, h2⟩
 have hat : ∀ k, (({ st with h := st.h.set d (some r) } : DS).putO (some d) (some x)).at k = if d = k ∧ d < st.h.length then some r else st.at k := fun k => by
  rw [q5q]; unfold DS.at; exact getset _ _ _ _
 have hws := ha.below.size
 refine ⟨M', ha.step stp (hbe.mono ha.below.size) (by rw [qb7, q4W]; exact ha.fits) (q4X _ _ _) (fun i dv h => ?_) (fun k r' h => ?_) (fun k h => ?_) (fun k l' b h1 h2 => ?_) (fun k k' r1 r2 l1 l2 b h1 h2 h3 h4 h5 h6 h7 h8 => ?_)⟩
 ·exact qb8 (st := { st with h := st.h.set d (some r) }) ha.fits (fun dv e => by cases e; exact hv M' hM'd hM') i dv h
 ·rw [hat] at h
  by_cases e : d = k ∧ d < st.h.length
  ·rw [if_pos e] at h; cases h; rw [← e.1]; exact Or.inr (hrow M' hM'd)
  ·rw [if_neg e] at h
   exact Or.inl ⟨h, fun _ l' b h1 h2 => hbe.block b (ha.own k l' b h1 h2).2⟩
 ·rw [hat] at h
  by_cases e : d = k ∧ d < st.h.length
  ·rw [if_pos e] at h; cases h
  ·rw [if_neg e] at h
   by_cases e2 : k = d
   ·exact (e ⟨e2.symm, hlt⟩).elim
   ·rw [hM' k e2]; exact ha.dom k h
 ·by_cases e : k = d
  ·subst e; rw [hM'd] at h1; cases h1
   have := hu b h2
   exact ⟨by omega, this.2⟩
  ·rw [hM' k e] at h1; have := ha.own k l' b h1 h2; exact ⟨this.1, by omega⟩
 ·rw [hat] at h1 h3
  by_cases e : k = d
  ·by_cases e' : k' = d
   ·rw [e, e']
   ·subst e; rw [hM'd] at h5; cases h5
    have q1 := hu b h7
    rw [hM' k' e'] at h6; have := ha.own k' l2 _ h6 h8; omega
  ·rw [if_neg (fun h => e h.1.symm)] at h1
   rw [hM' k e] at h5
   by_cases e' : k' = d
   ·subst e'; rw [hM'd] at h6; cases h6
    have q1 := hu b h8
    have := ha.own k l1 _ h5 h7; omega
   ·rw [if_neg (fun h => e' h.1.symm)] at h3
    rw [hM' k' e'] at h6
    exact ha.apart k k' r1 r2 l1 l2 b h1 h2 h3 h4 h5 h6 h7 h8
theorem qi8 {w w' : World} {N N' : Nat → Prop} {M M' : Map} : ∀ {x : CV} {v : Value}, q4s x = true → RelC w N M x v → RelC w' N' M' x v
 | .v _, _, _, h => h
 | .sl _ _ _, _, h, _ | .px _ _ _, _, h, _ | .os _, _, h, _ | .p _ _, _, h, _ | .pe _ _ _ _, _, h, _ | .ob _ _ _ _, _, h, _ | .er _, _, h, _ | .any, _, h, _ => by simp [q4s] at h
theorem q7Q {w w' : World} {N N' : Nat → Prop} {M M' : Map} : ∀ {l : List CV} {vs : List Value}, q0b l = true → All2 (RelC w N M) l vs → All2 (RelC w' N' M') l vs
 | [], [], _, _ => trivial
 | x :: l, v :: vs, h, g => by
  simp only [q0b, Bool.and_eq_true] at h
  exact ⟨qi8 h.1 g.1, q7Q h.2 g.2⟩
 | [], _ :: _, _, g => g.elim
 | _ :: _, [], _, g => g.elim
theorem qbf {w w' : World} {N N' : Nat → Prop} {M M' : Map} : ∀ {l : List TV} {vs : List Value}, q1x l = true → All2 (RelT (RelC w N M)) l vs → All2 (RelT (RelC w' N' M')) l vs
 | [], [], _, _ => trivial
 | x :: l, v :: vs, h, g => by
  simp only [q1x, Bool.and_eq_true] at h
  refine ⟨?_, qbf h.2 g.2⟩
  have h1 := h.1
  have g1 := g.1
  cases x with
  | c x => exact qi8 h1 g1
  | a l => obtain ⟨vs, e, g⟩ := g1; exact ⟨vs, e, q7Q h1 g⟩
  | fn f l => obtain ⟨vs, e, g⟩ := g1; exact ⟨vs, e, q7Q h1 g⟩
  | fb f l => obtain ⟨vs, e, g⟩ := g1; exact ⟨vs, e, q7Q h1 g⟩
 | [], _ :: _, _, g => g.elim
 | _ :: _, [], _, g => g.elim
theorem qeZ {w : World} {N N' : Nat → Prop} {M M' : Map} (hN : ∀ b, N b → N' b) {x : CV} {v : Value} (h : isF x = true) (g : RelC w N M x v) : RelC w N' M' x v := RelC.ofF ((isF_rel h g).all hN)
theorem qmd {d : Nat} {w : World} {u : Value} {N N' : Nat → Prop} {M' : Map} (hN : ∀ b, N b → N' b) (hM : M' d = some (.row u)) : ∀ {l l' : List CV} {vs : List Value}, qdB d l = some l' → All2 (RelC w N (own1 u)) l vs → All2 (RelC w N' M') l' vs := by
 intro l
 induction l with
 | nil => intro l' vs h; simp [qdB] at h
 | cons x l ih =>
  intro l' vs h g
  match vs, g with
  | [], g => exact g.elim
  | y :: vs, g =>
   unfold qdB at h
   split at h
   ·rename_i heq
    simp only [List.cons.injEq] at heq
    obtain ⟨rfl, rfl⟩ := heq
    cases h
    have e2 : u = y := by have := g.1.1; simp [own1] at this; exact this
    refine ⟨⟨by rw [hM, e2], g.1.2⟩, ?_⟩
    match vs, g.2 with
    | [], _ => trivial
    | _ :: _, g => exact g.elim
   ·rename_i x' l' _ heq
    simp only [List.cons.injEq] at heq
    obtain ⟨rfl, rfl⟩ := heq
    cases hq : isF x with
    | false => rw [hq] at h; cases h
    | true =>
     rw [hq] at h
     simp only [_root_.cond_true, Option.map_eq_some_iff] at h
     obtain ⟨m, h1, rfl⟩ := h
     exact ⟨qeZ hN hq g.1, ih h1 g.2⟩
   ·rename_i heq; cases heq
theorem nameD_rel {d : Nat} {r r' : DV} {w : World} {u v : Value} {N N' : Nat → Prop} {M' : Map} (hN : ∀ b, N b → N' b) (h : nameD d r = some r') (hr : RelD (RelC w N (own1 u)) r v) (hM : M' d = some (.row u)) : RelD (RelC w N' M') r' v := by
 unfold nameD at h
 split at h
 ·simp only [Option.map_eq_some_iff] at h
  obtain ⟨m, h1, rfl⟩ := h
  obtain ⟨vs, e, g⟩ := hr
  exact ⟨vs, e, qmd hN hM h1 g⟩
 ·cases h
  have e : u = v := by have := hr.1; simp [own1] at this; exact this
  exact ⟨by rw [hM, e], hr.2⟩
 ·rename_i l
  cases hq : q1x l with
  | false => rw [hq] at h; cases h
  | true =>
   rw [hq] at h
   cases h
   obtain ⟨vs, e, g⟩ := hr
   match vs, g with
   | x :: vs, g =>
    have e2 : u = x := by have := g.1.1; simp [own1] at this; exact this
    exact ⟨x :: vs, e, ⟨by rw [hM, e2], g.1.2⟩, qbf hq g.2⟩
   | [], g => exact g.elim
 ·cases h
theorem qi9 {w : World} {N N' : Nat → Prop} {M M' : Map} (hN : ∀ b, N b → N' b) : ∀ {l : List CV} {vs : List Value}, allF l = true → All2 (RelC w N M) l vs → All2 (RelC w N' M') l vs
 | [], [], _, _ => trivial
 | x :: l, v :: vs, h, g => by
  simp only [allF, Bool.and_eq_true] at h
  exact ⟨qeZ hN h.1 g.1, qi9 hN h.2 g.2⟩
 | [], _ :: _, _, g => g.elim
 | _ :: _, [], _, g => g.elim
theorem qme {d b : Nat} {w : World} {N N' : Nat → Prop} {M' : Map} (hN : ∀ b, N b → N' b) (hM : M' d = some (.box b)) : ∀ {l l' : List CV} {vs : List Value}, qdC d l = some l' → All2 (RelC w N (box1 b)) l vs → All2 (RelC w N' M') l' vs := by
 intro l
 induction l with
 | nil => intro l' vs h; simp [qdC] at h
 | cons x l ih =>
  intro l' vs h g
  match vs, g with
  | [], g => exact g.elim
  | y :: vs, g =>
   unfold qdC at h
   split at h
   ·rename_i off l2 heq
    simp only [List.cons.injEq] at heq
    obtain ⟨rfl, rfl⟩ := heq
    cases hq : allF l with
    | false => rw [hq] at h; cases h
    | true =>
     rw [hq] at h
     cases h
     obtain ⟨b', g1, g2⟩ := g.1
     have e2 : b' = b := by simp [box1] at g1; exact g1.symm
     subst e2
     exact ⟨⟨_, hM, g2⟩, qi9 hN hq g.2⟩
   ·rename_i x' l2 _ heq
    simp only [List.cons.injEq] at heq
    obtain ⟨rfl, rfl⟩ := heq
    cases hq : isF x with
    | false => rw [hq] at h; cases h
    | true =>
     rw [hq] at h
     simp only [_root_.cond_true, Option.map_eq_some_iff] at h
     obtain ⟨m, h1, rfl⟩ := h
     exact ⟨qeZ hN hq g.1, ih h1 g.2⟩
   ·rename_i heq; cases heq
theorem nameF_rel {d b : Nat} {r r' : DV} {w : World} {v : Value} {N N' : Nat → Prop} {M' : Map} (hN : ∀ b, N b → N' b) (h : nameF d r = some r') (hr : RelD (RelC w N (box1 b)) r v) (hM : M' d = some (.box b)) : RelD (RelC w N' M') r' v := by
 unfold nameF at h
 split at h
 ·simp only [Option.map_eq_some_iff] at h
  obtain ⟨m, h1, rfl⟩ := h
  obtain ⟨vs, e, g⟩ := hr
  exact ⟨vs, e, qme hN hM h1 g⟩
 ·cases h
theorem qia : ∀ {l l' : List DV} {i : Nat} {y : DV}, q4T st forb l = some l' → l'[i]? = some y → ∃ x, l[i]? = some x ∧ toFD st forb x = some y
 | [], l', i, y, h, g => by simp only [q4T, Option.some.injEq] at h; subst h; simp at g
 | x :: l, l', i, y, h, g => by
  simp only [q4T] at h
  split at h
  ·rename_i d ds h1 h2
   cases h
   cases i with
   | zero => simp only [List.getElem?_cons_zero, Option.some.injEq] at g; subst g; exact ⟨x, rfl, h1⟩
   | succ i => exact qia (l := l) h2 (by simpa using g)
  ·cases h
theorem flatC_F {w w' : World} {N N' : Nat → Prop} {M : Map} : ∀ {x : CV} {v : Value}, q4s x = true → RelC w N M x v → RelF w' N' x v
 | .v _, _, _, h => h
 | .sl _ _ _, _, h, _ | .px _ _ _, _, h, _ | .os _, _, h, _ | .p _ _, _, h, _ | .pe _ _ _ _, _, h, _ | .ob _ _ _ _, _, h, _ | .er _, _, h, _ | .any, _, h, _ => by simp [q4s] at h
theorem q4Y {w w' : World} {N N' : Nat → Prop} {M : Map} : ∀ {l : List CV} {vs : List Value}, q0b l = true → All2 (RelC w N M) l vs → All2 (RelF w' N') l vs
 | [], [], _, _ => trivial
 | x :: l, v :: vs, h, g => by
  simp only [q0b, Bool.and_eq_true] at h
  exact ⟨flatC_F h.1 g.1, q4Y h.2 g.2⟩
 | [], _ :: _, _, g => g.elim
 | _ :: _, [], _, g => g.elim
theorem gd_cut (ha : Abs w0 N0 Z M st a w) {B : Nat} (h : w0.heap.size ≤ B) (hB : B < w.heap.size) : Gd (cutW w B) := by
 refine Gd.below ha.defs.2.2 ⟨ha.below.os, ha.below.tape, ha.below.output, by rw [q3N hB]; exact h, fun b hb => ?_⟩
 have : (cutW w B).heap[b]? = w.heap[b]? := by
  simp only [cutW, Array.getElem?_extract]
  rw [if_pos (by omega)]; simp
 rw [this]
 exact ha.below.block b hb
theorem all2_two {α β : Type} {R : α → β → Prop} {x y : α} {l : List β} (h : All2 R [x, y] l) : ∃ u v, l = [u, v] ∧ R x u ∧ R y v := by
 match l, h with
 | [u, v], h => exact ⟨u, v, rfl, h.1, h.2.1⟩
 | [], h => exact h.elim
 | [_], h => exact h.2.elim
 | _ :: _ :: _ :: _, h => exact h.2.2.elim
theorem box_range {c : List CV} : (List.range c.length).map (boxC c) = c := by
 apply List.ext_getElem (by simp)
 intro i h1 h2
 simp [boxC, List.getD, h2]
theorem qf0 : ∀ {l : List CV} {i k : Nat}, q7e i l = some k → l = (List.range l.length).map fun j => CV.p k (i + j)
 | [], _, _, h => by simp [q7e] at h
 | [x], i, k, h => by
  cases x with
  | p k' off =>
   simp only [q7e] at h
   cases hq : Nat.beq off i with
   | false => rw [hq] at h; cases h
   | true =>
    rw [hq] at h
    cases h
    obtain rfl := Nat.eq_of_beq_eq_true hq
    rfl
  | _ => simp [q7e] at h
 | x :: y :: l, i, k, h => by
  cases x with
  | p k' off =>
   simp only [q7e] at h
   split at h
   ·rename_i k2 h2
    cases hq : (Nat.beq k' k2 && Nat.beq off i) with
    | false => rw [hq] at h; cases h
    | true =>
     rw [hq] at h
     cases h
     simp only [Bool.and_eq_true] at hq
     have e1 := Nat.eq_of_beq_eq_true hq.1
     have e2 := Nat.eq_of_beq_eq_true hq.2
     subst e1 e2
     have ih := qf0 h2
     rw [List.length_cons, List.range_succ_eq_map, List.map_cons, List.map_map]
     refine List.cons_eq_cons.2 ⟨rfl, ?_⟩
     rw [ih]
     simp only [List.length_map, List.length_range]
     refine List.map_congr_left fun j _ => ?_
     simp only [Function.comp]
     rw [show off + 1 + j = off + (j + 1) by omega]
   ·cases h
  | _ => simp [q7e] at h
theorem well_call (hS : Valid P S) (ha : Abs w0 N0 Z M st a w) {c : Call} (ho : o.op = .call c) {g : Operand} (hc : c.callee = .value g) {dg : DV} (hdg : opv st g = some dg) {ds : List DV} (hds : opvs st c.args.toList = some ds) {e : Eff} (he : callE S forb st o.dst (fnOf dg) ds = some e) (hp : e.pre) : Well P w0 N0 Z o a w (st.app o.dst e) := by
 have hg := fnOf_rel (qw ha hdg)
 clear hdg
 generalize fnOf dg = dg at he hg
 have hargs := q6A ha hds
 unfold callE at he
 split at he
 ·rename_i f caps
  obtain ⟨cs, hgv, hcaps⟩ := hg
  have hall : All2 (RelD (RelC w (fgn w0 N0 M) M)) (ds ++ caps.map fun x => .t (.c x)) (c.args.toList.map a.eval ++ cs) :=
   hargs.append (All2.map_left (hcaps.mono fun _ _ g => g))
  split at he
  ·rename_i aas has
   have hall1 : All2 (RelD (RelF w (fun _ => True))) aas (c.args.toList.map a.eval ++ cs) := q7h (R := RelC w (fgn w0 N0 M) M) (R' := RelF w (fun _ => True)) (fun _ => true) (fun x y v _ h2 h3 => qdK ha (fun _ _ => trivial) (fun _ _ => trivial) h2 h3) (fun _ _ => qcI) has hall
   have fin : ∀ (r : DV) (pre : Option Prop) (fr : Fre) (N : Nat → Prop), e = ⟨r, [], pre⟩ → (fr = .no ∨ fr = .new) → S f aas = some (r, pre, fr) → (∀ w' v, RetOk w N w' r v fr → RelD (RelF w' (resN w N fr)) r v) → All2 (RelD (RelF w N)) aas (c.args.toList.map a.eval ++ cs) → (qdS r = true ∨ ∀ b, resN w N fr b → fgn w0 N0 M b) → Well P w0 N0 Z o a w (st.app o.dst e) := by
    intro r pre fr N ee hfr hSf hrt h1 h2
    subst ee
    have hX : ∃ (hen : Enters P f), Calls P f (c.args.toList.map a.eval ++ cs).toArray w fun e w'' => ∃ v, e = .returned v ∧ RetOk w N w'' r v fr ∧ Below w.heap.size w w'' := by
     rcases hfr with rfl | rfl
     ·obtain ⟨hen, hcall⟩ := hS f aas r pre .no hSf hp
      exact ⟨hen, hcall w N _ ha.gd h1⟩
     ·obtain ⟨hen, hcall⟩ := hS f aas r pre .new hSf hp
      exact ⟨hen, hcall w N _ ha.gd h1⟩
    obtain ⟨hen, hcall⟩ := hX
    refine .call f _ w (q8m hen ho hc hgv) ?_
    refine Calls.mono hcall ?_
    rintro e w'' ⟨v, rfl, h3, h4⟩
    have h3 := hrt w'' v h3
    refine ⟨v, rfl, M, ha.put h4 o.dst fun dv e => ?_⟩
    cases e
    rcases h2 with h2 | h2
    ·exact qi7 h2 h3
    ·exact RelD.mono (fun x u g => RelC.ofF (g.all h2)) h3
   split at he
   ·rename_i r pre R hSf
    split at he
    rotate_left
    ·cases he
    rename_i d hd
    split at he
    rotate_left
    ·cases he
    rename_i r' hat hnm
    cases hq : (Nat.blt d st.h.length && isRow R) with
    | false => rw [hq] at he; cases he
    | true =>
     rw [hq] at he
     cases he
     simp only [Bool.and_eq_true] at hq
     have q1 : d < st.h.length := Nat.le_of_ble_eq_true hq.1
     obtain ⟨hen, hcall⟩ := hS f aas r pre (.own R) hSf hp
     refine .call f _ w (q8m hen ho hc hgv) ?_
     refine Calls.mono (hcall w _ _ ha.gd hall1) ?_
     rintro e w'' ⟨v, rfl, h3, h4⟩
     obtain ⟨u, k1, k2⟩ := h3
     have hq2 := hq.2
     have key : (∀ b, u.ownBlock = some b → w.heap.size ≤ b ∧ b < w''.heap.size) ∧ R.alive = true ∧ ∀ M' : Map, M' d = some (.row u) → RelR w'' w0.heap.size (fgn w0 N0 M') M' d R := by
      cases R with
      | gen ty sz l =>
       obtain ⟨v', xs, e1, e2, e3, e4⟩ := k2
       have : u = v' := by simpa [own1] using e1
       subst this
       exact ⟨qeI e2, rfl, fun M' hM' => ⟨u, xs, hM', q8k e2 ha.below.size, e3, e4.mono fun _ _ g => g.all fun b hb => hb.elim⟩⟩
      | num ty kd l =>
       obtain ⟨v', e1, e2⟩ := k2
       have : u = v' := by simpa [own1] using e1
       subst this
       exact ⟨qeI e2, rfl, fun M' hM' => ⟨u, hM', q8k e2 ha.below.size⟩⟩
      | box ty c => cases hq2
      | dead => cases hq2
     obtain ⟨M', hA⟩ := ha.adopt d (r := R) (u := .row u) (x := r') (v := v) hat q1 key.2.1 h4 key.1 key.2.2 (fun M' hM' hoth => nameD_rel (fun b hb => ⟨fun h => absurd (Nat.lt_of_lt_of_le h ha.below.size) (by have := hb.1; omega), fun k l hk hl => by
      by_cases e : k = d
      ·subst e; rw [hM'] at hk; cases hk; exact hb.2 hl
      ·rw [hoth k e] at hk; have := (ha.own k l b hk hl).2; have := hb.1; omega⟩) hnm k1 hM')
     refine ⟨v, rfl, M', ?_⟩
     rw [hd]
     exact hA
   ·rename_i r pre ty c hSf
    split at he
    rotate_left
    ·cases he
    rename_i d hd
    split at he
    rotate_left
    ·cases he
    rename_i r' hat hnm
    cases hq : (Nat.blt d st.h.length && q0b c) with
    | false => rw [hq] at he; cases he
    | true =>
     rw [hq] at he
     cases he
     simp only [Bool.and_eq_true] at hq
     have q1 : d < st.h.length := Nat.le_of_ble_eq_true hq.1
     obtain ⟨hen, hcall⟩ := hS f aas r pre (.clo ty c) hSf hp
     refine .call f _ w (q8m hen ho hc hgv) ?_
     refine Calls.mono (hcall w _ _ ha.gd hall1) ?_
     rintro e w'' ⟨v, rfl, h3, h4⟩
     obtain ⟨b, cs, k1, k2, k3, k4⟩ := h3
     obtain ⟨M', hA⟩ := ha.adopt d (r := .box ty c) (u := .box b) (x := r') (v := v) hat q1 rfl h4 (fun b' e => by cases e; exact ⟨k1, (Array.getElem?_eq_some_iff.1 k2).1⟩)
      (fun M' hM' => ⟨b, cs, hM', k2, k3.mono fun _ _ g => RelC.ofF (g.all fun b hb => hb.elim)⟩)
      (fun M' hM' hoth => nameF_rel (fun b' hb => ⟨fun h => absurd (Nat.lt_of_lt_of_le h ha.below.size) (by have := hb.1; omega), fun k l hk hl => by
       by_cases e : k = d
       ·subst e; rw [hM'] at hk; cases hk; exact hb.2 (by cases hl; rfl)
       ·rw [hoth k e] at hk; have := (ha.own k l b' hk hl).2; have := hb.1; omega⟩) hnm k4 hM')
     refine ⟨v, rfl, M', ?_⟩
     rw [hd]
     exact hA
   ·rename_i r pre j ty cs' hSf
    split at he
    rotate_left
    ·cases he
    rename_i k n c0 hj1 hj2
    split at he
    rotate_left
    ·cases he
    rename_i ty' cs0 hat
    have hat : st.at k = some (.box ty' cs0) := by
     unfold DS.rd at hat
     cases e : forb k with
     | true => rw [e] at hat; cases hat
     | false => rw [e] at hat; exact hat
    cases hq : (Nat.beq ty ty' && (Nat.beq n cs0.length && (!q4r (ds.eraseIdx j)))) with
    | false => rw [hq] at he; cases he
    | true =>
     rw [hq] at he
     cases he
     simp only [Bool.and_eq_true, Bool.not_eq_true'] at hq
     obtain ⟨q1, q2, q3⟩ := hq
     have q1 := Nat.eq_of_beq_eq_true q1
     have q2 := Nat.eq_of_beq_eq_true q2
     subst q1
     subst q2
     simp only [List.map_nil, List.append_nil] at has hall
     have ecs : cs = [] := by
      cases cs with
      | nil => rfl
      | cons x l => exact hcaps.elim
     subst ecs
     simp only [List.append_nil] at hall hall1
     obtain ⟨u, hu1, hu2⟩ := hargs.get hj1
     obtain ⟨b, hMk, rfl⟩ := hu2
     obtain ⟨b', cells, e1, e2, e3⟩ := ha.row k _ hat
     rw [hMk] at e1
     cases e1
     have hlen : cells.size = cs0.length := by simpa using e3.length.symm
     have hpt : ∀ i x v, i ≠ j → aas[i]? = some x → (c.args.toList.map a.eval)[i]? = some v → RelD (RelF w (fun b1 => fgn w0 N0 M b1 ∧ b1 ≠ b)) x v := by
      intro i x v hi h1 h2
      obtain ⟨y, g1, g2⟩ := qia has h1
      obtain ⟨v', g3, g4⟩ := hall.get g1
      rw [h2] at g3
      cases g3
      have g5 := q5I q3 y (List.mem_eraseIdx_iff_getElem?.2 ⟨i, hi, g1⟩)
      have g6 : RelD (RelF w (fgn w0 N0 M)) x v := q8l (R := RelC w (fgn w0 N0 M) M) isF (fun x y v h1 h2 h3 => qfT h1 h2 h3) g5 g2 g4
      exact RelD.mono (fun x u g => g.all fun b1 hb => ⟨hb, fun e => hb.2 k _ hMk (by rw [e]; rfl)⟩) g6
     obtain ⟨hen, hcall⟩ := hS f aas r pre (.wr j ty cs') hSf hp
     refine .call f _ w (q8m hen ho hc hgv) ?_
     simp only [List.append_nil]
     refine Calls.mono (hcall w (fgn w0 N0 M) _ ha.gd ⟨hall1, b, cells, hu1, e2, ⟨c0, by rw [hlen]; exact hj2⟩, hpt, gd_cut ha (ha.own k _ b hMk rfl).1 (ha.own k _ b hMk rfl).2⟩) ?_
     rintro e w'' ⟨v, rfl, ⟨k1, k2, k3⟩, B, cells', e4, e5, e6, fb⟩
     rw [hu1] at e4
     cases e4
     have hA := ha.setRow (cs := cells') (r' := .box ty cs') hat rfl hMk rfl (fun stp => ⟨b, cells', hMk, setRow_heap _ _ _ _ _ _ e2, q2V k2 e6⟩) rfl
     have hbel : Below (w.setRow b cells').heap.size (w.setRow b cells') w'' := by
      refine ⟨fb.os, fb.tape, fb.output, by simpa using fb.size, fun i hi => ?_⟩
      by_cases e : i = b
      ·rw [e, e5, setRow_heap _ _ _ _ _ _ e2]
      ·rw [fb.block i (by simpa using hi) e, setRow_other _ _ _ _ e]
     refine ⟨v, rfl, M, hA.put hbel o.dst fun dv e => ?_⟩
     cases e
     exact qi5 k1 k3
   ·rename_i r pre hSf
    cases hq : ((!q4r (ds ++ caps.map fun x => .t (.c x))) || qdS r) with
    | false => rw [hq] at he; cases he
    | true =>
     rw [hq] at he
     cases he
     simp only [Bool.or_eq_true, Bool.not_eq_true'] at hq
     cases hown : q4r (ds ++ caps.map fun x => .t (.c x)) with
     | false =>
      refine fin r pre .no (fgn w0 N0 M) rfl (Or.inl rfl) hSf (fun _ _ h => h) (q7h (R := RelC w (fgn w0 N0 M) M) (R' := RelF w (fgn w0 N0 M)) isF (fun x y v h1 h2 h3 => qfT h1 h2 h3) (q5I hown) has hall) (Or.inr fun b hb => ?_)
      rcases hb with ⟨_, hb⟩ | hb
      ·exact hb
      ·exact qdL ha hb
     | true =>
      refine fin r pre .no (fun _ => True) rfl (Or.inl rfl) hSf (fun _ _ h => h) hall1 (Or.inl ?_)
      rcases hq with hq | hq
      ·rw [hown] at hq; cases hq
      ·exact hq
   ·rename_i r pre hSf
    cases he
    refine fin r pre .new (fun _ => True) rfl (Or.inr rfl) hSf (fun _ _ h => h) hall1 (Or.inr fun b hb => ?_)
    rcases hb with ⟨hb, _⟩ | hb
    ·cases hb
    ·exact qdL ha hb
   ·cases he
  ·split at he
   rotate_left
   ·cases he
   rename_i x ka off sz n htf
   split at he
   rotate_left
   ·cases he
   rename_i tya ptrs hata
   split at he
   rotate_left
   ·cases he
   rename_i k hptr
   split at he
   rotate_left
   ·cases he
   rename_i ty cs0 x' hatk hx'
   cases hq : (Nat.beq off 0 && (Nat.beq sz 1 && (Nat.blt 0 n && (Nat.beq ptrs.length n && (Nat.beq cs0.length n && (q0b cs0 && (!q4r [x]))))))) with
   | false => rw [hq] at he; cases he
   | true =>
   rw [hq] at he
   simp only [_root_.cond_true] at he
   split at he
   rotate_left
   ·cases he
   rename_i r pre tya' ty' cs' hSf
   cases hq2 : (Nat.beq tya tya' && Nat.beq ty ty') with
   | false => rw [hq2] at he; cases he
   | true =>
   rw [hq2] at he
   cases he
   simp only [Bool.and_eq_true, Bool.not_eq_true'] at hq hq2
   obtain ⟨q0, q00, q1, q2, q3, q4, q5⟩ := hq
   have q0 := Nat.eq_of_beq_eq_true q0
   have q00 := Nat.eq_of_beq_eq_true q00
   have q1 : 0 < n := Nat.le_of_ble_eq_true q1
   have q2 := Nat.eq_of_beq_eq_true q2
   have q3 := Nat.eq_of_beq_eq_true q3
   have q6 := Nat.eq_of_beq_eq_true hq2.1
   have q7 := Nat.eq_of_beq_eq_true hq2.2
   subst q0 q00 q6 q7
   have hata := rd_at hata
   have hatk := rd_at hatk
   have ecs : cs = [] := by
    cases cs with
    | nil => rfl
    | cons u l => exact hcaps.elim
   subst ecs
   obtain ⟨v0, v1, ev, r0, r1⟩ := all2_two hargs
   have hpt := qf0 hptr
   rw [q2] at hpt
   have r1 : RelC w (fgn w0 N0 M) M (.ob ka 0 1 n) v1 := r1
   obtain ⟨bA, pc, g1, g2, g3⟩ := ha.row ka _ hata
   obtain ⟨bB, cells, g4, g5, g6⟩ := ha.row k _ hatk
   rcases r1 with ⟨b, cap, hM, hv, hn, hm⟩ | ⟨b, c', o', cap, hM, _⟩
   rotate_left
   ·rw [hM] at g1; cases g1
   rw [hM] at g1
   cases g1
   subst hv
   have hne : ka ≠ k := by
    rintro rfl
    rw [hata] at hatk
    cases hatk
    cases n with
    | zero => omega
    | succ n =>
     rw [hpt, List.range_succ_eq_map, List.map_cons] at q4
     simp [q0b, q4s] at q4
   have hAB : bA ≠ bB := fun e => hne (ha.apart ka k _ _ _ _ bA hata rfl hatk rfl hM g4 rfl (by rw [e]; rfl))
   have hpc : pc.toList = (List.range n).map fun i => Value.pointer (some ⟨bB, i, none⟩) := by
    rw [hpt] at g3
    have hl : pc.toList.length = n := by rw [← g3.length]; simp
    apply List.ext_getElem (by simp [hl])
    intro i h1 h2
    have hi : i < n := by omega
    have e1 : ((List.range n).map fun j => CV.p k (0 + j))[i]? = some (.p k (0 + i)) := by simp [hi]
    obtain ⟨u, e2, e3⟩ := g3.get e1
    obtain ⟨b2, e4, e5⟩ := e3
    rw [g4] at e4
    cases e4
    rw [List.getElem?_eq_getElem h1] at e2
    simp only [Option.some.injEq] at e2
    rw [e2, e5]
    simp
   have hcells : All2 (RelF w (fun _ => True)) ((List.range n).map (boxC cs0)) cells.toList := by
    rw [← q3, box_range]
    exact q4Y q4 g6
   have hx0 : RelD (RelF w (fun b1 => fgn w0 N0 M b1 ∧ b1 ≠ bA ∧ b1 ≠ bB)) x' v0 := by
    have g7 := q5I q5 x (by simp)
    have g8 : RelD (RelF w (fgn w0 N0 M)) x' v0 := q8l (R := RelC w (fgn w0 N0 M) M) isF (fun x y v h1 h2 h3 => qfT h1 h2 h3) g7 hx' r0
    exact RelD.mono (fun x u g => g.all fun b1 hb => ⟨hb, fun e => hb.2 ka _ hM (by rw [e]; rfl), fun e => hb.2 k _ g4 (by rw [e]; rfl)⟩) g8
   obtain ⟨hen, hcall⟩ := hS f [x', .t (.c (.px n 0 (boxC cs0)))] r pre (.wrs tya ty cs') hSf hp
   refine .call f _ w (q8m hen ho hc hgv) ?_
   simp only [List.append_nil]
   rw [ev]
   refine Calls.mono (hcall w (fgn w0 N0 M) _ ha.gd ⟨x', n, boxC cs0, v0, bA, cap, pc, bB, cells, rfl, rfl, hn, hm, q1, hAB, g2, hpc, g5, hcells, hx0, by
    have o1 := ha.own ka _ bA hM rfl
    have o2 := ha.own k _ bB g4 rfl
    exact gd_cut ha (by omega) (by omega)⟩) ?_
   rintro e w'' ⟨v, rfl, ⟨k1, k2, k3⟩, A, n', cap', pc', B, cells', e4, e5, e6, e7, e8, fb⟩
   simp only [List.getElem?_cons_succ, List.getElem?_cons_zero, Option.some.injEq, Value.slice.injEq, Addr.mk.injEq, and_true] at e4
   obtain ⟨rfl, _, _⟩ := e4
   rw [g2] at e5
   cases e5
   have e6 : B = bB := by
    have h1 : pc.toList[0]? = some (.pointer (some ⟨B, 0, none⟩)) := by simpa using e6
    rw [hpc] at h1
    simp [q1] at h1
    exact h1.symm
   subst e6
   have hA := ha.setRow (cs := cells') (r' := .box ty cs') hatk rfl g4 rfl (fun stp => ⟨B, cells', g4, setRow_heap _ _ _ _ _ _ g5, q2V k2 e8⟩) rfl
   have hbel : Below (w.setRow B cells').heap.size (w.setRow B cells') w'' := by
    refine ⟨fb.os, fb.tape, fb.output, by simpa using fb.size, fun i hi => ?_⟩
    by_cases e : i = B
    ·rw [e, e7, setRow_heap _ _ _ _ _ _ g5]
    ·rw [fb.block i (by simpa using hi) e, setRow_other _ _ _ _ e]
   refine ⟨v, rfl, M, hA.put hbel o.dst fun dv e => ?_⟩
   cases e
   exact qi5 k1 k3
 ·rename_i f l
  obtain ⟨vs, hgv, hvs⟩ := hg
  have hall : All2 (RelD (RelC w (fgn w0 N0 M) M)) (.t (.a l) :: ds) (.agg vs.toArray :: c.args.toList.map a.eval) := ⟨⟨vs, rfl, hvs⟩, hargs⟩
  split at he
  ·rename_i aas has
   have hall1 : All2 (RelD (RelF w (fun _ => True))) aas (.agg vs.toArray :: c.args.toList.map a.eval) := q7h (R := RelC w (fgn w0 N0 M) M) (R' := RelF w (fun _ => True)) (fun _ => true) (fun x y v _ h2 h3 => qdK ha (fun _ _ => trivial) (fun _ _ => trivial) h2 h3) (fun _ _ => qcI) has hall
   have fin : ∀ (r : DV) (pre : Option Prop) (fr : Fre) (N : Nat → Prop), e = ⟨r, [], pre⟩ → (fr = .no ∨ fr = .new) → S f aas = some (r, pre, fr) → (∀ w' v, RetOk w N w' r v fr → RelD (RelF w' (resN w N fr)) r v) → All2 (RelD (RelF w N)) aas (.agg vs.toArray :: c.args.toList.map a.eval) → (qdS r = true ∨ ∀ b, resN w N fr b → fgn w0 N0 M b) → Well P w0 N0 Z o a w (st.app o.dst e) := by
    intro r pre fr N ee hfr hSf hrt h1 h2
    subst ee
    have hX : ∃ (hen : Enters P f), Calls P f (.agg vs.toArray :: c.args.toList.map a.eval).toArray w fun e w'' => ∃ v, e = .returned v ∧ RetOk w N w'' r v fr ∧ Below w.heap.size w w'' := by
     rcases hfr with rfl | rfl
     ·obtain ⟨hen, hcall⟩ := hS f aas r pre .no hSf hp
      exact ⟨hen, hcall w N _ ha.gd h1⟩
     ·obtain ⟨hen, hcall⟩ := hS f aas r pre .new hSf hp
      exact ⟨hen, hcall w N _ ha.gd h1⟩
    obtain ⟨hen, hcall⟩ := hX
    refine .call f _ w (run_callB hen ho hc hgv) ?_
    refine Calls.mono hcall ?_
    rintro e w'' ⟨v, rfl, h3, h4⟩
    have h3 := hrt w'' v h3
    refine ⟨v, rfl, M, ha.put h4 o.dst fun dv e => ?_⟩
    cases e
    rcases h2 with h2 | h2
    ·exact qi7 h2 h3
    ·exact RelD.mono (fun x u g => RelC.ofF (g.all h2)) h3
   split at he
   ·rename_i r pre hSf
    cases hq : ((!q4r (.t (.a l) :: ds)) || q1D r) with
    | false => rw [hq] at he; cases he
    | true =>
     rw [hq] at he
     cases he
     simp only [Bool.or_eq_true, Bool.not_eq_true'] at hq
     cases hown : q4r (.t (.a l) :: ds) with
     | false =>
      refine fin r pre .no (fgn w0 N0 M) rfl (Or.inl rfl) hSf (fun _ _ h => h) (q7h (R := RelC w (fgn w0 N0 M) M) (R' := RelF w (fgn w0 N0 M)) isF (fun x y v h1 h2 h3 => qfT h1 h2 h3) (q5I hown) has hall) (Or.inr fun b hb => ?_)
      rcases hb with ⟨_, hb⟩ | hb
      ·exact hb
      ·exact qdL ha hb
     | true =>
      refine fin r pre .no (fun _ => True) rfl (Or.inl rfl) hSf (fun _ _ h => h) hall1 (Or.inl ?_)
      rcases hq with hq | hq
      ·rw [hown] at hq; cases hq
      ·exact flatD_A hq
   ·rename_i r pre hSf
    cases he
    refine fin r pre .new (fun _ => True) rfl (Or.inr rfl) hSf (fun _ _ h => h) hall1 (Or.inr fun b hb => ?_)
    rcases hb with ⟨hb, _⟩ | hb
    ·cases hb
    ·exact qdL ha hb
   ·cases he
  ·cases he
 ·cases he
theorem qiS (ha : Abs w0 N0 Z M st a w) {f : FuncId} {first caps : Array Operand} (ho : o.op = .makeFunc (.func f) first caps) (h0 : first.size = 0) {e : Eff} (he : (((opvs st caps.toList).bind cvs).map fun l => val (.t (.fn f l))) = some e) : Well P w0 N0 Z o a w (st.app o.dst e) := by
 simp only [Option.map_eq_some_iff, Option.bind_eq_some_iff] at he
 obtain ⟨l, ⟨ds, h1, h2⟩, rfl⟩ := he
 have hr := q6A ha h1
 have key : ∀ {ds : List DV} {l : List CV} {vs : List Value}, cvs ds = some l → All2 (RelD (RelC w (fgn w0 N0 M) M)) ds vs → All2 (RelC w (fgn w0 N0 M) M) l vs := by
  intro ds
  induction ds with
  | nil => intro l vs h g; simp only [cvs, Option.some.injEq] at h; subst h; cases vs <;> first | trivial | exact g.elim
  | cons d ds ih =>
   intro l vs h g
   match d, h with
   | .t (.c x), h =>
    simp only [cvs, Option.map_eq_some_iff] at h
    obtain ⟨l', h1, rfl⟩ := h
    match vs, g with
    | v :: vs, g => exact ⟨g.1, ih h1 g.2⟩
    | [], g => exact g.elim
   | .t (.a _), h => simp [cvs] at h
   | .t (.fn _ _), h => simp [cvs] at h
   | .t (.fb _ _), h => simp [cvs] at h
   | .tu _, h => simp [cvs] at h
 refine Well.val ha (d := .t (.fn f l)) (v := .func (.func f) #[] (caps.toList.map a.eval).toArray) ?_ ⟨_, rfl, key h2 hr⟩
 have h3 : first = #[] := Array.eq_empty_of_size_eq_zero h0
 unfold execOp
 simp [ho, Instr.makeFunc, h3]
 apply Array.toList_inj.1
 simp
theorem qhn (ha : Abs w0 N0 Z M st a w) {f : FuncId} {first caps : Array Operand} (ho : o.op = .makeFunc (.func f) first caps) (h0 : caps.size = 0) {e : Eff} (he : fbE f (opvs st first.toList) = some e) : Well P w0 N0 Z o a w (st.app o.dst e) := by
 unfold fbE at he
 split at he
 case h_2 => cases he
 rename_i l h1
 cases he
 have hr := q6A ha h1
 have key : ∀ {us : List Value}, All2 (RelD (RelC w (fgn w0 N0 M) M)) [.t (.a l)] us → ∃ vs : List Value, us = [.agg vs.toArray] ∧ All2 (RelC w (fgn w0 N0 M) M) l vs := by
  intro us h
  match us, h with
  | [u], h =>
   obtain ⟨vs, e1, g⟩ := h.1
   exact ⟨vs, by rw [e1], g⟩
  | [], h => exact h.elim
  | _ :: _ :: _, h => exact h.2.elim
 obtain ⟨vs, hv, g⟩ := key hr
 refine Well.val ha (d := .t (.fb f l)) (v := .func (.func f) #[.agg vs.toArray] #[]) ?_ ⟨vs, rfl, g⟩
 have h3 : caps = #[] := Array.eq_empty_of_size_eq_zero h0
 have h4 : first.map a.eval = #[.agg vs.toArray] := by apply Array.toList_inj.1; rw [Array.toList_map, hv]
 unfold execOp
 simp [ho, Instr.makeFunc, h3, h4]
theorem run_len {c : Call} (ho : o.op = .call c) (hc : c.callee = .builtin .len) {x : Operand} {t : TypeId} (h1 : c.args.toList = [x]) (h2 : c.argTypes.toList = [t]) {v : Value} (hr : (Builtin.len_ #[t] o.type #[a.eval x]).run P w = .ok v w) :
  (execOp a.eval o).run P w = .ok (.value v) w := by
 have e1 : c.args = #[x] := Array.toList_inj.1 h1
 have e2 : c.argTypes = #[t] := Array.toList_inj.1 h2
 unfold execOp
 simp [ho, resolve, hc, e1, e2, invoke, builtin, hr]
theorem well_len (hT : TabOK P T) (ha : Abs w0 N0 Z M st a w) {c : Call} (ho : o.op = .call c) (hc : c.callee = .builtin .len) {x : Operand} {t : TypeId} (h1 : c.args.toList = [x]) (h2 : c.argTypes.toList = [t]) {e : Eff} (he : (opv st x).bind (lenE T forb st t) = some e) : Well P w0 N0 Z o a w (st.app o.dst e) := by
 simp only [Option.bind_eq_some_iff] at he
 obtain ⟨d, hd, he⟩ := he
 have hx := qw ha hd
 have go : ∀ {el : TypeId} {s1 s2 : Nat} {z : List Value} {q : Bool} {ao : Option Addr} {n cap : Nat}, T t = some ⟨.sl el, s1, s2, z, q⟩ → a.eval x = .slice ao n cap → Well P w0 N0 Z o a w (st.app o.dst (val (dI n))) := by
  intro el s1 s2 z q ao n cap ht hv
  refine Well.val ha (d := dI n) (v := .int .i64 n) (run_len ho hc h1 h2 ?_) ⟨rfl, rfl⟩
  simp [hv, Builtin.len_, run_underlying ((hT t _ ht).sl rfl), goInt]
 have gown : ∀ {base : Nat} {e : TypeId} {sz : Nat} {v : Value} {n : Nat} {xs : List Value}, w.ownsRow base e sz v n xs → ∃ ao cap, v = .slice ao n cap := by
  intro base e sz v n xs h
  rcases h.2 with ⟨rfl, rfl⟩ | ⟨g, cap, cur, rfl, _⟩
  ·exact ⟨_, _, rfl⟩
  ·exact ⟨_, _, rfl⟩
 unfold lenE at he
 split at he
 ·split at he
  ·rename_i el s1 s2 z q ht
   cases he
   obtain ⟨ao, cap, hv, _⟩ := hx
   exact go ht hv
  ·cases he
 ·rename_i k
  obtain ⟨hM, _⟩ := hx
  split at he
  ·rename_i el s1 s2 z q ty sz l ht hrow
   cases he
   obtain ⟨v', xs, g1, g2, _⟩ := ha.row k _ (rd_at hrow)
   rw [hM] at g1; cases g1
   obtain ⟨ao, cap, hv⟩ := gown g2
   exact go ht hv
  ·rename_i el s1 s2 z q ty kd l ht hrow
   cases he
   obtain ⟨v', g1, g2⟩ := ha.row k _ (rd_at hrow)
   rw [hM] at g1; cases g1
   obtain ⟨ao, cap, hv⟩ := gown g2
   exact go ht hv
  ·cases he
 ·split at he
  ·rename_i el s1 s2 z q ht
   cases he
   exact go ht hx.1
  ·cases he
 ·rename_i k off sz n
  split at he
  ·rename_i el s1 s2 z q ht
   cases he
   have hx : RelC w (fgn w0 N0 M) M (.ob k off sz n) (a.eval x) := hx
   rcases hx with ⟨b, cap, hM, hv, _⟩ | ⟨b, c', o', cap, hM, _, hv, _⟩
   ·exact go ht hv
   ·exact go ht hv
  ·cases he
 ·rename_i s
  split at he
  ·rename_i s1 s2 z q ht
   cases he
   refine Well.val ha (d := dI s.size) (v := .int .i64 s.size) (run_len ho hc h1 h2 ?_) ⟨rfl, rfl⟩
   rw [show a.eval x = .string s from hx.1]
   simp [Builtin.len_, run_underlying ((hT t _ ht).str rfl), goInt]
  ·cases he
 ·cases he
theorem qeJ {R : CV → Value → Prop} (hR : ∀ y u, R (.v y) u → u = y) : ∀ {l : List DV} {vs us : List Value}, q8U l = some vs → All2 (RelD R) l us → us = vs
 | [], vs, [], h, _ => by simp only [q8U, Option.some.injEq] at h; exact h
 | d :: l, vs, u :: us, h, g => by
  simp only [q8U] at h
  split at h
  ·rename_i v ws h1 h2
   cases h
   rw [q5H hR h1 g.1, qeJ hR h2 g.2]
  ·cases h
 | [], _, _ :: _, _, g => g.elim
 | _ :: _, _, [], _, g => g.elim
theorem well_bi (ha : Abs w0 N0 Z M st a w) {c : Call} (ho : o.op = .call c) {b : Builtin} (hc : c.callee = .builtin b) {f : Array Value → Sem Value} {e : Eff} (he : qh4 P f (opvs st c.args.toList) = some e) (hb : ∀ consts vs, builtin b c.argTypes o.type consts vs = (do pure (.value (← f vs)) : Sem Next) := by intro _ _; rfl) : Well P w0 N0 Z o a w (st.app o.dst e) := by
 unfold qh4 at he
 cases hx : opvs st c.args.toList with
 | none => rw [hx] at he; simp at he
 | some ds =>
  rw [hx] at he
  simp only [Option.bind_some] at he
  split at he
  ·rename_i vs hvs
   simp only [Option.map_eq_some_iff, Option.bind_eq_some_iff] at he
   obtain ⟨d, ⟨r, h1, h2⟩, rfl⟩ := he
   have e1 := qeJ relC_v' hvs (q6A ha hx)
   have e2 : c.args.map a.eval = vs.toArray := by apply Array.toList_inj.1; rw [Array.toList_map, e1]
   refine Well.val ha (v := r) ?_ (q7b qad h2)
   unfold execOp
   simp only [ho, resolve, hc, invoke, Sem.run_bind, Sem.run_pure, Result.andThen_ok, e2, hb, q4J _ h1]
  ·cases he
theorem qkM (hT : TabOK P T) (hS : Valid P S) (ha : Abs w0 N0 Z M st a w) {e : Eff} (he : exec0 P T S forb st o = some e) (hp : e.pre) : Well P w0 N0 Z o a w (st.app o.dst e) := by
 unfold exec0 at he
 split at he
 ·rename_i x ho; exact qhX ha (Or.inl ho) he
 ·rename_i x ho; exact qhX ha (Or.inr ho) he
 ·rename_i c x y ho
  split at he
  ·rename_i t hc; exact well_pick ha ho hc he hp
  ·cases he
 ·rename_i t ho
  split at he
  ·rename_i i hi
   cases h1 : q1P i.zero with
   | false => rw [h1] at he; cases he
   | true => rw [h1] at he; exact qkI hT ha ho hi h1 he
  ·cases he
 ·rename_i t x ho; exact well_box hT ha ho he
 ·rename_i t parts ho; exact qm7 hT ha ho he
 ·rename_i t n parts ho; exact qfS hT ha ho he
 ·rename_i t x ho; exact well_load hT ha ho he hp
 ·rename_i t x y ho
  split at he
  ·rename_i dx dy h1 h2; exact qm6 hT ha ho h1 h2 he hp
  ·cases he
 ·rename_i x ho; exact well_nil ha ho he
 ·rename_i op xt x y yt ho
  cases hd : isDiv op with
  | true => rw [hd] at he; exact well_div ha ho he hp
  | false =>
   rw [hd] at he
   simp only [cond_false] at he
   cases hd2 : isShift op with
   | true => rw [hd2] at he; exact qm3 ha ho he hp
   | false =>
   rw [hd2] at he
   simp only [cond_false] at he
   split at he
   ·rename_i e' heq
    cases he
    exact eqE_sound hT ha ho heq
   split at he
   ·rename_i e' heq
    cases he
    exact qmc ha ho heq hp
   ·refine qjk ha he fun w => ?_
    unfold execOp
    simp only [ho]
 ·rename_i op t x ho
  refine qcG ha he fun w => ?_
  unfold execOp
  simp only [ho]
 ·rename_i src dst x ho
  refine qcG ha he fun w => ?_
  unfold execOp
  simp only [ho]
 ·rename_i f first caps ho
  cases hq : Nat.beq first.size 0 with
  | false =>
   rw [hq] at he
   simp only [_root_.cond_false] at he
   cases hc : Nat.beq caps.size 0 with
   | false => rw [hc] at he; cases he
   | true => rw [hc] at he; exact qhn ha ho (Nat.eq_of_beq_eq_true hc) he
  | true => rw [hq] at he; exact qiS ha ho (Nat.eq_of_beq_eq_true hq) he
 ·rename_i s x f ho; exact qhk hT ha ho he
 ·rename_i s x f ho; exact qm4 hT ha ho he
 ·rename_i t x y ho
  split at he
  ·rename_i dx dy h1 h2; exact qhl hT ha ho h1 h2 he hp
  ·cases he
 ·rename_i x i ho; exact qjq ha ho he
 ·rename_i t x ho; exact qkK hT ha ho he hp
 ·rename_i t x y ho
  split at he
  ·rename_i dx dy h1 h2; exact qm5 hT ha ho h1 h2 he hp
  ·cases he
 ·rename_i t x y ho
  split at he
  ·rename_i dx dy h1 h2; exact well_make hT ha ho h1 h2 he hp
  ·cases he
 ·rename_i t x lo hi mx ho
  simp only [Option.bind_eq_some_iff] at he
  obtain ⟨d, hd, he⟩ := he
  exact qmb hT ha ho hd he hp
 ·rename_i c ho
  split at he
  ·rename_i hc
   split at he
   ·rename_i x t h1 h2; exact well_len hT ha ho hc h1 h2 he
   ·cases he
  ·rename_i hc
   split at he
   ·rename_i x y t t' h1 h2
    split at he
    ·rename_i dx dy hx hy
     cases hq : Nat.beq t t' with
     | false => rw [hq] at he; cases he
     | true =>
      rw [hq] at he
      obtain rfl := Nat.eq_of_beq_eq_true hq
      exact qkL hT ha ho hc h1 h2 hx hy he hp
    ·cases he
   ·cases he
  ·rename_i hc; exact well_bi ha ho hc he
  ·rename_i hc; exact well_bi ha ho hc he
  ·rename_i f hc
   split at he
   ·rename_i dg ds h1 h2; exact well_call hS ha ho hc h1 h2 he hp
   ·cases he
  ·cases he
 ·cases he
theorem qjx {e : Eff} (he : exec P T S forb st o = some e) : exec0 P T S forb st o = some e ∧ okUp forb o e.up = true := by
 unfold exec at he
 split at he
 ·rename_i e' h
  cases hq : okUp forb o e'.up with
  | false => rw [hq] at he; cases he
  | true => rw [hq] at he; cases he; exact ⟨h, hq⟩
 ·cases he
theorem qfW (hT : TabOK P T) (hS : Valid P S) (ha : Abs w0 N0 Z M st a w) {e : Eff} (he : exec P T S forb st o = some e) (hp : e.pre) : Well P w0 N0 Z o a w (st.app o.dst e) :=
 qkM hT hS ha (qjx he).1 hp
end Go.Proofs.YtfadkjcfjkmalaaGreatDoor.Ev
namespace Go.Proofs.YtfadkjcfjkmalaaGreatDoor.Ev
open Go.RowKit
variable {w0 : World} {N0 : Nat → Prop} {Z : Pins} {P : Program} {T : Tab} {S : Sum} {M : Map} {a : Act} {w : World}
def q0O (ops : List Oper) (st : DS) (o : Oper) : Option Bool :=
 match o.guard with
 | none => some true
 | some (j, want) => match (ops[j]?).bind (·.dst) with
  | none => some false
  | some g => match st.tm g with
   | some (.t (.c (.v (.bool b)))) => some (b == want)
   | some (.tu []) => some false
   | _ => none
def runE (P : Program) (T : Tab) (S : Sum) (forb : Nat → Bool) (o : Oper) (st : DS) (k : DS → Prop) : Prop :=
 match exec P T S forb st o with
 | some e => match e.pr with
  | none => k (st.app o.dst e)
  | some p => p ∧ k (st.app o.dst e)
 | none => False
def qdD {α : Type} {β : Sort 1} : List α → (List α → β) → β
 | [], k => k []
 | a :: l, k => qdD l fun l' => k (a :: l')
theorem q9j {α : Type} {β : Sort 1} : ∀ (l : List α) (k : List α → β), qdD l k = k l
 | [], k => rfl
 | a :: l, k => q9j l fun l' => k (a :: l')
def q8V {β : Sort 1} (st : DS) (k : DS → β) : β := qdD st.t fun t => qdD st.h fun h => k ⟨t, h⟩
theorem q3P {β : Sort 1} (st : DS) (k : DS → β) : q8V st k = k st := by
 unfold q8V
 rw [q9j, q9j]
def qh6 {β : Sort 1} (st : DS) (k : DS → β) : β := qdD st.t fun t => k ⟨t, st.h⟩
theorem qib {β : Sort 1} (st : DS) (k : DS → β) : qh6 st k = k st := by
 unfold qh6
 rw [q9j]
def evOp0 (P : Program) (T : Tab) (S : Sum) (ops : List Oper) (forb : Nat → Bool) (o : Oper) (st : DS) (k : DS → Prop) : Prop :=
 match o.guard with
 | none => runE P T S forb o st k
 | some (j, want) => match (ops[j]?).bind (·.dst) with
  | none => k (st.putO o.dst (some noV))
  | some g => match st.tm g with
   | some (.t (.c (.v (.bool b)))) => cond b
     (cond want (runE P T S forb o (st.putO (some g) (some (dB true))) k) (k ((st.putO (some g) (some (dB true))).putO o.dst (some noV))))
     (cond want (k ((st.putO (some g) (some (dB false))).putO o.dst (some noV))) (runE P T S forb o (st.putO (some g) (some (dB false))) k))
   | some (.tu []) => k (st.putO o.dst (some noV))
   | _ => False
def evOp (P : Program) (T : Tab) (S : Sum) (ops : List Oper) (forb : Nat → Bool) (o : Oper) (st : DS) (k : DS → Prop) : Prop := evOp0 P T S ops forb o st fun s => qh6 s k
def step (P : Program) (T : Tab) (S : Sum) (ops : List Oper) (forb : Nat → Bool) (o : Oper) (st : DS) : Option (Prop × DS) :=
 match q0O ops st o with
 | some true => (exec P T S forb st o).map fun e => (e.pre, st.app o.dst e)
 | some false => some (True, st.putO o.dst (some noV))
 | none => none
theorem qbg {st : DS} {i : Nat} {x : DV} (hx : st.tm i = some x) : st.putO (some i) (some x) = st := by
 unfold DS.putO
 simp only
 congr 1
 apply List.ext_getElem?
 intro j
 rw [List.getElem?_set]
 unfold DS.tm at hx
 split
 ·rename_i e; subst e
  split
  ·rename_i h2
   cases h3 : st.t[i]? with
   | none => rw [h3] at hx; cases hx
   | some o => rw [h3] at hx; simp at hx; rw [hx]
  ·rename_i h2
   rw [List.getElem?_eq_none (by omega)]
 ·rfl
theorem runE_iff {forb : Nat → Bool} {o : Oper} {st : DS} {k : DS → Prop} : runE P T S forb o st k ↔ ∃ e, exec P T S forb st o = some e ∧ e.pre ∧ k (st.app o.dst e) := by
 unfold runE
 split
 ·rename_i e he
  have key : (match e.pr with
   | none => k (st.app o.dst e)
   | some p => p ∧ k (st.app o.dst e)) ↔ e.pre ∧ k (st.app o.dst e) := by
   unfold Eff.pre okP
   cases e.pr with
   | none => exact ⟨fun h => ⟨trivial, h⟩, fun h => h.2⟩
   | some p => exact Iff.rfl
  rw [key]
  exact ⟨fun h => ⟨e, he, h⟩, fun ⟨e', h1, h2⟩ => by rw [he] at h1; cases h1; exact h2⟩
 ·rename_i he; exact ⟨fun h => h.elim, fun ⟨e', h1, h2⟩ => by rw [he] at h1; cases h1⟩
theorem q1M {ops : List Oper} {forb : Nat → Bool} {o : Oper} {st : DS} {k : DS → Prop} : evOp P T S ops forb o st k ↔ ∃ p st', step P T S ops forb o st = some (p, st') ∧ p ∧ k st' := by
 have hrun : ∀ {st : DS}, q0O ops st o = some true → (runE P T S forb o st k ↔ ∃ p st', step P T S ops forb o st = some (p, st') ∧ p ∧ k st') := by
  intro st hw
  unfold step
  rw [hw, runE_iff]
  simp only [Option.map_eq_some_iff, Prod.mk.injEq]
  constructor
  ·rintro ⟨e, h1, h2, h3⟩; exact ⟨e.pre, _, ⟨e, h1, rfl, rfl⟩, h2, h3⟩
  ·rintro ⟨p, st', ⟨e, h1, rfl, rfl⟩, h2, h3⟩; exact ⟨e, h1, h2, h3⟩
 have hskip : ∀ {st : DS}, q0O ops st o = some false → (k (st.putO o.dst (some noV)) ↔ ∃ p st', step P T S ops forb o st = some (p, st') ∧ p ∧ k st') := by
  intro st hw
  unfold step
  rw [hw]
  constructor
  ·intro h; exact ⟨_, _, rfl, trivial, h⟩
  ·rintro ⟨p, st', h1, h2, h3⟩; cases h1; exact h3
 unfold evOp
 simp only [qib]
 unfold evOp0
 split
 ·rename_i hg; exact hrun (by unfold q0O; rw [hg])
 ·rename_i j want hg
  split
  ·rename_i hd; exact hskip (by unfold q0O; rw [hg]; simp only; rw [hd])
  ·rename_i g hd
   split
   ·rename_i b hb
    have hw : q0O ops st o = some (b == want) := by unfold q0O; rw [hg]; simp only; rw [hd]; simp only; rw [hb]
    cases b with
    | true =>
     simp only [cond_true]
     rw [show st.putO (some g) (some (dB true)) = st from qbg hb]
     cases want with
     | true => exact hrun (by rw [hw]; rfl)
     | false => exact hskip (by rw [hw]; rfl)
    | false =>
     simp only [cond_false]
     rw [show st.putO (some g) (some (dB false)) = st from qbg hb]
     cases want with
     | true => exact hskip (by rw [hw]; rfl)
     | false => exact hrun (by rw [hw]; rfl)
   ·rename_i hb; exact hskip (by unfold q0O; rw [hg]; simp only; rw [hd]; simp only; rw [hb])
   ·rename_i h1 h2
    refine ⟨fun h => h.elim, fun ⟨p, st', h3, _⟩ => ?_⟩
    unfold step q0O at h3
    rw [hg] at h3
    simp only at h3
    rw [hd] at h3
    simp only at h3
    cases h3
theorem exec_nd {forb : Nat → Bool} {o : Oper} {st : DS} {e : Eff} (h : exec P T S forb st o = some e) : ∀ c, o.op ≠ .defer c := by
 intro c hc
 unfold exec at h
 have h0 : exec0 P T S forb st o = none := by unfold exec0; rw [hc]
 rw [h0] at h
 simp at h
theorem qfX {ro : Option Nat} (hT : TabOK P T) (hS : Valid P S) {ops : Array Oper} {forb : Nat → Bool} {o : Oper} {st st' : DS} {p : Prop} (ha : Abs w0 N0 Z M st a w) (h : step P T S ops.toList forb o st = some (p, st')) (hp : p) {K : Act → World → Prop} {Q : Exit → Act → World → Prop} (hK : ∀ M' a' w', Abs w0 N0 Z M' st' a' w' → K a' w') :
  if Region.wanted o (yielded ops a.tmps) then o.wpIn (fen ro) 0 P a w K Q else (∀ f, o.about P w a.eval = some f → (fen ro).fn f) ∧ K (a.put o.dst undef) w := by
 have hw : ∀ b, q0O ops.toList st o = some b → Region.wanted o (yielded ops a.tmps) = b := by
  intro b hb
  unfold q0O at hb
  unfold Region.wanted
  split at hb
  ·rename_i hg; cases hb; rw [hg]
  ·rename_i j want hg
   rw [hg]
   simp only
   unfold yielded
   simp only [Array.getElem?_toList] at hb
   split at hb
   ·rename_i hd; cases hb; rw [hd]; rfl
   ·rename_i g hd
    rw [hd]
    simp only [Option.bind_some]
    split at hb
    ·rename_i c hc
     cases hb
     obtain ⟨v, h1, h2⟩ := ha.tmp g _ hc
     rw [h1, show v = .bool c from h2.1]
     cases c <;> cases want <;> rfl
    ·rename_i hc
     cases hb
     obtain ⟨v, h1, vs, h2, h3⟩ := ha.tmp g _ hc
     rw [h1, h2]; rfl
    ·cases hb
 unfold step at h
 split at h
 ·rename_i hb
  rw [hw _ hb]
  simp only [Option.map_eq_some_iff, Prod.mk.injEq] at h
  obtain ⟨e, h1, rfl, rfl⟩ := h
  simp only [if_true]
  exact (qfW hT hS ha h1 hp).wp (exec_nd h1) hK
 ·rename_i hb
  rw [hw _ hb]
  cases h
  simp only [Bool.false_eq_true, if_false]
  refine ⟨fun f _ => fen_fn ro f, hK _ _ _ (ha.put (Below.refl _ _) o.dst fun dv e => ?_)⟩
  cases e
  exact ⟨[], rfl, trivial⟩
 ·cases h
@[reducible] def Item := Nat × Oper × (Nat → Bool)
def q0d (P : Program) (T : Tab) (S : Sum) (ops : List Oper) : List Item → DS → (DS → Prop) → Prop
 | [], st, k => k st
 | (_, o, f) :: l, st, k => evOp P T S ops f o st fun st' => q0d P T S ops l st' k
def q6m : Nat → Bool := fun _ => false
def qc2 (P : Program) (T : Tab) (S : Sum) (ops : List Oper) : List Oper → DS → (DS → Prop) → Prop
 | [], st, k => k st
 | o :: l, st, k => evOp P T S ops q6m o st fun st' => qc2 P T S ops l st' k
theorem qeK {ro : Option Nat} (hT : TabOK P T) (hS : Valid P S) {ops : Array Oper} {Q : Exit → Act → World → Prop} {k : DS → Prop} (hQ : ∀ M' st' a' w', k st' → Abs w0 N0 Z M' st' a' w' → Q .normal a' w') : ∀ (l : List Oper) {M : Map} {st : DS} {a : Act} {w : World}, Abs w0 N0 Z M st a w → qc2 P T S ops.toList l st k → wpListIn (fen ro) 0 P ops Q l a w
 | [], M, st, a, w, ha, h => hQ _ _ _ _ h ha
 | o :: l, M, st, a, w, ha, h => by
  simp only [qc2] at h
  rw [q1M] at h
  obtain ⟨p, st', h1, h2, h3⟩ := h
  exact qfX hT hS ha h1 h2 fun M' a' w' ha' => qeK hT hS hQ l ha' h3
theorem qeL {ro : Option Nat} (hT : TabOK P T) (hS : Valid P S) {ops : Array Oper} {id : Nat} {Q : Exit → Act → World → Prop} {k : DS → Prop} (hQ : ∀ M' st' a' w', k st' → Abs w0 N0 Z M' st' a' w' → Q .normal a' w') {st : DS} (ha : Abs w0 N0 Z M st a w) (h : qc2 P T S ops.toList ops.toList st k) : (Code.region id ops false).wpIn (fen ro) 0 P Q a w :=
 wpIn_region_list (qeK hT hS hQ _ ha h)
end Go.Proofs.YtfadkjcfjkmalaaGreatDoor.Ev
namespace Go.Proofs.YtfadkjcfjkmalaaGreatDoor.Ev
open Go.RowKit
variable {w0 : World} {N0 : Nat → Prop} {Z : Pins} {P : Program} {T : Tab} {S : Sum} {M : Map} {a : Act} {w : World}
def rds : Op → List Operand
 | .slice _ x lo hi mx => x :: (lo.toList ++ hi.toList ++ mx.toList)
 | .move x | .assign x | .box _ x | .load _ x | .nilCheck x | .unOp _ _ x | .convert _ _ x | .fieldAddr _ x _ | .field _ x _ | .extract x _ | .sliceToArrayPointer _ x => [x]
 | .pick a b c => [a, b, c]
 | .store _ a x | .binOp _ _ a x _ | .indexAddr _ a x | .index _ a x | .makeSlice _ a x => [a, x]
 | .build _ ps | .buildSlice _ _ ps => ps.toList.map (·.2)
 | .makeFunc _ fi cs => cs.toList ++ fi.toList
 | .call c => match c.callee with
  | .value f => f :: c.args.toList
  | _ => c.args.toList
 | _ => []
def isPu : Op → Bool
 | .move _ | .assign _ | .pick _ _ _ | .binOp _ _ _ _ _ | .unOp _ _ _ | .convert _ _ _ | .field _ _ _ | .extract _ _ | .build _ _ | .nilCheck _ | .fieldAddr _ _ _ | .makeFunc _ _ _ | .index _ _ _ => true
 | .call c => match c.callee with
  | .builtin .max | .builtin .min => true
  | _ => false
 | _ => false
theorem q5J {st st' : DS} : ∀ {l : List Operand}, (∀ x ∈ l, opv st x = opv st' x) → opvs st l = opvs st' l
 | [], _ => rfl
 | x :: l, h => by
  simp only [opvs]
  rw [h x (by simp), q5J fun y hy => h y (by simp [hy])]
theorem q7w {st st' : DS} : ∀ {l : List (Nat × Operand)}, (∀ x ∈ l.map (·.2), opv st x = opv st' x) → q4t st l = q4t st' l
 | [], _ => rfl
 | (i, x) :: l, h => by
  simp only [q4t]
  rw [h x (by simp), q7w fun y hy => h y (by simp at hy ⊢; exact Or.inr hy)]
theorem qic {st st' : DS} {forb : Nat → Bool} (hr : ∀ k, st.rd forb k = st'.rd forb k) (x : CV) : toF st forb x = toF st' forb x := by
 cases x <;> simp only [toF, hr]
theorem qfY {st st' : DS} {forb : Nat → Bool} (hr : ∀ k, st.rd forb k = st'.rd forb k) : ∀ l, toFs st forb l = toFs st' forb l
 | [] => rfl
 | x :: l => by simp only [toFs, qic hr, qfY hr l]
theorem qfZ {st st' : DS} {forb : Nat → Bool} (hr : ∀ k, st.rd forb k = st'.rd forb k) (x : TV) : toFT st forb x = toFT st' forb x := by
 cases x <;> simp only [toFT, qic hr, qfY hr]
theorem qeM {st st' : DS} {forb : Nat → Bool} (hr : ∀ k, st.rd forb k = st'.rd forb k) : ∀ l, q9D st forb l = q9D st' forb l
 | [] => rfl
 | x :: l => by simp only [q9D, qfZ hr, qeM hr l]
theorem qbh {st st' : DS} {forb : Nat → Bool} (hr : ∀ k, st.rd forb k = st'.rd forb k) (x : DV) : toFD st forb x = toFD st' forb x := by
 cases x <;> simp only [toFD, qfZ hr, qeM hr]
theorem q9J {st st' : DS} {forb : Nat → Bool} (hr : ∀ k, st.rd forb k = st'.rd forb k) : ∀ l, q4T st forb l = q4T st' forb l
 | [] => rfl
 | x :: l => by simp only [q4T, qbh hr, q9J hr l]
theorem qjy {st st' : DS} {forb : Nat → Bool} {o : Oper} (hp : isPu o.op = true) (ht : ∀ x ∈ rds o.op, opv st x = opv st' x) : exec0 P T S forb st o = exec0 P T S forb st' o := by
 unfold exec0
 cases ho : o.op <;> rw [ho] at hp ht <;> first | (simp [isPu] at hp; done) | skip
 case move x => simp only [ht x (by simp [rds])]
 case assign x => simp only [ht x (by simp [rds])]
 case pick x y z => simp only [ht x (by simp [rds]), ht y (by simp [rds]), ht z (by simp [rds])]
 case build t ps => simp only [qh2]; rw [q7w (fun x hx => ht x (by simpa [rds] using hx))]
 case nilCheck x => simp only [ht x (by simp [rds])]
 case binOp op xt x y yt => simp only [ht x (by simp [rds]), ht y (by simp [rds])]
 case unOp op t x => simp only [ht x (by simp [rds])]
 case convert s d x => simp only [ht x (by simp [rds])]
 case makeFunc f fi cs =>
  have h1 := q5J (st := st) (st' := st') (l := cs.toList) (fun x hx => ht x (by simp only [rds, List.mem_append]; exact Or.inl hx))
  have h2 := q5J (st := st) (st' := st') (l := fi.toList) (fun x hx => ht x (by simp only [rds, List.mem_append]; exact Or.inr hx))
  cases f <;> simp only [h1, h2]
 case fieldAddr s x f => simp only [ht x (by simp [rds])]
 case field s x f => simp only [ht x (by simp [rds])]
 case extract x i => simp only [ht x (by simp [rds])]
 case index t x y => simp only [ht x (by simp [rds]), ht y (by simp [rds])]
 case call c =>
  cases hc : c.callee with
  | value f => rw [isPu, hc] at hp; simp at hp
  | invoke r m => rw [isPu, hc] at hp; simp at hp
  | builtin b =>
   rw [isPu, hc] at hp
   rw [rds, hc] at ht
   obtain ⟨cal, ar, at_⟩ := c
   cases hc
   cases b <;> first | (simp at hp; done) | skip
   all_goals
    dsimp only at ht ⊢
    rw [q5J (l := ar.toList) ht]
theorem qkN {st st' : DS} {forb : Nat → Bool} {o : Oper} (ht : ∀ x ∈ rds o.op, opv st x = opv st' x) (hr : ∀ k, st.rd forb k = st'.rd forb k) (hd : isAl o.op = true ∨ isWr o.op = true → ∀ d, o.dst = some d → st.at d = st'.at d) (hl : st.h.length = st'.h.length) : exec0 P T S forb st o = exec0 P T S forb st' o := by
 cases hp : isPu o.op with
 | true => exact qjy hp ht
 | false =>
  have hal : isAl o.op = true → ∀ e c, q6l T st o.dst e c = q6l T st' o.dst e c := by
   intro ha e c
   unfold q6l
   cases h : o.dst with
   | none => rfl
   | some d => simp only [hd (Or.inl ha) d h, hl]
  unfold exec0
  cases ho : o.op <;> rw [ho] at hp ht hal hd <;> first | (simp [isPu] at hp; done) | skip
  case alloc e => simp only [hal rfl]
  case box e x => simp only [hal rfl, ht x (by simp [rds])]
  case buildSlice t n ps =>
   simp only [q7f]
   rw [q7w (fun x hx => ht x (by simpa [rds] using hx))]
   cases h : o.dst with
   | none => rfl
   | some d => simp only [hd (Or.inl rfl) d h, hl]
  case makeSlice t x y =>
   simp only [ht x (by simp [rds]), ht y (by simp [rds]), makeE]
   cases h : o.dst with
   | none => rfl
   | some d => simp only [hd (Or.inl rfl) d h, hl]
  case load t x =>
   simp only [ht x (by simp [rds])]
   congr 1
   funext y
   unfold qc0
   simp only [hr]
  case store t x y =>
   simp only [ht x (by simp [rds]), ht y (by simp [rds])]
   unfold qh1
   simp only [hr]
  case indexAddr t x y =>
   simp only [ht x (by simp [rds]), ht y (by simp [rds])]
   unfold q7Z
   simp only [hr]
  case call c =>
   cases hc : c.callee with
   | value f =>
    rw [rds, hc] at ht
    obtain ⟨cal, ar, at_⟩ := c
    cases hc
    dsimp only at ht ⊢
    rw [ht f (by simp), q5J (l := ar.toList) (fun x hx => ht x (by simp at hx ⊢; exact Or.inr hx))]
    unfold callE
    cases h : o.dst with
    | none => simp only [q9J hr, qbh hr, hr]
    | some d => simp only [q9J hr, qbh hr, hr, hd (Or.inl rfl) d h, hl]
   | invoke r m =>
    obtain ⟨cal, ar, at_⟩ := c
    cases hc
    rfl
   | builtin b =>
    rw [rds, hc] at ht
    obtain ⟨cal, ar, at_⟩ := c
    cases hc
    cases b <;> first | rfl | skip
    case len =>
     dsimp only
     split
     ·rename_i x t he _
      rw [ht x (by simp [he])]
      congr 1
      funext y
      unfold lenE
      simp only [hr]
     ·rfl
    case append =>
     dsimp only
     split
     ·rename_i x y t t' he _
      rw [ht x (by simp [he]), ht y (by simp [he])]
      have hg : ∀ sz, q2N forb st sz = q2N forb st' sz := by intro sz; funext z; unfold q2N; simp only [hr]
      have hn : ∀ kd, qb3 forb st kd = qb3 forb st' kd := by intro kd; funext z; unfold qb3; simp only [hr]
      have hap : ∀ t s x, q8i T forb st o.dst t s x = q8i T forb st' o.dst t s x := by
       intro t s x
       unfold q8i
       cases h : o.dst with
       | none => rfl
       | some d => simp only [hd (Or.inr rfl) d h, hl, hr, hg, hn]
      simp only [hap]
     ·rfl
    case max => simp [isPu] at hp
    case min => simp [isPu] at hp
  case sliceToArrayPointer t x => simp only [ht x (by simp [rds])]
  case slice t x lo hi mx =>
   simp only [ht x (by simp [rds])]
   congr 1
   funext y
   unfold qh5
   have hb : ∀ (n : Int) (z : Option Operand), (∀ u ∈ z.toList, opv st u = opv st' u) → q1m st n z = q1m st' n z := by
    intro n z hz
    cases z with
    | none => rfl
    | some u => simp only [q1m, hz u (by simp)]
   simp only [hr, fun n => hb n lo (fun u hu => ht u (by simp [rds] at hu ⊢; exact Or.inr (Or.inl hu))), fun n => hb n hi (fun u hu => ht u (by simp [rds] at hu ⊢; exact Or.inr (Or.inr (Or.inl hu))))]
  all_goals rfl
theorem exec_pu {st st' : DS} {forb : Nat → Bool} {o : Oper} (hp : isPu o.op = true) (ht : ∀ x ∈ rds o.op, opv st x = opv st' x) : exec P T S forb st o = exec P T S forb st' o := by
 unfold exec; rw [qjy hp ht]
theorem qmf {st st' : DS} {forb : Nat → Bool} {o : Oper} (ht : ∀ x ∈ rds o.op, opv st x = opv st' x) (hr : ∀ k, st.rd forb k = st'.rd forb k) (hd : isAl o.op = true ∨ isWr o.op = true → ∀ d, o.dst = some d → st.at d = st'.at d) (hl : st.h.length = st'.h.length) : exec P T S forb st o = exec P T S forb st' o := by
 unfold exec; rw [qkN ht hr hd hl]
def tms : List Operand → List Nat
 | [] => []
 | .tmp i :: l => i :: tms l
 | _ :: l => tms l
theorem qaf : ∀ {l : List Operand} {i : Nat}, .tmp i ∈ l → i ∈ tms l
 | x :: l, i, h => by
  rcases List.mem_cons.1 h with rfl | h2
  ·simp [tms]
  ·clear h
   cases x with
   | tmp j => exact List.mem_cons_of_mem _ (qaf h2)
   | const v => exact (qaf h2 : i ∈ tms l)
   | func f => exact (qaf h2 : i ∈ tms l)
   | _ => exact (qaf h2 : i ∈ tms l)
def rdT (ops : List Oper) (o : Oper) : List Nat :=
 (match o.guard with
  | none => []
  | some (j, _) => match (ops[j]?).bind (·.dst) with
   | none => []
   | some g => [g]) ++ tms (rds o.op)
def memN : Nat → List Nat → Bool
 | _, [] => false
 | i, x :: l => Nat.beq i x || memN i l
theorem q6B : ∀ {l : List Nat} {i : Nat}, memN i l = false → i ∉ l
 | [], i, _ => by simp
 | x :: l, i, h => by
  simp only [memN, Bool.or_eq_false_iff] at h
  intro hm
  rcases List.mem_cons.1 hm with rfl | hm
  ·rw [Nat.beq_refl] at h; cases h.1
  ·exact q6B h.2 hm
def dstIn (o : Oper) (l : List Nat) : Bool := match o.dst with
 | some d => memN d l
 | none => false
def dstEq (o o' : Oper) : Bool := match o.dst, o'.dst with
 | some d, some d' => Nat.beq d d'
 | _, _ => false
def qdV (o : Oper) (f : Nat → Bool) : Bool := match o.dst with
 | some d => !isAl o.op || f d
 | none => true
def wrD (o : Oper) (f : Nat → Bool) : Bool := match o.dst with
 | some d => !isWr o.op || f d
 | none => true
def disjB (fj fi : Nat → Bool) : Bool := (List.range 2000).all fun k => fi k || fj k
def indep (ops : List Oper) (oj : Oper) (fj : Nat → Bool) (oi : Oper) (fi : Nat → Bool) : Bool :=
 !dstEq oj oi && !dstIn oj (rdT ops oi) && !dstIn oi (rdT ops oj) && (isPu oi.op || isPu oj.op || (!isWr oi.op && !isWr oj.op) || (wrD oi fj && (wrD oj fi && disjB fj fi))) && qdV oj fi && qdV oi fj && (fj 2000 && fi 2000)
theorem qeN {ops : List Oper} {st st' : DS} {o : Oper} (ht : ∀ i ∈ rdT ops o, st.tm i = st'.tm i) : q0O ops st o = q0O ops st' o := by
 unfold q0O
 split
 ·rfl
 ·rename_i j want hg
  split
  ·rfl
  ·rename_i g hd
   rw [ht g (by unfold rdT; rw [hg]; simp only; rw [hd]; simp)]
theorem qid {ops : List Oper} {st st' : DS} {o : Oper} (ht : ∀ i ∈ rdT ops o, st.tm i = st'.tm i) : ∀ x ∈ rds o.op, opv st x = opv st' x := by
 intro x hx
 cases x with
 | tmp i => exact ht i (by unfold rdT; exact List.mem_append_right _ (qaf hx))
 | const v => unfold opv; split <;> first | rfl | (split <;> rfl) | simp_all
 | func f => rfl
 | _ => rfl
def DS.eff (st : DS) (d : Option Tmp) (v : DV) (up : List (Nat × Row)) : DS := ({ st with h := upd up st.h } : DS).putO d (some v)
theorem upd_len : ∀ (up : List (Nat × Row)) (h : List (Option Row)), (upd up h).length = h.length
 | [], h => rfl
 | (k, r) :: up, h => by simp [upd, upd_len up]
theorem eff_tm (st : DS) (d : Option Tmp) (v : DV) (up : List (Nat × Row)) (i : Nat) (h : d ≠ some i) : (st.eff d v up).tm i = st.tm i := by
 unfold DS.eff
 rw [qab, if_neg (fun h2 => h h2.1)]; rfl
theorem eff_len (st : DS) (d : Option Tmp) (v : DV) (up : List (Nat × Row)) : (st.eff d v up).h.length = st.h.length := by
 unfold DS.eff; rw [qac]; exact upd_len _ _
theorem qg0 {ops : List Oper} {f : Nat → Bool} {o : Oper} {st s' : DS} {p : Prop} (h : step P T S ops f o st = some (p, s')) :
  ∃ v up, s' = st.eff o.dst v up ∧ okUp f o up = true ∧ ∀ st2, (∀ i ∈ rdT ops o, st.tm i = st2.tm i) → (isPu o.op = true ∨ ((∀ k, st.rd f k = st2.rd f k) ∧ (isAl o.op = true ∨ isWr o.op = true → ∀ d, o.dst = some d → st.at d = st2.at d) ∧ st.h.length = st2.h.length)) → step P T S ops f o st2 = some (p, st2.eff o.dst v up) := by
 unfold step at h
 split at h
 ·rename_i hw
  simp only [Option.map_eq_some_iff, Prod.mk.injEq] at h
  obtain ⟨e, h1, rfl, rfl⟩ := h
  refine ⟨e.v, e.up, rfl, (qjx h1).2, fun st2 ht hr => ?_⟩
  have hx : exec P T S f st2 o = some e := by
   rw [← h1]
   rcases hr with hr | ⟨hr, hd, hl⟩
   ·exact (exec_pu hr (qid ht)).symm
   ·exact (qmf (qid ht) hr hd hl).symm
  unfold step
  rw [← qeN ht, hw, hx]
  rfl
 ·rename_i hw
  cases h
  refine ⟨noV, [], rfl, (by unfold okUp; cases isWr o.op <;> rfl), fun st2 ht _ => ?_⟩
  unfold step
  rw [← qeN ht, hw]
  rfl
 ·cases h
theorem pu_not {o : Oper} (hp : isPu o.op = true) : isWr o.op = false ∧ isAl o.op = false := by
 cases ho : o.op <;> rw [ho] at hp <;> first | exact ⟨rfl, rfl⟩ | (simp [isPu] at hp; done) | skip
 rename_i c
 cases hc : c.callee with
 | value f => simp [isPu, hc] at hp
 | invoke r m => exact ⟨by simp [isWr, hc], by simp [isAl, hc]⟩
 | builtin b =>
  refine ⟨?_, by simp [isAl, hc]⟩
  simp only [isPu, hc] at hp
  cases b <;> first | (simp [isWr, hc]; done) | (simp at hp; done)
theorem qjz {f : Nat → Bool} : ∀ {up : List (Nat × Row)}, okW f up = true → ∀ k r, (k, r) ∈ up → f k = false ∧ k < 2000
 | [], _, k, r, h => by simp at h
 | (j, s) :: up, h, k, r, hm => by
  simp only [okW, Bool.and_eq_true, Bool.not_eq_true'] at h
  rcases List.mem_cons.1 hm with e | hm
  ·cases e; exact ⟨h.1.1, Nat.le_of_ble_eq_true h.1.2⟩
  ·exact qjz h.2 k r hm
theorem al_up {o : Oper} {f : Nat → Bool} {up : List (Nat × Row)} (hs : f 2000 = true) (hw : isWr o.op = false) (h : okUp f o up = true) : up = [] ∨ ∃ d r, o.dst = some d ∧ isAl o.op = true ∧ up = [(d, r)] := by
 unfold okUp at h
 rw [hw] at h
 simp only [cond_false] at h
 match up, h with
 | [], _ => exact Or.inl rfl
 | [(k, r)], h =>
  rw [hs] at h
  simp only [Bool.and_eq_true, Bool.not_true, Bool.false_and, Bool.or_false] at h
  obtain ⟨h1, h2⟩ := h
  split at h2
  ·rename_i d hd
   obtain rfl := Nat.eq_of_beq_eq_true h2
   exact Or.inr ⟨d, r, hd, h1, rfl⟩
  ·cases h2
theorem wr_up {o : Oper} {f : Nat → Bool} {up : List (Nat × Row)} (hw : isWr o.op = true) (h : okUp f o up = true) : ∀ k r, (k, r) ∈ up → f k = false ∧ k < 2000 := by
 unfold okUp at h
 rw [hw] at h
 exact qjz h
theorem pu_up {o : Oper} {f : Nat → Bool} {up : List (Nat × Row)} (hp : isPu o.op = true) (h : okUp f o up = true) : up = [] := by
 obtain ⟨h1, h2⟩ := pu_not hp
 unfold okUp at h
 rw [h1, h2] at h
 simp only [cond_false] at h
 match up, h with
 | [], _ => rfl
 | [_], h => simp at h
 | _ :: _ :: _, h => cases h
theorem upd_get : ∀ {up : List (Nat × Row)} {k : Nat}, (∀ r, (k, r) ∉ up) → ∀ h : List (Option Row), ((upd up h)[k]?).join = (h[k]?).join
 | [], k, _, h => rfl
 | (j, s) :: up, k, hk, h => by
  simp only [upd]
  rw [upd_get (fun r hm => hk r (List.mem_cons_of_mem _ hm)), getset, if_neg (fun e => hk s (by rw [← e.1]; exact List.mem_cons_self))]
theorem qbi (st : DS) (d : Option Tmp) (v : DV) {up : List (Nat × Row)} {k : Nat} (hk : ∀ r, (k, r) ∉ up) : (st.eff d v up).at k = st.at k := by
 unfold DS.eff; rw [q5q]; exact upd_get hk _
theorem upd_set : ∀ {up : List (Nat × Row)} {k : Nat} (x : Option Row), (∀ r, (k, r) ∉ up) → ∀ h : List (Option Row), upd up (h.set k x) = (upd up h).set k x
 | [], k, x, _, h => rfl
 | (j, s) :: up, k, x, hk, h => by
  simp only [upd]
  have hne : k ≠ j := fun e => hk s (by rw [e]; exact List.mem_cons_self)
  rw [List.set_comm _ _ hne, upd_set x (fun r hm => hk r (List.mem_cons_of_mem _ hm))]
theorem qjA : ∀ {up up' : List (Nat × Row)}, (∀ k r r', (k, r) ∈ up → (k, r') ∉ up') → ∀ h : List (Option Row), upd up (upd up' h) = upd up' (upd up h)
 | [], up', _, h => rfl
 | (j, s) :: up, up', hk, h => by
  simp only [upd]
  rw [← upd_set _ (fun r hm => hk j s r List.mem_cons_self hm), qjA (fun k r r' hm => hk k r r' (List.mem_cons_of_mem _ hm))]
theorem putO_comm (st : DS) {d d' : Option Tmp} (x y : Option DV) (h : ∀ i, d = some i → d' ≠ some i) : (st.putO d x).putO d' y = (st.putO d' y).putO d x := by
 cases d with
 | none => rfl
 | some i =>
  cases d' with
  | none => rfl
  | some j =>
   have hne : i ≠ j := fun e => h i rfl (by rw [e])
   simp only [DS.putO]
   rw [List.set_comm _ _ hne]
theorem eff_comm (st : DS) {d d' : Option Tmp} (v v' : DV) {up up' : List (Nat × Row)} (h : ∀ i, d = some i → d' ≠ some i) (hu : upd up (upd up' st.h) = upd up' (upd up st.h)) : (st.eff d v up).eff d' v' up' = (st.eff d' v' up').eff d v up := by
 unfold DS.eff
 have e : ∀ (s : DS) (d : Option Tmp) (x : Option DV) (h : List (Option Row)), ({ s.putO d x with h := h } : DS) = ({ s with h := h } : DS).putO d x := by
  intro s d x h; cases d <;> rfl
 rw [qac, qac, e, e]
 simp only
 rw [hu, putO_comm _ _ _ h]
theorem step_swap {ops : List Oper} {oi oj : Oper} {fi fj : Nat → Bool} {st s1 s2 : DS} {pi pj : Prop} (hind : indep ops oj fj oi fi = true) (h1 : step P T S ops fj oj st = some (pj, s1)) (h2 : step P T S ops fi oi s1 = some (pi, s2)) :
  ∃ s1', step P T S ops fi oi st = some (pi, s1') ∧ step P T S ops fj oj s1' = some (pj, s2) := by
 simp only [indep, Bool.and_eq_true, Bool.not_eq_true', Bool.or_eq_true] at hind
 obtain ⟨⟨⟨⟨⟨⟨hd, hji⟩, hij⟩, hk⟩, hfj⟩, hfi⟩, hsj, hsi⟩ := hind
 obtain ⟨vj, uj, rfl, okj, cj⟩ := qg0 h1
 obtain ⟨vi, ui, rfl, oki, ci⟩ := qg0 h2
 have hdne : ∀ i, oj.dst = some i → oi.dst ≠ some i := by
  intro i e1 e2
  unfold dstEq at hd
  rw [e1, e2] at hd
  simp only [Nat.beq_refl] at hd
  cases hd
 have tj : ∀ i ∈ rdT ops oi, oj.dst ≠ some i := by
  intro i hi e
  unfold dstIn at hji
  rw [e] at hji
  exact q6B hji hi
 have ti : ∀ i ∈ rdT ops oj, oi.dst ≠ some i := by
  intro i hi e
  unfold dstIn at hij
  rw [e] at hij
  exact q6B hij hi
 have hid : ∀ (o o' : Oper) (f f' : Nat → Bool) (up : List (Nat × Row)), f 2000 = true → okUp f o up = true → qdV o f' = true → (isPu o.op = true ∨ isWr o.op = false ∨ ∀ k, k < 2000 → f k = false → f' k = true) → ∀ k r, (k, r) ∈ up → f' k = true := by
  intro o o' f f' up hs ok hf hor k r hm
  cases hw : isWr o.op with
  | false =>
   rcases al_up hs hw ok with rfl | ⟨d, r', e1, e2, rfl⟩
   ·simp at hm
   ·have e : k = d ∧ r = r' := by simpa using hm
    obtain ⟨rfl, rfl⟩ := e
    unfold qdV at hf
    rw [e1] at hf
    simpa [e2] using hf
  | true =>
   rcases hor with h | h | h
   ·rw [pu_up h ok] at hm; simp at hm
   ·rw [hw] at h; cases h
   ·obtain ⟨g1, g2⟩ := wr_up hw ok k r hm
    exact h k g2 g1
 have rdsame : ∀ (d : Option Tmp) (f' : Nat → Bool) (v : DV) (up : List (Nat × Row)) (s : DS), (∀ k r, (k, r) ∈ up → f' k = true) → ∀ k, (s.eff d v up).rd f' k = s.rd f' k := by
  intro d f' v up s hu k
  unfold DS.rd
  by_cases e : ∃ r, (k, r) ∈ up
  ·obtain ⟨r, hr⟩ := e; rw [hu k r hr]; rfl
  ·rw [qbi _ _ _ (fun r hr => e ⟨r, hr⟩)]
 have hdj : (isPu oi.op = true ∨ isPu oj.op = true) ∨ (isWr oi.op = false ∧ isWr oj.op = false) ∨ (wrD oi fj = true ∧ wrD oj fi = true ∧ ∀ k, k < 2000 → fi k = true ∨ fj k = true) := by
  rcases hk with ((h | h) | h) | ⟨h1, h2, h3⟩
  ·exact Or.inl (Or.inl h)
  ·exact Or.inl (Or.inr h)
  ·exact Or.inr (Or.inl h)
  ·refine Or.inr (Or.inr ⟨h1, h2, fun k hlt => ?_⟩)
   have := List.all_eq_true.1 h3 k (by simpa using hlt)
   simpa using this
 have hone : ∀ k r r', (k, r) ∈ uj → (k, r') ∉ ui := by
  intro k r r' hm hm'
  rcases hdj with (h | h) | ⟨wi1, wj1⟩ | ⟨_, _, h3⟩
  ·rw [pu_up h oki] at hm'; simp at hm'
  ·rw [pu_up h okj] at hm; simp at hm
  ·rcases al_up hsi wi1 oki with rfl | ⟨d, r1, e1, e2, rfl⟩
   ·simp at hm'
   ·rcases al_up hsj wj1 okj with rfl | ⟨d', r1', e1', e2', rfl⟩
    ·simp at hm
    ·have q1 : k = d := by simp at hm'; exact hm'.1
     have q2 : k = d' := by simp at hm; exact hm.1
     exact hdne d' e1' (by rw [← q2, q1]; exact e1)
  ·cases wj : isWr oj.op with
   | true =>
    obtain ⟨g1, g2⟩ := wr_up wj okj k r hm
    cases wi : isWr oi.op with
    | true =>
     obtain ⟨g3, _⟩ := wr_up wi oki k r' hm'
     rcases h3 k g2 with h | h
     ·rw [g3] at h; cases h
     ·rw [g1] at h; cases h
    | false =>
     have := hid oi oj fi fj ui hsi oki hfi (Or.inr (Or.inl wi)) k r' hm'
     rw [g1] at this; cases this
   | false =>
    have q := hid oj oi fj fi uj hsj okj hfj (Or.inr (Or.inl wj)) k r hm
    cases wi : isWr oi.op with
    | true => obtain ⟨g3, _⟩ := wr_up wi oki k r' hm'; rw [g3] at q; cases q
    | false =>
     rcases al_up hsi wi oki with rfl | ⟨d, r1, e1, e2, rfl⟩
     ·simp at hm'
     ·rcases al_up hsj wj okj with rfl | ⟨d', r1', e1', e2', rfl⟩
      ·simp at hm
      ·have q1 : k = d := by simp at hm'; exact hm'.1
       have q2 : k = d' := by simp at hm; exact hm.1
       exact hdne d' e1' (by rw [← q2, q1]; exact e1)
 have hnew : ∀ (o o' : Oper) (f f' : Nat → Bool) (up' : List (Nat × Row)), f' 2000 = true → okUp f' o' up' = true → qdV o f' = true → (isPu o.op = true ∨ isPu o'.op = true) ∨ (isWr o.op = false ∧ isWr o'.op = false) ∨ wrD o f' = true → (∀ i, o'.dst = some i → o.dst ≠ some i) → isPu o.op = true ∨ (isAl o.op = true ∨ isWr o.op = true → ∀ d, o.dst = some d → ∀ r, (d, r) ∉ up') := by
  intro o o' f f' up' hs ok hf hc hne
  cases hp : isPu o.op with
  | true => exact Or.inl rfl
  | false =>
  refine Or.inr fun hor d e r hm => ?_
  cases hw' : isWr o'.op with
  | false =>
   rcases al_up hs hw' ok with rfl | ⟨d', r1, e1, e2, rfl⟩
   ·simp at hm
   ·have q : d = d' := by simp at hm; exact hm.1
    exact hne d' e1 (by rw [← q]; exact e)
  | true =>
   have g1 := (wr_up hw' ok d r hm).1
   rcases hor with h | h
   ·unfold qdV at hf
    rw [e] at hf
    simp [h, g1] at hf
   ·rcases hc with (hc | hc) | hc | hc
    ·rw [hp] at hc; cases hc
    ·rw [(pu_not hc).1] at hw'; cases hw'
    ·rw [hc.1] at h; cases h
    ·unfold wrD at hc
     rw [e] at hc
     simp [h, g1] at hc
 have a1 := ci st (fun i hi => eff_tm _ _ _ _ _ (tj i hi)) (by
  rcases hnew oi oj fi fj uj hsj okj hfi (by rcases hdj with h | h | h; exact Or.inl h; exact Or.inr (Or.inl h); exact Or.inr (Or.inr h.1)) hdne with h | h
  ·exact Or.inl h
  ·by_cases hp : isPu oi.op = true
   ·exact Or.inl hp
   refine Or.inr ⟨rdsame _ _ _ _ _ (hid oj oi fj fi uj hsj okj hfj ?_), fun ho d e => qbi _ _ _ (h ho d e), eff_len _ _ _ _⟩
   rcases hdj with (q | q) | ⟨q1, q2⟩ | ⟨_, _, q⟩
   ·exact (hp q).elim
   ·exact Or.inl q
   ·exact Or.inr (Or.inl q2)
   ·exact Or.inr (Or.inr fun k hlt hf => by rcases q k hlt with h | h; exact h; rw [hf] at h; cases h))
 have a2 := cj (st.eff oi.dst vi ui) (fun i hi => (eff_tm _ _ _ _ _ (ti i hi)).symm) (by
  rcases hnew oj oi fj fi ui hsi oki hfj (by rcases hdj with h | h | h; exact Or.inl h.symm; exact Or.inr (Or.inl h.symm); exact Or.inr (Or.inr h.2.1)) (fun i e1 e2 => hdne i e2 e1) with h | h
  ·exact Or.inl h
  ·by_cases hp : isPu oj.op = true
   ·exact Or.inl hp
   refine Or.inr ⟨fun k => (rdsame _ _ _ _ _ (hid oi oj fi fj ui hsi oki hfi ?_) k).symm, fun ho d e => (qbi _ _ _ (h ho d e)).symm, (eff_len _ _ _ _).symm⟩
   rcases hdj with (q | q) | ⟨q1, q2⟩ | ⟨_, _, q⟩
   ·exact Or.inl q
   ·exact (hp q).elim
   ·exact Or.inr (Or.inl q1)
   ·exact Or.inr (Or.inr fun k hlt hf => by rcases q k hlt with h | h; rw [hf] at h; cases h; exact h))
 refine ⟨_, a1, ?_⟩
 rw [a2]
 congr 2
 exact eff_comm st vi vj (fun i e1 e2 => hdne i e2 e1) ((qjA hone st.h).symm)
end Go.Proofs.YtfadkjcfjkmalaaGreatDoor.Ev
namespace Go.Proofs.YtfadkjcfjkmalaaGreatDoor.Ev
open Go.RowKit
variable {w0 : World} {N0 : Nat → Prop} {Z : Pins} {P : Program} {T : Tab} {S : Sum} {M : Map} {a : Act} {w : World}
def q3s (o : Oper) : List Nat := (o.after.toList.filter fun e => Region.binds .any e).map (·.on)
@[reducible] def Clo := List (List Nat)
def inClo (clo : Clo) (j i : Nat) : Bool := match clo[i]? with
 | some l => memN j l
 | none => false
def cloB (ops : List Oper) (clo : Clo) : Bool := (List.range ops.length).all fun i => match ops[i]?, clo[i]? with
 | some o, some l => l.all fun j => memN j (q3s o) || (q3s o).any fun d => inClo clo j d
 | _, _ => false
def fb (l : List Nat) : Nat → Bool := fun k => match l with
 | x :: l' => Nat.beq k 2000 || (bif Nat.beq x 9999 then !memN k l' else memN k l)
 | [] => Nat.beq k 2000
def pairB (ops : List Oper) (clo : Clo) (forbs : List (Nat → Bool)) (j i : Nat) : Bool :=
 match ops[j]?, ops[i]?, forbs[j]?, forbs[i]? with
 | some oj, some oi, some fj, some fi => inClo clo j i || indep ops oj fj oi fi
 | _, _, _, _ => false
def items : Nat → List Oper → List (Nat → Bool) → List Item
 | _, [], _ => []
 | _, _, [] => []
 | k, o :: l, f :: fs => (k, o, f) :: items (k + 1) l fs
def depsB (ops : List Oper) : Bool := (List.range ops.length).all fun i => match ops[i]? with
 | some o => (q3s o).all fun d => Nat.blt d i
 | none => false
def pairsB (ops : List Oper) (clo : Clo) (forbs : List (Nat → Bool)) : Bool :=
 (List.range ops.length).all fun i => (List.range i).all fun j => pairB ops clo forbs j i
def qb4 (ops : List Oper) (clo : Clo) (forbs : List (Nat → Bool)) : Bool := depsB ops && pairsB ops clo forbs && cloB ops clo && Nat.beq forbs.length ops.length
theorem q3Q {ops : List Oper} {k k' : DS → Prop} (h : ∀ s, k s → k' s) : ∀ (l : List Item) {st : DS}, q0d P T S ops l st k → q0d P T S ops l st k'
 | [], st, g => h _ g
 | (_, o, f) :: l, st, g => by
  simp only [q0d] at g ⊢
  rw [q1M] at g ⊢
  obtain ⟨p, s, h1, h2, h3⟩ := g
  exact ⟨p, s, h1, h2, q3Q h l h3⟩
theorem q4o {ops : List Oper} {k : DS → Prop} : ∀ (l l' : List Item) {st : DS}, q0d P T S ops (l ++ l') st k ↔ q0d P T S ops l st fun s => q0d P T S ops l' s k
 | [], l', st => Iff.rfl
 | (_, o, f) :: l, l', st => by
  simp only [List.cons_append, q0d, q1M, q4o l l']
theorem qc4 {ops : List Oper} {k : DS → Prop} {oi : Oper} {fi : Nat → Bool} : ∀ (l : List Item) {st : DS}, (∀ x ∈ l, indep ops x.2.1 x.2.2 oi fi = true) → (q0d P T S ops l st fun s => evOp P T S ops fi oi s k) → evOp P T S ops fi oi st fun s => q0d P T S ops l s k
 | [], st, _, h => h
 | (j, oj, fj) :: l, st, hi, h => by
  simp only [q0d] at h ⊢
  rw [q1M] at h
  obtain ⟨p, s, h1, h2, h3⟩ := h
  have h4 := qc4 l (fun x hx => hi x (by simp [hx])) h3
  rw [q1M] at h4
  obtain ⟨p', s', g1, g2, g3⟩ := h4
  obtain ⟨s1, q1, q2⟩ := step_swap (hi (j, oj, fj) (by simp)) h1 g1
  rw [q1M]
  exact ⟨p', s1, q1, g2, by rw [q1M]; exact ⟨p, s', q2, h2, g3⟩⟩
theorem q1d : ∀ {l : List Nat} {i : Nat}, memN i l = true → i ∈ l
 | [], i, h => by simp [memN] at h
 | x :: l, i, h => by
  simp only [memN, Bool.or_eq_true] at h
  rcases h with h | h
  ·rw [Nat.eq_of_beq_eq_true h]; simp
  ·exact List.mem_cons_of_mem _ (q1d h)
theorem qmg {ops : Array Oper} {listed : Array Bool} {clo : Clo} (hB : cloB ops.toList clo = true) (hdep : ∀ (i : Nat) (o : Oper), ops[i]? = some o → ∀ d ∈ q3s o, d < i) (hcl : ∀ (i : Nat), listed[i]? = some true → ∀ (o : Oper), ops[i]? = some o → ∀ d ∈ q3s o, listed.getD d false = true) :
  ∀ (i j : Nat) (o : Oper), ops[i]? = some o → inClo clo j i = true → (∀ d ∈ q3s o, listed.getD d false = true) → listed.getD j false = true := by
 intro i
 induction i using Nat.strongRecOn with
 | _ i ih =>
  intro j o ho h hi
  have h1 := List.all_eq_true.1 hB i (by simp; exact (Array.getElem?_eq_some_iff.1 ho).1)
  unfold inClo at h
  simp only [Array.getElem?_toList, ho] at h1
  split at h
  ·rename_i l hl
   rw [hl] at h1
   have h2 := List.all_eq_true.1 h1 j (q1d h)
   simp only [Bool.or_eq_true] at h2
   rcases h2 with h2 | h2
   ·exact hi j (q1d h2)
   ·rw [List.any_eq_true] at h2
    obtain ⟨d, hd, h3⟩ := h2
    have hlt := hdep i o ho d hd
    have hds : d < ops.size := by have := (Array.getElem?_eq_some_iff.1 ho).1; omega
    refine ih d hlt j ops[d] (Array.getElem?_eq_getElem hds) h3 fun d' hd' => hcl d ?_ _ (Array.getElem?_eq_getElem hds) d' hd'
    have hl := hi d hd
    simp only [Array.getD_eq_getD_getElem?] at hl
    cases e : listed[d]? with
    | none => rw [e] at hl; cases hl
    | some b => rw [e] at hl; simp at hl; rw [hl]
  ·cases h
theorem qg1 {ops : Array Oper} {listed : Array Bool} {i : Nat} (h : i ∈ Region.ready .any ops listed) : i < ops.size ∧ listed.getD i true = false ∧ ∀ o, ops[i]? = some o → ∀ d ∈ q3s o, listed.getD d false = true := by
 unfold Region.ready at h
 simp only [List.mem_filter, List.mem_range, Bool.and_eq_true, Bool.not_eq_true'] at h
 obtain ⟨h1, h2, h3⟩ := h
 refine ⟨h1, h2, fun o ho d hd => ?_⟩
 rw [ho] at h3
 simp only [Option.map_some, Option.getD_some] at h3
 unfold q3s at hd
 simp only [List.mem_map, List.mem_filter] at hd
 obtain ⟨e, ⟨he, hb⟩, rfl⟩ := hd
 have := Array.all_eq_true_iff_forall_mem.1 h3 e (Array.mem_toList_iff.1 he)
 simp only [hb, Bool.not_true, Bool.false_or] at this
 exact this
theorem ready_of {ops : Array Oper} {listed : Array Bool} {i : Nat} {o : Oper} (ho : ops[i]? = some o) (h2 : listed.getD i true = false) (h3 : ∀ d ∈ q3s o, listed.getD d false = true) : i ∈ Region.ready .any ops listed := by
 unfold Region.ready
 simp only [List.mem_filter, List.mem_range, Bool.and_eq_true, Bool.not_eq_true']
 refine ⟨(Array.getElem?_eq_some_iff.1 ho).1, h2, ?_⟩
 rw [ho]
 simp only [Option.map_some, Option.getD_some]
 rw [Array.all_eq_true_iff_forall_mem]
 intro e he
 cases hb : Region.binds .any e with
 | false => rfl
 | true =>
  simp only [Bool.not_true, Bool.false_or]
  exact h3 e.on (by unfold q3s; exact List.mem_map_of_mem (List.mem_filter.2 ⟨Array.mem_toList_iff.2 he, hb⟩))
structure Left (ops : Array Oper) (forbs : List (Nat → Bool)) (l : List Item) (listed : Array Bool) : Prop where
 size : listed.size = ops.size
 mem : ∀ (i : Nat), listed[i]? = some false ↔ ∃ x ∈ l, x.1 = i
 item : ∀ x ∈ l, ops[x.1]? = some x.2.1 ∧ forbs[x.1]? = some x.2.2
 asc : l.Pairwise fun x y => x.1 < y.1
 closed : ∀ (i : Nat), listed[i]? = some true → ∀ (o : Oper), ops[i]? = some o → ∀ d ∈ q3s o, listed.getD d false = true
theorem any_sound {ro : Option Nat} (hT : TabOK P T) (hS : Valid P S) {ops : Array Oper} {clo : Clo} {forbs : List (Nat → Bool)} (hB : qb4 ops.toList clo forbs = true) {Q : Exit → Act → World → Prop} {k : DS → Prop} (hQ : ∀ M' st' a' w', k st' → Abs w0 N0 Z M' st' a' w' → Q .normal a' w') :
  ∀ (fuel : Nat) {l : List Item} {listed : Array Bool} {M : Map} {st : DS} {a : Act} {w : World}, l.length = fuel → Left ops forbs l listed → Abs w0 N0 Z M st a w → q0d P T S ops.toList l st k → wpAnyIn (fen ro) 0 P .any ops Q fuel listed a w := by
 simp only [qb4, Bool.and_eq_true] at hB
 obtain ⟨⟨⟨hdeps, hpairs⟩, hclo⟩, hlen⟩ := hB
 have hdep : ∀ (i : Nat) (o : Oper), ops[i]? = some o → ∀ d ∈ q3s o, d < i := by
  intro i o ho d hd
  have h1 := List.all_eq_true.1 hdeps i (by simp; exact (Array.getElem?_eq_some_iff.1 ho).1)
  simp only [Array.getElem?_toList, ho] at h1
  exact Nat.le_of_ble_eq_true (List.all_eq_true.1 h1 d hd)
 have hpair : ∀ i j, i < ops.size → j < i → pairB ops.toList clo forbs j i = true := by
  intro i j hi hj
  exact List.all_eq_true.1 (List.all_eq_true.1 hpairs i (by simpa using hi)) j (by simpa using hj)
 intro fuel
 induction fuel with
 | zero =>
  intro l listed M st a w hl hL ha h
  obtain rfl := List.eq_nil_of_length_eq_zero hl
  refine ⟨?_, hQ _ _ _ _ h ha⟩
  rw [List.eq_nil_iff_forall_not_mem]
  intro i hi
  obtain ⟨h1, h2, _⟩ := qg1 hi
  have h3 : listed[i]? = some false := by
   have : i < listed.size := by rw [hL.size]; exact h1
   simp only [Array.getD_eq_getD_getElem?, Array.getElem?_eq_getElem this] at h2
   rw [Array.getElem?_eq_getElem this]; simpa using h2
  obtain ⟨x, hx, _⟩ := (hL.mem i).1 h3
  simp at hx
 | succ fuel ih =>
  intro l listed M st a w hl hL ha h
  constructor
  ·intro hnil
   match l, hl with
   | x :: l', hl =>
    exfalso
    have hx := hL.item x (by simp)
    have : x.1 ∈ Region.ready .any ops listed := by
     have hxf : listed[x.1]? = some false := (hL.mem x.1).2 ⟨x, by simp, rfl⟩
     refine ready_of hx.1 (by simp [Array.getD_eq_getD_getElem?, hxf]) fun d hd => ?_
     have hlt := hdep _ _ hx.1 d hd
     have hds : d < listed.size := by rw [hL.size]; have := (Array.getElem?_eq_some_iff.1 hx.1).1; omega
     cases e : listed[d] with
     | true => simp [Array.getD_eq_getD_getElem?, Array.getElem?_eq_getElem hds, e]
     | false =>
      exfalso
      obtain ⟨y, hy, hy2⟩ := (hL.mem d).1 (by rw [Array.getElem?_eq_getElem hds, e])
      rcases List.mem_cons.1 hy with rfl | hy
      ·omega
      ·have := List.rel_of_pairwise_cons hL.asc hy; omega
    rw [hnil] at this; simp at this
  ·intro i hi
   obtain ⟨hin, hun, hid⟩ := qg1 hi
   have hif : listed[i]? = some false := by
    have : i < listed.size := by rw [hL.size]; exact hin
    simp only [Array.getD_eq_getD_getElem?, Array.getElem?_eq_getElem this] at hun
    rw [Array.getElem?_eq_getElem this]; simpa using hun
   obtain ⟨x, hx, hxi⟩ := (hL.mem i).1 hif
   obtain ⟨l1, l2, rfl⟩ := List.append_of_mem hx
   obtain ⟨i', oi, fi⟩ := x
   simp only at hxi
   subst hxi
   have hit := hL.item (i', oi, fi) (by simp)
   simp only at hit
   have hasc := List.pairwise_append.1 hL.asc
   have hind : ∀ y ∈ l1, indep ops.toList y.2.1 y.2.2 oi fi = true := by
    intro y hy
    have hyi := hL.item y (by simp [hy])
    have hlt : y.1 < i' := hasc.2.2 y hy (i', oi, fi) (by simp)
    have hp := hpair i' y.1 hin hlt
    unfold pairB at hp
    simp only [Array.getElem?_toList, hyi.1, hyi.2, hit.1, hit.2, Bool.or_eq_true] at hp
    rcases hp with hp | hp
    ·exfalso
     have h1 := qmg hclo hdep hL.closed i' y.1 oi hit.1 hp (hid oi hit.1)
     have h2 : listed[y.1]? = some false := (hL.mem y.1).2 ⟨y, by simp [hy], rfl⟩
     simp [Array.getD_eq_getD_getElem?, h2] at h1
    ·exact hp
   rw [q4o] at h
   simp only [q0d] at h
   have h2 := qc4 l1 hind h
   rw [q1M] at h2
   obtain ⟨p, s, g1, g2, g3⟩ := h2
   unfold wpOpIn
   rw [hit.1]
   simp only
   have hL' : Left ops forbs (l1 ++ l2) (listed.setIfInBounds i' true) := by
    refine ⟨by simp [hL.size], fun j => ?_, fun y hy => hL.item y ?_, ?_, fun j hj o ho d hd => ?_⟩
    ·rw [Array.getElem?_setIfInBounds]
     by_cases e : i' = j
     ·subst e
      have : i' < listed.size := by rw [hL.size]; exact hin
      simp only [if_true, this]
      constructor
      ·intro h; cases h
      ·rintro ⟨y, hy, hye⟩
       rcases List.mem_append.1 hy with hy | hy
       ·have := hasc.2.2 y hy (i', oi, fi) (by simp); simp only at this; omega
       ·have := List.rel_of_pairwise_cons hasc.2.1 hy; simp only at this; omega
     ·rw [if_neg e, hL.mem j]
      constructor
      ·rintro ⟨y, hy, hye⟩
       refine ⟨y, ?_, hye⟩
       simp only [List.mem_append, List.mem_cons] at hy ⊢
       rcases hy with hy | rfl | hy
       ·exact Or.inl hy
       ·exact absurd hye e
       ·exact Or.inr hy
      ·rintro ⟨y, hy, hye⟩
       refine ⟨y, ?_, hye⟩
       simp only [List.mem_append, List.mem_cons] at hy ⊢
       rcases hy with hy | hy
       ·exact Or.inl hy
       ·exact Or.inr (Or.inr hy)
    ·simp only [List.mem_append, List.mem_cons] at hy ⊢
     rcases hy with hy | hy
     ·exact Or.inl hy
     ·exact Or.inr (Or.inr hy)
    ·refine List.pairwise_append.2 ⟨hasc.1, (List.pairwise_cons.1 hasc.2.1).2, fun x hx y hy => hasc.2.2 x hx y (by simp [hy])⟩
    ·have key : ∀ d, listed.getD d false = true → (listed.setIfInBounds i' true).getD d false = true := by
      intro d hd
      simp only [Array.getD_eq_getD_getElem?, Array.getElem?_setIfInBounds] at hd ⊢
      split
      ·split
       ·rfl
       ·rename_i h1 h2; subst h1; exact absurd (by rw [hL.size]; exact hin) h2
      ·exact hd
     by_cases e : i' = j
     ·subst e; exact key d (hid o ho d hd)
     ·rw [Array.getElem?_setIfInBounds, if_neg e] at hj
      exact key d (hL.closed j hj o ho d hd)
   exact qfX hT hS ha g1 g2 fun M' a' w' ha' => ih (by simp at hl ⊢; omega) hL' ha' (by rw [q4o]; exact g3)
theorem q9k : ∀ (k : Nat) (l : List Oper) (fs : List (Nat → Bool)) (x : Item), x ∈ items k l fs → ∃ j, x.1 = k + j ∧ l[j]? = some x.2.1 ∧ fs[j]? = some x.2.2
 | k, [], fs, x, h => by simp [items] at h
 | k, o :: l, [], x, h => by simp [items] at h
 | k, o :: l, f :: fs, x, h => by
  simp only [items, List.mem_cons] at h
  rcases h with rfl | h
  ·exact ⟨0, rfl, rfl, rfl⟩
  ·obtain ⟨j, h1, h2, h3⟩ := q9k (k + 1) l fs x h
   exact ⟨j + 1, by omega, by simpa using h2, by simpa using h3⟩
theorem qie : ∀ (k : Nat) (l : List Oper) (fs : List (Nat → Bool)), fs.length = l.length → ∀ j, j < l.length → ∃ x ∈ items k l fs, x.1 = k + j
 | k, [], fs, _, j, h => by simp at h
 | k, o :: l, [], h, _, _ => by simp at h
 | k, o :: l, f :: fs, h, 0, _ => ⟨_, List.mem_cons_self, rfl⟩
 | k, o :: l, f :: fs, h, j + 1, hj => by
  obtain ⟨x, h1, h2⟩ := qie (k + 1) l fs (by simpa using h) j (by simpa using hj)
  exact ⟨x, List.mem_cons_of_mem _ h1, by omega⟩
theorem qif : ∀ (k : Nat) (l : List Oper) (fs : List (Nat → Bool)), (items k l fs).Pairwise fun x y => x.1 < y.1
 | k, [], fs => List.Pairwise.nil
 | k, o :: l, [] => List.Pairwise.nil
 | k, o :: l, f :: fs => by
  refine List.Pairwise.cons (fun y hy => ?_) (qif (k + 1) l fs)
  obtain ⟨j, h1, _⟩ := q9k (k + 1) l fs y hy
  simp only; omega
theorem qig : ∀ (k : Nat) (l : List Oper) (fs : List (Nat → Bool)), fs.length = l.length → (items k l fs).length = l.length
 | k, [], fs, _ => rfl
 | k, o :: l, [], h => by simp at h
 | k, o :: l, f :: fs, h => by simp [items, qig (k + 1) l fs (by simpa using h)]
theorem Abs.drew {st : DS} (ha : Abs w0 N0 Z M st a w) : Abs w0 N0 Z M st a w.drew := ha.grow ((Below.refl _ _).drew)
theorem qg2 {ro : Option Nat} (hm : P.follows .mixedOrders = true) (hT : TabOK P T) (hS : Valid P S) {ops : Array Oper} {id : Nat} {clo : Clo} {forbs : List (Nat → Bool)} (hB : qb4 ops.toList clo forbs = true) {Q : Exit → Act → World → Prop} {k : DS → Prop} (hQ : ∀ M' st' a' w', k st' → Abs w0 N0 Z M' st' a' w' → Q .normal a' w') {st : DS} (ha : Abs w0 N0 Z M st a w) (h : q0d P T S ops.toList (items 0 ops.toList forbs) st k) : (Code.region id ops true).wpIn (fen ro) 0 P Q a w := by
 have hB' := hB
 simp only [qb4, Bool.and_eq_true] at hB'
 have hlen := Nat.eq_of_beq_eq_true hB'.2
 refine wpIn_region_any hm ?_
 refine any_sound hT hS hB hQ ops.size (l := items 0 ops.toList forbs) (by rw [qig _ _ _ hlen]; simp) ?_ ha.drew h
 refine ⟨by simp, fun i => ?_, fun x hx => ?_, qif _ _ _, fun i hi => ?_⟩
 ·rw [Array.getElem?_replicate]
  constructor
  ·intro h
   split at h
   ·rename_i hlt
    obtain ⟨x, h1, h2⟩ := qie 0 ops.toList forbs hlen i (by simpa using hlt)
    exact ⟨x, h1, by omega⟩
   ·cases h
  ·rintro ⟨x, hx, rfl⟩
   obtain ⟨j, h1, h2, _⟩ := q9k 0 _ _ x hx
   have : j < ops.toList.length := (List.getElem?_eq_some_iff.1 h2).1
   rw [if_pos (by simp at this; omega)]
 ·obtain ⟨j, h1, h2, h3⟩ := q9k 0 _ _ x hx
  rw [show x.1 = j by omega]
  exact ⟨by simpa using h2, h3⟩
 ·rw [Array.getElem?_replicate] at hi
  split at hi <;> cases hi
end Go.Proofs.YtfadkjcfjkmalaaGreatDoor.Ev
