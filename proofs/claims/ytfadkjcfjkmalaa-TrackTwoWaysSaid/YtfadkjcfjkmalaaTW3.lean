/- Texts of this claim, together. -/
import Derived.Test.YtfadkjcfjkmalaaTW2
import Derived.TacticsIn
import Derived.OrdersIn

set_option linter.unusedVariables false
set_option linter.unusedSimpArgs false
namespace Go.Proofs.Ytfadkjcfjkmalaa.Ev
open Go.RowKit
variable {w0 : World} {N0 : Nat → Prop} {Z : Pins} {P : Program} {T : Tab} {S : Sum} {forb : Nat → Bool} {M : Map} {st : DS} {a : Act} {w : World} {o : Oper}
theorem RelF.all {N N' : Nat → Prop} {x : CV} {v : Value} (h : RelF w N x v) (hN : ∀ b, N b → N' b) : RelF w N' x v :=
 RelF.mono (Nat.le_refl _) (fun _ _ _ _ => rfl) (fun b hb _ => hN b hb) x h
theorem getD_get {α : Type} {l : List α} {i : Nat} {d : α} (h : i < l.length) : l[i]? = some (l.getD i d) := by simp [List.getD, h]
theorem own_foreign {N : Nat → Prop} {base : Nat} (hN : ∀ b, base ≤ b → N b) {e : TypeId} {sz : Nat} {v : Value} {n : Nat} {xs : List Value} (h : w.ownsRow base e sz v n xs) {c : Nat → Nat → CV} (hc : ∀ i j, i < n → j < sz → ∃ u, xs[i * sz + j]? = some u ∧ RelF w N (c i j) u) : RelF w N (.sl sz n c) v := by
 obtain ⟨h1, h2⟩ := h
 rcases h2 with ⟨rfl, rfl⟩ | ⟨g, cap, cur, rfl, hb, hg, hn, hm, hs, ht⟩
 ·exact ⟨none, 0, rfl, Nat.le_refl _, by simp, fun _ => rfl, fun h => absurd h (by omega)⟩
 ·refine ⟨_, cap, rfl, hn, hm, (fun h => by cases h), fun h0 => ⟨g, 0, rfl, (Array.getElem?_eq_some_iff.1 hg).1, hN g hb, fun i j hi hj => ?_⟩⟩
  obtain ⟨u, h3, h4⟩ := hc i j hi hj
  refine ⟨u, ?_, h4⟩
  rw [cell_of_row w g _ cur e (0, 0) hg, Nat.zero_add]
  rw [← ht, List.getElem?_take] at h3
  split at h3
  ·simpa using h3
  ·cases h3
theorem toF_rel {N : Nat → Prop} (ha : Abs w0 N0 Z M st a w) (hN1 : ∀ b, fgn w0 N0 M b → N b) (hN2 : ∀ b, w0.heap.size ≤ b → N b) {x y : CV} {v : Value} (h : toF st forb x = some y) (hr : RelC w (fgn w0 N0 M) M x v) : RelF w N y v := by
 cases x with
 | v x => simp only [toF, Option.some.injEq] at h; subst h; exact hr
 | sl sz n c => simp only [toF, Option.some.injEq] at h; subst h; exact RelF.all (x := .sl sz n c) hr hN1
 | px n off c => simp only [toF, Option.some.injEq] at h; subst h; exact RelF.all (x := .px n off c) hr hN1
 | er b => simp only [toF, Option.some.injEq] at h; subst h; exact RelF.all (x := .er b) hr hN1
 | any => simp only [toF, Option.some.injEq] at h; subst h; exact RelF.all (x := .any) hr hN1
 | pe k i sz off => simp [toF] at h
 | os k =>
  obtain ⟨hM, hsh⟩ := hr
  simp only [toF] at h
  split at h
  ·rename_i ty sz l hrow
   cases h
   obtain ⟨v', xs, g1, g2, g3, g4⟩ := ha.row k _ (rd_at hrow)
   rw [hM] at g1; cases g1
   refine own_foreign hN2 g2 fun i j hi hj => ?_
   have e1 : l[i]? = some (l.getD i []) := getD_get hi
   have e2 := g3 _ (List.mem_of_getElem? e1)
   have e3 := flatten_get g3 e1 hj
   have e4 : (l.getD i [])[j]? = some (genC l i j) := getD_get (by omega)
   rw [e4] at e3
   obtain ⟨u, q1, q2⟩ := g4.get e3
   exact ⟨u, q1, q2.all hN1⟩
  ·rename_i ty kd l hrow
   cases h
   obtain ⟨v', g1, g2⟩ := ha.row k _ (rd_at hrow)
   rw [hM] at g1; cases g1
   refine own_foreign hN2 g2 fun i j hi hj => ⟨.int kd (l.getD i 0), ?_, rfl, rfl⟩
   obtain rfl : j = 0 := by omega
   simp [List.getElem?_map, hi]
  ·cases h
 | p k off =>
  obtain ⟨b, hM, hv⟩ := hr
  simp only [toF] at h
  split at h
  ·rename_i ty c hrow
   cases hq : allF c with
   | false => rw [hq] at h; cases h
   | true =>
    rw [hq] at h
    cases h
    obtain ⟨b', cs, g1, g2, g3⟩ := ha.row k _ (rd_at hrow)
    rw [hM] at g1; cases g1
    refine ⟨b, 0, by rw [Nat.zero_add]; exact hv, (Array.getElem?_eq_some_iff.1 g2).1, hN2 b (ha.own k _ b hM rfl).1, fun j hj => ?_⟩
    obtain ⟨u, q1, q2⟩ := (all2_F hq g3).get (getD_get (d := .v (.bool false)) hj)
    exact ⟨u, by rw [cell_of_row w b _ cs ty (0, 0) g2, Nat.zero_add]; simpa using q1, q2.all hN1⟩
  ·cases h
 | ob k off sz n =>
  simp only [toF] at h
  split at h
  ·rename_i ty c hrow
   rcases hr with ⟨b, cap, hM, hv, hn, hm⟩ | ⟨b, c', o, cap, hM, _⟩
   case inr =>
    obtain ⟨b', cs, g1, _⟩ := ha.row k _ (rd_at hrow)
    rw [hM] at g1; cases g1
   cases hq : (allF c && Nat.ble (off + n * sz) c.length) with
   | false => rw [hq] at h; cases h
   | true =>
    rw [hq] at h
    cases h
    simp only [Bool.and_eq_true] at hq
    have hle := Nat.le_of_ble_eq_true hq.2
    obtain ⟨b', cs, g1, g2, g3⟩ := ha.row k _ (rd_at hrow)
    rw [hM] at g1; cases g1
    refine ⟨_, cap, hv, hn, hm, (fun h => by cases h), fun h0 => ⟨b, off, rfl, (Array.getElem?_eq_some_iff.1 g2).1, hN2 b (ha.own k _ b hM rfl).1, fun i j hi hj => ?_⟩⟩
    have hb : i * sz + sz ≤ n * sz := by rw [← Nat.succ_mul]; exact Nat.mul_le_mul_right _ hi
    obtain ⟨u, q1, q2⟩ := (all2_F hq.1 g3).get (getD_get (d := .v (.bool false)) (i := off + i * sz + j) (by omega))
    exact ⟨u, by rw [cell_of_row w b _ cs ty (0, 0) g2]; simpa using q1, q2.all hN1⟩
  ·rename_i ty kd l hrow
   cases hq : Nat.beq 1 sz with
   | false => rw [hq] at h; cases h
   | true =>
    rw [hq] at h
    cases h
    obtain ⟨v', g1, g2⟩ := ha.row k _ (rd_at hrow)
    rcases hr with ⟨b, cap, hM, _⟩ | ⟨b, c', o, cap, hM, ho, hv, hn, hm⟩
    ·rw [hM] at g1; cases g1
    rw [hM] at g1
    cases g1
    obtain ⟨_, g3⟩ := g2
    rcases g3 with ⟨e0, _⟩ | ⟨g, cap2, cur, e0, hb, hg, hn2, hm2, hs, ht⟩
    ·cases e0
    simp only [Value.slice.injEq, Option.some.injEq, Addr.mk.injEq, and_true] at e0
    obtain ⟨rfl, e1, rfl⟩ := e0
    refine ⟨_, cap, hv, hn, hm, (fun h => by cases h), fun h0 => ⟨b, o, rfl, (Array.getElem?_eq_some_iff.1 hg).1, hN2 b hb, fun i j hi hj => ?_⟩⟩
    obtain rfl := ho h0
    obtain rfl : j = 0 := by omega
    have hl : o + i < l.length := by omega
    have h3 : (l.map (Value.int kd))[o + i]? = some (.int kd (l.getD (o + i) 0)) := by simp [List.getElem?_map, hl, List.getD]
    refine ⟨.int kd (l.getD (o + i) 0), ?_, rfl, rfl⟩
    rw [cell_of_row w b _ cur ty (0, 0) hg]
    rw [← ht, List.getElem?_take] at h3
    split at h3
    ·simpa using h3
    ·cases h3
  ·cases h
theorem toF_id {x y : CV} {v : Value} (hf : isF x = true) (h : toF st forb x = some y) (hr : RelC w (fgn w0 N0 M) M x v) : RelF w (fgn w0 N0 M) y v := by
 cases x <;> first | (simp [isF] at hf; done) | (simp only [toF, Option.some.injEq] at h; subst h; exact hr)
section
variable {R R' : CV → Value → Prop} (good : CV → Bool)
theorem toFs_rel (hR : ∀ x y v, good x = true → toF st forb x = some y → R x v → R' y v) : ∀ {l l' : List CV} {vs : List Value}, (∀ x ∈ l, good x = true) → toFs st forb l = some l' → All2 R l vs → All2 R' l' vs
 | [], l', [], _, h, _ => by simp only [toFs, Option.some.injEq] at h; subst h; trivial
 | x :: l, l', v :: vs, hg, h, g => by
  simp only [toFs] at h
  split at h
  ·rename_i d ds h1 h2
   simp only [Option.some.injEq] at h; subst h
   exact ⟨hR x d v (hg x (by simp)) h1 g.1, toFs_rel hR (fun y hy => hg y (by simp [hy])) h2 g.2⟩
  ·cases h
 | [], _, _ :: _, _, _, g => g.elim
 | _ :: _, _, [], _, _, g => g.elim
def goodT : TV → Prop
 | .c x => good x = true
 | .a l => ∀ x ∈ l, good x = true
 | .fn _ l => ∀ x ∈ l, good x = true
 | .fb _ l => ∀ x ∈ l, good x = true
theorem toFT_rel (hR : ∀ x y v, good x = true → toF st forb x = some y → R x v → R' y v) {x y : TV} {v : Value} (hg : goodT good x) (h : toFT st forb x = some y) (g : RelT R x v) : RelT R' y v := by
 cases x with
 | c x =>
  simp only [toFT, Option.map_eq_some_iff] at h
  obtain ⟨d, h1, rfl⟩ := h
  exact hR x d v hg h1 g
 | a l =>
  simp only [toFT, Option.map_eq_some_iff] at h
  obtain ⟨d, h1, rfl⟩ := h
  obtain ⟨vs, e, g⟩ := g
  exact ⟨vs, e, toFs_rel good hR hg h1 g⟩
 | fn f l =>
  simp only [toFT, Option.map_eq_some_iff] at h
  obtain ⟨d, h1, rfl⟩ := h
  obtain ⟨vs, e, g⟩ := g
  exact ⟨vs, e, toFs_rel good hR hg h1 g⟩
 | fb f l =>
  simp only [toFT, Option.map_eq_some_iff] at h
  obtain ⟨d, h1, rfl⟩ := h
  obtain ⟨vs, e, g⟩ := g
  exact ⟨vs, e, toFs_rel good hR hg h1 g⟩
theorem toFTs_rel (hR : ∀ x y v, good x = true → toF st forb x = some y → R x v → R' y v) : ∀ {l l' : List TV} {vs : List Value}, (∀ x ∈ l, goodT good x) → toFTs st forb l = some l' → All2 (RelT R) l vs → All2 (RelT R') l' vs
 | [], l', [], _, h, _ => by simp only [toFTs, Option.some.injEq] at h; subst h; trivial
 | x :: l, l', v :: vs, hg, h, g => by
  simp only [toFTs] at h
  split at h
  ·rename_i d ds h1 h2
   simp only [Option.some.injEq] at h; subst h
   exact ⟨toFT_rel good hR (hg x (by simp)) h1 g.1, toFTs_rel hR (fun y hy => hg y (by simp [hy])) h2 g.2⟩
  ·cases h
 | [], _, _ :: _, _, _, g => g.elim
 | _ :: _, _, [], _, _, g => g.elim
def goodD : DV → Prop
 | .t x => goodT good x
 | .tu l => ∀ x ∈ l, goodT good x
theorem toFD_rel (hR : ∀ x y v, good x = true → toF st forb x = some y → R x v → R' y v) {x y : DV} {v : Value} (hg : goodD good x) (h : toFD st forb x = some y) (g : RelD R x v) : RelD R' y v := by
 cases x with
 | t x =>
  simp only [toFD, Option.map_eq_some_iff] at h
  obtain ⟨d, h1, rfl⟩ := h
  exact toFT_rel good hR hg h1 g
 | tu l =>
  simp only [toFD, Option.map_eq_some_iff] at h
  obtain ⟨d, h1, rfl⟩ := h
  obtain ⟨vs, e, g⟩ := g
  exact ⟨vs, e, toFTs_rel good hR hg h1 g⟩
theorem toFDs_rel (hR : ∀ x y v, good x = true → toF st forb x = some y → R x v → R' y v) : ∀ {l l' : List DV} {vs : List Value}, (∀ x ∈ l, goodD good x) → toFDs st forb l = some l' → All2 (RelD R) l vs → All2 (RelD R') l' vs
 | [], l', [], _, h, _ => by simp only [toFDs, Option.some.injEq] at h; subst h; trivial
 | x :: l, l', v :: vs, hg, h, g => by
  simp only [toFDs] at h
  split at h
  ·rename_i d ds h1 h2
   simp only [Option.some.injEq] at h; subst h
   exact ⟨toFD_rel good hR (hg x (by simp)) h1 g.1, toFDs_rel hR (fun y hy => hg y (by simp [hy])) h2 g.2⟩
  ·cases h
 | [], _, _ :: _, _, _, g => g.elim
 | _ :: _, _, [], _, _, g => g.elim
end
theorem allF_iff : ∀ {l : List CV}, allF l = true → ∀ x ∈ l, isF x = true
 | [], _, x, hx => by simp at hx
 | y :: l, h, x, hx => by
  simp only [allF, Bool.and_eq_true] at h
  rcases List.mem_cons.1 hx with rfl | hx
  ·exact h.1
  ·exact allF_iff h.2 x hx
theorem ownT_good {x : TV} (h : ownT x = false) : goodT isF x := by
 cases x with
 | c x => simpa [ownT, goodT] using h
 | a l => exact allF_iff (by simpa [ownT] using h)
 | fn f l => exact allF_iff (by simpa [ownT] using h)
 | fb f l => exact allF_iff (by simpa [ownT] using h)
theorem ownTs_good : ∀ {l : List TV}, ownTs l = false → ∀ x ∈ l, goodT isF x
 | [], _, x, hx => by simp at hx
 | y :: l, h, x, hx => by
  simp only [ownTs, Bool.or_eq_false_iff] at h
  rcases List.mem_cons.1 hx with rfl | hx
  ·exact ownT_good h.1
  ·exact ownTs_good h.2 x hx
theorem ownD_good {x : DV} (h : ownD x = false) : goodD isF x := by
 cases x with
 | t x => exact ownT_good h
 | tu l => exact ownTs_good h
theorem ownDs_good : ∀ {l : List DV}, ownDs l = false → ∀ x ∈ l, goodD isF x
 | [], _, x, hx => by simp at hx
 | y :: l, h, x, hx => by
  simp only [ownDs, Bool.or_eq_false_iff] at h
  rcases List.mem_cons.1 hx with rfl | hx
  ·exact ownD_good h.1
  ·exact ownDs_good h.2 x hx
theorem good_true : ∀ {x : DV}, goodD (fun _ => true) x
 | .t (.c _) => rfl
 | .t (.a _) => fun _ _ => rfl
 | .t (.fn _ _) => fun _ _ => rfl
 | .t (.fb _ _) => fun _ _ => rfl
 | .tu l => fun x _ => match x with
  | .c _ => rfl
  | .a _ => fun _ _ => rfl
  | .fn _ _ => fun _ _ => rfl
  | .fb _ _ => fun _ _ => rfl
theorem flatC_rel {w w' : World} {N N' : Nat → Prop} : ∀ {x : CV} {v : Value}, flatC x = true → RelF w N x v → RelC w' N' M x v
 | .v _, _, _, h => h
 | .sl _ _ _, _, h, _ | .px _ _ _, _, h, _ | .os _, _, h, _ | .p _ _, _, h, _ | .pe _ _ _ _, _, h, _ | .ob _ _ _ _, _, h, _ | .er _, _, h, _ | .any, _, h, _ => by simp [flatC] at h
theorem flatCs_rel {w w' : World} {N N' : Nat → Prop} : ∀ {l : List CV} {vs : List Value}, flatCs l = true → All2 (RelF w N) l vs → All2 (RelC w' N' M) l vs
 | [], [], _, _ => trivial
 | x :: l, v :: vs, h, g => by
  simp only [flatCs, Bool.and_eq_true] at h
  exact ⟨flatC_rel h.1 g.1, flatCs_rel h.2 g.2⟩
 | [], _ :: _, _, g => g.elim
 | _ :: _, [], _, g => g.elim
theorem flatT_rel {w w' : World} {N N' : Nat → Prop} {x : TV} {v : Value} (h : flatT x = true) (g : RelT (RelF w N) x v) : RelT (RelC w' N' M) x v := by
 cases x with
 | c x => exact flatC_rel h g
 | a l => obtain ⟨vs, e, g⟩ := g; exact ⟨vs, e, flatCs_rel h g⟩
 | fn f l => obtain ⟨vs, e, g⟩ := g; exact ⟨vs, e, flatCs_rel h g⟩
 | fb f l => obtain ⟨vs, e, g⟩ := g; exact ⟨vs, e, flatCs_rel h g⟩
theorem flatTs_rel {w w' : World} {N N' : Nat → Prop} : ∀ {l : List TV} {vs : List Value}, flatTs l = true → All2 (RelT (RelF w N)) l vs → All2 (RelT (RelC w' N' M)) l vs
 | [], [], _, _ => trivial
 | x :: l, v :: vs, h, g => by
  simp only [flatTs, Bool.and_eq_true] at h
  exact ⟨flatT_rel h.1 g.1, flatTs_rel h.2 g.2⟩
 | [], _ :: _, _, g => g.elim
 | _ :: _, [], _, g => g.elim
theorem flatD_rel {w w' : World} {N N' : Nat → Prop} {x : DV} {v : Value} (h : flatD x = true) (g : RelD (RelF w N) x v) : RelD (RelC w' N' M) x v := by
 cases x with
 | t x => exact flatT_rel h g
 | tu l => obtain ⟨vs, e, g⟩ := g; exact ⟨vs, e, flatTs_rel h g⟩
theorem anyT_rel {w w' : World} {N N' : Nat → Prop} {x : TV} {v : Value} (h : anyT x = true) (g : RelT (RelF w N) x v) : RelT (RelC w' N' M) x v := by
 unfold anyT at h
 split at h
 ·exact g
 ·exact flatT_rel h g
theorem anyTs_rel {w w' : World} {N N' : Nat → Prop} : ∀ {l : List TV} {vs : List Value}, anyTs l = true → All2 (RelT (RelF w N)) l vs → All2 (RelT (RelC w' N' M)) l vs
 | [], [], _, _ => trivial
 | x :: l, v :: vs, h, g => by
  simp only [anyTs, Bool.and_eq_true] at h
  exact ⟨anyT_rel h.1 g.1, anyTs_rel h.2 g.2⟩
 | [], _ :: _, _, g => g.elim
 | _ :: _, [], _, g => g.elim
theorem flatA_rel {w w' : World} {N N' : Nat → Prop} {x : DV} {v : Value} (h : flatA x = true) (g : RelD (RelF w N) x v) : RelD (RelC w' N' M) x v := by
 cases x with
 | t x => exact anyT_rel h g
 | tu l => obtain ⟨vs, e, g⟩ := g; exact ⟨vs, e, anyTs_rel h g⟩
theorem flatD_A : ∀ {x : DV}, flatD x = true → flatA x = true := by
 have tt : ∀ {x : TV}, flatT x = true → anyT x = true := by
  intro x h
  unfold anyT
  split
  ·rfl
  ·exact h
 intro x h
 cases x with
 | t x => exact tt h
 | tu l =>
  have : ∀ l : List TV, flatTs l = true → anyTs l = true := by
   intro l
   induction l with
   | nil => intro _; rfl
   | cons x l ih =>
    intro h
    simp only [flatTs, Bool.and_eq_true] at h
    simp only [anyTs, Bool.and_eq_true]
    exact ⟨tt h.1, ih h.2⟩
  exact this l h
theorem fgn_new (ha : Abs w0 N0 Z M st a w) {b : Nat} (h : w.heap.size ≤ b) : fgn w0 N0 M b :=
 ⟨fun h1 => by have := ha.below.size; omega, fun k l h1 h2 => by have := ha.own k l b h1 h2; omega⟩
theorem run_call {f : FuncId} (he : Enters P f) {c : Call} (ho : o.op = .call c) {g : Operand} (hc : c.callee = .value g) {caps : List Value} (hg : a.eval g = .func (.func f) #[] caps.toArray) :
  (execOp a.eval o).run P w = .ok (.enter f ((c.args.toList.map a.eval) ++ caps).toArray) w := by
 have : (c.args.map a.eval ++ caps.toArray) = ((c.args.toList.map a.eval) ++ caps).toArray := by
  apply Array.toList_inj.1; simp
 unfold execOp
 simp only [ho, resolve, hc, hg, Deferred.ofValue, Sem.run_bind, Sem.run_pure, Result.andThen_ok, invoke, Array.empty_append, this]
 exact he _ _
theorem run_callB {f : FuncId} (he : Enters P f) {c : Call} (ho : o.op = .call c) {g : Operand} (hc : c.callee = .value g) {x : Value} (hg : a.eval g = .func (.func f) #[x] #[]) :
  (execOp a.eval o).run P w = .ok (.enter f (x :: c.args.toList.map a.eval).toArray) w := by
 have : (#[x] ++ c.args.map a.eval ++ #[]) = (x :: c.args.toList.map a.eval).toArray := by
  apply Array.toList_inj.1; simp
 unfold execOp
 simp only [ho, resolve, hc, hg, Deferred.ofValue, Sem.run_bind, Sem.run_pure, Result.andThen_ok, invoke, this]
 exact he _ _
theorem ownsRow_base {base base' : Nat} {e : TypeId} {sz : Nat} {v : Value} {n : Nat} {xs : List Value} (h : w.ownsRow base e sz v n xs) (hb : base' ≤ base) : w.ownsRow base' e sz v n xs := by
 refine ⟨h.1, ?_⟩
 rcases h.2 with h2 | ⟨g, cap, cur, hv, hg, r⟩
 ·exact Or.inl h2
 ·exact Or.inr ⟨g, cap, cur, hv, Nat.le_trans hb hg, r⟩
theorem ownsRow_blk {base : Nat} {e : TypeId} {sz : Nat} {v : Value} {n : Nat} {xs : List Value} (h : w.ownsRow base e sz v n xs) : ∀ b, v.ownBlock = some b → base ≤ b ∧ b < w.heap.size := by
 rcases h.2 with ⟨rfl, _⟩ | ⟨g, cap, cur, rfl, hg, hh, _⟩
 ·intro b h; cases h
 ·intro b h; cases h; exact ⟨hg, (Array.getElem?_eq_some_iff.1 hh).1⟩
theorem Abs.adopt (ha : Abs w0 N0 Z M st a w) (d : Nat) {r : Row} {u : Loc} {x : DV} {v : Value} {w' : World} (hd : st.at d = none) (hlt : d < st.h.length) (hal : r.alive = true) (hbe : Below w.heap.size w w') (hu : ∀ b, u.block = some b → w.heap.size ≤ b ∧ b < w'.heap.size)
  (hrow : ∀ M' : Map, M' d = some u → RelR w' w0.heap.size (fgn w0 N0 M') M' d r)
  (hv : ∀ M' : Map, M' d = some u → (∀ k, k ≠ d → M' k = M k) → RelD (RelC w' (fgn w0 N0 M') M') x v) :
  ∃ M', Abs w0 N0 Z M' (({ st with h := st.h.set d (some r) } : DS).putO (some d) (some x)) (a.put (some d) v) w' := by
 let M' : Map := fun k => if k = d then some u else M k
 have hMd : M d = none := ha.dom d hd
 have hM'd : M' d = some u := by simp [M']
 have hM' : ∀ k, k ≠ d → M' k = M k := fun k h => by simp [M', h]
 have hsz := hbe.size
 have stp : Stp w0 N0 M M' w w' := by
  refine ⟨hbe.size, fun b _ hb => hbe.block b hb, fun k l' h => ?_, fun k l' b h1 h2 => ?_⟩
  ·rw [hM' k (fun e => by rw [e, hMd] at h; cases h)]; exact h
  ·by_cases e : k = d
   ·subst e; rw [hM'd] at h1; cases h1; exact Or.inr (hu b h2).1
   ·rw [hM' k e] at h1; exact Or.inl ⟨k, l', h1, h2⟩
 have hat : ∀ k, (({ st with h := st.h.set d (some r) } : DS).putO (some d) (some x)).at k = if d = k ∧ d < st.h.length then some r else st.at k := fun k => by
  rw [at_putO]; unfold DS.at; exact getset _ _ _ _
 have hws := ha.below.size
 refine ⟨M', ha.step stp (hbe.mono ha.below.size) (by rw [put_size, len_putO]; exact ha.fits) (put_defs _ _ _) (fun i dv h => ?_) (fun k r' h => ?_) (fun k h => ?_) (fun k l' b h1 h2 => ?_) (fun k k' r1 r2 l1 l2 b h1 h2 h3 h4 h5 h6 h7 h8 => ?_)⟩
 ·exact tmp_putO (st := { st with h := st.h.set d (some r) }) ha.fits (fun dv e => by cases e; exact hv M' hM'd hM') i dv h
 ·rw [hat] at h
  by_cases e : d = k ∧ d < st.h.length
  ·rw [if_pos e] at h; cases h; rw [← e.1]; exact Or.inr (hrow M' hM'd)
  ·rw [if_neg e] at h
   exact Or.inl ⟨h, fun _ l' b h1 h2 => hbe.block b (ha.own k l' b h1 h2).2⟩
 ·rw [hat] at h
  by_cases e : d = k ∧ d < st.h.length
  ·rw [if_pos e] at h; cases h
  ·rw [if_neg e] at h
   by_cases e2 : k = d
   ·exact (e ⟨e2.symm, hlt⟩).elim
   ·rw [hM' k e2]; exact ha.dom k h
 ·by_cases e : k = d
  ·subst e; rw [hM'd] at h1; cases h1
   have := hu b h2
   exact ⟨by omega, this.2⟩
  ·rw [hM' k e] at h1; have := ha.own k l' b h1 h2; exact ⟨this.1, by omega⟩
 ·rw [hat] at h1 h3
  by_cases e : k = d
  ·by_cases e' : k' = d
   ·rw [e, e']
   ·subst e; rw [hM'd] at h5; cases h5
    have q1 := hu b h7
    rw [hM' k' e'] at h6; have := ha.own k' l2 _ h6 h8; omega
  ·rw [if_neg (fun h => e h.1.symm)] at h1
   rw [hM' k e] at h5
   by_cases e' : k' = d
   ·subst e'; rw [hM'd] at h6; cases h6
    have q1 := hu b h8
    have := ha.own k l1 _ h5 h7; omega
   ·rw [if_neg (fun h => e' h.1.symm)] at h3
    rw [hM' k' e'] at h6
    exact ha.apart k k' r1 r2 l1 l2 b h1 h2 h3 h4 h5 h6 h7 h8
theorem flatC_any {w w' : World} {N N' : Nat → Prop} {M M' : Map} : ∀ {x : CV} {v : Value}, flatC x = true → RelC w N M x v → RelC w' N' M' x v
 | .v _, _, _, h => h
 | .sl _ _ _, _, h, _ | .px _ _ _, _, h, _ | .os _, _, h, _ | .p _ _, _, h, _ | .pe _ _ _ _, _, h, _ | .ob _ _ _ _, _, h, _ | .er _, _, h, _ | .any, _, h, _ => by simp [flatC] at h
theorem flatCs_any {w w' : World} {N N' : Nat → Prop} {M M' : Map} : ∀ {l : List CV} {vs : List Value}, flatCs l = true → All2 (RelC w N M) l vs → All2 (RelC w' N' M') l vs
 | [], [], _, _ => trivial
 | x :: l, v :: vs, h, g => by
  simp only [flatCs, Bool.and_eq_true] at h
  exact ⟨flatC_any h.1 g.1, flatCs_any h.2 g.2⟩
 | [], _ :: _, _, g => g.elim
 | _ :: _, [], _, g => g.elim
theorem flatTs_any {w w' : World} {N N' : Nat → Prop} {M M' : Map} : ∀ {l : List TV} {vs : List Value}, flatTs l = true → All2 (RelT (RelC w N M)) l vs → All2 (RelT (RelC w' N' M')) l vs
 | [], [], _, _ => trivial
 | x :: l, v :: vs, h, g => by
  simp only [flatTs, Bool.and_eq_true] at h
  refine ⟨?_, flatTs_any h.2 g.2⟩
  have h1 := h.1
  have g1 := g.1
  cases x with
  | c x => exact flatC_any h1 g1
  | a l => obtain ⟨vs, e, g⟩ := g1; exact ⟨vs, e, flatCs_any h1 g⟩
  | fn f l => obtain ⟨vs, e, g⟩ := g1; exact ⟨vs, e, flatCs_any h1 g⟩
  | fb f l => obtain ⟨vs, e, g⟩ := g1; exact ⟨vs, e, flatCs_any h1 g⟩
 | [], _ :: _, _, g => g.elim
 | _ :: _, [], _, g => g.elim
theorem isF_move {w : World} {N N' : Nat → Prop} {M M' : Map} (hN : ∀ b, N b → N' b) {x : CV} {v : Value} (h : isF x = true) (g : RelC w N M x v) : RelC w N' M' x v := RelC.ofF ((isF_rel h g).all hN)
theorem nameCs_rel {d : Nat} {w : World} {u : Value} {N N' : Nat → Prop} {M' : Map} (hN : ∀ b, N b → N' b) (hM : M' d = some (.row u)) : ∀ {l l' : List CV} {vs : List Value}, nameCs d l = some l' → All2 (RelC w N (own1 u)) l vs → All2 (RelC w N' M') l' vs := by
 intro l
 induction l with
 | nil => intro l' vs h; simp [nameCs] at h
 | cons x l ih =>
  intro l' vs h g
  match vs, g with
  | [], g => exact g.elim
  | y :: vs, g =>
   unfold nameCs at h
   split at h
   ·rename_i heq
    simp only [List.cons.injEq] at heq
    obtain ⟨rfl, rfl⟩ := heq
    cases h
    have e2 : u = y := by have := g.1.1; simp [own1] at this; exact this
    refine ⟨⟨by rw [hM, e2], g.1.2⟩, ?_⟩
    match vs, g.2 with
    | [], _ => trivial
    | _ :: _, g => exact g.elim
   ·rename_i x' l' _ heq
    simp only [List.cons.injEq] at heq
    obtain ⟨rfl, rfl⟩ := heq
    cases hq : isF x with
    | false => rw [hq] at h; cases h
    | true =>
     rw [hq] at h
     simp only [_root_.cond_true, Option.map_eq_some_iff] at h
     obtain ⟨m, h1, rfl⟩ := h
     exact ⟨isF_move hN hq g.1, ih h1 g.2⟩
   ·rename_i heq; cases heq
theorem nameD_rel {d : Nat} {r r' : DV} {w : World} {u v : Value} {N N' : Nat → Prop} {M' : Map} (hN : ∀ b, N b → N' b) (h : nameD d r = some r') (hr : RelD (RelC w N (own1 u)) r v) (hM : M' d = some (.row u)) : RelD (RelC w N' M') r' v := by
 unfold nameD at h
 split at h
 ·simp only [Option.map_eq_some_iff] at h
  obtain ⟨m, h1, rfl⟩ := h
  obtain ⟨vs, e, g⟩ := hr
  exact ⟨vs, e, nameCs_rel hN hM h1 g⟩
 ·cases h
  have e : u = v := by have := hr.1; simp [own1] at this; exact this
  exact ⟨by rw [hM, e], hr.2⟩
 ·rename_i l
  cases hq : flatTs l with
  | false => rw [hq] at h; cases h
  | true =>
   rw [hq] at h
   cases h
   obtain ⟨vs, e, g⟩ := hr
   match vs, g with
   | x :: vs, g =>
    have e2 : u = x := by have := g.1.1; simp [own1] at this; exact this
    exact ⟨x :: vs, e, ⟨by rw [hM, e2], g.1.2⟩, flatTs_any hq g.2⟩
   | [], g => exact g.elim
 ·cases h
theorem all2_move {w : World} {N N' : Nat → Prop} {M M' : Map} (hN : ∀ b, N b → N' b) : ∀ {l : List CV} {vs : List Value}, allF l = true → All2 (RelC w N M) l vs → All2 (RelC w N' M') l vs
 | [], [], _, _ => trivial
 | x :: l, v :: vs, h, g => by
  simp only [allF, Bool.and_eq_true] at h
  exact ⟨isF_move hN h.1 g.1, all2_move hN h.2 g.2⟩
 | [], _ :: _, _, g => g.elim
 | _ :: _, [], _, g => g.elim
theorem namePs_rel {d b : Nat} {w : World} {N N' : Nat → Prop} {M' : Map} (hN : ∀ b, N b → N' b) (hM : M' d = some (.box b)) : ∀ {l l' : List CV} {vs : List Value}, namePs d l = some l' → All2 (RelC w N (box1 b)) l vs → All2 (RelC w N' M') l' vs := by
 intro l
 induction l with
 | nil => intro l' vs h; simp [namePs] at h
 | cons x l ih =>
  intro l' vs h g
  match vs, g with
  | [], g => exact g.elim
  | y :: vs, g =>
   unfold namePs at h
   split at h
   ·rename_i off l2 heq
    simp only [List.cons.injEq] at heq
    obtain ⟨rfl, rfl⟩ := heq
    cases hq : allF l with
    | false => rw [hq] at h; cases h
    | true =>
     rw [hq] at h
     cases h
     obtain ⟨b', g1, g2⟩ := g.1
     have e2 : b' = b := by simp [box1] at g1; exact g1.symm
     subst e2
     exact ⟨⟨_, hM, g2⟩, all2_move hN hq g.2⟩
   ·rename_i x' l2 _ heq
    simp only [List.cons.injEq] at heq
    obtain ⟨rfl, rfl⟩ := heq
    cases hq : isF x with
    | false => rw [hq] at h; cases h
    | true =>
     rw [hq] at h
     simp only [_root_.cond_true, Option.map_eq_some_iff] at h
     obtain ⟨m, h1, rfl⟩ := h
     exact ⟨isF_move hN hq g.1, ih h1 g.2⟩
   ·rename_i heq; cases heq
theorem nameF_rel {d b : Nat} {r r' : DV} {w : World} {v : Value} {N N' : Nat → Prop} {M' : Map} (hN : ∀ b, N b → N' b) (h : nameF d r = some r') (hr : RelD (RelC w N (box1 b)) r v) (hM : M' d = some (.box b)) : RelD (RelC w N' M') r' v := by
 unfold nameF at h
 split at h
 ·simp only [Option.map_eq_some_iff] at h
  obtain ⟨m, h1, rfl⟩ := h
  obtain ⟨vs, e, g⟩ := hr
  exact ⟨vs, e, namePs_rel hN hM h1 g⟩
 ·cases h
theorem toFDs_get : ∀ {l l' : List DV} {i : Nat} {y : DV}, toFDs st forb l = some l' → l'[i]? = some y → ∃ x, l[i]? = some x ∧ toFD st forb x = some y
 | [], l', i, y, h, g => by simp only [toFDs, Option.some.injEq] at h; subst h; simp at g
 | x :: l, l', i, y, h, g => by
  simp only [toFDs] at h
  split at h
  ·rename_i d ds h1 h2
   cases h
   cases i with
   | zero => simp only [List.getElem?_cons_zero, Option.some.injEq] at g; subst g; exact ⟨x, rfl, h1⟩
   | succ i => exact toFDs_get (l := l) h2 (by simpa using g)
  ·cases h
theorem flatC_F {w w' : World} {N N' : Nat → Prop} {M : Map} : ∀ {x : CV} {v : Value}, flatC x = true → RelC w N M x v → RelF w' N' x v
 | .v _, _, _, h => h
 | .sl _ _ _, _, h, _ | .px _ _ _, _, h, _ | .os _, _, h, _ | .p _ _, _, h, _ | .pe _ _ _ _, _, h, _ | .ob _ _ _ _, _, h, _ | .er _, _, h, _ | .any, _, h, _ => by simp [flatC] at h
theorem flatCs_F {w w' : World} {N N' : Nat → Prop} {M : Map} : ∀ {l : List CV} {vs : List Value}, flatCs l = true → All2 (RelC w N M) l vs → All2 (RelF w' N') l vs
 | [], [], _, _ => trivial
 | x :: l, v :: vs, h, g => by
  simp only [flatCs, Bool.and_eq_true] at h
  exact ⟨flatC_F h.1 g.1, flatCs_F h.2 g.2⟩
 | [], _ :: _, _, g => g.elim
 | _ :: _, [], _, g => g.elim
theorem gd_cut (ha : Abs w0 N0 Z M st a w) {B : Nat} (h : w0.heap.size ≤ B) (hB : B < w.heap.size) : Gd (cutW w B) := by
 refine Gd.below ha.defs.2.2 ⟨ha.below.os, ha.below.tape, ha.below.output, by rw [cutW_size hB]; exact h, fun b hb => ?_⟩
 have : (cutW w B).heap[b]? = w.heap[b]? := by
  simp only [cutW, Array.getElem?_extract]
  rw [if_pos (by omega)]; simp
 rw [this]
 exact ha.below.block b hb
theorem all2_two {α β : Type} {R : α → β → Prop} {x y : α} {l : List β} (h : All2 R [x, y] l) : ∃ u v, l = [u, v] ∧ R x u ∧ R y v := by
 match l, h with
 | [u, v], h => exact ⟨u, v, rfl, h.1, h.2.1⟩
 | [], h => exact h.elim
 | [_], h => exact h.2.elim
 | _ :: _ :: _ :: _, h => exact h.2.2.elim
theorem box_range {c : List CV} : (List.range c.length).map (boxC c) = c := by
 apply List.ext_getElem (by simp)
 intro i h1 h2
 simp [boxC, List.getD, h2]
theorem ptrsK_ok : ∀ {l : List CV} {i k : Nat}, ptrsK i l = some k → l = (List.range l.length).map fun j => CV.p k (i + j)
 | [], _, _, h => by simp [ptrsK] at h
 | [x], i, k, h => by
  cases x with
  | p k' off =>
   simp only [ptrsK] at h
   cases hq : Nat.beq off i with
   | false => rw [hq] at h; cases h
   | true =>
    rw [hq] at h
    cases h
    obtain rfl := Nat.eq_of_beq_eq_true hq
    rfl
  | _ => simp [ptrsK] at h
 | x :: y :: l, i, k, h => by
  cases x with
  | p k' off =>
   simp only [ptrsK] at h
   split at h
   ·rename_i k2 h2
    cases hq : (Nat.beq k' k2 && Nat.beq off i) with
    | false => rw [hq] at h; cases h
    | true =>
     rw [hq] at h
     cases h
     simp only [Bool.and_eq_true] at hq
     have e1 := Nat.eq_of_beq_eq_true hq.1
     have e2 := Nat.eq_of_beq_eq_true hq.2
     subst e1 e2
     have ih := ptrsK_ok h2
     rw [List.length_cons, List.range_succ_eq_map, List.map_cons, List.map_map]
     refine List.cons_eq_cons.2 ⟨rfl, ?_⟩
     rw [ih]
     simp only [List.length_map, List.length_range]
     refine List.map_congr_left fun j _ => ?_
     simp only [Function.comp]
     rw [show off + 1 + j = off + (j + 1) by omega]
   ·cases h
  | _ => simp [ptrsK] at h
theorem well_call (hS : Valid P S) (ha : Abs w0 N0 Z M st a w) {c : Call} (ho : o.op = .call c) {g : Operand} (hc : c.callee = .value g) {dg : DV} (hdg : opv st g = some dg) {ds : List DV} (hds : opvs st c.args.toList = some ds) {e : Eff} (he : callE S forb st o.dst (fnOf dg) ds = some e) (hp : e.pre) : Well P w0 N0 Z o a w (st.app o.dst e) := by
 have hg := fnOf_rel (opv_rel ha hdg)
 clear hdg
 generalize fnOf dg = dg at he hg
 have hargs := opvs_rel ha hds
 unfold callE at he
 split at he
 ·rename_i f caps
  obtain ⟨cs, hgv, hcaps⟩ := hg
  have hall : All2 (RelD (RelC w (fgn w0 N0 M) M)) (ds ++ caps.map fun x => .t (.c x)) (c.args.toList.map a.eval ++ cs) :=
   hargs.append (All2.map_left (hcaps.mono fun _ _ g => g))
  split at he
  ·rename_i aas has
   have hall1 : All2 (RelD (RelF w (fun _ => True))) aas (c.args.toList.map a.eval ++ cs) := toFDs_rel (R := RelC w (fgn w0 N0 M) M) (R' := RelF w (fun _ => True)) (fun _ => true) (fun x y v _ h2 h3 => toF_rel ha (fun _ _ => trivial) (fun _ _ => trivial) h2 h3) (fun _ _ => good_true) has hall
   have fin : ∀ (r : DV) (pre : Option Prop) (fr : Fre) (N : Nat → Prop), e = ⟨r, [], pre⟩ → (fr = .no ∨ fr = .new) → S f aas = some (r, pre, fr) → (∀ w' v, RetOk w N w' r v fr → RelD (RelF w' (resN w N fr)) r v) → All2 (RelD (RelF w N)) aas (c.args.toList.map a.eval ++ cs) → (flatA r = true ∨ ∀ b, resN w N fr b → fgn w0 N0 M b) → Well P w0 N0 Z o a w (st.app o.dst e) := by
    intro r pre fr N ee hfr hSf hrt h1 h2
    subst ee
    have hX : ∃ (hen : Enters P f), Calls P f (c.args.toList.map a.eval ++ cs).toArray w fun e w'' => ∃ v, e = .returned v ∧ RetOk w N w'' r v fr ∧ Below w.heap.size w w'' := by
     rcases hfr with rfl | rfl
     ·obtain ⟨hen, hcall⟩ := hS f aas r pre .no hSf hp
      exact ⟨hen, hcall w N _ ha.gd h1⟩
     ·obtain ⟨hen, hcall⟩ := hS f aas r pre .new hSf hp
      exact ⟨hen, hcall w N _ ha.gd h1⟩
    obtain ⟨hen, hcall⟩ := hX
    refine .call f _ w (run_call hen ho hc hgv) ?_
    refine Calls.mono hcall ?_
    rintro e w'' ⟨v, rfl, h3, h4⟩
    have h3 := hrt w'' v h3
    refine ⟨v, rfl, M, ha.put h4 o.dst fun dv e => ?_⟩
    cases e
    rcases h2 with h2 | h2
    ·exact flatA_rel h2 h3
    ·exact RelD.mono (fun x u g => RelC.ofF (g.all h2)) h3
   split at he
   ·rename_i r pre R hSf
    split at he
    rotate_left
    ·cases he
    rename_i d hd
    split at he
    rotate_left
    ·cases he
    rename_i r' hat hnm
    cases hq : (Nat.blt d st.h.length && isRow R) with
    | false => rw [hq] at he; cases he
    | true =>
     rw [hq] at he
     cases he
     simp only [Bool.and_eq_true] at hq
     have q1 : d < st.h.length := Nat.le_of_ble_eq_true hq.1
     obtain ⟨hen, hcall⟩ := hS f aas r pre (.own R) hSf hp
     refine .call f _ w (run_call hen ho hc hgv) ?_
     refine Calls.mono (hcall w _ _ ha.gd hall1) ?_
     rintro e w'' ⟨v, rfl, h3, h4⟩
     obtain ⟨u, k1, k2⟩ := h3
     have hq2 := hq.2
     have key : (∀ b, u.ownBlock = some b → w.heap.size ≤ b ∧ b < w''.heap.size) ∧ R.alive = true ∧ ∀ M' : Map, M' d = some (.row u) → RelR w'' w0.heap.size (fgn w0 N0 M') M' d R := by
      cases R with
      | gen ty sz l =>
       obtain ⟨v', xs, e1, e2, e3, e4⟩ := k2
       have : u = v' := by simpa [own1] using e1
       subst this
       exact ⟨ownsRow_blk e2, rfl, fun M' hM' => ⟨u, xs, hM', ownsRow_base e2 ha.below.size, e3, e4.mono fun _ _ g => g.all fun b hb => hb.elim⟩⟩
      | num ty kd l =>
       obtain ⟨v', e1, e2⟩ := k2
       have : u = v' := by simpa [own1] using e1
       subst this
       exact ⟨ownsRow_blk e2, rfl, fun M' hM' => ⟨u, hM', ownsRow_base e2 ha.below.size⟩⟩
      | box ty c => cases hq2
      | dead => cases hq2
     obtain ⟨M', hA⟩ := ha.adopt d (r := R) (u := .row u) (x := r') (v := v) hat q1 key.2.1 h4 key.1 key.2.2 (fun M' hM' hoth => nameD_rel (fun b hb => ⟨fun h => absurd (Nat.lt_of_lt_of_le h ha.below.size) (by have := hb.1; omega), fun k l hk hl => by
      by_cases e : k = d
      ·subst e; rw [hM'] at hk; cases hk; exact hb.2 hl
      ·rw [hoth k e] at hk; have := (ha.own k l b hk hl).2; have := hb.1; omega⟩) hnm k1 hM')
     refine ⟨v, rfl, M', ?_⟩
     rw [hd]
     exact hA
   ·rename_i r pre ty c hSf
    split at he
    rotate_left
    ·cases he
    rename_i d hd
    split at he
    rotate_left
    ·cases he
    rename_i r' hat hnm
    cases hq : (Nat.blt d st.h.length && flatCs c) with
    | false => rw [hq] at he; cases he
    | true =>
     rw [hq] at he
     cases he
     simp only [Bool.and_eq_true] at hq
     have q1 : d < st.h.length := Nat.le_of_ble_eq_true hq.1
     obtain ⟨hen, hcall⟩ := hS f aas r pre (.clo ty c) hSf hp
     refine .call f _ w (run_call hen ho hc hgv) ?_
     refine Calls.mono (hcall w _ _ ha.gd hall1) ?_
     rintro e w'' ⟨v, rfl, h3, h4⟩
     obtain ⟨b, cs, k1, k2, k3, k4⟩ := h3
     obtain ⟨M', hA⟩ := ha.adopt d (r := .box ty c) (u := .box b) (x := r') (v := v) hat q1 rfl h4 (fun b' e => by cases e; exact ⟨k1, (Array.getElem?_eq_some_iff.1 k2).1⟩)
      (fun M' hM' => ⟨b, cs, hM', k2, k3.mono fun _ _ g => RelC.ofF (g.all fun b hb => hb.elim)⟩)
      (fun M' hM' hoth => nameF_rel (fun b' hb => ⟨fun h => absurd (Nat.lt_of_lt_of_le h ha.below.size) (by have := hb.1; omega), fun k l hk hl => by
       by_cases e : k = d
       ·subst e; rw [hM'] at hk; cases hk; exact hb.2 (by cases hl; rfl)
       ·rw [hoth k e] at hk; have := (ha.own k l b' hk hl).2; have := hb.1; omega⟩) hnm k4 hM')
     refine ⟨v, rfl, M', ?_⟩
     rw [hd]
     exact hA
   ·rename_i r pre j ty cs' hSf
    split at he
    rotate_left
    ·cases he
    rename_i k n c0 hj1 hj2
    split at he
    rotate_left
    ·cases he
    rename_i ty' cs0 hat
    have hat : st.at k = some (.box ty' cs0) := by
     unfold DS.rd at hat
     cases e : forb k with
     | true => rw [e] at hat; cases hat
     | false => rw [e] at hat; exact hat
    cases hq : (Nat.beq ty ty' && (Nat.beq n cs0.length && (!ownDs (ds.eraseIdx j)))) with
    | false => rw [hq] at he; cases he
    | true =>
     rw [hq] at he
     cases he
     simp only [Bool.and_eq_true, Bool.not_eq_true'] at hq
     obtain ⟨q1, q2, q3⟩ := hq
     have q1 := Nat.eq_of_beq_eq_true q1
     have q2 := Nat.eq_of_beq_eq_true q2
     subst q1
     subst q2
     simp only [List.map_nil, List.append_nil] at has hall
     have ecs : cs = [] := by
      cases cs with
      | nil => rfl
      | cons x l => exact hcaps.elim
     subst ecs
     simp only [List.append_nil] at hall hall1
     obtain ⟨u, hu1, hu2⟩ := hargs.get hj1
     obtain ⟨b, hMk, rfl⟩ := hu2
     obtain ⟨b', cells, e1, e2, e3⟩ := ha.row k _ hat
     rw [hMk] at e1
     cases e1
     have hlen : cells.size = cs0.length := by simpa using e3.length.symm
     have hpt : ∀ i x v, i ≠ j → aas[i]? = some x → (c.args.toList.map a.eval)[i]? = some v → RelD (RelF w (fun b1 => fgn w0 N0 M b1 ∧ b1 ≠ b)) x v := by
      intro i x v hi h1 h2
      obtain ⟨y, g1, g2⟩ := toFDs_get has h1
      obtain ⟨v', g3, g4⟩ := hall.get g1
      rw [h2] at g3
      cases g3
      have g5 := ownDs_good q3 y (List.mem_eraseIdx_iff_getElem?.2 ⟨i, hi, g1⟩)
      have g6 : RelD (RelF w (fgn w0 N0 M)) x v := toFD_rel (R := RelC w (fgn w0 N0 M) M) isF (fun x y v h1 h2 h3 => toF_id h1 h2 h3) g5 g2 g4
      exact RelD.mono (fun x u g => g.all fun b1 hb => ⟨hb, fun e => hb.2 k _ hMk (by rw [e]; rfl)⟩) g6
     obtain ⟨hen, hcall⟩ := hS f aas r pre (.wr j ty cs') hSf hp
     refine .call f _ w (run_call hen ho hc hgv) ?_
     simp only [List.append_nil]
     refine Calls.mono (hcall w (fgn w0 N0 M) _ ha.gd ⟨hall1, b, cells, hu1, e2, ⟨c0, by rw [hlen]; exact hj2⟩, hpt, gd_cut ha (ha.own k _ b hMk rfl).1 (ha.own k _ b hMk rfl).2⟩) ?_
     rintro e w'' ⟨v, rfl, ⟨k1, k2, k3⟩, B, cells', e4, e5, e6, fb⟩
     rw [hu1] at e4
     cases e4
     have hA := ha.setRow (cs := cells') (r' := .box ty cs') hat rfl hMk rfl (fun stp => ⟨b, cells', hMk, setRow_heap _ _ _ _ _ _ e2, flatCs_rel k2 e6⟩) rfl
     have hbel : Below (w.setRow b cells').heap.size (w.setRow b cells') w'' := by
      refine ⟨fb.os, fb.tape, fb.output, by simpa using fb.size, fun i hi => ?_⟩
      by_cases e : i = b
      ·rw [e, e5, setRow_heap _ _ _ _ _ _ e2]
      ·rw [fb.block i (by simpa using hi) e, setRow_other _ _ _ _ e]
     refine ⟨v, rfl, M, hA.put hbel o.dst fun dv e => ?_⟩
     cases e
     exact flatD_rel k1 k3
   ·rename_i r pre hSf
    cases hq : ((!ownDs (ds ++ caps.map fun x => .t (.c x))) || flatA r) with
    | false => rw [hq] at he; cases he
    | true =>
     rw [hq] at he
     cases he
     simp only [Bool.or_eq_true, Bool.not_eq_true'] at hq
     cases hown : ownDs (ds ++ caps.map fun x => .t (.c x)) with
     | false =>
      refine fin r pre .no (fgn w0 N0 M) rfl (Or.inl rfl) hSf (fun _ _ h => h) (toFDs_rel (R := RelC w (fgn w0 N0 M) M) (R' := RelF w (fgn w0 N0 M)) isF (fun x y v h1 h2 h3 => toF_id h1 h2 h3) (ownDs_good hown) has hall) (Or.inr fun b hb => ?_)
      rcases hb with ⟨_, hb⟩ | hb
      ·exact hb
      ·exact fgn_new ha hb
     | true =>
      refine fin r pre .no (fun _ => True) rfl (Or.inl rfl) hSf (fun _ _ h => h) hall1 (Or.inl ?_)
      rcases hq with hq | hq
      ·rw [hown] at hq; cases hq
      ·exact hq
   ·rename_i r pre hSf
    cases he
    refine fin r pre .new (fun _ => True) rfl (Or.inr rfl) hSf (fun _ _ h => h) hall1 (Or.inr fun b hb => ?_)
    rcases hb with ⟨hb, _⟩ | hb
    ·cases hb
    ·exact fgn_new ha hb
   ·cases he
  ·split at he
   rotate_left
   ·cases he
   rename_i x ka off sz n htf
   split at he
   rotate_left
   ·cases he
   rename_i tya ptrs hata
   split at he
   rotate_left
   ·cases he
   rename_i k hptr
   split at he
   rotate_left
   ·cases he
   rename_i ty cs0 x' hatk hx'
   cases hq : (Nat.beq off 0 && (Nat.beq sz 1 && (Nat.blt 0 n && (Nat.beq ptrs.length n && (Nat.beq cs0.length n && (flatCs cs0 && (!ownDs [x]))))))) with
   | false => rw [hq] at he; cases he
   | true =>
   rw [hq] at he
   simp only [_root_.cond_true] at he
   split at he
   rotate_left
   ·cases he
   rename_i r pre tya' ty' cs' hSf
   cases hq2 : (Nat.beq tya tya' && Nat.beq ty ty') with
   | false => rw [hq2] at he; cases he
   | true =>
   rw [hq2] at he
   cases he
   simp only [Bool.and_eq_true, Bool.not_eq_true'] at hq hq2
   obtain ⟨q0, q00, q1, q2, q3, q4, q5⟩ := hq
   have q0 := Nat.eq_of_beq_eq_true q0
   have q00 := Nat.eq_of_beq_eq_true q00
   have q1 : 0 < n := Nat.le_of_ble_eq_true q1
   have q2 := Nat.eq_of_beq_eq_true q2
   have q3 := Nat.eq_of_beq_eq_true q3
   have q6 := Nat.eq_of_beq_eq_true hq2.1
   have q7 := Nat.eq_of_beq_eq_true hq2.2
   subst q0 q00 q6 q7
   have hata := rd_at hata
   have hatk := rd_at hatk
   have ecs : cs = [] := by
    cases cs with
    | nil => rfl
    | cons u l => exact hcaps.elim
   subst ecs
   obtain ⟨v0, v1, ev, r0, r1⟩ := all2_two hargs
   have hpt := ptrsK_ok hptr
   rw [q2] at hpt
   have r1 : RelC w (fgn w0 N0 M) M (.ob ka 0 1 n) v1 := r1
   obtain ⟨bA, pc, g1, g2, g3⟩ := ha.row ka _ hata
   obtain ⟨bB, cells, g4, g5, g6⟩ := ha.row k _ hatk
   rcases r1 with ⟨b, cap, hM, hv, hn, hm⟩ | ⟨b, c', o', cap, hM, _⟩
   rotate_left
   ·rw [hM] at g1; cases g1
   rw [hM] at g1
   cases g1
   subst hv
   have hne : ka ≠ k := by
    rintro rfl
    rw [hata] at hatk
    cases hatk
    cases n with
    | zero => omega
    | succ n =>
     rw [hpt, List.range_succ_eq_map, List.map_cons] at q4
     simp [flatCs, flatC] at q4
   have hAB : bA ≠ bB := fun e => hne (ha.apart ka k _ _ _ _ bA hata rfl hatk rfl hM g4 rfl (by rw [e]; rfl))
   have hpc : pc.toList = (List.range n).map fun i => Value.pointer (some ⟨bB, i, none⟩) := by
    rw [hpt] at g3
    have hl : pc.toList.length = n := by rw [← g3.length]; simp
    apply List.ext_getElem (by simp [hl])
    intro i h1 h2
    have hi : i < n := by omega
    have e1 : ((List.range n).map fun j => CV.p k (0 + j))[i]? = some (.p k (0 + i)) := by simp [hi]
    obtain ⟨u, e2, e3⟩ := g3.get e1
    obtain ⟨b2, e4, e5⟩ := e3
    rw [g4] at e4
    cases e4
    rw [List.getElem?_eq_getElem h1] at e2
    simp only [Option.some.injEq] at e2
    rw [e2, e5]
    simp
   have hcells : All2 (RelF w (fun _ => True)) ((List.range n).map (boxC cs0)) cells.toList := by
    rw [← q3, box_range]
    exact flatCs_F q4 g6
   have hx0 : RelD (RelF w (fun b1 => fgn w0 N0 M b1 ∧ b1 ≠ bA ∧ b1 ≠ bB)) x' v0 := by
    have g7 := ownDs_good q5 x (by simp)
    have g8 : RelD (RelF w (fgn w0 N0 M)) x' v0 := toFD_rel (R := RelC w (fgn w0 N0 M) M) isF (fun x y v h1 h2 h3 => toF_id h1 h2 h3) g7 hx' r0
    exact RelD.mono (fun x u g => g.all fun b1 hb => ⟨hb, fun e => hb.2 ka _ hM (by rw [e]; rfl), fun e => hb.2 k _ g4 (by rw [e]; rfl)⟩) g8
   obtain ⟨hen, hcall⟩ := hS f [x', .t (.c (.px n 0 (boxC cs0)))] r pre (.wrs tya ty cs') hSf hp
   refine .call f _ w (run_call hen ho hc hgv) ?_
   simp only [List.append_nil]
   rw [ev]
   refine Calls.mono (hcall w (fgn w0 N0 M) _ ha.gd ⟨x', n, boxC cs0, v0, bA, cap, pc, bB, cells, rfl, rfl, hn, hm, q1, hAB, g2, hpc, g5, hcells, hx0, by
    have o1 := ha.own ka _ bA hM rfl
    have o2 := ha.own k _ bB g4 rfl
    exact gd_cut ha (by omega) (by omega)⟩) ?_
   rintro e w'' ⟨v, rfl, ⟨k1, k2, k3⟩, A, n', cap', pc', B, cells', e4, e5, e6, e7, e8, fb⟩
   simp only [List.getElem?_cons_succ, List.getElem?_cons_zero, Option.some.injEq, Value.slice.injEq, Addr.mk.injEq, and_true] at e4
   obtain ⟨rfl, _, _⟩ := e4
   rw [g2] at e5
   cases e5
   have e6 : B = bB := by
    have h1 : pc.toList[0]? = some (.pointer (some ⟨B, 0, none⟩)) := by simpa using e6
    rw [hpc] at h1
    simp [q1] at h1
    exact h1.symm
   subst e6
   have hA := ha.setRow (cs := cells') (r' := .box ty cs') hatk rfl g4 rfl (fun stp => ⟨B, cells', g4, setRow_heap _ _ _ _ _ _ g5, flatCs_rel k2 e8⟩) rfl
   have hbel : Below (w.setRow B cells').heap.size (w.setRow B cells') w'' := by
    refine ⟨fb.os, fb.tape, fb.output, by simpa using fb.size, fun i hi => ?_⟩
    by_cases e : i = B
    ·rw [e, e7, setRow_heap _ _ _ _ _ _ g5]
    ·rw [fb.block i (by simpa using hi) e, setRow_other _ _ _ _ e]
   refine ⟨v, rfl, M, hA.put hbel o.dst fun dv e => ?_⟩
   cases e
   exact flatD_rel k1 k3
 ·rename_i f l
  obtain ⟨vs, hgv, hvs⟩ := hg
  have hall : All2 (RelD (RelC w (fgn w0 N0 M) M)) (.t (.a l) :: ds) (.agg vs.toArray :: c.args.toList.map a.eval) := ⟨⟨vs, rfl, hvs⟩, hargs⟩
  split at he
  ·rename_i aas has
   have hall1 : All2 (RelD (RelF w (fun _ => True))) aas (.agg vs.toArray :: c.args.toList.map a.eval) := toFDs_rel (R := RelC w (fgn w0 N0 M) M) (R' := RelF w (fun _ => True)) (fun _ => true) (fun x y v _ h2 h3 => toF_rel ha (fun _ _ => trivial) (fun _ _ => trivial) h2 h3) (fun _ _ => good_true) has hall
   have fin : ∀ (r : DV) (pre : Option Prop) (fr : Fre) (N : Nat → Prop), e = ⟨r, [], pre⟩ → (fr = .no ∨ fr = .new) → S f aas = some (r, pre, fr) → (∀ w' v, RetOk w N w' r v fr → RelD (RelF w' (resN w N fr)) r v) → All2 (RelD (RelF w N)) aas (.agg vs.toArray :: c.args.toList.map a.eval) → (flatA r = true ∨ ∀ b, resN w N fr b → fgn w0 N0 M b) → Well P w0 N0 Z o a w (st.app o.dst e) := by
    intro r pre fr N ee hfr hSf hrt h1 h2
    subst ee
    have hX : ∃ (hen : Enters P f), Calls P f (.agg vs.toArray :: c.args.toList.map a.eval).toArray w fun e w'' => ∃ v, e = .returned v ∧ RetOk w N w'' r v fr ∧ Below w.heap.size w w'' := by
     rcases hfr with rfl | rfl
     ·obtain ⟨hen, hcall⟩ := hS f aas r pre .no hSf hp
      exact ⟨hen, hcall w N _ ha.gd h1⟩
     ·obtain ⟨hen, hcall⟩ := hS f aas r pre .new hSf hp
      exact ⟨hen, hcall w N _ ha.gd h1⟩
    obtain ⟨hen, hcall⟩ := hX
    refine .call f _ w (run_callB hen ho hc hgv) ?_
    refine Calls.mono hcall ?_
    rintro e w'' ⟨v, rfl, h3, h4⟩
    have h3 := hrt w'' v h3
    refine ⟨v, rfl, M, ha.put h4 o.dst fun dv e => ?_⟩
    cases e
    rcases h2 with h2 | h2
    ·exact flatA_rel h2 h3
    ·exact RelD.mono (fun x u g => RelC.ofF (g.all h2)) h3
   split at he
   ·rename_i r pre hSf
    cases hq : ((!ownDs (.t (.a l) :: ds)) || flatD r) with
    | false => rw [hq] at he; cases he
    | true =>
     rw [hq] at he
     cases he
     simp only [Bool.or_eq_true, Bool.not_eq_true'] at hq
     cases hown : ownDs (.t (.a l) :: ds) with
     | false =>
      refine fin r pre .no (fgn w0 N0 M) rfl (Or.inl rfl) hSf (fun _ _ h => h) (toFDs_rel (R := RelC w (fgn w0 N0 M) M) (R' := RelF w (fgn w0 N0 M)) isF (fun x y v h1 h2 h3 => toF_id h1 h2 h3) (ownDs_good hown) has hall) (Or.inr fun b hb => ?_)
      rcases hb with ⟨_, hb⟩ | hb
      ·exact hb
      ·exact fgn_new ha hb
     | true =>
      refine fin r pre .no (fun _ => True) rfl (Or.inl rfl) hSf (fun _ _ h => h) hall1 (Or.inl ?_)
      rcases hq with hq | hq
      ·rw [hown] at hq; cases hq
      ·exact flatD_A hq
   ·rename_i r pre hSf
    cases he
    refine fin r pre .new (fun _ => True) rfl (Or.inr rfl) hSf (fun _ _ h => h) hall1 (Or.inr fun b hb => ?_)
    rcases hb with ⟨hb, _⟩ | hb
    ·cases hb
    ·exact fgn_new ha hb
   ·cases he
  ·cases he
 ·cases he
theorem well_makeFunc (ha : Abs w0 N0 Z M st a w) {f : FuncId} {first caps : Array Operand} (ho : o.op = .makeFunc (.func f) first caps) (h0 : first.size = 0) {e : Eff} (he : (((opvs st caps.toList).bind cvs).map fun l => val (.t (.fn f l))) = some e) : Well P w0 N0 Z o a w (st.app o.dst e) := by
 simp only [Option.map_eq_some_iff, Option.bind_eq_some_iff] at he
 obtain ⟨l, ⟨ds, h1, h2⟩, rfl⟩ := he
 have hr := opvs_rel ha h1
 have key : ∀ {ds : List DV} {l : List CV} {vs : List Value}, cvs ds = some l → All2 (RelD (RelC w (fgn w0 N0 M) M)) ds vs → All2 (RelC w (fgn w0 N0 M) M) l vs := by
  intro ds
  induction ds with
  | nil => intro l vs h g; simp only [cvs, Option.some.injEq] at h; subst h; cases vs <;> first | trivial | exact g.elim
  | cons d ds ih =>
   intro l vs h g
   match d, h with
   | .t (.c x), h =>
    simp only [cvs, Option.map_eq_some_iff] at h
    obtain ⟨l', h1, rfl⟩ := h
    match vs, g with
    | v :: vs, g => exact ⟨g.1, ih h1 g.2⟩
    | [], g => exact g.elim
   | .t (.a _), h => simp [cvs] at h
   | .t (.fn _ _), h => simp [cvs] at h
   | .t (.fb _ _), h => simp [cvs] at h
   | .tu _, h => simp [cvs] at h
 refine Well.val ha (d := .t (.fn f l)) (v := .func (.func f) #[] (caps.toList.map a.eval).toArray) ?_ ⟨_, rfl, key h2 hr⟩
 have h3 : first = #[] := Array.eq_empty_of_size_eq_zero h0
 unfold execOp
 simp [ho, Instr.makeFunc, h3]
 apply Array.toList_inj.1
 simp
theorem well_makeBound (ha : Abs w0 N0 Z M st a w) {f : FuncId} {first caps : Array Operand} (ho : o.op = .makeFunc (.func f) first caps) (h0 : caps.size = 0) {e : Eff} (he : fbE f (opvs st first.toList) = some e) : Well P w0 N0 Z o a w (st.app o.dst e) := by
 unfold fbE at he
 split at he
 case h_2 => cases he
 rename_i l h1
 cases he
 have hr := opvs_rel ha h1
 have key : ∀ {us : List Value}, All2 (RelD (RelC w (fgn w0 N0 M) M)) [.t (.a l)] us → ∃ vs : List Value, us = [.agg vs.toArray] ∧ All2 (RelC w (fgn w0 N0 M) M) l vs := by
  intro us h
  match us, h with
  | [u], h =>
   obtain ⟨vs, e1, g⟩ := h.1
   exact ⟨vs, by rw [e1], g⟩
  | [], h => exact h.elim
  | _ :: _ :: _, h => exact h.2.elim
 obtain ⟨vs, hv, g⟩ := key hr
 refine Well.val ha (d := .t (.fb f l)) (v := .func (.func f) #[.agg vs.toArray] #[]) ?_ ⟨vs, rfl, g⟩
 have h3 : caps = #[] := Array.eq_empty_of_size_eq_zero h0
 have h4 : first.map a.eval = #[.agg vs.toArray] := by apply Array.toList_inj.1; rw [Array.toList_map, hv]
 unfold execOp
 simp [ho, Instr.makeFunc, h3, h4]
theorem run_len {c : Call} (ho : o.op = .call c) (hc : c.callee = .builtin .len) {x : Operand} {t : TypeId} (h1 : c.args.toList = [x]) (h2 : c.argTypes.toList = [t]) {v : Value} (hr : (Builtin.len_ #[t] o.type #[a.eval x]).run P w = .ok v w) :
  (execOp a.eval o).run P w = .ok (.value v) w := by
 have e1 : c.args = #[x] := Array.toList_inj.1 h1
 have e2 : c.argTypes = #[t] := Array.toList_inj.1 h2
 unfold execOp
 simp [ho, resolve, hc, e1, e2, invoke, builtin, hr]
theorem well_len (hT : TabOK P T) (ha : Abs w0 N0 Z M st a w) {c : Call} (ho : o.op = .call c) (hc : c.callee = .builtin .len) {x : Operand} {t : TypeId} (h1 : c.args.toList = [x]) (h2 : c.argTypes.toList = [t]) {e : Eff} (he : (opv st x).bind (lenE T forb st t) = some e) : Well P w0 N0 Z o a w (st.app o.dst e) := by
 simp only [Option.bind_eq_some_iff] at he
 obtain ⟨d, hd, he⟩ := he
 have hx := opv_rel ha hd
 have go : ∀ {el : TypeId} {s1 s2 : Nat} {z : List Value} {q : Bool} {ao : Option Addr} {n cap : Nat}, T t = some ⟨.sl el, s1, s2, z, q⟩ → a.eval x = .slice ao n cap → Well P w0 N0 Z o a w (st.app o.dst (val (dI n))) := by
  intro el s1 s2 z q ao n cap ht hv
  refine Well.val ha (d := dI n) (v := .int .i64 n) (run_len ho hc h1 h2 ?_) ⟨rfl, rfl⟩
  simp [hv, Builtin.len_, run_underlying ((hT t _ ht).sl rfl), goInt]
 have gown : ∀ {base : Nat} {e : TypeId} {sz : Nat} {v : Value} {n : Nat} {xs : List Value}, w.ownsRow base e sz v n xs → ∃ ao cap, v = .slice ao n cap := by
  intro base e sz v n xs h
  rcases h.2 with ⟨rfl, rfl⟩ | ⟨g, cap, cur, rfl, _⟩
  ·exact ⟨_, _, rfl⟩
  ·exact ⟨_, _, rfl⟩
 unfold lenE at he
 split at he
 ·split at he
  ·rename_i el s1 s2 z q ht
   cases he
   obtain ⟨ao, cap, hv, _⟩ := hx
   exact go ht hv
  ·cases he
 ·rename_i k
  obtain ⟨hM, _⟩ := hx
  split at he
  ·rename_i el s1 s2 z q ty sz l ht hrow
   cases he
   obtain ⟨v', xs, g1, g2, _⟩ := ha.row k _ (rd_at hrow)
   rw [hM] at g1; cases g1
   obtain ⟨ao, cap, hv⟩ := gown g2
   exact go ht hv
  ·rename_i el s1 s2 z q ty kd l ht hrow
   cases he
   obtain ⟨v', g1, g2⟩ := ha.row k _ (rd_at hrow)
   rw [hM] at g1; cases g1
   obtain ⟨ao, cap, hv⟩ := gown g2
   exact go ht hv
  ·cases he
 ·split at he
  ·rename_i el s1 s2 z q ht
   cases he
   exact go ht hx.1
  ·cases he
 ·rename_i k off sz n
  split at he
  ·rename_i el s1 s2 z q ht
   cases he
   have hx : RelC w (fgn w0 N0 M) M (.ob k off sz n) (a.eval x) := hx
   rcases hx with ⟨b, cap, hM, hv, _⟩ | ⟨b, c', o', cap, hM, _, hv, _⟩
   ·exact go ht hv
   ·exact go ht hv
  ·cases he
 ·rename_i s
  split at he
  ·rename_i s1 s2 z q ht
   cases he
   refine Well.val ha (d := dI s.size) (v := .int .i64 s.size) (run_len ho hc h1 h2 ?_) ⟨rfl, rfl⟩
   rw [show a.eval x = .string s from hx.1]
   simp [Builtin.len_, run_underlying ((hT t _ ht).str rfl), goInt]
  ·cases he
 ·cases he
theorem toValues_eq {R : CV → Value → Prop} (hR : ∀ y u, R (.v y) u → u = y) : ∀ {l : List DV} {vs us : List Value}, toValues l = some vs → All2 (RelD R) l us → us = vs
 | [], vs, [], h, _ => by simp only [toValues, Option.some.injEq] at h; exact h
 | d :: l, vs, u :: us, h, g => by
  simp only [toValues] at h
  split at h
  ·rename_i v ws h1 h2
   cases h
   rw [toValue_eq hR h1 g.1, toValues_eq hR h2 g.2]
  ·cases h
 | [], _, _ :: _, _, g => g.elim
 | _ :: _, _, [], _, g => g.elim
theorem well_bi (ha : Abs w0 N0 Z M st a w) {c : Call} (ho : o.op = .call c) {b : Builtin} (hc : c.callee = .builtin b) {f : Array Value → Sem Value} {e : Eff} (he : plainN P f (opvs st c.args.toList) = some e) (hb : ∀ consts vs, builtin b c.argTypes o.type consts vs = (do pure (.value (← f vs)) : Sem Next) := by intro _ _; rfl) : Well P w0 N0 Z o a w (st.app o.dst e) := by
 unfold plainN at he
 cases hx : opvs st c.args.toList with
 | none => rw [hx] at he; simp at he
 | some ds =>
  rw [hx] at he
  simp only [Option.bind_some] at he
  split at he
  ·rename_i vs hvs
   simp only [Option.map_eq_some_iff, Option.bind_eq_some_iff] at he
   obtain ⟨d, ⟨r, h1, h2⟩, rfl⟩ := he
   have e1 := toValues_eq relC_v' hvs (opvs_rel ha hx)
   have e2 : c.args.map a.eval = vs.toArray := by apply Array.toList_inj.1; rw [Array.toList_map, e1]
   refine Well.val ha (v := r) ?_ (ofValue_rel relC_v h2)
   unfold execOp
   simp only [ho, resolve, hc, invoke, Sem.run_bind, Sem.run_pure, Result.andThen_ok, e2, hb, pureRun_run _ h1]
  ·cases he
theorem exec0_sound (hT : TabOK P T) (hS : Valid P S) (ha : Abs w0 N0 Z M st a w) {e : Eff} (he : exec0 P T S forb st o = some e) (hp : e.pre) : Well P w0 N0 Z o a w (st.app o.dst e) := by
 unfold exec0 at he
 split at he
 ·rename_i x ho; exact well_move ha (Or.inl ho) he
 ·rename_i x ho; exact well_move ha (Or.inr ho) he
 ·rename_i c x y ho
  split at he
  ·rename_i t hc; exact well_pick ha ho hc he hp
  ·cases he
 ·rename_i t ho
  split at he
  ·rename_i i hi
   cases h1 : oneAll i.zero with
   | false => rw [h1] at he; cases he
   | true => rw [h1] at he; exact well_alloc0 hT ha ho hi h1 he
  ·cases he
 ·rename_i t x ho; exact well_box hT ha ho he
 ·rename_i t parts ho; exact well_build hT ha ho he
 ·rename_i t n parts ho; exact well_buildSlice hT ha ho he
 ·rename_i t x ho; exact well_load hT ha ho he hp
 ·rename_i t x y ho
  split at he
  ·rename_i dx dy h1 h2; exact well_store hT ha ho h1 h2 he hp
  ·cases he
 ·rename_i x ho; exact well_nil ha ho he
 ·rename_i op xt x y yt ho
  cases hd : isDiv op with
  | true => rw [hd] at he; exact well_div ha ho he hp
  | false =>
   rw [hd] at he
   simp only [cond_false] at he
   cases hd2 : isShift op with
   | true => rw [hd2] at he; exact well_shift ha ho he hp
   | false =>
   rw [hd2] at he
   simp only [cond_false] at he
   split at he
   ·rename_i e' heq
    cases he
    exact eqE_sound hT ha ho heq
   split at he
   ·rename_i e' heq
    cases he
    exact strE_sound ha ho heq hp
   ·refine plain2_sound ha he fun w => ?_
    unfold execOp
    simp only [ho]
 ·rename_i op t x ho
  refine plain1_sound ha he fun w => ?_
  unfold execOp
  simp only [ho]
 ·rename_i src dst x ho
  refine plain1_sound ha he fun w => ?_
  unfold execOp
  simp only [ho]
 ·rename_i f first caps ho
  cases hq : Nat.beq first.size 0 with
  | false =>
   rw [hq] at he
   simp only [_root_.cond_false] at he
   cases hc : Nat.beq caps.size 0 with
   | false => rw [hc] at he; cases he
   | true => rw [hc] at he; exact well_makeBound ha ho (Nat.eq_of_beq_eq_true hc) he
  | true => rw [hq] at he; exact well_makeFunc ha ho (Nat.eq_of_beq_eq_true hq) he
 ·rename_i s x f ho; exact well_fieldAddr hT ha ho he
 ·rename_i s x f ho; exact well_field hT ha ho he
 ·rename_i t x y ho
  split at he
  ·rename_i dx dy h1 h2; exact well_indexAddr hT ha ho h1 h2 he hp
  ·cases he
 ·rename_i x i ho; exact well_extract ha ho he
 ·rename_i t x ho; exact well_arrPtr hT ha ho he hp
 ·rename_i t x y ho
  split at he
  ·rename_i dx dy h1 h2; exact well_index hT ha ho h1 h2 he hp
  ·cases he
 ·rename_i t x y ho
  split at he
  ·rename_i dx dy h1 h2; exact well_make hT ha ho h1 h2 he hp
  ·cases he
 ·rename_i t x lo hi mx ho
  simp only [Option.bind_eq_some_iff] at he
  obtain ⟨d, hd, he⟩ := he
  exact well_slice hT ha ho hd he hp
 ·rename_i c ho
  split at he
  ·rename_i hc
   split at he
   ·rename_i x t h1 h2; exact well_len hT ha ho hc h1 h2 he
   ·cases he
  ·rename_i hc
   split at he
   ·rename_i x y t t' h1 h2
    split at he
    ·rename_i dx dy hx hy
     cases hq : Nat.beq t t' with
     | false => rw [hq] at he; cases he
     | true =>
      rw [hq] at he
      obtain rfl := Nat.eq_of_beq_eq_true hq
      exact well_append hT ha ho hc h1 h2 hx hy he hp
    ·cases he
   ·cases he
  ·rename_i hc; exact well_bi ha ho hc he
  ·rename_i hc; exact well_bi ha ho hc he
  ·rename_i f hc
   split at he
   ·rename_i dg ds h1 h2; exact well_call hS ha ho hc h1 h2 he hp
   ·cases he
  ·cases he
 ·cases he
theorem exec_inv {e : Eff} (he : exec P T S forb st o = some e) : exec0 P T S forb st o = some e ∧ okUp forb o e.up = true := by
 unfold exec at he
 split at he
 ·rename_i e' h
  cases hq : okUp forb o e'.up with
  | false => rw [hq] at he; cases he
  | true => rw [hq] at he; cases he; exact ⟨h, hq⟩
 ·cases he
theorem exec_sound (hT : TabOK P T) (hS : Valid P S) (ha : Abs w0 N0 Z M st a w) {e : Eff} (he : exec P T S forb st o = some e) (hp : e.pre) : Well P w0 N0 Z o a w (st.app o.dst e) :=
 exec0_sound hT hS ha (exec_inv he).1 hp
end Go.Proofs.Ytfadkjcfjkmalaa.Ev
set_option linter.unusedVariables false
set_option linter.unusedSimpArgs false
namespace Go.Proofs.Ytfadkjcfjkmalaa.Ev
open Go.RowKit
variable {w0 : World} {N0 : Nat → Prop} {Z : Pins} {P : Program} {T : Tab} {S : Sum} {M : Map} {a : Act} {w : World}
def wantE (ops : List Oper) (st : DS) (o : Oper) : Option Bool :=
 match o.guard with
 | none => some true
 | some (j, want) => match (ops[j]?).bind (·.dst) with
  | none => some false
  | some g => match st.tm g with
   | some (.t (.c (.v (.bool b)))) => some (b == want)
   | some (.tu []) => some false
   | _ => none
def runE (P : Program) (T : Tab) (S : Sum) (forb : Nat → Bool) (o : Oper) (st : DS) (k : DS → Prop) : Prop :=
 match exec P T S forb st o with
 | some e => match e.pr with
  | none => k (st.app o.dst e)
  | some p => p ∧ k (st.app o.dst e)
 | none => False
def forceL {α : Type} {β : Sort 1} : List α → (List α → β) → β
 | [], k => k []
 | a :: l, k => forceL l fun l' => k (a :: l')
theorem forceL_eq {α : Type} {β : Sort 1} : ∀ (l : List α) (k : List α → β), forceL l k = k l
 | [], k => rfl
 | a :: l, k => forceL_eq l fun l' => k (a :: l')
def forceS {β : Sort 1} (st : DS) (k : DS → β) : β := forceL st.t fun t => forceL st.h fun h => k ⟨t, h⟩
theorem forceS_eq {β : Sort 1} (st : DS) (k : DS → β) : forceS st k = k st := by
 unfold forceS
 rw [forceL_eq, forceL_eq]
def forceT {β : Sort 1} (st : DS) (k : DS → β) : β := forceL st.t fun t => k ⟨t, st.h⟩
theorem forceT_eq {β : Sort 1} (st : DS) (k : DS → β) : forceT st k = k st := by
 unfold forceT
 rw [forceL_eq]
def evOp0 (P : Program) (T : Tab) (S : Sum) (ops : List Oper) (forb : Nat → Bool) (o : Oper) (st : DS) (k : DS → Prop) : Prop :=
 match o.guard with
 | none => runE P T S forb o st k
 | some (j, want) => match (ops[j]?).bind (·.dst) with
  | none => k (st.putO o.dst (some noV))
  | some g => match st.tm g with
   | some (.t (.c (.v (.bool b)))) => cond b
     (cond want (runE P T S forb o (st.putO (some g) (some (dB true))) k) (k ((st.putO (some g) (some (dB true))).putO o.dst (some noV))))
     (cond want (k ((st.putO (some g) (some (dB false))).putO o.dst (some noV))) (runE P T S forb o (st.putO (some g) (some (dB false))) k))
   | some (.tu []) => k (st.putO o.dst (some noV))
   | _ => False
def evOp (P : Program) (T : Tab) (S : Sum) (ops : List Oper) (forb : Nat → Bool) (o : Oper) (st : DS) (k : DS → Prop) : Prop := evOp0 P T S ops forb o st fun s => forceT s k
def step (P : Program) (T : Tab) (S : Sum) (ops : List Oper) (forb : Nat → Bool) (o : Oper) (st : DS) : Option (Prop × DS) :=
 match wantE ops st o with
 | some true => (exec P T S forb st o).map fun e => (e.pre, st.app o.dst e)
 | some false => some (True, st.putO o.dst (some noV))
 | none => none
theorem put_same {st : DS} {i : Nat} {x : DV} (hx : st.tm i = some x) : st.putO (some i) (some x) = st := by
 unfold DS.putO
 simp only
 congr 1
 apply List.ext_getElem?
 intro j
 rw [List.getElem?_set]
 unfold DS.tm at hx
 split
 ·rename_i e; subst e
  split
  ·rename_i h2
   cases h3 : st.t[i]? with
   | none => rw [h3] at hx; cases hx
   | some o => rw [h3] at hx; simp at hx; rw [hx]
  ·rename_i h2
   rw [List.getElem?_eq_none (by omega)]
 ·rfl
theorem runE_iff {forb : Nat → Bool} {o : Oper} {st : DS} {k : DS → Prop} : runE P T S forb o st k ↔ ∃ e, exec P T S forb st o = some e ∧ e.pre ∧ k (st.app o.dst e) := by
 unfold runE
 split
 ·rename_i e he
  have key : (match e.pr with
   | none => k (st.app o.dst e)
   | some p => p ∧ k (st.app o.dst e)) ↔ e.pre ∧ k (st.app o.dst e) := by
   unfold Eff.pre okP
   cases e.pr with
   | none => exact ⟨fun h => ⟨trivial, h⟩, fun h => h.2⟩
   | some p => exact Iff.rfl
  rw [key]
  exact ⟨fun h => ⟨e, he, h⟩, fun ⟨e', h1, h2⟩ => by rw [he] at h1; cases h1; exact h2⟩
 ·rename_i he; exact ⟨fun h => h.elim, fun ⟨e', h1, h2⟩ => by rw [he] at h1; cases h1⟩
theorem evOp_iff {ops : List Oper} {forb : Nat → Bool} {o : Oper} {st : DS} {k : DS → Prop} : evOp P T S ops forb o st k ↔ ∃ p st', step P T S ops forb o st = some (p, st') ∧ p ∧ k st' := by
 have hrun : ∀ {st : DS}, wantE ops st o = some true → (runE P T S forb o st k ↔ ∃ p st', step P T S ops forb o st = some (p, st') ∧ p ∧ k st') := by
  intro st hw
  unfold step
  rw [hw, runE_iff]
  simp only [Option.map_eq_some_iff, Prod.mk.injEq]
  constructor
  ·rintro ⟨e, h1, h2, h3⟩; exact ⟨e.pre, _, ⟨e, h1, rfl, rfl⟩, h2, h3⟩
  ·rintro ⟨p, st', ⟨e, h1, rfl, rfl⟩, h2, h3⟩; exact ⟨e, h1, h2, h3⟩
 have hskip : ∀ {st : DS}, wantE ops st o = some false → (k (st.putO o.dst (some noV)) ↔ ∃ p st', step P T S ops forb o st = some (p, st') ∧ p ∧ k st') := by
  intro st hw
  unfold step
  rw [hw]
  constructor
  ·intro h; exact ⟨_, _, rfl, trivial, h⟩
  ·rintro ⟨p, st', h1, h2, h3⟩; cases h1; exact h3
 unfold evOp
 simp only [forceT_eq]
 unfold evOp0
 split
 ·rename_i hg; exact hrun (by unfold wantE; rw [hg])
 ·rename_i j want hg
  split
  ·rename_i hd; exact hskip (by unfold wantE; rw [hg]; simp only; rw [hd])
  ·rename_i g hd
   split
   ·rename_i b hb
    have hw : wantE ops st o = some (b == want) := by unfold wantE; rw [hg]; simp only; rw [hd]; simp only; rw [hb]
    cases b with
    | true =>
     simp only [cond_true]
     rw [show st.putO (some g) (some (dB true)) = st from put_same hb]
     cases want with
     | true => exact hrun (by rw [hw]; rfl)
     | false => exact hskip (by rw [hw]; rfl)
    | false =>
     simp only [cond_false]
     rw [show st.putO (some g) (some (dB false)) = st from put_same hb]
     cases want with
     | true => exact hskip (by rw [hw]; rfl)
     | false => exact hrun (by rw [hw]; rfl)
   ·rename_i hb; exact hskip (by unfold wantE; rw [hg]; simp only; rw [hd]; simp only; rw [hb])
   ·rename_i h1 h2
    refine ⟨fun h => h.elim, fun ⟨p, st', h3, _⟩ => ?_⟩
    unfold step wantE at h3
    rw [hg] at h3
    simp only at h3
    rw [hd] at h3
    simp only at h3
    cases h3
theorem exec_nd {forb : Nat → Bool} {o : Oper} {st : DS} {e : Eff} (h : exec P T S forb st o = some e) : ∀ c, o.op ≠ .defer c := by
 intro c hc
 unfold exec at h
 have h0 : exec0 P T S forb st o = none := by unfold exec0; rw [hc]
 rw [h0] at h
 simp at h
theorem step_sound {ro : Option Nat} (hT : TabOK P T) (hS : Valid P S) {ops : Array Oper} {forb : Nat → Bool} {o : Oper} {st st' : DS} {p : Prop} (ha : Abs w0 N0 Z M st a w) (h : step P T S ops.toList forb o st = some (p, st')) (hp : p) {K : Act → World → Prop} {Q : Exit → Act → World → Prop} (hK : ∀ M' a' w', Abs w0 N0 Z M' st' a' w' → K a' w') :
  if Region.wanted o (yielded ops a.tmps) then o.wpIn (fen ro) 0 P a w K Q else (∀ f, o.about P w a.eval = some f → (fen ro).fn f) ∧ K (a.put o.dst undef) w := by
 have hw : ∀ b, wantE ops.toList st o = some b → Region.wanted o (yielded ops a.tmps) = b := by
  intro b hb
  unfold wantE at hb
  unfold Region.wanted
  split at hb
  ·rename_i hg; cases hb; rw [hg]
  ·rename_i j want hg
   rw [hg]
   simp only
   unfold yielded
   simp only [Array.getElem?_toList] at hb
   split at hb
   ·rename_i hd; cases hb; rw [hd]; rfl
   ·rename_i g hd
    rw [hd]
    simp only [Option.bind_some]
    split at hb
    ·rename_i c hc
     cases hb
     obtain ⟨v, h1, h2⟩ := ha.tmp g _ hc
     rw [h1, show v = .bool c from h2.1]
     cases c <;> cases want <;> rfl
    ·rename_i hc
     cases hb
     obtain ⟨v, h1, vs, h2, h3⟩ := ha.tmp g _ hc
     rw [h1, h2]; rfl
    ·cases hb
 unfold step at h
 split at h
 ·rename_i hb
  rw [hw _ hb]
  simp only [Option.map_eq_some_iff, Prod.mk.injEq] at h
  obtain ⟨e, h1, rfl, rfl⟩ := h
  simp only [if_true]
  exact (exec_sound hT hS ha h1 hp).wp (exec_nd h1) hK
 ·rename_i hb
  rw [hw _ hb]
  cases h
  simp only [Bool.false_eq_true, if_false]
  refine ⟨fun f _ => fen_fn ro f, hK _ _ _ (ha.put (Below.refl _ _) o.dst fun dv e => ?_)⟩
  cases e
  exact ⟨[], rfl, trivial⟩
 ·cases h
@[reducible] def Item := Nat × Oper × (Nat → Bool)
def evItems (P : Program) (T : Tab) (S : Sum) (ops : List Oper) : List Item → DS → (DS → Prop) → Prop
 | [], st, k => k st
 | (_, o, f) :: l, st, k => evOp P T S ops f o st fun st' => evItems P T S ops l st' k
def noForb : Nat → Bool := fun _ => false
def evOps (P : Program) (T : Tab) (S : Sum) (ops : List Oper) : List Oper → DS → (DS → Prop) → Prop
 | [], st, k => k st
 | o :: l, st, k => evOp P T S ops noForb o st fun st' => evOps P T S ops l st' k
theorem evOps_sound {ro : Option Nat} (hT : TabOK P T) (hS : Valid P S) {ops : Array Oper} {Q : Exit → Act → World → Prop} {k : DS → Prop} (hQ : ∀ M' st' a' w', k st' → Abs w0 N0 Z M' st' a' w' → Q .normal a' w') : ∀ (l : List Oper) {M : Map} {st : DS} {a : Act} {w : World}, Abs w0 N0 Z M st a w → evOps P T S ops.toList l st k → wpListIn (fen ro) 0 P ops Q l a w
 | [], M, st, a, w, ha, h => hQ _ _ _ _ h ha
 | o :: l, M, st, a, w, ha, h => by
  simp only [evOps] at h
  rw [evOp_iff] at h
  obtain ⟨p, st', h1, h2, h3⟩ := h
  exact step_sound hT hS ha h1 h2 fun M' a' w' ha' => evOps_sound hT hS hQ l ha' h3
theorem region_text {ro : Option Nat} (hT : TabOK P T) (hS : Valid P S) {ops : Array Oper} {id : Nat} {Q : Exit → Act → World → Prop} {k : DS → Prop} (hQ : ∀ M' st' a' w', k st' → Abs w0 N0 Z M' st' a' w' → Q .normal a' w') {st : DS} (ha : Abs w0 N0 Z M st a w) (h : evOps P T S ops.toList ops.toList st k) : (Code.region id ops false).wpIn (fen ro) 0 P Q a w :=
 wpIn_region_list (evOps_sound hT hS hQ _ ha h)
end Go.Proofs.Ytfadkjcfjkmalaa.Ev
set_option linter.unusedVariables false
set_option linter.unusedSimpArgs false
namespace Go.Proofs.Ytfadkjcfjkmalaa.Ev
open Go.RowKit
variable {w0 : World} {N0 : Nat → Prop} {Z : Pins} {P : Program} {T : Tab} {S : Sum} {M : Map} {a : Act} {w : World}
def rds : Op → List Operand
 | .slice _ x lo hi mx => x :: (lo.toList ++ hi.toList ++ mx.toList)
 | .move x | .assign x | .box _ x | .load _ x | .nilCheck x | .unOp _ _ x | .convert _ _ x | .fieldAddr _ x _ | .field _ x _ | .extract x _ | .sliceToArrayPointer _ x => [x]
 | .pick a b c => [a, b, c]
 | .store _ a x | .binOp _ _ a x _ | .indexAddr _ a x | .index _ a x | .makeSlice _ a x => [a, x]
 | .build _ ps | .buildSlice _ _ ps => ps.toList.map (·.2)
 | .makeFunc _ fi cs => cs.toList ++ fi.toList
 | .call c => match c.callee with
  | .value f => f :: c.args.toList
  | _ => c.args.toList
 | _ => []
def isPu : Op → Bool
 | .move _ | .assign _ | .pick _ _ _ | .binOp _ _ _ _ _ | .unOp _ _ _ | .convert _ _ _ | .field _ _ _ | .extract _ _ | .build _ _ | .nilCheck _ | .fieldAddr _ _ _ | .makeFunc _ _ _ | .index _ _ _ => true
 | .call c => match c.callee with
  | .builtin .max | .builtin .min => true
  | _ => false
 | _ => false
theorem opvs_congr {st st' : DS} : ∀ {l : List Operand}, (∀ x ∈ l, opv st x = opv st' x) → opvs st l = opvs st' l
 | [], _ => rfl
 | x :: l, h => by
  simp only [opvs]
  rw [h x (by simp), opvs_congr fun y hy => h y (by simp [hy])]
theorem partsOf_congr {st st' : DS} : ∀ {l : List (Nat × Operand)}, (∀ x ∈ l.map (·.2), opv st x = opv st' x) → partsOf st l = partsOf st' l
 | [], _ => rfl
 | (i, x) :: l, h => by
  simp only [partsOf]
  rw [h x (by simp), partsOf_congr fun y hy => h y (by simp at hy ⊢; exact Or.inr hy)]
theorem toF_congr {st st' : DS} {forb : Nat → Bool} (hr : ∀ k, st.rd forb k = st'.rd forb k) (x : CV) : toF st forb x = toF st' forb x := by
 cases x <;> simp only [toF, hr]
theorem toFs_congr {st st' : DS} {forb : Nat → Bool} (hr : ∀ k, st.rd forb k = st'.rd forb k) : ∀ l, toFs st forb l = toFs st' forb l
 | [] => rfl
 | x :: l => by simp only [toFs, toF_congr hr, toFs_congr hr l]
theorem toFT_congr {st st' : DS} {forb : Nat → Bool} (hr : ∀ k, st.rd forb k = st'.rd forb k) (x : TV) : toFT st forb x = toFT st' forb x := by
 cases x <;> simp only [toFT, toF_congr hr, toFs_congr hr]
theorem toFTs_congr {st st' : DS} {forb : Nat → Bool} (hr : ∀ k, st.rd forb k = st'.rd forb k) : ∀ l, toFTs st forb l = toFTs st' forb l
 | [] => rfl
 | x :: l => by simp only [toFTs, toFT_congr hr, toFTs_congr hr l]
theorem toFD_congr {st st' : DS} {forb : Nat → Bool} (hr : ∀ k, st.rd forb k = st'.rd forb k) (x : DV) : toFD st forb x = toFD st' forb x := by
 cases x <;> simp only [toFD, toFT_congr hr, toFTs_congr hr]
theorem toFDs_congr {st st' : DS} {forb : Nat → Bool} (hr : ∀ k, st.rd forb k = st'.rd forb k) : ∀ l, toFDs st forb l = toFDs st' forb l
 | [] => rfl
 | x :: l => by simp only [toFDs, toFD_congr hr, toFDs_congr hr l]
theorem exec0_pu {st st' : DS} {forb : Nat → Bool} {o : Oper} (hp : isPu o.op = true) (ht : ∀ x ∈ rds o.op, opv st x = opv st' x) : exec0 P T S forb st o = exec0 P T S forb st' o := by
 unfold exec0
 cases ho : o.op <;> rw [ho] at hp ht <;> first | (simp [isPu] at hp; done) | skip
 case move x => simp only [ht x (by simp [rds])]
 case assign x => simp only [ht x (by simp [rds])]
 case pick x y z => simp only [ht x (by simp [rds]), ht y (by simp [rds]), ht z (by simp [rds])]
 case build t ps => simp only [buildE]; rw [partsOf_congr (fun x hx => ht x (by simpa [rds] using hx))]
 case nilCheck x => simp only [ht x (by simp [rds])]
 case binOp op xt x y yt => simp only [ht x (by simp [rds]), ht y (by simp [rds])]
 case unOp op t x => simp only [ht x (by simp [rds])]
 case convert s d x => simp only [ht x (by simp [rds])]
 case makeFunc f fi cs =>
  have h1 := opvs_congr (st := st) (st' := st') (l := cs.toList) (fun x hx => ht x (by simp only [rds, List.mem_append]; exact Or.inl hx))
  have h2 := opvs_congr (st := st) (st' := st') (l := fi.toList) (fun x hx => ht x (by simp only [rds, List.mem_append]; exact Or.inr hx))
  cases f <;> simp only [h1, h2]
 case fieldAddr s x f => simp only [ht x (by simp [rds])]
 case field s x f => simp only [ht x (by simp [rds])]
 case extract x i => simp only [ht x (by simp [rds])]
 case index t x y => simp only [ht x (by simp [rds]), ht y (by simp [rds])]
 case call c =>
  cases hc : c.callee with
  | value f => rw [isPu, hc] at hp; simp at hp
  | invoke r m => rw [isPu, hc] at hp; simp at hp
  | builtin b =>
   rw [isPu, hc] at hp
   rw [rds, hc] at ht
   obtain ⟨cal, ar, at_⟩ := c
   cases hc
   cases b <;> first | (simp at hp; done) | skip
   all_goals
    dsimp only at ht ⊢
    rw [opvs_congr (l := ar.toList) ht]
theorem exec0_congr {st st' : DS} {forb : Nat → Bool} {o : Oper} (ht : ∀ x ∈ rds o.op, opv st x = opv st' x) (hr : ∀ k, st.rd forb k = st'.rd forb k) (hd : isAl o.op = true ∨ isWr o.op = true → ∀ d, o.dst = some d → st.at d = st'.at d) (hl : st.h.length = st'.h.length) : exec0 P T S forb st o = exec0 P T S forb st' o := by
 cases hp : isPu o.op with
 | true => exact exec0_pu hp ht
 | false =>
  have hal : isAl o.op = true → ∀ e c, allocE T st o.dst e c = allocE T st' o.dst e c := by
   intro ha e c
   unfold allocE
   cases h : o.dst with
   | none => rfl
   | some d => simp only [hd (Or.inl ha) d h, hl]
  unfold exec0
  cases ho : o.op <;> rw [ho] at hp ht hal hd <;> first | (simp [isPu] at hp; done) | skip
  case alloc e => simp only [hal rfl]
  case box e x => simp only [hal rfl, ht x (by simp [rds])]
  case buildSlice t n ps =>
   simp only [buildSliceE]
   rw [partsOf_congr (fun x hx => ht x (by simpa [rds] using hx))]
   cases h : o.dst with
   | none => rfl
   | some d => simp only [hd (Or.inl rfl) d h, hl]
  case makeSlice t x y =>
   simp only [ht x (by simp [rds]), ht y (by simp [rds]), makeE]
   cases h : o.dst with
   | none => rfl
   | some d => simp only [hd (Or.inl rfl) d h, hl]
  case load t x =>
   simp only [ht x (by simp [rds])]
   congr 1
   funext y
   unfold loadE
   simp only [hr]
  case store t x y =>
   simp only [ht x (by simp [rds]), ht y (by simp [rds])]
   unfold storeE
   simp only [hr]
  case indexAddr t x y =>
   simp only [ht x (by simp [rds]), ht y (by simp [rds])]
   unfold indexAddrE
   simp only [hr]
  case call c =>
   cases hc : c.callee with
   | value f =>
    rw [rds, hc] at ht
    obtain ⟨cal, ar, at_⟩ := c
    cases hc
    dsimp only at ht ⊢
    rw [ht f (by simp), opvs_congr (l := ar.toList) (fun x hx => ht x (by simp at hx ⊢; exact Or.inr hx))]
    unfold callE
    cases h : o.dst with
    | none => simp only [toFDs_congr hr, toFD_congr hr, hr]
    | some d => simp only [toFDs_congr hr, toFD_congr hr, hr, hd (Or.inl rfl) d h, hl]
   | invoke r m =>
    obtain ⟨cal, ar, at_⟩ := c
    cases hc
    rfl
   | builtin b =>
    rw [rds, hc] at ht
    obtain ⟨cal, ar, at_⟩ := c
    cases hc
    cases b <;> first | rfl | skip
    case len =>
     dsimp only
     split
     ·rename_i x t he _
      rw [ht x (by simp [he])]
      congr 1
      funext y
      unfold lenE
      simp only [hr]
     ·rfl
    case append =>
     dsimp only
     split
     ·rename_i x y t t' he _
      rw [ht x (by simp [he]), ht y (by simp [he])]
      have hg : ∀ sz, gensOf forb st sz = gensOf forb st' sz := by intro sz; funext z; unfold gensOf; simp only [hr]
      have hn : ∀ kd, numsOf forb st kd = numsOf forb st' kd := by intro kd; funext z; unfold numsOf; simp only [hr]
      have hap : ∀ t s x, appendE T forb st o.dst t s x = appendE T forb st' o.dst t s x := by
       intro t s x
       unfold appendE
       cases h : o.dst with
       | none => rfl
       | some d => simp only [hd (Or.inr rfl) d h, hl, hr, hg, hn]
      simp only [hap]
     ·rfl
    case max => simp [isPu] at hp
    case min => simp [isPu] at hp
  case sliceToArrayPointer t x => simp only [ht x (by simp [rds])]
  case slice t x lo hi mx =>
   simp only [ht x (by simp [rds])]
   congr 1
   funext y
   unfold sliceE
   have hb : ∀ (n : Int) (z : Option Operand), (∀ u ∈ z.toList, opv st u = opv st' u) → boundE st n z = boundE st' n z := by
    intro n z hz
    cases z with
    | none => rfl
    | some u => simp only [boundE, hz u (by simp)]
   simp only [hr, fun n => hb n lo (fun u hu => ht u (by simp [rds] at hu ⊢; exact Or.inr (Or.inl hu))), fun n => hb n hi (fun u hu => ht u (by simp [rds] at hu ⊢; exact Or.inr (Or.inr (Or.inl hu))))]
  all_goals rfl
theorem exec_pu {st st' : DS} {forb : Nat → Bool} {o : Oper} (hp : isPu o.op = true) (ht : ∀ x ∈ rds o.op, opv st x = opv st' x) : exec P T S forb st o = exec P T S forb st' o := by
 unfold exec; rw [exec0_pu hp ht]
theorem exec_congr {st st' : DS} {forb : Nat → Bool} {o : Oper} (ht : ∀ x ∈ rds o.op, opv st x = opv st' x) (hr : ∀ k, st.rd forb k = st'.rd forb k) (hd : isAl o.op = true ∨ isWr o.op = true → ∀ d, o.dst = some d → st.at d = st'.at d) (hl : st.h.length = st'.h.length) : exec P T S forb st o = exec P T S forb st' o := by
 unfold exec; rw [exec0_congr ht hr hd hl]
def tms : List Operand → List Nat
 | [] => []
 | .tmp i :: l => i :: tms l
 | _ :: l => tms l
theorem tms_mem : ∀ {l : List Operand} {i : Nat}, .tmp i ∈ l → i ∈ tms l
 | x :: l, i, h => by
  rcases List.mem_cons.1 h with rfl | h2
  ·simp [tms]
  ·clear h
   cases x with
   | tmp j => exact List.mem_cons_of_mem _ (tms_mem h2)
   | const v => exact (tms_mem h2 : i ∈ tms l)
   | func f => exact (tms_mem h2 : i ∈ tms l)
   | _ => exact (tms_mem h2 : i ∈ tms l)
def rdT (ops : List Oper) (o : Oper) : List Nat :=
 (match o.guard with
  | none => []
  | some (j, _) => match (ops[j]?).bind (·.dst) with
   | none => []
   | some g => [g]) ++ tms (rds o.op)
def memN : Nat → List Nat → Bool
 | _, [] => false
 | i, x :: l => Nat.beq i x || memN i l
theorem memN_iff : ∀ {l : List Nat} {i : Nat}, memN i l = false → i ∉ l
 | [], i, _ => by simp
 | x :: l, i, h => by
  simp only [memN, Bool.or_eq_false_iff] at h
  intro hm
  rcases List.mem_cons.1 hm with rfl | hm
  ·rw [Nat.beq_refl] at h; cases h.1
  ·exact memN_iff h.2 hm
def dstIn (o : Oper) (l : List Nat) : Bool := match o.dst with
 | some d => memN d l
 | none => false
def dstEq (o o' : Oper) : Bool := match o.dst, o'.dst with
 | some d, some d' => Nat.beq d d'
 | _, _ => false
def forbD (o : Oper) (f : Nat → Bool) : Bool := match o.dst with
 | some d => !isAl o.op || f d
 | none => true
def wrD (o : Oper) (f : Nat → Bool) : Bool := match o.dst with
 | some d => !isWr o.op || f d
 | none => true
def disjB (fj fi : Nat → Bool) : Bool := (List.range 2000).all fun k => fi k || fj k
def indep (ops : List Oper) (oj : Oper) (fj : Nat → Bool) (oi : Oper) (fi : Nat → Bool) : Bool :=
 !dstEq oj oi && !dstIn oj (rdT ops oi) && !dstIn oi (rdT ops oj) && (isPu oi.op || isPu oj.op || (!isWr oi.op && !isWr oj.op) || (wrD oi fj && (wrD oj fi && disjB fj fi))) && forbD oj fi && forbD oi fj && (fj 2000 && fi 2000)
theorem wantE_congr {ops : List Oper} {st st' : DS} {o : Oper} (ht : ∀ i ∈ rdT ops o, st.tm i = st'.tm i) : wantE ops st o = wantE ops st' o := by
 unfold wantE
 split
 ·rfl
 ·rename_i j want hg
  split
  ·rfl
  ·rename_i g hd
   rw [ht g (by unfold rdT; rw [hg]; simp only; rw [hd]; simp)]
theorem opv_congr {ops : List Oper} {st st' : DS} {o : Oper} (ht : ∀ i ∈ rdT ops o, st.tm i = st'.tm i) : ∀ x ∈ rds o.op, opv st x = opv st' x := by
 intro x hx
 cases x with
 | tmp i => exact ht i (by unfold rdT; exact List.mem_append_right _ (tms_mem hx))
 | const v => unfold opv; split <;> first | rfl | (split <;> rfl) | simp_all
 | func f => rfl
 | _ => rfl
def DS.eff (st : DS) (d : Option Tmp) (v : DV) (up : List (Nat × Row)) : DS := ({ st with h := upd up st.h } : DS).putO d (some v)
theorem upd_len : ∀ (up : List (Nat × Row)) (h : List (Option Row)), (upd up h).length = h.length
 | [], h => rfl
 | (k, r) :: up, h => by simp [upd, upd_len up]
theorem eff_tm (st : DS) (d : Option Tmp) (v : DV) (up : List (Nat × Row)) (i : Nat) (h : d ≠ some i) : (st.eff d v up).tm i = st.tm i := by
 unfold DS.eff
 rw [tm_putO, if_neg (fun h2 => h h2.1)]; rfl
theorem eff_len (st : DS) (d : Option Tmp) (v : DV) (up : List (Nat × Row)) : (st.eff d v up).h.length = st.h.length := by
 unfold DS.eff; rw [h_putO]; exact upd_len _ _
theorem step_congr {ops : List Oper} {f : Nat → Bool} {o : Oper} {st s' : DS} {p : Prop} (h : step P T S ops f o st = some (p, s')) :
  ∃ v up, s' = st.eff o.dst v up ∧ okUp f o up = true ∧ ∀ st2, (∀ i ∈ rdT ops o, st.tm i = st2.tm i) → (isPu o.op = true ∨ ((∀ k, st.rd f k = st2.rd f k) ∧ (isAl o.op = true ∨ isWr o.op = true → ∀ d, o.dst = some d → st.at d = st2.at d) ∧ st.h.length = st2.h.length)) → step P T S ops f o st2 = some (p, st2.eff o.dst v up) := by
 unfold step at h
 split at h
 ·rename_i hw
  simp only [Option.map_eq_some_iff, Prod.mk.injEq] at h
  obtain ⟨e, h1, rfl, rfl⟩ := h
  refine ⟨e.v, e.up, rfl, (exec_inv h1).2, fun st2 ht hr => ?_⟩
  have hx : exec P T S f st2 o = some e := by
   rw [← h1]
   rcases hr with hr | ⟨hr, hd, hl⟩
   ·exact (exec_pu hr (opv_congr ht)).symm
   ·exact (exec_congr (opv_congr ht) hr hd hl).symm
  unfold step
  rw [← wantE_congr ht, hw, hx]
  rfl
 ·rename_i hw
  cases h
  refine ⟨noV, [], rfl, (by unfold okUp; cases isWr o.op <;> rfl), fun st2 ht _ => ?_⟩
  unfold step
  rw [← wantE_congr ht, hw]
  rfl
 ·cases h
theorem pu_not {o : Oper} (hp : isPu o.op = true) : isWr o.op = false ∧ isAl o.op = false := by
 cases ho : o.op <;> rw [ho] at hp <;> first | exact ⟨rfl, rfl⟩ | (simp [isPu] at hp; done) | skip
 rename_i c
 cases hc : c.callee with
 | value f => simp [isPu, hc] at hp
 | invoke r m => exact ⟨by simp [isWr, hc], by simp [isAl, hc]⟩
 | builtin b =>
  refine ⟨?_, by simp [isAl, hc]⟩
  simp only [isPu, hc] at hp
  cases b <;> first | (simp [isWr, hc]; done) | (simp at hp; done)
theorem okW_keys {f : Nat → Bool} : ∀ {up : List (Nat × Row)}, okW f up = true → ∀ k r, (k, r) ∈ up → f k = false ∧ k < 2000
 | [], _, k, r, h => by simp at h
 | (j, s) :: up, h, k, r, hm => by
  simp only [okW, Bool.and_eq_true, Bool.not_eq_true'] at h
  rcases List.mem_cons.1 hm with e | hm
  ·cases e; exact ⟨h.1.1, Nat.le_of_ble_eq_true h.1.2⟩
  ·exact okW_keys h.2 k r hm
theorem al_up {o : Oper} {f : Nat → Bool} {up : List (Nat × Row)} (hs : f 2000 = true) (hw : isWr o.op = false) (h : okUp f o up = true) : up = [] ∨ ∃ d r, o.dst = some d ∧ isAl o.op = true ∧ up = [(d, r)] := by
 unfold okUp at h
 rw [hw] at h
 simp only [cond_false] at h
 match up, h with
 | [], _ => exact Or.inl rfl
 | [(k, r)], h =>
  rw [hs] at h
  simp only [Bool.and_eq_true, Bool.not_true, Bool.false_and, Bool.or_false] at h
  obtain ⟨h1, h2⟩ := h
  split at h2
  ·rename_i d hd
   obtain rfl := Nat.eq_of_beq_eq_true h2
   exact Or.inr ⟨d, r, hd, h1, rfl⟩
  ·cases h2
theorem wr_up {o : Oper} {f : Nat → Bool} {up : List (Nat × Row)} (hw : isWr o.op = true) (h : okUp f o up = true) : ∀ k r, (k, r) ∈ up → f k = false ∧ k < 2000 := by
 unfold okUp at h
 rw [hw] at h
 exact okW_keys h
theorem pu_up {o : Oper} {f : Nat → Bool} {up : List (Nat × Row)} (hp : isPu o.op = true) (h : okUp f o up = true) : up = [] := by
 obtain ⟨h1, h2⟩ := pu_not hp
 unfold okUp at h
 rw [h1, h2] at h
 simp only [cond_false] at h
 match up, h with
 | [], _ => rfl
 | [_], h => simp at h
 | _ :: _ :: _, h => cases h
theorem upd_get : ∀ {up : List (Nat × Row)} {k : Nat}, (∀ r, (k, r) ∉ up) → ∀ h : List (Option Row), ((upd up h)[k]?).join = (h[k]?).join
 | [], k, _, h => rfl
 | (j, s) :: up, k, hk, h => by
  simp only [upd]
  rw [upd_get (fun r hm => hk r (List.mem_cons_of_mem _ hm)), getset, if_neg (fun e => hk s (by rw [← e.1]; exact List.mem_cons_self))]
theorem eff_at_not (st : DS) (d : Option Tmp) (v : DV) {up : List (Nat × Row)} {k : Nat} (hk : ∀ r, (k, r) ∉ up) : (st.eff d v up).at k = st.at k := by
 unfold DS.eff; rw [at_putO]; exact upd_get hk _
theorem upd_set : ∀ {up : List (Nat × Row)} {k : Nat} (x : Option Row), (∀ r, (k, r) ∉ up) → ∀ h : List (Option Row), upd up (h.set k x) = (upd up h).set k x
 | [], k, x, _, h => rfl
 | (j, s) :: up, k, x, hk, h => by
  simp only [upd]
  have hne : k ≠ j := fun e => hk s (by rw [e]; exact List.mem_cons_self)
  rw [List.set_comm _ _ hne, upd_set x (fun r hm => hk r (List.mem_cons_of_mem _ hm))]
theorem upd_comm : ∀ {up up' : List (Nat × Row)}, (∀ k r r', (k, r) ∈ up → (k, r') ∉ up') → ∀ h : List (Option Row), upd up (upd up' h) = upd up' (upd up h)
 | [], up', _, h => rfl
 | (j, s) :: up, up', hk, h => by
  simp only [upd]
  rw [← upd_set _ (fun r hm => hk j s r List.mem_cons_self hm), upd_comm (fun k r r' hm => hk k r r' (List.mem_cons_of_mem _ hm))]
theorem putO_comm (st : DS) {d d' : Option Tmp} (x y : Option DV) (h : ∀ i, d = some i → d' ≠ some i) : (st.putO d x).putO d' y = (st.putO d' y).putO d x := by
 cases d with
 | none => rfl
 | some i =>
  cases d' with
  | none => rfl
  | some j =>
   have hne : i ≠ j := fun e => h i rfl (by rw [e])
   simp only [DS.putO]
   rw [List.set_comm _ _ hne]
theorem eff_comm (st : DS) {d d' : Option Tmp} (v v' : DV) {up up' : List (Nat × Row)} (h : ∀ i, d = some i → d' ≠ some i) (hu : upd up (upd up' st.h) = upd up' (upd up st.h)) : (st.eff d v up).eff d' v' up' = (st.eff d' v' up').eff d v up := by
 unfold DS.eff
 have e : ∀ (s : DS) (d : Option Tmp) (x : Option DV) (h : List (Option Row)), ({ s.putO d x with h := h } : DS) = ({ s with h := h } : DS).putO d x := by
  intro s d x h; cases d <;> rfl
 rw [h_putO, h_putO, e, e]
 simp only
 rw [hu, putO_comm _ _ _ h]
theorem step_swap {ops : List Oper} {oi oj : Oper} {fi fj : Nat → Bool} {st s1 s2 : DS} {pi pj : Prop} (hind : indep ops oj fj oi fi = true) (h1 : step P T S ops fj oj st = some (pj, s1)) (h2 : step P T S ops fi oi s1 = some (pi, s2)) :
  ∃ s1', step P T S ops fi oi st = some (pi, s1') ∧ step P T S ops fj oj s1' = some (pj, s2) := by
 simp only [indep, Bool.and_eq_true, Bool.not_eq_true', Bool.or_eq_true] at hind
 obtain ⟨⟨⟨⟨⟨⟨hd, hji⟩, hij⟩, hk⟩, hfj⟩, hfi⟩, hsj, hsi⟩ := hind
 obtain ⟨vj, uj, rfl, okj, cj⟩ := step_congr h1
 obtain ⟨vi, ui, rfl, oki, ci⟩ := step_congr h2
 have hdne : ∀ i, oj.dst = some i → oi.dst ≠ some i := by
  intro i e1 e2
  unfold dstEq at hd
  rw [e1, e2] at hd
  simp only [Nat.beq_refl] at hd
  cases hd
 have tj : ∀ i ∈ rdT ops oi, oj.dst ≠ some i := by
  intro i hi e
  unfold dstIn at hji
  rw [e] at hji
  exact memN_iff hji hi
 have ti : ∀ i ∈ rdT ops oj, oi.dst ≠ some i := by
  intro i hi e
  unfold dstIn at hij
  rw [e] at hij
  exact memN_iff hij hi
 have hid : ∀ (o o' : Oper) (f f' : Nat → Bool) (up : List (Nat × Row)), f 2000 = true → okUp f o up = true → forbD o f' = true → (isPu o.op = true ∨ isWr o.op = false ∨ ∀ k, k < 2000 → f k = false → f' k = true) → ∀ k r, (k, r) ∈ up → f' k = true := by
  intro o o' f f' up hs ok hf hor k r hm
  cases hw : isWr o.op with
  | false =>
   rcases al_up hs hw ok with rfl | ⟨d, r', e1, e2, rfl⟩
   ·simp at hm
   ·have e : k = d ∧ r = r' := by simpa using hm
    obtain ⟨rfl, rfl⟩ := e
    unfold forbD at hf
    rw [e1] at hf
    simpa [e2] using hf
  | true =>
   rcases hor with h | h | h
   ·rw [pu_up h ok] at hm; simp at hm
   ·rw [hw] at h; cases h
   ·obtain ⟨g1, g2⟩ := wr_up hw ok k r hm
    exact h k g2 g1
 have rdsame : ∀ (d : Option Tmp) (f' : Nat → Bool) (v : DV) (up : List (Nat × Row)) (s : DS), (∀ k r, (k, r) ∈ up → f' k = true) → ∀ k, (s.eff d v up).rd f' k = s.rd f' k := by
  intro d f' v up s hu k
  unfold DS.rd
  by_cases e : ∃ r, (k, r) ∈ up
  ·obtain ⟨r, hr⟩ := e; rw [hu k r hr]; rfl
  ·rw [eff_at_not _ _ _ (fun r hr => e ⟨r, hr⟩)]
 have hdj : (isPu oi.op = true ∨ isPu oj.op = true) ∨ (isWr oi.op = false ∧ isWr oj.op = false) ∨ (wrD oi fj = true ∧ wrD oj fi = true ∧ ∀ k, k < 2000 → fi k = true ∨ fj k = true) := by
  rcases hk with ((h | h) | h) | ⟨h1, h2, h3⟩
  ·exact Or.inl (Or.inl h)
  ·exact Or.inl (Or.inr h)
  ·exact Or.inr (Or.inl h)
  ·refine Or.inr (Or.inr ⟨h1, h2, fun k hlt => ?_⟩)
   have := List.all_eq_true.1 h3 k (by simpa using hlt)
   simpa using this
 have hone : ∀ k r r', (k, r) ∈ uj → (k, r') ∉ ui := by
  intro k r r' hm hm'
  rcases hdj with (h | h) | ⟨wi1, wj1⟩ | ⟨_, _, h3⟩
  ·rw [pu_up h oki] at hm'; simp at hm'
  ·rw [pu_up h okj] at hm; simp at hm
  ·rcases al_up hsi wi1 oki with rfl | ⟨d, r1, e1, e2, rfl⟩
   ·simp at hm'
   ·rcases al_up hsj wj1 okj with rfl | ⟨d', r1', e1', e2', rfl⟩
    ·simp at hm
    ·have q1 : k = d := by simp at hm'; exact hm'.1
     have q2 : k = d' := by simp at hm; exact hm.1
     exact hdne d' e1' (by rw [← q2, q1]; exact e1)
  ·cases wj : isWr oj.op with
   | true =>
    obtain ⟨g1, g2⟩ := wr_up wj okj k r hm
    cases wi : isWr oi.op with
    | true =>
     obtain ⟨g3, _⟩ := wr_up wi oki k r' hm'
     rcases h3 k g2 with h | h
     ·rw [g3] at h; cases h
     ·rw [g1] at h; cases h
    | false =>
     have := hid oi oj fi fj ui hsi oki hfi (Or.inr (Or.inl wi)) k r' hm'
     rw [g1] at this; cases this
   | false =>
    have q := hid oj oi fj fi uj hsj okj hfj (Or.inr (Or.inl wj)) k r hm
    cases wi : isWr oi.op with
    | true => obtain ⟨g3, _⟩ := wr_up wi oki k r' hm'; rw [g3] at q; cases q
    | false =>
     rcases al_up hsi wi oki with rfl | ⟨d, r1, e1, e2, rfl⟩
     ·simp at hm'
     ·rcases al_up hsj wj okj with rfl | ⟨d', r1', e1', e2', rfl⟩
      ·simp at hm
      ·have q1 : k = d := by simp at hm'; exact hm'.1
       have q2 : k = d' := by simp at hm; exact hm.1
       exact hdne d' e1' (by rw [← q2, q1]; exact e1)
 have hnew : ∀ (o o' : Oper) (f f' : Nat → Bool) (up' : List (Nat × Row)), f' 2000 = true → okUp f' o' up' = true → forbD o f' = true → (isPu o.op = true ∨ isPu o'.op = true) ∨ (isWr o.op = false ∧ isWr o'.op = false) ∨ wrD o f' = true → (∀ i, o'.dst = some i → o.dst ≠ some i) → isPu o.op = true ∨ (isAl o.op = true ∨ isWr o.op = true → ∀ d, o.dst = some d → ∀ r, (d, r) ∉ up') := by
  intro o o' f f' up' hs ok hf hc hne
  cases hp : isPu o.op with
  | true => exact Or.inl rfl
  | false =>
  refine Or.inr fun hor d e r hm => ?_
  cases hw' : isWr o'.op with
  | false =>
   rcases al_up hs hw' ok with rfl | ⟨d', r1, e1, e2, rfl⟩
   ·simp at hm
   ·have q : d = d' := by simp at hm; exact hm.1
    exact hne d' e1 (by rw [← q]; exact e)
  | true =>
   have g1 := (wr_up hw' ok d r hm).1
   rcases hor with h | h
   ·unfold forbD at hf
    rw [e] at hf
    simp [h, g1] at hf
   ·rcases hc with (hc | hc) | hc | hc
    ·rw [hp] at hc; cases hc
    ·rw [(pu_not hc).1] at hw'; cases hw'
    ·rw [hc.1] at h; cases h
    ·unfold wrD at hc
     rw [e] at hc
     simp [h, g1] at hc
 have a1 := ci st (fun i hi => eff_tm _ _ _ _ _ (tj i hi)) (by
  rcases hnew oi oj fi fj uj hsj okj hfi (by rcases hdj with h | h | h; exact Or.inl h; exact Or.inr (Or.inl h); exact Or.inr (Or.inr h.1)) hdne with h | h
  ·exact Or.inl h
  ·by_cases hp : isPu oi.op = true
   ·exact Or.inl hp
   refine Or.inr ⟨rdsame _ _ _ _ _ (hid oj oi fj fi uj hsj okj hfj ?_), fun ho d e => eff_at_not _ _ _ (h ho d e), eff_len _ _ _ _⟩
   rcases hdj with (q | q) | ⟨q1, q2⟩ | ⟨_, _, q⟩
   ·exact (hp q).elim
   ·exact Or.inl q
   ·exact Or.inr (Or.inl q2)
   ·exact Or.inr (Or.inr fun k hlt hf => by rcases q k hlt with h | h; exact h; rw [hf] at h; cases h))
 have a2 := cj (st.eff oi.dst vi ui) (fun i hi => (eff_tm _ _ _ _ _ (ti i hi)).symm) (by
  rcases hnew oj oi fj fi ui hsi oki hfj (by rcases hdj with h | h | h; exact Or.inl h.symm; exact Or.inr (Or.inl h.symm); exact Or.inr (Or.inr h.2.1)) (fun i e1 e2 => hdne i e2 e1) with h | h
  ·exact Or.inl h
  ·by_cases hp : isPu oj.op = true
   ·exact Or.inl hp
   refine Or.inr ⟨fun k => (rdsame _ _ _ _ _ (hid oi oj fi fj ui hsi oki hfi ?_) k).symm, fun ho d e => (eff_at_not _ _ _ (h ho d e)).symm, (eff_len _ _ _ _).symm⟩
   rcases hdj with (q | q) | ⟨q1, q2⟩ | ⟨_, _, q⟩
   ·exact Or.inl q
   ·exact (hp q).elim
   ·exact Or.inr (Or.inl q1)
   ·exact Or.inr (Or.inr fun k hlt hf => by rcases q k hlt with h | h; rw [hf] at h; cases h; exact h))
 refine ⟨_, a1, ?_⟩
 rw [a2]
 congr 2
 exact eff_comm st vi vj (fun i e1 e2 => hdne i e2 e1) ((upd_comm hone st.h).symm)
end Go.Proofs.Ytfadkjcfjkmalaa.Ev
set_option linter.unusedVariables false
set_option linter.unusedSimpArgs false
namespace Go.Proofs.Ytfadkjcfjkmalaa.Ev
open Go.RowKit
variable {w0 : World} {N0 : Nat → Prop} {Z : Pins} {P : Program} {T : Tab} {S : Sum} {M : Map} {a : Act} {w : World}
def depsOf (o : Oper) : List Nat := (o.after.toList.filter fun e => Region.binds .any e).map (·.on)
@[reducible] def Clo := List (List Nat)
def inClo (clo : Clo) (j i : Nat) : Bool := match clo[i]? with
 | some l => memN j l
 | none => false
def cloB (ops : List Oper) (clo : Clo) : Bool := (List.range ops.length).all fun i => match ops[i]?, clo[i]? with
 | some o, some l => l.all fun j => memN j (depsOf o) || (depsOf o).any fun d => inClo clo j d
 | _, _ => false
def fb (l : List Nat) : Nat → Bool := fun k => match l with
 | x :: l' => Nat.beq k 2000 || (bif Nat.beq x 9999 then !memN k l' else memN k l)
 | [] => Nat.beq k 2000
def pairB (ops : List Oper) (clo : Clo) (forbs : List (Nat → Bool)) (j i : Nat) : Bool :=
 match ops[j]?, ops[i]?, forbs[j]?, forbs[i]? with
 | some oj, some oi, some fj, some fi => inClo clo j i || indep ops oj fj oi fi
 | _, _, _, _ => false
def items : Nat → List Oper → List (Nat → Bool) → List Item
 | _, [], _ => []
 | _, _, [] => []
 | k, o :: l, f :: fs => (k, o, f) :: items (k + 1) l fs
def depsB (ops : List Oper) : Bool := (List.range ops.length).all fun i => match ops[i]? with
 | some o => (depsOf o).all fun d => Nat.blt d i
 | none => false
def pairsB (ops : List Oper) (clo : Clo) (forbs : List (Nat → Bool)) : Bool :=
 (List.range ops.length).all fun i => (List.range i).all fun j => pairB ops clo forbs j i
def regionB (ops : List Oper) (clo : Clo) (forbs : List (Nat → Bool)) : Bool := depsB ops && pairsB ops clo forbs && cloB ops clo && Nat.beq forbs.length ops.length
theorem evItems_mono {ops : List Oper} {k k' : DS → Prop} (h : ∀ s, k s → k' s) : ∀ (l : List Item) {st : DS}, evItems P T S ops l st k → evItems P T S ops l st k'
 | [], st, g => h _ g
 | (_, o, f) :: l, st, g => by
  simp only [evItems] at g ⊢
  rw [evOp_iff] at g ⊢
  obtain ⟨p, s, h1, h2, h3⟩ := g
  exact ⟨p, s, h1, h2, evItems_mono h l h3⟩
theorem evItems_append {ops : List Oper} {k : DS → Prop} : ∀ (l l' : List Item) {st : DS}, evItems P T S ops (l ++ l') st k ↔ evItems P T S ops l st fun s => evItems P T S ops l' s k
 | [], l', st => Iff.rfl
 | (_, o, f) :: l, l', st => by
  simp only [List.cons_append, evItems, evOp_iff, evItems_append l l']
theorem evItems_front {ops : List Oper} {k : DS → Prop} {oi : Oper} {fi : Nat → Bool} : ∀ (l : List Item) {st : DS}, (∀ x ∈ l, indep ops x.2.1 x.2.2 oi fi = true) → (evItems P T S ops l st fun s => evOp P T S ops fi oi s k) → evOp P T S ops fi oi st fun s => evItems P T S ops l s k
 | [], st, _, h => h
 | (j, oj, fj) :: l, st, hi, h => by
  simp only [evItems] at h ⊢
  rw [evOp_iff] at h
  obtain ⟨p, s, h1, h2, h3⟩ := h
  have h4 := evItems_front l (fun x hx => hi x (by simp [hx])) h3
  rw [evOp_iff] at h4
  obtain ⟨p', s', g1, g2, g3⟩ := h4
  obtain ⟨s1, q1, q2⟩ := step_swap (hi (j, oj, fj) (by simp)) h1 g1
  rw [evOp_iff]
  exact ⟨p', s1, q1, g2, by rw [evOp_iff]; exact ⟨p, s', q2, h2, g3⟩⟩
theorem memN_mem : ∀ {l : List Nat} {i : Nat}, memN i l = true → i ∈ l
 | [], i, h => by simp [memN] at h
 | x :: l, i, h => by
  simp only [memN, Bool.or_eq_true] at h
  rcases h with h | h
  ·rw [Nat.eq_of_beq_eq_true h]; simp
  ·exact List.mem_cons_of_mem _ (memN_mem h)
theorem clo_listed {ops : Array Oper} {listed : Array Bool} {clo : Clo} (hB : cloB ops.toList clo = true) (hdep : ∀ (i : Nat) (o : Oper), ops[i]? = some o → ∀ d ∈ depsOf o, d < i) (hcl : ∀ (i : Nat), listed[i]? = some true → ∀ (o : Oper), ops[i]? = some o → ∀ d ∈ depsOf o, listed.getD d false = true) :
  ∀ (i j : Nat) (o : Oper), ops[i]? = some o → inClo clo j i = true → (∀ d ∈ depsOf o, listed.getD d false = true) → listed.getD j false = true := by
 intro i
 induction i using Nat.strongRecOn with
 | _ i ih =>
  intro j o ho h hi
  have h1 := List.all_eq_true.1 hB i (by simp; exact (Array.getElem?_eq_some_iff.1 ho).1)
  unfold inClo at h
  simp only [Array.getElem?_toList, ho] at h1
  split at h
  ·rename_i l hl
   rw [hl] at h1
   have h2 := List.all_eq_true.1 h1 j (memN_mem h)
   simp only [Bool.or_eq_true] at h2
   rcases h2 with h2 | h2
   ·exact hi j (memN_mem h2)
   ·rw [List.any_eq_true] at h2
    obtain ⟨d, hd, h3⟩ := h2
    have hlt := hdep i o ho d hd
    have hds : d < ops.size := by have := (Array.getElem?_eq_some_iff.1 ho).1; omega
    refine ih d hlt j ops[d] (Array.getElem?_eq_getElem hds) h3 fun d' hd' => hcl d ?_ _ (Array.getElem?_eq_getElem hds) d' hd'
    have hl := hi d hd
    simp only [Array.getD_eq_getD_getElem?] at hl
    cases e : listed[d]? with
    | none => rw [e] at hl; cases hl
    | some b => rw [e] at hl; simp at hl; rw [hl]
  ·cases h
theorem ready_deps {ops : Array Oper} {listed : Array Bool} {i : Nat} (h : i ∈ Region.ready .any ops listed) : i < ops.size ∧ listed.getD i true = false ∧ ∀ o, ops[i]? = some o → ∀ d ∈ depsOf o, listed.getD d false = true := by
 unfold Region.ready at h
 simp only [List.mem_filter, List.mem_range, Bool.and_eq_true, Bool.not_eq_true'] at h
 obtain ⟨h1, h2, h3⟩ := h
 refine ⟨h1, h2, fun o ho d hd => ?_⟩
 rw [ho] at h3
 simp only [Option.map_some, Option.getD_some] at h3
 unfold depsOf at hd
 simp only [List.mem_map, List.mem_filter] at hd
 obtain ⟨e, ⟨he, hb⟩, rfl⟩ := hd
 have := Array.all_eq_true_iff_forall_mem.1 h3 e (Array.mem_toList_iff.1 he)
 simp only [hb, Bool.not_true, Bool.false_or] at this
 exact this
theorem ready_of {ops : Array Oper} {listed : Array Bool} {i : Nat} {o : Oper} (ho : ops[i]? = some o) (h2 : listed.getD i true = false) (h3 : ∀ d ∈ depsOf o, listed.getD d false = true) : i ∈ Region.ready .any ops listed := by
 unfold Region.ready
 simp only [List.mem_filter, List.mem_range, Bool.and_eq_true, Bool.not_eq_true']
 refine ⟨(Array.getElem?_eq_some_iff.1 ho).1, h2, ?_⟩
 rw [ho]
 simp only [Option.map_some, Option.getD_some]
 rw [Array.all_eq_true_iff_forall_mem]
 intro e he
 cases hb : Region.binds .any e with
 | false => rfl
 | true =>
  simp only [Bool.not_true, Bool.false_or]
  exact h3 e.on (by unfold depsOf; exact List.mem_map_of_mem (List.mem_filter.2 ⟨Array.mem_toList_iff.2 he, hb⟩))
structure Left (ops : Array Oper) (forbs : List (Nat → Bool)) (l : List Item) (listed : Array Bool) : Prop where
 size : listed.size = ops.size
 mem : ∀ (i : Nat), listed[i]? = some false ↔ ∃ x ∈ l, x.1 = i
 item : ∀ x ∈ l, ops[x.1]? = some x.2.1 ∧ forbs[x.1]? = some x.2.2
 asc : l.Pairwise fun x y => x.1 < y.1
 closed : ∀ (i : Nat), listed[i]? = some true → ∀ (o : Oper), ops[i]? = some o → ∀ d ∈ depsOf o, listed.getD d false = true
theorem any_sound {ro : Option Nat} (hT : TabOK P T) (hS : Valid P S) {ops : Array Oper} {clo : Clo} {forbs : List (Nat → Bool)} (hB : regionB ops.toList clo forbs = true) {Q : Exit → Act → World → Prop} {k : DS → Prop} (hQ : ∀ M' st' a' w', k st' → Abs w0 N0 Z M' st' a' w' → Q .normal a' w') :
  ∀ (fuel : Nat) {l : List Item} {listed : Array Bool} {M : Map} {st : DS} {a : Act} {w : World}, l.length = fuel → Left ops forbs l listed → Abs w0 N0 Z M st a w → evItems P T S ops.toList l st k → wpAnyIn (fen ro) 0 P .any ops Q fuel listed a w := by
 simp only [regionB, Bool.and_eq_true] at hB
 obtain ⟨⟨⟨hdeps, hpairs⟩, hclo⟩, hlen⟩ := hB
 have hdep : ∀ (i : Nat) (o : Oper), ops[i]? = some o → ∀ d ∈ depsOf o, d < i := by
  intro i o ho d hd
  have h1 := List.all_eq_true.1 hdeps i (by simp; exact (Array.getElem?_eq_some_iff.1 ho).1)
  simp only [Array.getElem?_toList, ho] at h1
  exact Nat.le_of_ble_eq_true (List.all_eq_true.1 h1 d hd)
 have hpair : ∀ i j, i < ops.size → j < i → pairB ops.toList clo forbs j i = true := by
  intro i j hi hj
  exact List.all_eq_true.1 (List.all_eq_true.1 hpairs i (by simpa using hi)) j (by simpa using hj)
 intro fuel
 induction fuel with
 | zero =>
  intro l listed M st a w hl hL ha h
  obtain rfl := List.eq_nil_of_length_eq_zero hl
  refine ⟨?_, hQ _ _ _ _ h ha⟩
  rw [List.eq_nil_iff_forall_not_mem]
  intro i hi
  obtain ⟨h1, h2, _⟩ := ready_deps hi
  have h3 : listed[i]? = some false := by
   have : i < listed.size := by rw [hL.size]; exact h1
   simp only [Array.getD_eq_getD_getElem?, Array.getElem?_eq_getElem this] at h2
   rw [Array.getElem?_eq_getElem this]; simpa using h2
  obtain ⟨x, hx, _⟩ := (hL.mem i).1 h3
  simp at hx
 | succ fuel ih =>
  intro l listed M st a w hl hL ha h
  constructor
  ·intro hnil
   match l, hl with
   | x :: l', hl =>
    exfalso
    have hx := hL.item x (by simp)
    have : x.1 ∈ Region.ready .any ops listed := by
     have hxf : listed[x.1]? = some false := (hL.mem x.1).2 ⟨x, by simp, rfl⟩
     refine ready_of hx.1 (by simp [Array.getD_eq_getD_getElem?, hxf]) fun d hd => ?_
     have hlt := hdep _ _ hx.1 d hd
     have hds : d < listed.size := by rw [hL.size]; have := (Array.getElem?_eq_some_iff.1 hx.1).1; omega
     cases e : listed[d] with
     | true => simp [Array.getD_eq_getD_getElem?, Array.getElem?_eq_getElem hds, e]
     | false =>
      exfalso
      obtain ⟨y, hy, hy2⟩ := (hL.mem d).1 (by rw [Array.getElem?_eq_getElem hds, e])
      rcases List.mem_cons.1 hy with rfl | hy
      ·omega
      ·have := List.rel_of_pairwise_cons hL.asc hy; omega
    rw [hnil] at this; simp at this
  ·intro i hi
   obtain ⟨hin, hun, hid⟩ := ready_deps hi
   have hif : listed[i]? = some false := by
    have : i < listed.size := by rw [hL.size]; exact hin
    simp only [Array.getD_eq_getD_getElem?, Array.getElem?_eq_getElem this] at hun
    rw [Array.getElem?_eq_getElem this]; simpa using hun
   obtain ⟨x, hx, hxi⟩ := (hL.mem i).1 hif
   obtain ⟨l1, l2, rfl⟩ := List.append_of_mem hx
   obtain ⟨i', oi, fi⟩ := x
   simp only at hxi
   subst hxi
   have hit := hL.item (i', oi, fi) (by simp)
   simp only at hit
   have hasc := List.pairwise_append.1 hL.asc
   have hind : ∀ y ∈ l1, indep ops.toList y.2.1 y.2.2 oi fi = true := by
    intro y hy
    have hyi := hL.item y (by simp [hy])
    have hlt : y.1 < i' := hasc.2.2 y hy (i', oi, fi) (by simp)
    have hp := hpair i' y.1 hin hlt
    unfold pairB at hp
    simp only [Array.getElem?_toList, hyi.1, hyi.2, hit.1, hit.2, Bool.or_eq_true] at hp
    rcases hp with hp | hp
    ·exfalso
     have h1 := clo_listed hclo hdep hL.closed i' y.1 oi hit.1 hp (hid oi hit.1)
     have h2 : listed[y.1]? = some false := (hL.mem y.1).2 ⟨y, by simp [hy], rfl⟩
     simp [Array.getD_eq_getD_getElem?, h2] at h1
    ·exact hp
   rw [evItems_append] at h
   simp only [evItems] at h
   have h2 := evItems_front l1 hind h
   rw [evOp_iff] at h2
   obtain ⟨p, s, g1, g2, g3⟩ := h2
   unfold wpOpIn
   rw [hit.1]
   simp only
   have hL' : Left ops forbs (l1 ++ l2) (listed.setIfInBounds i' true) := by
    refine ⟨by simp [hL.size], fun j => ?_, fun y hy => hL.item y ?_, ?_, fun j hj o ho d hd => ?_⟩
    ·rw [Array.getElem?_setIfInBounds]
     by_cases e : i' = j
     ·subst e
      have : i' < listed.size := by rw [hL.size]; exact hin
      simp only [if_true, this]
      constructor
      ·intro h; cases h
      ·rintro ⟨y, hy, hye⟩
       rcases List.mem_append.1 hy with hy | hy
       ·have := hasc.2.2 y hy (i', oi, fi) (by simp); simp only at this; omega
       ·have := List.rel_of_pairwise_cons hasc.2.1 hy; simp only at this; omega
     ·rw [if_neg e, hL.mem j]
      constructor
      ·rintro ⟨y, hy, hye⟩
       refine ⟨y, ?_, hye⟩
       simp only [List.mem_append, List.mem_cons] at hy ⊢
       rcases hy with hy | rfl | hy
       ·exact Or.inl hy
       ·exact absurd hye e
       ·exact Or.inr hy
      ·rintro ⟨y, hy, hye⟩
       refine ⟨y, ?_, hye⟩
       simp only [List.mem_append, List.mem_cons] at hy ⊢
       rcases hy with hy | hy
       ·exact Or.inl hy
       ·exact Or.inr (Or.inr hy)
    ·simp only [List.mem_append, List.mem_cons] at hy ⊢
     rcases hy with hy | hy
     ·exact Or.inl hy
     ·exact Or.inr (Or.inr hy)
    ·refine List.pairwise_append.2 ⟨hasc.1, (List.pairwise_cons.1 hasc.2.1).2, fun x hx y hy => hasc.2.2 x hx y (by simp [hy])⟩
    ·have key : ∀ d, listed.getD d false = true → (listed.setIfInBounds i' true).getD d false = true := by
      intro d hd
      simp only [Array.getD_eq_getD_getElem?, Array.getElem?_setIfInBounds] at hd ⊢
      split
      ·split
       ·rfl
       ·rename_i h1 h2; subst h1; exact absurd (by rw [hL.size]; exact hin) h2
      ·exact hd
     by_cases e : i' = j
     ·subst e; exact key d (hid o ho d hd)
     ·rw [Array.getElem?_setIfInBounds, if_neg e] at hj
      exact key d (hL.closed j hj o ho d hd)
   exact step_sound hT hS ha g1 g2 fun M' a' w' ha' => ih (by simp at hl ⊢; omega) hL' ha' (by rw [evItems_append]; exact g3)
theorem items_get : ∀ (k : Nat) (l : List Oper) (fs : List (Nat → Bool)) (x : Item), x ∈ items k l fs → ∃ j, x.1 = k + j ∧ l[j]? = some x.2.1 ∧ fs[j]? = some x.2.2
 | k, [], fs, x, h => by simp [items] at h
 | k, o :: l, [], x, h => by simp [items] at h
 | k, o :: l, f :: fs, x, h => by
  simp only [items, List.mem_cons] at h
  rcases h with rfl | h
  ·exact ⟨0, rfl, rfl, rfl⟩
  ·obtain ⟨j, h1, h2, h3⟩ := items_get (k + 1) l fs x h
   exact ⟨j + 1, by omega, by simpa using h2, by simpa using h3⟩
theorem items_mem : ∀ (k : Nat) (l : List Oper) (fs : List (Nat → Bool)), fs.length = l.length → ∀ j, j < l.length → ∃ x ∈ items k l fs, x.1 = k + j
 | k, [], fs, _, j, h => by simp at h
 | k, o :: l, [], h, _, _ => by simp at h
 | k, o :: l, f :: fs, h, 0, _ => ⟨_, List.mem_cons_self, rfl⟩
 | k, o :: l, f :: fs, h, j + 1, hj => by
  obtain ⟨x, h1, h2⟩ := items_mem (k + 1) l fs (by simpa using h) j (by simpa using hj)
  exact ⟨x, List.mem_cons_of_mem _ h1, by omega⟩
theorem items_asc : ∀ (k : Nat) (l : List Oper) (fs : List (Nat → Bool)), (items k l fs).Pairwise fun x y => x.1 < y.1
 | k, [], fs => List.Pairwise.nil
 | k, o :: l, [] => List.Pairwise.nil
 | k, o :: l, f :: fs => by
  refine List.Pairwise.cons (fun y hy => ?_) (items_asc (k + 1) l fs)
  obtain ⟨j, h1, _⟩ := items_get (k + 1) l fs y hy
  simp only; omega
theorem items_len : ∀ (k : Nat) (l : List Oper) (fs : List (Nat → Bool)), fs.length = l.length → (items k l fs).length = l.length
 | k, [], fs, _ => rfl
 | k, o :: l, [], h => by simp at h
 | k, o :: l, f :: fs, h => by simp [items, items_len (k + 1) l fs (by simpa using h)]
theorem Abs.drew {st : DS} (ha : Abs w0 N0 Z M st a w) : Abs w0 N0 Z M st a w.drew := ha.grow ((Below.refl _ _).drew)
theorem region_any {ro : Option Nat} (hm : P.follows .mixedOrders = true) (hT : TabOK P T) (hS : Valid P S) {ops : Array Oper} {id : Nat} {clo : Clo} {forbs : List (Nat → Bool)} (hB : regionB ops.toList clo forbs = true) {Q : Exit → Act → World → Prop} {k : DS → Prop} (hQ : ∀ M' st' a' w', k st' → Abs w0 N0 Z M' st' a' w' → Q .normal a' w') {st : DS} (ha : Abs w0 N0 Z M st a w) (h : evItems P T S ops.toList (items 0 ops.toList forbs) st k) : (Code.region id ops true).wpIn (fen ro) 0 P Q a w := by
 have hB' := hB
 simp only [regionB, Bool.and_eq_true] at hB'
 have hlen := Nat.eq_of_beq_eq_true hB'.2
 refine wpIn_region_any hm ?_
 refine any_sound hT hS hB hQ ops.size (l := items 0 ops.toList forbs) (by rw [items_len _ _ _ hlen]; simp) ?_ ha.drew h
 refine ⟨by simp, fun i => ?_, fun x hx => ?_, items_asc _ _ _, fun i hi => ?_⟩
 ·rw [Array.getElem?_replicate]
  constructor
  ·intro h
   split at h
   ·rename_i hlt
    obtain ⟨x, h1, h2⟩ := items_mem 0 ops.toList forbs hlen i (by simpa using hlt)
    exact ⟨x, h1, by omega⟩
   ·cases h
  ·rintro ⟨x, hx, rfl⟩
   obtain ⟨j, h1, h2, _⟩ := items_get 0 _ _ x hx
   have : j < ops.toList.length := (List.getElem?_eq_some_iff.1 h2).1
   rw [if_pos (by simp at this; omega)]
 ·obtain ⟨j, h1, h2, h3⟩ := items_get 0 _ _ x hx
  rw [show x.1 = j by omega]
  exact ⟨by simpa using h2, h3⟩
 ·rw [Array.getElem?_replicate] at hi
  split at hi <;> cases hi
end Go.Proofs.Ytfadkjcfjkmalaa.Ev