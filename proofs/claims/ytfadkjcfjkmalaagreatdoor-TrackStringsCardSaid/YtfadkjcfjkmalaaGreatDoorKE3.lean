/- Texts of this claim, together. -/
import Derived.Test.YtfadkjcfjkmalaaGreatDoorKE2
import Derived.Maps.AppendAt
import Derived.TacticsIn
import Derived.OrdersIn

set_option linter.unusedVariables false
set_option linter.unusedSimpArgs false
namespace Go.Proofs.YtfadkjcfjkmalaaGreatDoor.Ev
open Go.RowKit
variable {w0 : World} {N0 : Nat → Prop} {Z : Pins} {P : Program} {T : Tab} {S : Sum} {forb : Nat → Bool} {M : Map} {st : DS} {a : Act} {w : World} {o : Oper}
structure Src (w : World) (N : Nat → Prop) (v : Value) (sz : Nat) (l : List (List CV)) : Prop where
 len : ∀ e ∈ l, e.length = sz
 news : ∃ ao c news, v = .slice ao l.length c ∧ news.length = l.length * sz ∧ All2 (RelF w N) l.flatten news ∧ ((ao = none ∧ l.length = 0 ∧ c = 0) ∨ ∃ ad, ao = some ad ∧ ∀ j u, news[j]? = some u → w.cell? (ad.add j) = some u)
theorem src_own {base : Nat} {e : TypeId} {sz : Nat} {v : Value} {N : Nat → Prop} {l : List (List CV)} {xs : List Value} (h : w.ownsRow base e sz v l.length xs) (hl : ∀ e ∈ l, e.length = sz) (hr : All2 (RelF w N) l.flatten xs) : Src w N v sz l := by
 refine ⟨hl, ?_⟩
 obtain ⟨h1, h2⟩ := h
 rcases h2 with ⟨rfl, h3⟩ | ⟨g, cap, cur, rfl, hb, hg, hn, hm, hs, ht⟩
 ·exact ⟨none, 0, xs, by rw [h3], h1, hr, Or.inl ⟨rfl, h3, rfl⟩⟩
 ·refine ⟨_, cap, xs, rfl, h1, hr, Or.inr ⟨_, rfl, fun j u hj => ?_⟩⟩
  rw [add_none, Nat.zero_add, cell_of_row w g j cur e (0, 0) hg]
  rw [← ht, List.getElem?_take] at hj
  split at hj
  ·simpa using hj
  ·cases hj
theorem flat_nums (kd : IntKind) {N : Nat → Prop} : ∀ (l : List Int), All2 (RelF w N) (l.map fun n => [CV.v (.int kd n)]).flatten (l.map (Value.int kd))
 | [] => trivial
 | n :: l => ⟨⟨rfl, rfl⟩, flat_nums kd l⟩
theorem flat_fwd {N : Nat → Prop} {c : Nat → Nat → CV} {sz : Nat} {f : Nat → Value} : ∀ (n k : Nat), (∀ i j, k ≤ i → i < k + n → j < sz → RelF w N (c i j) (f (i * sz + j))) → All2 (RelF w N) ((List.range' k n).map fun i => fwd (c i) 0 sz).flatten ((List.range' (k * sz) (n * sz)).map f)
 | 0, k, _ => by simp; trivial
 | n + 1, k, h => by
  rw [List.range'_succ, List.map_cons, List.flatten_cons, Nat.succ_mul, Nat.add_comm (n * sz) sz, ← List.range'_append_1, List.map_append]
  refine All2.append ?_ ?_
  ·have := all2_fwd (R := RelF w N) (c := c k) (f := fun j => f (k * sz + j)) sz 0 (fun j hj => by simpa using h k j (Nat.le_refl _) (by omega) hj)
   have e : (List.range' (k * sz) sz).map f = (List.range' 0 sz).map fun j => f (k * sz + j) := by
    apply List.ext_getElem?
    intro i
    by_cases hi : i < sz
    ·simp [hi]
    ·rw [List.getElem?_eq_none (by simpa using hi), List.getElem?_eq_none (by simpa using hi)]
   rw [e]; exact this
  ·have := flat_fwd n (k + 1) (fun i j h1 h2 h3 => h i j (by omega) (by omega) h3)
   rwa [Nat.succ_mul] at this
theorem gensOf_src (ha : Abs w0 N0 Z M st a w) {sz : Nat} {x : DV} {v : Value} {l : List (List CV)} (h : gensOf forb st sz x = some l) (hr : RelD (RelC w (fgn w0 N0 M) M) x v) : Src w (fgn w0 N0 M) v sz l := by
 unfold gensOf at h
 split at h
 ·rename_i k
  obtain ⟨hM, _⟩ := hr
  split at h
  ·rename_i ty sz' l' hrow
   cases hq : Nat.beq sz sz' with
   | false => rw [hq] at h; cases h
   | true =>
    rw [hq] at h
    cases h
    obtain rfl := Nat.eq_of_beq_eq_true hq
    obtain ⟨v', xs, g1, g2, g3, g4⟩ := ha.row k _ (rd_at hrow)
    rw [hM] at g1; cases g1
    exact src_own g2 g3 g4
  ·rename_i ty kd l' hrow
   cases hq : Nat.beq sz 1 with
   | false => rw [hq] at h; cases h
   | true =>
    rw [hq] at h
    cases h
    obtain rfl := Nat.eq_of_beq_eq_true hq
    obtain ⟨v', g1, g2⟩ := ha.row k _ (rd_at hrow)
    rw [hM] at g1; cases g1
    refine src_own (l := l'.map fun n => [.v (.int kd n)]) (by simpa using g2) ?_ (flat_nums kd l')
    intro e he
    simp only [List.mem_map] at he
    obtain ⟨n, _, rfl⟩ := he; rfl
  ·cases h
 ·rename_i sz' n c
  cases hq : Nat.beq sz sz' with
  | false => rw [hq] at h; cases h
  | true =>
   rw [hq] at h
   cases h
   obtain rfl := Nat.eq_of_beq_eq_true hq
   obtain ⟨ao, cap, rfl, h1, h2, h3, h4⟩ := hr
   refine ⟨fun e he => ?_, ?_⟩
   ·simp only [List.mem_map] at he
    obtain ⟨i, _, rfl⟩ := he
    exact fwd_len _ _ _
   ·by_cases h0 : 0 < n
    ·obtain ⟨b, off, rfl, g2, g3, g4⟩ := h4 h0
     let f : Nat → Value := fun q => (w.cell? ⟨b, off + q, none⟩).getD undef
     refine ⟨_, cap, (List.range' (0 * sz) (n * sz)).map f, by simp, by simp, ?_, Or.inr ⟨⟨b, off, none⟩, rfl, fun j u hj => ?_⟩⟩
     ·rw [List.range_eq_range']
      refine flat_fwd n 0 fun i j _ hi hj => ?_
      obtain ⟨u, q1, q2⟩ := g4 i j (by omega) hj
      have : f (i * sz + j) = u := by simp only [f, ← Nat.add_assoc, q1]; rfl
      rw [this]; exact q2
     ·by_cases hlt : j < n * sz
      ·rw [List.getElem?_map, List.getElem?_eq_getElem (by simpa using hlt), List.getElem_range'] at hj
       have hsz : 0 < sz := by
        rcases Nat.eq_zero_or_pos sz with e | e
        ·rw [e, Nat.mul_zero] at hlt; omega
        ·exact e
       obtain ⟨u', q1, q2⟩ := g4 (j / sz) (j % sz) (Nat.div_lt_of_lt_mul (by rwa [Nat.mul_comm])) (Nat.mod_lt _ hsz)
       have hjd : j / sz * sz + j % sz = j := Nat.div_add_mod' j sz
       rw [Nat.add_assoc, hjd] at q1
       simp only [Option.map_some, Option.some.injEq, Nat.zero_mul, Nat.zero_add, Nat.one_mul] at hj
       rw [add_none, q1, ← hj]
       simp only [f, q1]; rfl
      ·rw [List.getElem?_eq_none (by simpa using hlt)] at hj; cases hj
    ·obtain rfl : n = 0 := by omega
     cases ao with
     | none => exact ⟨none, cap, [], rfl, by simp, trivial, Or.inl ⟨rfl, rfl, h3 rfl⟩⟩
     | some ad => exact ⟨some ad, cap, [], rfl, by simp, trivial, Or.inr ⟨ad, rfl, fun j u hj => by simp at hj⟩⟩
 ·cases h
  rw [show v = .slice none 0 0 from hr.1]
  exact ⟨by simp, none, 0, [], rfl, by simp, trivial, Or.inl ⟨rfl, rfl, rfl⟩⟩
 ·cases h
theorem intsOf_ok {kd : IntKind} : ∀ {l : List (List CV)} {xs : List Int} {p : Prop}, intsOf kd l = some (xs, p) → p → l = xs.map fun n => [.v (.int kd n)]
 | [], xs, p, h, _ => by simp only [intsOf, Option.some.injEq, Prod.mk.injEq] at h; rw [← h.1]; rfl
 | e :: l, xs, p, h, hp => by
  unfold intsOf at h
  split at h
  ·rename_i e; cases e
  ·rename_i k n l' e
   cases e
   simp only [Option.map_eq_some_iff] at h
   obtain ⟨⟨ys, q⟩, h1, h2⟩ := h
   simp only [Prod.mk.injEq] at h2
   obtain ⟨rfl, rfl⟩ := h2
   rw [intsOf_ok h1 hp.2, hp.1]; rfl
  ·cases h
theorem numsOf_src (ha : Abs w0 N0 Z M st a w) {kd : IntKind} {x : DV} {v : Value} {l : List Int} {p : Prop} (h : numsOf forb st kd x = some (l, p)) (hp : p) (hr : RelD (RelC w (fgn w0 N0 M) M) x v) : Src w (fgn w0 N0 M) v 1 (l.map fun n => [.v (.int kd n)]) := by
 unfold numsOf at h
 split at h
 ·rename_i k
  split at h
  ·rename_i ty sz' l' hrow
   cases hq : Nat.beq 1 sz' with
   | false => rw [hq] at h; cases h
   | true =>
    rw [hq] at h
    simp only [cond_true] at h
    have h1 : gensOf forb st 1 (.t (.c (.os k))) = some l' := by
     simp only [gensOf, hrow, hq]; rfl
    rw [← intsOf_ok h hp]
    exact gensOf_src ha h1 hr
  ·rename_i ty kd' l' hrow
   simp only [Option.some.injEq, Prod.mk.injEq] at h
   obtain ⟨rfl, rfl⟩ := h
   obtain rfl : kd' = kd := hp
   have h1 : gensOf forb st 1 (.t (.c (.os k))) = some (l'.map fun n => [.v (.int kd' n)]) := by
    simp only [gensOf, hrow]; rfl
   exact gensOf_src ha h1 hr
  ·cases h
 ·rename_i sz' n c
  cases hq : Nat.beq 1 sz' with
  | false => rw [hq] at h; cases h
  | true =>
   rw [hq] at h
   simp only [cond_true, Option.some.injEq, Prod.mk.injEq] at h
   obtain ⟨rfl, rfl⟩ := h
   have h1 : gensOf forb st 1 (.t (.c (.sl sz' n c))) = some ((List.range n).map fun i => fwd (c i) 0 1) := by
    simp only [gensOf, hq]; rfl
   have h2 := gensOf_src ha h1 hr
   have e : ((List.range n).map fun i => fwd (c i) 0 1) = ((List.range n).map fun i => cvInt (c i 0)).map fun n => [.v (.int kd n)] := by
    rw [List.map_map]
    apply List.map_congr_left
    intro i hi
    simp only [fwd, Function.comp]
    rw [hp i (by simpa using hi)]
    rfl
   rw [← e]; exact h2
 ·simp only [Option.some.injEq, Prod.mk.injEq] at h
  obtain ⟨rfl, rfl⟩ := h
  exact gensOf_src (forb := forb) ha (x := .t (.c (.v (.slice none 0 0)))) rfl hr
 ·cases h
theorem Abs.grown (ha : Abs w0 N0 Z M st a w) (d : Nat) (ks : List Nat) {r : Row} {v v' : Value} {w' : World} (hd : st.at d = none) (hlt : d < st.h.length) (hal : r.alive = true)
  (hks : ks = [] ∧ v.ownBlock = none ∨ ∃ k r0, ks = [k] ∧ st.at k = some r0 ∧ r0.alive = true ∧ M k = some (.row v))
  (hbe : Below w0.heap.size w w') (hoth : ∀ k, k < w.heap.size → some k ≠ v.ownBlock → w'.heap[k]? = w.heap[k]?) (hlies : v'.ownBlock = v.ownBlock ∨ v'.ownBlock = some w.heap.size) (hlt' : ∀ b, v'.ownBlock = some b → b < w'.heap.size)
  (hrow : ∀ M' : Map, M' d = some (.row v') → Stp w0 N0 M M' w w' → RelR w' w0.heap.size (fgn w0 N0 M') M' d r) (hsh : v' = .slice none 0 0 ∨ ∃ b n cap, v' = .slice (some ⟨b, 0, none⟩) n cap) :
  ∃ M', Abs w0 N0 Z M' (({ st with h := upd (ks.map (fun k => (k, Row.dead)) ++ [(d, r)]) st.h } : DS).putO (some d) (some (.t (.c (.os d))))) (a.put (some d) v') w' := by
 let M' : Map := fun k => if k = d then some (.row v') else M k
 have hMd : M d = none := ha.dom d hd
 have hM'd : M' d = some (.row v') := by simp [M']
 have hM' : ∀ k, k ≠ d → M' k = M k := fun k h => by simp [M', h]
 have hvb : ∀ b, v.ownBlock = some b → ∃ k r0, st.at k = some r0 ∧ r0.alive = true ∧ M k = some (.row v) ∧ ks = [k] := by
  intro b hb
  rcases hks with ⟨_, h⟩ | ⟨k, r0, h1, h2, h3, h4⟩
  ·rw [h] at hb; cases hb
  ·exact ⟨k, r0, h2, h3, h4, h1⟩
 have hcell : ∀ b, nown M b → b < w.heap.size → w'.heap[b]? = w.heap[b]? := by
  intro b hf hb
  refine hoth b hb fun e => ?_
  obtain ⟨k, r0, _, _, h4, _⟩ := hvb b e.symm
  exact hf k _ h4 e.symm
 have stp : Stp w0 N0 M M' w w' := by
  refine ⟨hbe.size, hcell, fun k l' h => ?_, fun k l' b h1 h2 => ?_⟩
  ·rw [hM' k (fun e => by rw [e, hMd] at h; cases h)]; exact h
  ·by_cases e : k = d
   ·subst e
    rw [hM'd] at h1; cases h1
    have h2' : v'.ownBlock = some b := h2
    rcases hlies with h | h
    ·rw [h] at h2'
     obtain ⟨k', r0, _, _, h4, _⟩ := hvb b h2'
     exact Or.inl ⟨k', _, h4, h2'⟩
    ·rw [h] at h2'; cases h2'; exact Or.inr (Nat.le_refl _)
   ·rw [hM' k e] at h1; exact Or.inl ⟨k, l', h1, h2⟩
 have hat : ∀ k, (({ st with h := upd (ks.map (fun k => (k, Row.dead)) ++ [(d, r)]) st.h } : DS).putO (some d) (some (.t (.c (.os d))))).at k = if d = k then some r else if k ∈ ks then some .dead else st.at k := by
  intro k
  rw [at_putO]
  rcases hks with ⟨rfl, _⟩ | ⟨k0, r0, rfl, h2, h3, h4⟩
  ·simp only [List.map_nil, List.nil_append, upd, DS.at, getset]
   by_cases e : d = k
   ·rw [if_pos ⟨e, hlt⟩, if_pos e]
   ·rw [if_neg (fun h => e h.1), if_neg e]; simp
  ·have hk0 : k0 < st.h.length := by
    unfold DS.at at h2
    cases e : st.h[k0]? with
    | none => rw [e] at h2; cases h2
    | some x => exact (List.getElem?_eq_some_iff.1 e).1
   simp only [List.map_cons, List.map_nil, List.cons_append, List.nil_append, upd, DS.at, getset, List.length_set]
   by_cases e : d = k
   ·rw [if_pos ⟨e, hlt⟩, if_pos e]
   ·rw [if_neg (fun h => e h.1), if_neg e]
    by_cases e2 : k0 = k
    ·rw [if_pos ⟨e2, hk0⟩, if_pos (by simp [e2])]
    ·rw [if_neg (fun h => e2 h.1), if_neg (by simp; exact fun h => e2 h.symm)]
 refine ⟨M', ha.step stp hbe (by rw [put_size, len_putO]; exact ha.fits) (put_defs _ _ _) (fun i dv h => ?_) (fun k r' h => ?_) (fun k h => ?_) (fun k l' b h1 h2 => ?_) (fun k k' r1 r2 l1 l2 b h1 h2 h3 h4 h5 h6 h7 h8 => ?_)⟩
 ·exact tmp_putO (st := { st with h := upd (ks.map (fun k => (k, Row.dead)) ++ [(d, r)]) st.h }) ha.fits (fun dv e => by cases e; exact ⟨hM'd, hsh⟩) i dv h
 ·rw [hat] at h
  by_cases e : d = k
  ·rw [if_pos e] at h; cases h; subst e; exact Or.inr (hrow M' hM'd stp)
  ·rw [if_neg e] at h
   by_cases e2 : k ∈ ks
   ·rw [if_pos e2] at h; cases h; exact Or.inr trivial
   ·rw [if_neg e2] at h
    refine Or.inl ⟨h, fun hal' l' b h1 h2 => hoth b (ha.own k l' b h1 h2).2 fun e3 => ?_⟩
    obtain ⟨k0, r0, g1, g2, g3, g4⟩ := hvb b e3.symm
    have := ha.apart k k0 r' r0 l' _ b h hal' g1 g2 h1 g3 h2 e3.symm
    exact e2 (by rw [g4, this]; simp)
 ·rw [hat] at h
  by_cases e : d = k
  ·rw [if_pos e] at h; cases h
  ·rw [if_neg e] at h
   by_cases e2 : k ∈ ks
   ·rw [if_pos e2] at h; cases h
   ·rw [if_neg e2] at h
    rw [hM' k (fun h => e h.symm)]; exact ha.dom k h
 ·by_cases e : k = d
  ·subst e
   rw [hM'd] at h1; cases h1
   have h2' : v'.ownBlock = some b := h2
   refine ⟨?_, hlt' b h2'⟩
   rcases hlies with h | h
   ·rw [h] at h2'
    obtain ⟨k0, r0, _, _, g3, _⟩ := hvb b h2'
    exact (ha.own k0 _ b g3 h2').1
   ·rw [h] at h2'; cases h2'; exact ha.below.size
  ·rw [hM' k e] at h1
   have := ha.own k l' b h1 h2
   exact ⟨this.1, Nat.lt_of_lt_of_le this.2 hbe.size⟩
 ·rw [hat] at h1 h3
  have hne : ∀ k1 r1 l1, k1 ≠ d → (if k1 ∈ ks then some Row.dead else st.at k1) = some r1 → r1.alive = true → M' k1 = some l1 → l1.block = some b → v'.ownBlock = some b → False := by
   intro k1 r1 l1 e g1 g2 g3 g4 g5
   by_cases e2 : k1 ∈ ks
   ·rw [if_pos e2] at g1; cases g1; cases g2
   ·rw [if_neg e2] at g1
    rw [hM' k1 e] at g3
    rcases hlies with h | h
    ·rw [h] at g5
     obtain ⟨k0, r0, q1, q2, q3, q4⟩ := hvb b g5
     have := ha.apart k1 k0 r1 r0 l1 _ b g1 g2 q1 q2 g3 q3 g4 g5
     exact e2 (by rw [q4, this]; simp)
    ·rw [h] at g5; cases g5
     have := ha.own k1 l1 _ g3 g4; omega
  by_cases e : k = d
  ·by_cases e' : k' = d
   ·rw [e, e']
   ·exfalso
    rw [if_neg (fun h => e' h.symm)] at h3
    subst e
    rw [hM'd] at h5; cases h5
    exact hne k' r2 l2 e' h3 h4 h6 h8 h7
  ·rw [if_neg (fun h => e h.symm)] at h1
   by_cases e' : k' = d
   ·exfalso
    subst e'
    rw [hM'd] at h6; cases h6
    exact hne k r1 l1 e h1 h2 h5 h7 h8
   ·rw [if_neg (fun h => e' h.symm)] at h3
    rw [hM' k e] at h5
    rw [hM' k' e'] at h6
    by_cases e2 : k ∈ ks
    ·rw [if_pos e2] at h1; cases h1; cases h2
    ·by_cases e2' : k' ∈ ks
     ·rw [if_pos e2'] at h3; cases h3; cases h4
     ·rw [if_neg e2] at h1
      rw [if_neg e2'] at h3
      exact ha.apart k k' r1 r2 l1 l2 b h1 h2 h3 h4 h5 h6 h7 h8
theorem run_app {c : Call} (ho : o.op = .call c) (hc : c.callee = .builtin .append) {x y : Operand} {t : TypeId} (h1 : c.args.toList = [x, y]) (h2 : c.argTypes.toList = [t, t]) {v : Value} {w' : World} (hr : (Builtin.append_ #[t, t] o.type #[a.eval x, a.eval y]).run P w = .ok v w') :
  (execOp a.eval o).run P w = .ok (.value v) w' := by
 have e1 : c.args = #[x, y] := Array.toList_inj.1 h1
 have e2 : c.argTypes = #[t, t] := Array.toList_inj.1 h2
 unfold execOp
 simp [ho, resolve, hc, e1, e2, invoke, builtin, hr]
theorem append_run (hT : TabOK P T) {t e : TypeId} {s1 s2 : Nat} {z : List Value} {q : Bool} (ht : T t = some ⟨.sl e, s1, s2, z, q⟩) {ei : TyI} (hei : T e = some ei) (hpos : 0 < ei.size) (hz : ei.zero.length = ei.size) {base n : Nat} {v : Value} {xs : List Value} (hown : w.ownsRow base e ei.size v n xs) (hbase : base ≤ w.heap.size) {u : Value} {N : Nat → Prop} {l : List (List CV)} (hsrc : Src w N u ei.size l) (hroom : roomP ei.bytes (n + l.length)) (ty : TypeId) :
  ∃ v' w' news, (Builtin.append_ #[t, t] ty #[v, u]).run P w = .ok v' w' ∧ w'.ownsRow base e ei.size v' (n + l.length) (xs ++ news) ∧ All2 (RelF w N) l.flatten news ∧ Below base w w' ∧ (∀ k, k < w.heap.size → some k ≠ v.ownBlock → w'.heap[k]? = w.heap[k]?) ∧ (v'.ownBlock = v.ownBlock ∨ v'.ownBlock = some w.heap.size) := by
 have hu := (hT t _ ht).sl rfl
 obtain ⟨i, hi, his, hib, zv, hiz, hzc⟩ := (hT e ei hei).inf
 obtain ⟨ao, c, news, rfl, hl, hrel, hcase⟩ := hsrc.news
 rcases hcase with ⟨rfl, h0, rfl⟩ | ⟨ad, rfl, hcells⟩
 ·have hnil : news = [] := List.eq_nil_of_length_eq_zero (by rw [hl, h0, Nat.zero_mul])
  subst hnil
  refine ⟨v, w, [], ?_, by rw [h0]; simpa using hown, hrel, Below.refl _ _, fun _ _ _ => rfl, Or.inl rfl⟩
  rw [h0]
  rcases hown.2 with ⟨rfl, _⟩ | ⟨g, cap, cur, rfl, _, _, hn, _⟩
  ·simp [Builtin.append_, run_underlying hu, Go.sizeOf, run_ti hi, Builtin.lenOf, Builtin.firstCells]
  ·simp [Builtin.append_, run_underlying hu, Go.sizeOf, run_ti hi, Builtin.lenOf, Builtin.firstCells, hn, storeCells]
 ·obtain ⟨v', w', hr, h2, h3, _, h5⟩ := run_append_own_at (P := P) w base t ty e i zv ei.size ei.bytes hu hi hiz his hib (by rw [← Array.length_toList, hzc, hz]) hpos v n xs hown ad l.length c news hl hcells (hrel.all_right fun _ _ h => RelF.one h) hroom.2 hroom.1 hbase
  exact ⟨v', w', news, hr, h2, hrel, (Below.refl _ _).grown h3 hbase (fun k hk => (hown.lt k hk).1), h3.block, h5⟩
theorem own_block_lt {base : Nat} {e : TypeId} {sz : Nat} {v : Value} {n : Nat} {xs : List Value} (h : w.ownsRow base e sz v n xs) : (∀ b, v.ownBlock = some b → b < w.heap.size) ∧ (v = .slice none 0 0 ∨ ∃ b n cap, v = .slice (some ⟨b, 0, none⟩) n cap) := by
 rcases h.2 with ⟨rfl, _⟩ | ⟨g, cap, cur, rfl, _, hg, _⟩
 ·exact ⟨(fun b h => by cases h), Or.inl rfl⟩
 ·exact ⟨(fun b h => by cases h; exact (Array.getElem?_eq_some_iff.1 hg).1), Or.inr ⟨_, _, _, rfl⟩⟩
theorem well_append (hT : TabOK P T) (ha : Abs w0 N0 Z M st a w) {c : Call} (ho : o.op = .call c) (hc : c.callee = .builtin .append) {x y : Operand} {t : TypeId} (h1 : c.args.toList = [x, y]) (h2 : c.argTypes.toList = [t, t]) {dx dy : DV} (hx : opv st x = some dx) (hy : opv st y = some dy) {e : Eff} (he : appendE T forb st o.dst t dx dy = some e) (hp : e.pre) : Well P w0 N0 Z o a w (st.app o.dst e) := by
 have hrx := opv_rel ha hx
 have hry := opv_rel ha hy
 unfold appendE at he
 cases hd : o.dst with
 | none => rw [hd] at he; cases he
 | some d =>
 rw [hd] at he
 simp only at he
 split at he
 ·rename_i el s1 s2 z q ht
  split at he
  ·rename_i ei hei hat
   cases hq : (Nat.blt d st.h.length && Nat.blt 0 ei.size && Nat.beq ei.zero.length ei.size) with
   | false => rw [hq] at he; cases he
   | true =>
    rw [hq] at he
    simp only [Bool.and_eq_true] at hq
    obtain ⟨⟨q1, q2⟩, q3⟩ := hq
    have q1 : d < st.h.length := Nat.le_of_ble_eq_true q1
    have q2 : 0 < ei.size := Nat.le_of_ble_eq_true q2
    have q3 := Nat.eq_of_beq_eq_true q3
    simp only [cond_true] at he
    split at he
    ·rename_i k
     obtain ⟨hM, _⟩ := hrx
     split at he
     ·rename_i ty kd l hrow
      cases hb : (Nat.beq ty el && Nat.beq ei.size 1) with
      | false => rw [hb] at he; cases he
      | true =>
       rw [hb] at he
       simp only [Bool.and_eq_true] at hb
       obtain rfl := Nat.eq_of_beq_eq_true hb.1
       have b2 := Nat.eq_of_beq_eq_true hb.2
       simp only [cond_true, Option.map_eq_some_iff] at he
       obtain ⟨⟨xs, p⟩, g1, rfl⟩ := he
       obtain ⟨hp1, hp2⟩ := hp
       have hrk := rd_at hrow
       obtain ⟨v', e1, e2⟩ := ha.row k _ hrk
       rw [hM] at e1; cases e1
       have hs := numsOf_src ha g1 hp1 hry
       rw [← b2] at e2 hs
       obtain ⟨v2, w2, news, r1, r2, r3, r4, r5, r6⟩ := append_run hT ht hei q2 q3 e2 ha.below.size hs (by simpa using hp2) o.type
       have hnews : news = xs.map (Value.int kd) := by
        have : ∀ (l : List Int) (ns : List Value), All2 (RelF w (fgn w0 N0 M)) (l.map fun n => [CV.v (.int kd n)]).flatten ns → ns = l.map (Value.int kd) := by
         intro l
         induction l with
         | nil => intro ns h; cases ns <;> first | rfl | exact h.elim
         | cons n l ih => intro ns h; match ns, h with
          | u :: ns, h => rw [show u = .int kd n from h.1.1, ih ns h.2]; rfl
          | [], h => exact h.elim
        exact this xs news r3
       obtain ⟨M', hA⟩ := ha.grown d [k] (r := .num ty kd (l ++ xs)) (v := a.eval x) (v' := v2) hat q1 rfl (Or.inr ⟨k, _, rfl, hrk, rfl, hM⟩) r4 r5 r6 (own_block_lt r2).1
        (fun M' h1 h2 => ⟨v2, h1, by rw [b2] at r2; simpa [hnews] using r2⟩) (own_block_lt r2).2
       exact .value v2 M' w2 (run_app ho hc h1 h2 r1) (by rw [hd]; exact hA)
     ·rename_i ty sz l hrow
      cases hb : (Nat.beq ty el && Nat.beq sz ei.size) with
      | false => rw [hb] at he; cases he
      | true =>
       rw [hb] at he
       simp only [Bool.and_eq_true] at hb
       obtain rfl := Nat.eq_of_beq_eq_true hb.1
       obtain rfl := Nat.eq_of_beq_eq_true hb.2
       simp only [cond_true, Option.map_eq_some_iff] at he
       obtain ⟨xs, g1, rfl⟩ := he
       have hrk := rd_at hrow
       obtain ⟨v', ys, e1, e2, e3, e4⟩ := ha.row k _ hrk
       rw [hM] at e1; cases e1
       have hs := gensOf_src ha g1 hry
       obtain ⟨v2, w2, news, r1, r2, r3, r4, r5, r6⟩ := append_run hT ht hei q2 q3 e2 ha.below.size hs hp o.type
       obtain ⟨M', hA⟩ := ha.grown d [k] (r := .gen ty ei.size (l ++ xs)) (v := a.eval x) (v' := v2) hat q1 rfl (Or.inr ⟨k, _, rfl, hrk, rfl, hM⟩) r4 r5 r6 (own_block_lt r2).1
        (fun M' h1 h2 => ⟨v2, _, h1, by simpa using r2, fun e he => by
         rcases List.mem_append.1 he with he | he
         ·exact e3 e he
         ·exact hs.len e he, by
         rw [List.flatten_append]
         exact (e4.append r3).mono fun _ _ g => h2.relF g⟩) (own_block_lt r2).2
       exact .value v2 M' w2 (run_app ho hc h1 h2 r1) (by rw [hd]; exact hA)
     ·cases he
    ·simp only [Option.map_eq_some_iff] at he
     obtain ⟨xs, g1, rfl⟩ := he
     have hv : a.eval x = .slice none 0 0 := hrx.1
     have hs := gensOf_src ha g1 hry
     have hp : roomP ei.bytes xs.length := hp
     have hown : w.ownsRow w0.heap.size el ei.size (.slice none 0 0) 0 [] := ⟨by simp, Or.inl ⟨rfl, rfl⟩⟩
     obtain ⟨v2, w2, news, r1, r2, r3, r4, r5, r6⟩ := append_run hT ht hei q2 q3 hown ha.below.size hs (by simpa using hp) o.type
     obtain ⟨M', hA⟩ := ha.grown d [] (r := .gen el ei.size xs) (v := .slice none 0 0) (v' := v2) hat q1 rfl (Or.inl ⟨rfl, rfl⟩) r4 r5 r6 (own_block_lt r2).1
      (fun M' h1 h2 => ⟨v2, _, h1, by simpa using r2, hs.len, by simpa using r3.mono fun _ _ g => h2.relF g⟩) (own_block_lt r2).2
     exact .value v2 M' w2 (run_app ho hc h1 h2 (by rw [hv]; exact r1)) (by rw [hd]; exact hA)
    ·cases he
  ·cases he
 ·cases he
theorem boundE_run (ha : Abs w0 N0 Z M st a w) {x : Operand} {n : Int} {i : Int} (h : boundE st n (some x) = some i) : ∃ k, a.eval x = .int k i := by
 simp only [boundE] at h
 split at h
 ·rename_i k j hx
  cases h
  exact ⟨k, (opv_rel ha hx).1⟩
 ·cases h
theorem well_slice (hT : TabOK P T) (ha : Abs w0 N0 Z M st a w) {t : TypeId} {x : Operand} {lo hi mx : Option Operand} (ho : o.op = .slice t x lo hi mx) {d : DV} (hd : opv st x = some d) {e : Eff} (he : sliceE T forb st t d lo hi mx = some e) (hp : e.pre) : Well P w0 N0 Z o a w (st.app o.dst e) := by
 have hx := opv_rel ha hd
 unfold sliceE at he
 split at he
 ·cases he
 ·have run : ∀ v, (Instr.sliceAt t (a.eval x) (lo.map a.eval) (hi.map a.eval) none).run P w = .ok v w → (execOp a.eval o).run P w = .ok (.value v) w := by
   intro v hv
   unfold execOp
   simp only [ho, Option.map_none, Sem.run_bind, hv, Result.andThen_ok, Sem.run_pure]
  split at he
  ·rename_i el s1 s2 z q sz n c ht
   split at he
   ·rename_i ei l h hei hl hh
    cases hq : Nat.beq sz ei.size with
    | false => rw [hq] at he; cases he
    | true =>
     rw [hq] at he
     cases he
     obtain rfl := Nat.eq_of_beq_eq_true hq
     obtain ⟨p1, p2, p3⟩ : 0 ≤ l ∧ l ≤ h ∧ h ≤ n := hp
     obtain ⟨ao, cap, hv, g1, g2, g3, g4⟩ := hx
     have hu := (hT t _ ht).sl rfl
     have hsz := (hT el ei hei).sizeOf w
     have hb : (Instr.sliceBounds true n cap (lo.map a.eval) (hi.map a.eval) none).run P w = .ok (l.toNat, h.toNat, cap) w := by
      have e1 : ∀ (k : IntKind) (i : Int) (m : Nat) (cd : BoundsCode), 0 ≤ i → i ≤ m → (Instr.sliceBound (.int k i) m cd).run P w = .ok i.toNat w := by
       intro k i m cd h1 h2
       simp [Instr.sliceBound, asIntOf, h1, h2]
      cases hi with
      | none =>
       simp only [boundE, Option.some.injEq] at hh
       cases lo with
       | none =>
        simp only [boundE, Option.some.injEq] at hl
        subst hl; subst hh
        simp [Instr.sliceBounds]
       | some y =>
        obtain ⟨k, hk⟩ := boundE_run ha hl
        subst hh
        simp [Instr.sliceBounds, hk, e1 k l n _ p1 p2]
      | some u =>
       obtain ⟨k', hk'⟩ := boundE_run ha hh
       cases lo with
       | none =>
        simp only [boundE, Option.some.injEq] at hl
        subst hl
        simp [Instr.sliceBounds, hk', e1 k' h cap _ (by omega) (by omega)]
       | some y =>
        obtain ⟨k, hk⟩ := boundE_run ha hl
        simp [Instr.sliceBounds, hk, hk', e1 k' h cap _ (by omega) (by omega), e1 k l h.toNat _ p1 (by omega)]
     have hrun : (Instr.sliceAt t (a.eval x) (lo.map a.eval) (hi.map a.eval) none).run P w = .ok (.slice (if cap = l.toNat then ao else ao.map (·.add (l.toNat * ei.size))) (h.toNat - l.toNat) (cap - l.toNat)) w := by
      rw [hv]
      simp only [Instr.sliceAt, Instr.slice, Sem.run_bind, run_underlying hu, Result.andThen_ok, hb, hsz, Sem.run_pure]
     refine Well.val ha (d := .t (.c (.sl ei.size (h - l).toNat (fun i j => c (l.toNat + i) j)))) (run _ hrun) ?_
     have hlh : (h - l).toNat = h.toNat - l.toNat := by omega
     have hn1 : h.toNat ≤ n := by omega
     have hn2 : l.toNat ≤ h.toNat := by omega
     clear p1 p2 p3
     rw [hlh]
     refine ⟨_, cap - l.toNat, rfl, by omega, by omega, ?_, fun h0 => ?_⟩
     ·intro hn
      by_cases e : cap = l.toNat
      ·omega
      ·rw [if_neg e] at hn
       cases ao with
       | none => rw [g3 rfl]; omega
       | some ad => cases hn
     ·obtain ⟨b, off, rfl, q2, q3, q4⟩ := g4 (by omega)
      refine ⟨b, off + l.toNat * ei.size, by rw [if_neg (by omega)]; simp [add_none], q2, q3, fun i j hi hj => ?_⟩
      obtain ⟨u, r1, r2⟩ := q4 (l.toNat + i) j (by omega) hj
      refine ⟨u, ?_, r2⟩
      rw [← r1, Nat.add_mul]; congr 2; omega
   ·cases he
  ·rename_i el s1 s2 z q k ht
   split at he
   ·cases he
   ·split at he
    ·rename_i ei l ty kd r hei hl hrow
     cases hq : Nat.beq 1 ei.size with
     | false => rw [hq] at he; cases he
     | true =>
      rw [hq] at he
      cases he
      have hq' := Nat.eq_of_beq_eq_true hq
      obtain ⟨p1, p2⟩ : 0 < l ∧ l ≤ r.length := hp
      obtain ⟨hM, _⟩ : RelC w (fgn w0 N0 M) M (.os k) (a.eval x) := hx
      obtain ⟨v', g1, g2⟩ := ha.row k _ (rd_at hrow)
      rw [hM] at g1
      cases g1
      obtain ⟨_, hc⟩ := g2
      rcases hc with ⟨_, e0⟩ | ⟨g, cap, cur, hv, hb, hg, hn, hm, hs, htk⟩
      ·omega
      have hu := (hT t _ ht).sl rfl
      have hsz := (hT el ei hei).sizeOf w
      have hb : (Instr.sliceBounds true r.length cap (lo.map a.eval) none none).run P w = .ok (l.toNat, r.length, cap) w := by
       have e1 : ∀ (k : IntKind) (i : Int) (m : Nat) (cd : BoundsCode), 0 ≤ i → i ≤ m → (Instr.sliceBound (.int k i) m cd).run P w = .ok i.toNat w := by
        intro k i m cd h1 h2
        simp [Instr.sliceBound, asIntOf, h1, h2]
       cases lo with
       | none =>
        simp only [boundE, Option.some.injEq] at hl
        omega
       | some y =>
        obtain ⟨k', hk⟩ := boundE_run ha hl
        simp [Instr.sliceBounds, hk, e1 k' l r.length _ (by omega) (by omega)]
      have hrun : (Instr.sliceAt t (a.eval x) (lo.map a.eval) (Option.map a.eval none) none).run P w = .ok (.slice (if cap = l.toNat then (some ⟨g, 0, none⟩ : Option Addr) else (some ⟨g, 0, none⟩ : Option Addr).map (·.add (l.toNat * ei.size))) (r.length - l.toNat) (cap - l.toNat)) w := by
       rw [hv]
       simp only [Instr.sliceAt, Instr.slice, Sem.run_bind, run_underlying hu, Result.andThen_ok, Option.map_none, hb, hsz, Sem.run_pure]
      have hM' : M k = some (.row (.slice (some ⟨g, 0, none⟩) r.length cap)) := by rw [← hv]; exact hM
      by_cases ec : cap = l.toNat
      ·refine Well.val ha (d := .t (.c (.ob k l.toNat 1 (r.length - l.toNat)))) (v := .slice (some ⟨g, 0, none⟩) (r.length - l.toNat) (cap - l.toNat)) (run _ (by rw [hrun, if_pos ec])) (Or.inr ⟨g, cap, 0, cap - l.toNat, by rw [hM', show l.toNat + (r.length - l.toNat) = r.length by omega], fun h => by omega, rfl, by omega, by omega⟩)
      ·refine Well.val ha (d := .t (.c (.ob k l.toNat 1 (r.length - l.toNat)))) (v := .slice (some ⟨g, l.toNat, none⟩) (r.length - l.toNat) (cap - l.toNat)) (run _ (by rw [hrun, if_neg ec, ← hq']; simp [add_none])) (Or.inr ⟨g, cap, l.toNat, cap - l.toNat, by rw [hM', show l.toNat + (r.length - l.toNat) = r.length by omega], fun h => rfl, rfl, by omega, by omega⟩)
    ·cases he
  ·rename_i n el s1 s2 z q k off ht
   split at he
   ·rename_i ei hei
    cases hq : Nat.ble n 1000 with
    | false => rw [hq] at he; cases he
    | true =>
     rw [hq] at he
     cases he
     have hn := Nat.le_of_ble_eq_true hq
     obtain ⟨b, hM, hv⟩ := hx
     have hu := (hT t _ ht).arr rfl
     have hsz := (hT el ei hei).sizeOf w
     refine Well.val ha (d := .t (.c (.ob k off ei.size n))) (v := .slice (some ⟨b, off, none⟩) n n) (run _ ?_) (Or.inl ⟨b, n, hM, rfl, Nat.le_refl _, by unfold maxLen; omega⟩)
     rw [hv]
     simp [Instr.sliceAt, run_underlying hu, Instr.sureAddr, Instr.sliceBounds, hsz, add_none]
   ·cases he
  ·rename_i s1 s2 z q s ht
   split at he
   ·rename_i l h hl hh
    cases he
    obtain ⟨p1, p2, p3⟩ : 0 ≤ l ∧ l ≤ h ∧ h ≤ s.size := hp
    have hv : a.eval x = .string s := hx.1
    have hu := (hT t _ ht).str rfl
    have hb : (Instr.sliceBounds false s.size s.size (lo.map a.eval) (hi.map a.eval) none).run P w = .ok (l.toNat, h.toNat, s.size) w := by
     have e1 : ∀ (k : IntKind) (i : Int) (m : Nat) (cd : BoundsCode), 0 ≤ i → i ≤ m → (Instr.sliceBound (.int k i) m cd).run P w = .ok i.toNat w := by
      intro k i m cd h1 h2
      simp [Instr.sliceBound, asIntOf, h1, h2]
     cases hi with
     | none =>
      simp only [boundE, Option.some.injEq] at hh
      cases lo with
      | none =>
       simp only [boundE, Option.some.injEq] at hl
       subst hl; subst hh
       simp [Instr.sliceBounds]
      | some y =>
       obtain ⟨k, hk⟩ := boundE_run ha hl
       subst hh
       simp [Instr.sliceBounds, hk, e1 k l s.size _ p1 p2]
     | some u =>
      obtain ⟨k', hk'⟩ := boundE_run ha hh
      cases lo with
      | none =>
       simp only [boundE, Option.some.injEq] at hl
       subst hl
       simp [Instr.sliceBounds, hk', e1 k' h s.size _ (by omega) (by omega)]
      | some y =>
       obtain ⟨k, hk⟩ := boundE_run ha hl
       simp [Instr.sliceBounds, hk, hk', e1 k' h s.size _ (by omega) (by omega), e1 k l h.toNat _ p1 (by omega)]
    refine Well.val ha (d := .t (.c (.v (.string (s.extract l.toNat h.toNat))))) (run (.string (s.extract l.toNat h.toNat)) ?_) ⟨rfl, rfl⟩
    rw [hv]
    simp only [Instr.sliceAt, Instr.slice, Sem.run_bind, run_underlying hu, Result.andThen_ok, hb, Sem.run_pure, Option.isSome_none]
    simp [hb]
   ·cases he
  ·cases he
theorem run_equal_ni {t ty : TypeId} {p : Value} {ms : Array (String × TypeId)} (hu : P.underlying t = some (.interface ms)) (w : World) : (Op.equal t (.iface ty p) .nilIface).run P w = .ok false w := by
 show (Op.equalIn (9999 + 1) t _ _).run P w = _
 generalize 9999 = d
 unfold Op.equalIn
 simp [Sem.run_bind, run_underlying hu, Sem.run_pure]
theorem run_equal_nn {t : TypeId} {ms : Array (String × TypeId)} (hu : P.underlying t = some (.interface ms)) (w : World) : (Op.equal t .nilIface .nilIface).run P w = .ok true w := by
 show (Op.equalIn (9999 + 1) t _ _).run P w = _
 generalize 9999 = d
 unfold Op.equalIn
 simp [Sem.run_bind, run_underlying hu, Sem.run_pure]
theorem strE_sound (ha : Abs w0 N0 Z M st a w) {op : BinOp} {t yt : TypeId} {x y : Operand} (ho : o.op = .binOp op t x y yt) {e : Eff} (he : strE P op t y (opv st x) (opv st y) = some e) (hp : e.pre) : Well P w0 N0 Z o a w (st.app o.dst e) := by
 unfold strE at he
 split at he
 ·rename_i s1 s2 h1 h2
  have e1 : a.eval x = .string s1 := (opv_rel ha h1).1
  have e2 : a.eval y = .string s2 := (opv_rel ha h2).1
  split at he
  ·cases he
   have hp : ((s1.size + s2.size : Nat) : Int) ≤ 9223372036854775807 := hp
   refine Well.val ha (d := .t (.c (.v (.string (s1 ++ s2))))) (v := .string (s1 ++ s2)) ?_ ⟨rfl, rfl⟩
   unfold execOp
   have hn : ¬ ((s1.size + s2.size : Nat) : Int) > IntKind.i64.max := by
    have : IntKind.i64.max = 9223372036854775807 := rfl
    omega
   simp only [ho, e1, e2, Sem.run_bind, eqGuard, binOp, Op.stringOp, if_neg hn]
   rfl
  ·cases he
 ·rename_i b h1 h2
  cases hk : isK y with
  | false => rw [hk] at he; cases he
  | true =>
  rw [hk] at he
  simp only [_root_.cond_true] at he
  have e1 : (b = true ∧ a.eval x = .nilIface) ∨ (b = false ∧ ∃ ty p, a.eval x = .iface ty p) := opv_rel ha h1
  have e2 : a.eval y = .nilIface := (opv_rel ha h2).1
  obtain ⟨c, rfl⟩ : ∃ c, y = .const c := by
   cases y with
   | const c => exact ⟨c, rfl⟩
   | _ => simp [isK] at hk
  split at he
  ·rename_i ms hu
   have run : ∀ (op : BinOp) (r : Bool → Bool), (∀ z, binOp op t z .nilIface = (do pure (.bool (r (← Op.equal t z .nilIface))))) → op = .eql ∨ op = .neq → (execOp a.eval { o with op := .binOp op t x (.const c) yt }).run P w = .ok (.value (.bool (r b))) w := by
    intro op r hb hop
    unfold execOp
    have hg : ∀ z, (z = .nilIface ∨ ∃ ty p, z = .iface ty p) → (eqGuard op t x (.const c) z .nilIface).run P w = .ok () w := by
     rintro z (rfl | ⟨ty, p, rfl⟩)
     ·rcases hop with rfl | rfl <;> simp [eqGuard, Sem.run_pure]
     ·rcases hop with rfl | rfl <;> rfl
    rcases e1 with ⟨rfl, e1⟩ | ⟨rfl, ty, p, e1⟩
    ·simp only [e1, e2, Sem.run_bind, hg _ (Or.inl rfl), hb, run_equal_nn hu, Result.andThen_ok, Sem.run_pure]
    ·simp only [e1, e2, Sem.run_bind, hg _ (Or.inr ⟨ty, p, rfl⟩), hb, run_equal_ni hu, Result.andThen_ok, Sem.run_pure]
   have ox : ∀ {op : BinOp}, o.op = .binOp op t x (.const c) yt → { o with op := .binOp op t x (.const c) yt } = o := by
    intro op h; rw [← h]
   split at he
   ·cases he
    refine Well.val ha (d := dB b) (v := .bool b) ?_ ⟨rfl, rfl⟩
    have := run .eql id (fun z => by cases z <;> rfl) (Or.inl rfl)
    rwa [ox ho] at this
   ·cases he
    refine Well.val ha (d := dB (!b)) (v := .bool (!b)) ?_ ⟨rfl, rfl⟩
    have := run .neq (!·) (fun z => by cases z <;> rfl) (Or.inr rfl)
    rwa [ox ho] at this
   ·cases he
  ·cases he
 ·cases he
end Go.Proofs.YtfadkjcfjkmalaaGreatDoor.Ev
set_option linter.unusedVariables false
set_option linter.unusedSimpArgs false
namespace Go.Proofs.YtfadkjcfjkmalaaGreatDoor.Ev
open Go.RowKit
variable {w0 : World} {N0 : Nat → Prop} {Z : Pins} {P : Program} {T : Tab} {S : Sum} {forb : Nat → Bool} {M : Map} {st : DS} {a : Act} {w : World} {o : Oper}
theorem RelF.all {N N' : Nat → Prop} {x : CV} {v : Value} (h : RelF w N x v) (hN : ∀ b, N b → N' b) : RelF w N' x v :=
 RelF.mono (Nat.le_refl _) (fun _ _ _ _ => rfl) (fun b hb _ => hN b hb) x h
theorem getD_get {α : Type} {l : List α} {i : Nat} {d : α} (h : i < l.length) : l[i]? = some (l.getD i d) := by simp [List.getD, h]
theorem own_foreign {N : Nat → Prop} {base : Nat} (hN : ∀ b, base ≤ b → N b) {e : TypeId} {sz : Nat} {v : Value} {n : Nat} {xs : List Value} (h : w.ownsRow base e sz v n xs) {c : Nat → Nat → CV} (hc : ∀ i j, i < n → j < sz → ∃ u, xs[i * sz + j]? = some u ∧ RelF w N (c i j) u) : RelF w N (.sl sz n c) v := by
 obtain ⟨h1, h2⟩ := h
 rcases h2 with ⟨rfl, rfl⟩ | ⟨g, cap, cur, rfl, hb, hg, hn, hm, hs, ht⟩
 ·exact ⟨none, 0, rfl, Nat.le_refl _, by simp, fun _ => rfl, fun h => absurd h (by omega)⟩
 ·refine ⟨_, cap, rfl, hn, hm, (fun h => by cases h), fun h0 => ⟨g, 0, rfl, (Array.getElem?_eq_some_iff.1 hg).1, hN g hb, fun i j hi hj => ?_⟩⟩
  obtain ⟨u, h3, h4⟩ := hc i j hi hj
  refine ⟨u, ?_, h4⟩
  rw [cell_of_row w g _ cur e (0, 0) hg, Nat.zero_add]
  rw [← ht, List.getElem?_take] at h3
  split at h3
  ·simpa using h3
  ·cases h3
theorem toF_rel {N : Nat → Prop} (ha : Abs w0 N0 Z M st a w) (hN1 : ∀ b, fgn w0 N0 M b → N b) (hN2 : ∀ b, w0.heap.size ≤ b → N b) {x y : CV} {v : Value} (h : toF st forb x = some y) (hr : RelC w (fgn w0 N0 M) M x v) : RelF w N y v := by
 cases x with
 | v x => simp only [toF, Option.some.injEq] at h; subst h; exact hr
 | sl sz n c => simp only [toF, Option.some.injEq] at h; subst h; exact RelF.all (x := .sl sz n c) hr hN1
 | px n off c => simp only [toF, Option.some.injEq] at h; subst h; exact RelF.all (x := .px n off c) hr hN1
 | er b => simp only [toF, Option.some.injEq] at h; subst h; exact RelF.all (x := .er b) hr hN1
 | any => simp only [toF, Option.some.injEq] at h; subst h; exact RelF.all (x := .any) hr hN1
 | pe k i sz off => simp [toF] at h
 | os k =>
  obtain ⟨hM, hsh⟩ := hr
  simp only [toF] at h
  split at h
  ·rename_i ty sz l hrow
   cases h
   obtain ⟨v', xs, g1, g2, g3, g4⟩ := ha.row k _ (rd_at hrow)
   rw [hM] at g1; cases g1
   refine own_foreign hN2 g2 fun i j hi hj => ?_
   have e1 : l[i]? = some (l.getD i []) := getD_get hi
   have e2 := g3 _ (List.mem_of_getElem? e1)
   have e3 := flatten_get g3 e1 hj
   have e4 : (l.getD i [])[j]? = some (genC l i j) := getD_get (by omega)
   rw [e4] at e3
   obtain ⟨u, q1, q2⟩ := g4.get e3
   exact ⟨u, q1, q2.all hN1⟩
  ·rename_i ty kd l hrow
   cases h
   obtain ⟨v', g1, g2⟩ := ha.row k _ (rd_at hrow)
   rw [hM] at g1; cases g1
   refine own_foreign hN2 g2 fun i j hi hj => ⟨.int kd (l.getD i 0), ?_, rfl, rfl⟩
   obtain rfl : j = 0 := by omega
   simp [List.getElem?_map, hi]
  ·cases h
 | p k off =>
  obtain ⟨b, hM, hv⟩ := hr
  simp only [toF] at h
  split at h
  ·rename_i ty c hrow
   cases hq : allF c with
   | false => rw [hq] at h; cases h
   | true =>
    rw [hq] at h
    cases h
    obtain ⟨b', cs, g1, g2, g3⟩ := ha.row k _ (rd_at hrow)
    rw [hM] at g1; cases g1
    refine ⟨b, 0, by rw [Nat.zero_add]; exact hv, (Array.getElem?_eq_some_iff.1 g2).1, hN2 b (ha.own k _ b hM rfl).1, fun j hj => ?_⟩
    obtain ⟨u, q1, q2⟩ := (all2_F hq g3).get (getD_get (d := .v (.bool false)) hj)
    exact ⟨u, by rw [cell_of_row w b _ cs ty (0, 0) g2, Nat.zero_add]; simpa using q1, q2.all hN1⟩
  ·cases h
 | ob k off sz n =>
  simp only [toF] at h
  split at h
  ·rename_i ty c hrow
   rcases hr with ⟨b, cap, hM, hv, hn, hm⟩ | ⟨b, c', o, cap, hM, _⟩
   case inr =>
    obtain ⟨b', cs, g1, _⟩ := ha.row k _ (rd_at hrow)
    rw [hM] at g1; cases g1
   cases hq : (allF c && Nat.ble (off + n * sz) c.length) with
   | false => rw [hq] at h; cases h
   | true =>
    rw [hq] at h
    cases h
    simp only [Bool.and_eq_true] at hq
    have hle := Nat.le_of_ble_eq_true hq.2
    obtain ⟨b', cs, g1, g2, g3⟩ := ha.row k _ (rd_at hrow)
    rw [hM] at g1; cases g1
    refine ⟨_, cap, hv, hn, hm, (fun h => by cases h), fun h0 => ⟨b, off, rfl, (Array.getElem?_eq_some_iff.1 g2).1, hN2 b (ha.own k _ b hM rfl).1, fun i j hi hj => ?_⟩⟩
    have hb : i * sz + sz ≤ n * sz := by rw [← Nat.succ_mul]; exact Nat.mul_le_mul_right _ hi
    obtain ⟨u, q1, q2⟩ := (all2_F hq.1 g3).get (getD_get (d := .v (.bool false)) (i := off + i * sz + j) (by omega))
    exact ⟨u, by rw [cell_of_row w b _ cs ty (0, 0) g2]; simpa using q1, q2.all hN1⟩
  ·rename_i ty kd l hrow
   cases hq : Nat.beq 1 sz with
   | false => rw [hq] at h; cases h
   | true =>
    rw [hq] at h
    cases h
    obtain ⟨v', g1, g2⟩ := ha.row k _ (rd_at hrow)
    rcases hr with ⟨b, cap, hM, _⟩ | ⟨b, c', o, cap, hM, ho, hv, hn, hm⟩
    ·rw [hM] at g1; cases g1
    rw [hM] at g1
    cases g1
    obtain ⟨_, g3⟩ := g2
    rcases g3 with ⟨e0, _⟩ | ⟨g, cap2, cur, e0, hb, hg, hn2, hm2, hs, ht⟩
    ·cases e0
    simp only [Value.slice.injEq, Option.some.injEq, Addr.mk.injEq, and_true] at e0
    obtain ⟨rfl, e1, rfl⟩ := e0
    refine ⟨_, cap, hv, hn, hm, (fun h => by cases h), fun h0 => ⟨b, o, rfl, (Array.getElem?_eq_some_iff.1 hg).1, hN2 b hb, fun i j hi hj => ?_⟩⟩
    obtain rfl := ho h0
    obtain rfl : j = 0 := by omega
    have hl : o + i < l.length := by omega
    have h3 : (l.map (Value.int kd))[o + i]? = some (.int kd (l.getD (o + i) 0)) := by simp [List.getElem?_map, hl, List.getD]
    refine ⟨.int kd (l.getD (o + i) 0), ?_, rfl, rfl⟩
    rw [cell_of_row w b _ cur ty (0, 0) hg]
    rw [← ht, List.getElem?_take] at h3
    split at h3
    ·simpa using h3
    ·cases h3
  ·cases h
theorem toF_id {x y : CV} {v : Value} (hf : isF x = true) (h : toF st forb x = some y) (hr : RelC w (fgn w0 N0 M) M x v) : RelF w (fgn w0 N0 M) y v := by
 cases x <;> first | (simp [isF] at hf; done) | (simp only [toF, Option.some.injEq] at h; subst h; exact hr)
section
variable {R R' : CV → Value → Prop} (good : CV → Bool)
theorem toFs_rel (hR : ∀ x y v, good x = true → toF st forb x = some y → R x v → R' y v) : ∀ {l l' : List CV} {vs : List Value}, (∀ x ∈ l, good x = true) → toFs st forb l = some l' → All2 R l vs → All2 R' l' vs
 | [], l', [], _, h, _ => by simp only [toFs, Option.some.injEq] at h; subst h; trivial
 | x :: l, l', v :: vs, hg, h, g => by
  simp only [toFs] at h
  split at h
  ·rename_i d ds h1 h2
   simp only [Option.some.injEq] at h; subst h
   exact ⟨hR x d v (hg x (by simp)) h1 g.1, toFs_rel hR (fun y hy => hg y (by simp [hy])) h2 g.2⟩
  ·cases h
 | [], _, _ :: _, _, _, g => g.elim
 | _ :: _, _, [], _, _, g => g.elim
def goodT : TV → Prop
 | .c x => good x = true
 | .a l => ∀ x ∈ l, good x = true
 | .fn _ l => ∀ x ∈ l, good x = true
 | .fb _ l => ∀ x ∈ l, good x = true
theorem toFT_rel (hR : ∀ x y v, good x = true → toF st forb x = some y → R x v → R' y v) {x y : TV} {v : Value} (hg : goodT good x) (h : toFT st forb x = some y) (g : RelT R x v) : RelT R' y v := by
 cases x with
 | c x =>
  simp only [toFT, Option.map_eq_some_iff] at h
  obtain ⟨d, h1, rfl⟩ := h
  exact hR x d v hg h1 g
 | a l =>
  simp only [toFT, Option.map_eq_some_iff] at h
  obtain ⟨d, h1, rfl⟩ := h
  obtain ⟨vs, e, g⟩ := g
  exact ⟨vs, e, toFs_rel good hR hg h1 g⟩
 | fn f l =>
  simp only [toFT, Option.map_eq_some_iff] at h
  obtain ⟨d, h1, rfl⟩ := h
  obtain ⟨vs, e, g⟩ := g
  exact ⟨vs, e, toFs_rel good hR hg h1 g⟩
 | fb f l =>
  simp only [toFT, Option.map_eq_some_iff] at h
  obtain ⟨d, h1, rfl⟩ := h
  obtain ⟨vs, e, g⟩ := g
  exact ⟨vs, e, toFs_rel good hR hg h1 g⟩
theorem toFTs_rel (hR : ∀ x y v, good x = true → toF st forb x = some y → R x v → R' y v) : ∀ {l l' : List TV} {vs : List Value}, (∀ x ∈ l, goodT good x) → toFTs st forb l = some l' → All2 (RelT R) l vs → All2 (RelT R') l' vs
 | [], l', [], _, h, _ => by simp only [toFTs, Option.some.injEq] at h; subst h; trivial
 | x :: l, l', v :: vs, hg, h, g => by
  simp only [toFTs] at h
  split at h
  ·rename_i d ds h1 h2
   simp only [Option.some.injEq] at h; subst h
   exact ⟨toFT_rel good hR (hg x (by simp)) h1 g.1, toFTs_rel hR (fun y hy => hg y (by simp [hy])) h2 g.2⟩
  ·cases h
 | [], _, _ :: _, _, _, g => g.elim
 | _ :: _, _, [], _, _, g => g.elim
def goodD : DV → Prop
 | .t x => goodT good x
 | .tu l => ∀ x ∈ l, goodT good x
theorem toFD_rel (hR : ∀ x y v, good x = true → toF st forb x = some y → R x v → R' y v) {x y : DV} {v : Value} (hg : goodD good x) (h : toFD st forb x = some y) (g : RelD R x v) : RelD R' y v := by
 cases x with
 | t x =>
  simp only [toFD, Option.map_eq_some_iff] at h
  obtain ⟨d, h1, rfl⟩ := h
  exact toFT_rel good hR hg h1 g
 | tu l =>
  simp only [toFD, Option.map_eq_some_iff] at h
  obtain ⟨d, h1, rfl⟩ := h
  obtain ⟨vs, e, g⟩ := g
  exact ⟨vs, e, toFTs_rel good hR hg h1 g⟩
theorem toFDs_rel (hR : ∀ x y v, good x = true → toF st forb x = some y → R x v → R' y v) : ∀ {l l' : List DV} {vs : List Value}, (∀ x ∈ l, goodD good x) → toFDs st forb l = some l' → All2 (RelD R) l vs → All2 (RelD R') l' vs
 | [], l', [], _, h, _ => by simp only [toFDs, Option.some.injEq] at h; subst h; trivial
 | x :: l, l', v :: vs, hg, h, g => by
  simp only [toFDs] at h
  split at h
  ·rename_i d ds h1 h2
   simp only [Option.some.injEq] at h; subst h
   exact ⟨toFD_rel good hR (hg x (by simp)) h1 g.1, toFDs_rel hR (fun y hy => hg y (by simp [hy])) h2 g.2⟩
  ·cases h
 | [], _, _ :: _, _, _, g => g.elim
 | _ :: _, _, [], _, _, g => g.elim
end
theorem allF_iff : ∀ {l : List CV}, allF l = true → ∀ x ∈ l, isF x = true
 | [], _, x, hx => by simp at hx
 | y :: l, h, x, hx => by
  simp only [allF, Bool.and_eq_true] at h
  rcases List.mem_cons.1 hx with rfl | hx
  ·exact h.1
  ·exact allF_iff h.2 x hx
theorem ownT_good {x : TV} (h : ownT x = false) : goodT isF x := by
 cases x with
 | c x => simpa [ownT, goodT] using h
 | a l => exact allF_iff (by simpa [ownT] using h)
 | fn f l => exact allF_iff (by simpa [ownT] using h)
 | fb f l => exact allF_iff (by simpa [ownT] using h)
theorem ownTs_good : ∀ {l : List TV}, ownTs l = false → ∀ x ∈ l, goodT isF x
 | [], _, x, hx => by simp at hx
 | y :: l, h, x, hx => by
  simp only [ownTs, Bool.or_eq_false_iff] at h
  rcases List.mem_cons.1 hx with rfl | hx
  ·exact ownT_good h.1
  ·exact ownTs_good h.2 x hx
theorem ownD_good {x : DV} (h : ownD x = false) : goodD isF x := by
 cases x with
 | t x => exact ownT_good h
 | tu l => exact ownTs_good h
theorem ownDs_good : ∀ {l : List DV}, ownDs l = false → ∀ x ∈ l, goodD isF x
 | [], _, x, hx => by simp at hx
 | y :: l, h, x, hx => by
  simp only [ownDs, Bool.or_eq_false_iff] at h
  rcases List.mem_cons.1 hx with rfl | hx
  ·exact ownD_good h.1
  ·exact ownDs_good h.2 x hx
theorem good_true : ∀ {x : DV}, goodD (fun _ => true) x
 | .t (.c _) => rfl
 | .t (.a _) => fun _ _ => rfl
 | .t (.fn _ _) => fun _ _ => rfl
 | .t (.fb _ _) => fun _ _ => rfl
 | .tu l => fun x _ => match x with
  | .c _ => rfl
  | .a _ => fun _ _ => rfl
  | .fn _ _ => fun _ _ => rfl
  | .fb _ _ => fun _ _ => rfl
theorem flatC_rel {w w' : World} {N N' : Nat → Prop} : ∀ {x : CV} {v : Value}, flatC x = true → RelF w N x v → RelC w' N' M x v
 | .v _, _, _, h => h
 | .sl _ _ _, _, h, _ | .px _ _ _, _, h, _ | .os _, _, h, _ | .p _ _, _, h, _ | .pe _ _ _ _, _, h, _ | .ob _ _ _ _, _, h, _ | .er _, _, h, _ | .any, _, h, _ => by simp [flatC] at h
theorem flatCs_rel {w w' : World} {N N' : Nat → Prop} : ∀ {l : List CV} {vs : List Value}, flatCs l = true → All2 (RelF w N) l vs → All2 (RelC w' N' M) l vs
 | [], [], _, _ => trivial
 | x :: l, v :: vs, h, g => by
  simp only [flatCs, Bool.and_eq_true] at h
  exact ⟨flatC_rel h.1 g.1, flatCs_rel h.2 g.2⟩
 | [], _ :: _, _, g => g.elim
 | _ :: _, [], _, g => g.elim
theorem flatT_rel {w w' : World} {N N' : Nat → Prop} {x : TV} {v : Value} (h : flatT x = true) (g : RelT (RelF w N) x v) : RelT (RelC w' N' M) x v := by
 cases x with
 | c x => exact flatC_rel h g
 | a l => obtain ⟨vs, e, g⟩ := g; exact ⟨vs, e, flatCs_rel h g⟩
 | fn f l => obtain ⟨vs, e, g⟩ := g; exact ⟨vs, e, flatCs_rel h g⟩
 | fb f l => obtain ⟨vs, e, g⟩ := g; exact ⟨vs, e, flatCs_rel h g⟩
theorem flatTs_rel {w w' : World} {N N' : Nat → Prop} : ∀ {l : List TV} {vs : List Value}, flatTs l = true → All2 (RelT (RelF w N)) l vs → All2 (RelT (RelC w' N' M)) l vs
 | [], [], _, _ => trivial
 | x :: l, v :: vs, h, g => by
  simp only [flatTs, Bool.and_eq_true] at h
  exact ⟨flatT_rel h.1 g.1, flatTs_rel h.2 g.2⟩
 | [], _ :: _, _, g => g.elim
 | _ :: _, [], _, g => g.elim
theorem flatD_rel {w w' : World} {N N' : Nat → Prop} {x : DV} {v : Value} (h : flatD x = true) (g : RelD (RelF w N) x v) : RelD (RelC w' N' M) x v := by
 cases x with
 | t x => exact flatT_rel h g
 | tu l => obtain ⟨vs, e, g⟩ := g; exact ⟨vs, e, flatTs_rel h g⟩
theorem anyT_rel {w w' : World} {N N' : Nat → Prop} {x : TV} {v : Value} (h : anyT x = true) (g : RelT (RelF w N) x v) : RelT (RelC w' N' M) x v := by
 unfold anyT at h
 split at h
 ·exact g
 ·exact flatT_rel h g
theorem anyTs_rel {w w' : World} {N N' : Nat → Prop} : ∀ {l : List TV} {vs : List Value}, anyTs l = true → All2 (RelT (RelF w N)) l vs → All2 (RelT (RelC w' N' M)) l vs
 | [], [], _, _ => trivial
 | x :: l, v :: vs, h, g => by
  simp only [anyTs, Bool.and_eq_true] at h
  exact ⟨anyT_rel h.1 g.1, anyTs_rel h.2 g.2⟩
 | [], _ :: _, _, g => g.elim
 | _ :: _, [], _, g => g.elim
theorem flatA_rel {w w' : World} {N N' : Nat → Prop} {x : DV} {v : Value} (h : flatA x = true) (g : RelD (RelF w N) x v) : RelD (RelC w' N' M) x v := by
 cases x with
 | t x => exact anyT_rel h g
 | tu l => obtain ⟨vs, e, g⟩ := g; exact ⟨vs, e, anyTs_rel h g⟩
theorem flatD_A : ∀ {x : DV}, flatD x = true → flatA x = true := by
 have tt : ∀ {x : TV}, flatT x = true → anyT x = true := by
  intro x h
  unfold anyT
  split
  ·rfl
  ·exact h
 intro x h
 cases x with
 | t x => exact tt h
 | tu l =>
  have : ∀ l : List TV, flatTs l = true → anyTs l = true := by
   intro l
   induction l with
   | nil => intro _; rfl
   | cons x l ih =>
    intro h
    simp only [flatTs, Bool.and_eq_true] at h
    simp only [anyTs, Bool.and_eq_true]
    exact ⟨tt h.1, ih h.2⟩
  exact this l h
theorem fgn_new (ha : Abs w0 N0 Z M st a w) {b : Nat} (h : w.heap.size ≤ b) : fgn w0 N0 M b :=
 ⟨fun h1 => by have := ha.below.size; omega, fun k l h1 h2 => by have := ha.own k l b h1 h2; omega⟩
theorem run_call {f : FuncId} (he : Enters P f) {c : Call} (ho : o.op = .call c) {g : Operand} (hc : c.callee = .value g) {caps : List Value} (hg : a.eval g = .func (.func f) #[] caps.toArray) :
  (execOp a.eval o).run P w = .ok (.enter f ((c.args.toList.map a.eval) ++ caps).toArray) w := by
 have : (c.args.map a.eval ++ caps.toArray) = ((c.args.toList.map a.eval) ++ caps).toArray := by
  apply Array.toList_inj.1; simp
 unfold execOp
 simp only [ho, resolve, hc, hg, Deferred.ofValue, Sem.run_bind, Sem.run_pure, Result.andThen_ok, invoke, Array.empty_append, this]
 exact he _ _
theorem run_callB {f : FuncId} (he : Enters P f) {c : Call} (ho : o.op = .call c) {g : Operand} (hc : c.callee = .value g) {x : Value} (hg : a.eval g = .func (.func f) #[x] #[]) :
  (execOp a.eval o).run P w = .ok (.enter f (x :: c.args.toList.map a.eval).toArray) w := by
 have : (#[x] ++ c.args.map a.eval ++ #[]) = (x :: c.args.toList.map a.eval).toArray := by
  apply Array.toList_inj.1; simp
 unfold execOp
 simp only [ho, resolve, hc, hg, Deferred.ofValue, Sem.run_bind, Sem.run_pure, Result.andThen_ok, invoke, this]
 exact he _ _
theorem ownsRow_base {base base' : Nat} {e : TypeId} {sz : Nat} {v : Value} {n : Nat} {xs : List Value} (h : w.ownsRow base e sz v n xs) (hb : base' ≤ base) : w.ownsRow base' e sz v n xs := by
 refine ⟨h.1, ?_⟩
 rcases h.2 with h2 | ⟨g, cap, cur, hv, hg, r⟩
 ·exact Or.inl h2
 ·exact Or.inr ⟨g, cap, cur, hv, Nat.le_trans hb hg, r⟩
theorem ownsRow_blk {base : Nat} {e : TypeId} {sz : Nat} {v : Value} {n : Nat} {xs : List Value} (h : w.ownsRow base e sz v n xs) : ∀ b, v.ownBlock = some b → base ≤ b ∧ b < w.heap.size := by
 rcases h.2 with ⟨rfl, _⟩ | ⟨g, cap, cur, rfl, hg, hh, _⟩
 ·intro b h; cases h
 ·intro b h; cases h; exact ⟨hg, (Array.getElem?_eq_some_iff.1 hh).1⟩
theorem Abs.adopt (ha : Abs w0 N0 Z M st a w) (d : Nat) {r : Row} {u : Loc} {x : DV} {v : Value} {w' : World} (hd : st.at d = none) (hlt : d < st.h.length) (hal : r.alive = true) (hbe : Below w.heap.size w w') (hu : ∀ b, u.block = some b → w.heap.size ≤ b ∧ b < w'.heap.size)
  (hrow : ∀ M' : Map, M' d = some u → RelR w' w0.heap.size (fgn w0 N0 M') M' d r)
  (hv : ∀ M' : Map, M' d = some u → (∀ k, k ≠ d → M' k = M k) → RelD (RelC w' (fgn w0 N0 M') M') x v) :
  ∃ M', Abs w0 N0 Z M' (({ st with h := st.h.set d (some r) } : DS).putO (some d) (some x)) (a.put (some d) v) w' := by
 let M' : Map := fun k => if k = d then some u else M k
 have hMd : M d = none := ha.dom d hd
 have hM'd : M' d = some u := by simp [M']
 have hM' : ∀ k, k ≠ d → M' k = M k := fun k h => by simp [M', h]
 have hsz := hbe.size
 have stp : Stp w0 N0 M M' w w' := by
  refine ⟨hbe.size, fun b _ hb => hbe.block b hb, fun k l' h => ?_, fun k l' b h1 h2 => ?_⟩
  ·rw [hM' k (fun e => by rw [e, hMd] at h; cases h)]; exact h
  ·by_cases e : k = d
   ·subst e; rw [hM'd] at h1; cases h1; exact Or.inr (hu b h2).1
   ·rw [hM' k e] at h1; exact Or.inl ⟨k, l', h1, h2⟩
 have hat : ∀ k, (({ st with h := st.h.set d (some r) } : DS).putO (some d) (some x)).at k = if d = k ∧ d < st.h.length then some r else st.at k := fun k => by
  rw [at_putO]; unfold DS.at; exact getset _ _ _ _
 have hws := ha.below.size
 refine ⟨M', ha.step stp (hbe.mono ha.below.size) (by rw [put_size, len_putO]; exact ha.fits) (put_defs _ _ _) (fun i dv h => ?_) (fun k r' h => ?_) (fun k h => ?_) (fun k l' b h1 h2 => ?_) (fun k k' r1 r2 l1 l2 b h1 h2 h3 h4 h5 h6 h7 h8 => ?_)⟩
 ·exact tmp_putO (st := { st with h := st.h.set d (some r) }) ha.fits (fun dv e => by cases e; exact hv M' hM'd hM') i dv h
 ·rw [hat] at h
  by_cases e : d = k ∧ d < st.h.length
  ·rw [if_pos e] at h; cases h; rw [← e.1]; exact Or.inr (hrow M' hM'd)
  ·rw [if_neg e] at h
   exact Or.inl ⟨h, fun _ l' b h1 h2 => hbe.block b (ha.own k l' b h1 h2).2⟩
 ·rw [hat] at h
  by_cases e : d = k ∧ d < st.h.length
  ·rw [if_pos e] at h; cases h
  ·rw [if_neg e] at h
   by_cases e2 : k = d
   ·exact (e ⟨e2.symm, hlt⟩).elim
   ·rw [hM' k e2]; exact ha.dom k h
 ·by_cases e : k = d
  ·subst e; rw [hM'd] at h1; cases h1
   have := hu b h2
   exact ⟨by omega, this.2⟩
  ·rw [hM' k e] at h1; have := ha.own k l' b h1 h2; exact ⟨this.1, by omega⟩
 ·rw [hat] at h1 h3
  by_cases e : k = d
  ·by_cases e' : k' = d
   ·rw [e, e']
   ·subst e; rw [hM'd] at h5; cases h5
    have q1 := hu b h7
    rw [hM' k' e'] at h6; have := ha.own k' l2 _ h6 h8; omega
  ·rw [if_neg (fun h => e h.1.symm)] at h1
   rw [hM' k e] at h5
   by_cases e' : k' = d
   ·subst e'; rw [hM'd] at h6; cases h6
    have q1 := hu b h8
    have := ha.own k l1 _ h5 h7; omega
   ·rw [if_neg (fun h => e' h.1.symm)] at h3
    rw [hM' k' e'] at h6
    exact ha.apart k k' r1 r2 l1 l2 b h1 h2 h3 h4 h5 h6 h7 h8
theorem flatC_any {w w' : World} {N N' : Nat → Prop} {M M' : Map} : ∀ {x : CV} {v : Value}, flatC x = true → RelC w N M x v → RelC w' N' M' x v
 | .v _, _, _, h => h
 | .sl _ _ _, _, h, _ | .px _ _ _, _, h, _ | .os _, _, h, _ | .p _ _, _, h, _ | .pe _ _ _ _, _, h, _ | .ob _ _ _ _, _, h, _ | .er _, _, h, _ | .any, _, h, _ => by simp [flatC] at h
theorem flatCs_any {w w' : World} {N N' : Nat → Prop} {M M' : Map} : ∀ {l : List CV} {vs : List Value}, flatCs l = true → All2 (RelC w N M) l vs → All2 (RelC w' N' M') l vs
 | [], [], _, _ => trivial
 | x :: l, v :: vs, h, g => by
  simp only [flatCs, Bool.and_eq_true] at h
  exact ⟨flatC_any h.1 g.1, flatCs_any h.2 g.2⟩
 | [], _ :: _, _, g => g.elim
 | _ :: _, [], _, g => g.elim
theorem flatTs_any {w w' : World} {N N' : Nat → Prop} {M M' : Map} : ∀ {l : List TV} {vs : List Value}, flatTs l = true → All2 (RelT (RelC w N M)) l vs → All2 (RelT (RelC w' N' M')) l vs
 | [], [], _, _ => trivial
 | x :: l, v :: vs, h, g => by
  simp only [flatTs, Bool.and_eq_true] at h
  refine ⟨?_, flatTs_any h.2 g.2⟩
  have h1 := h.1
  have g1 := g.1
  cases x with
  | c x => exact flatC_any h1 g1
  | a l => obtain ⟨vs, e, g⟩ := g1; exact ⟨vs, e, flatCs_any h1 g⟩
  | fn f l => obtain ⟨vs, e, g⟩ := g1; exact ⟨vs, e, flatCs_any h1 g⟩
  | fb f l => obtain ⟨vs, e, g⟩ := g1; exact ⟨vs, e, flatCs_any h1 g⟩
 | [], _ :: _, _, g => g.elim
 | _ :: _, [], _, g => g.elim
theorem isF_move {w : World} {N N' : Nat → Prop} {M M' : Map} (hN : ∀ b, N b → N' b) {x : CV} {v : Value} (h : isF x = true) (g : RelC w N M x v) : RelC w N' M' x v := RelC.ofF ((isF_rel h g).all hN)
theorem nameCs_rel {d : Nat} {w : World} {u : Value} {N N' : Nat → Prop} {M' : Map} (hN : ∀ b, N b → N' b) (hM : M' d = some (.row u)) : ∀ {l l' : List CV} {vs : List Value}, nameCs d l = some l' → All2 (RelC w N (own1 u)) l vs → All2 (RelC w N' M') l' vs := by
 intro l
 induction l with
 | nil => intro l' vs h; simp [nameCs] at h
 | cons x l ih =>
  intro l' vs h g
  match vs, g with
  | [], g => exact g.elim
  | y :: vs, g =>
   unfold nameCs at h
   split at h
   ·rename_i heq
    simp only [List.cons.injEq] at heq
    obtain ⟨rfl, rfl⟩ := heq
    cases h
    have e2 : u = y := by have := g.1.1; simp [own1] at this; exact this
    refine ⟨⟨by rw [hM, e2], g.1.2⟩, ?_⟩
    match vs, g.2 with
    | [], _ => trivial
    | _ :: _, g => exact g.elim
   ·rename_i x' l' _ heq
    simp only [List.cons.injEq] at heq
    obtain ⟨rfl, rfl⟩ := heq
    cases hq : isF x with
    | false => rw [hq] at h; cases h
    | true =>
     rw [hq] at h
     simp only [_root_.cond_true, Option.map_eq_some_iff] at h
     obtain ⟨m, h1, rfl⟩ := h
     exact ⟨isF_move hN hq g.1, ih h1 g.2⟩
   ·rename_i heq; cases heq
theorem nameD_rel {d : Nat} {r r' : DV} {w : World} {u v : Value} {N N' : Nat → Prop} {M' : Map} (hN : ∀ b, N b → N' b) (h : nameD d r = some r') (hr : RelD (RelC w N (own1 u)) r v) (hM : M' d = some (.row u)) : RelD (RelC w N' M') r' v := by
 unfold nameD at h
 split at h
 ·simp only [Option.map_eq_some_iff] at h
  obtain ⟨m, h1, rfl⟩ := h
  obtain ⟨vs, e, g⟩ := hr
  exact ⟨vs, e, nameCs_rel hN hM h1 g⟩
 ·cases h
  have e : u = v := by have := hr.1; simp [own1] at this; exact this
  exact ⟨by rw [hM, e], hr.2⟩
 ·rename_i l
  cases hq : flatTs l with
  | false => rw [hq] at h; cases h
  | true =>
   rw [hq] at h
   cases h
   obtain ⟨vs, e, g⟩ := hr
   match vs, g with
   | x :: vs, g =>
    have e2 : u = x := by have := g.1.1; simp [own1] at this; exact this
    exact ⟨x :: vs, e, ⟨by rw [hM, e2], g.1.2⟩, flatTs_any hq g.2⟩
   | [], g => exact g.elim
 ·cases h
theorem all2_move {w : World} {N N' : Nat → Prop} {M M' : Map} (hN : ∀ b, N b → N' b) : ∀ {l : List CV} {vs : List Value}, allF l = true → All2 (RelC w N M) l vs → All2 (RelC w N' M') l vs
 | [], [], _, _ => trivial
 | x :: l, v :: vs, h, g => by
  simp only [allF, Bool.and_eq_true] at h
  exact ⟨isF_move hN h.1 g.1, all2_move hN h.2 g.2⟩
 | [], _ :: _, _, g => g.elim
 | _ :: _, [], _, g => g.elim
theorem namePs_rel {d b : Nat} {w : World} {N N' : Nat → Prop} {M' : Map} (hN : ∀ b, N b → N' b) (hM : M' d = some (.box b)) : ∀ {l l' : List CV} {vs : List Value}, namePs d l = some l' → All2 (RelC w N (box1 b)) l vs → All2 (RelC w N' M') l' vs := by
 intro l
 induction l with
 | nil => intro l' vs h; simp [namePs] at h
 | cons x l ih =>
  intro l' vs h g
  match vs, g with
  | [], g => exact g.elim
  | y :: vs, g =>
   unfold namePs at h
   split at h
   ·rename_i off l2 heq
    simp only [List.cons.injEq] at heq
    obtain ⟨rfl, rfl⟩ := heq
    cases hq : allF l with
    | false => rw [hq] at h; cases h
    | true =>
     rw [hq] at h
     cases h
     obtain ⟨b', g1, g2⟩ := g.1
     have e2 : b' = b := by simp [box1] at g1; exact g1.symm
     subst e2
     exact ⟨⟨_, hM, g2⟩, all2_move hN hq g.2⟩
   ·rename_i x' l2 _ heq
    simp only [List.cons.injEq] at heq
    obtain ⟨rfl, rfl⟩ := heq
    cases hq : isF x with
    | false => rw [hq] at h; cases h
    | true =>
     rw [hq] at h
     simp only [_root_.cond_true, Option.map_eq_some_iff] at h
     obtain ⟨m, h1, rfl⟩ := h
     exact ⟨isF_move hN hq g.1, ih h1 g.2⟩
   ·rename_i heq; cases heq
theorem nameF_rel {d b : Nat} {r r' : DV} {w : World} {v : Value} {N N' : Nat → Prop} {M' : Map} (hN : ∀ b, N b → N' b) (h : nameF d r = some r') (hr : RelD (RelC w N (box1 b)) r v) (hM : M' d = some (.box b)) : RelD (RelC w N' M') r' v := by
 unfold nameF at h
 split at h
 ·simp only [Option.map_eq_some_iff] at h
  obtain ⟨m, h1, rfl⟩ := h
  obtain ⟨vs, e, g⟩ := hr
  exact ⟨vs, e, namePs_rel hN hM h1 g⟩
 ·cases h
theorem toFDs_get : ∀ {l l' : List DV} {i : Nat} {y : DV}, toFDs st forb l = some l' → l'[i]? = some y → ∃ x, l[i]? = some x ∧ toFD st forb x = some y
 | [], l', i, y, h, g => by simp only [toFDs, Option.some.injEq] at h; subst h; simp at g
 | x :: l, l', i, y, h, g => by
  simp only [toFDs] at h
  split at h
  ·rename_i d ds h1 h2
   cases h
   cases i with
   | zero => simp only [List.getElem?_cons_zero, Option.some.injEq] at g; subst g; exact ⟨x, rfl, h1⟩
   | succ i => exact toFDs_get (l := l) h2 (by simpa using g)
  ·cases h
theorem flatC_F {w w' : World} {N N' : Nat → Prop} {M : Map} : ∀ {x : CV} {v : Value}, flatC x = true → RelC w N M x v → RelF w' N' x v
 | .v _, _, _, h => h
 | .sl _ _ _, _, h, _ | .px _ _ _, _, h, _ | .os _, _, h, _ | .p _ _, _, h, _ | .pe _ _ _ _, _, h, _ | .ob _ _ _ _, _, h, _ | .er _, _, h, _ | .any, _, h, _ => by simp [flatC] at h
theorem flatCs_F {w w' : World} {N N' : Nat → Prop} {M : Map} : ∀ {l : List CV} {vs : List Value}, flatCs l = true → All2 (RelC w N M) l vs → All2 (RelF w' N') l vs
 | [], [], _, _ => trivial
 | x :: l, v :: vs, h, g => by
  simp only [flatCs, Bool.and_eq_true] at h
  exact ⟨flatC_F h.1 g.1, flatCs_F h.2 g.2⟩
 | [], _ :: _, _, g => g.elim
 | _ :: _, [], _, g => g.elim
theorem gd_cut (ha : Abs w0 N0 Z M st a w) {B : Nat} (h : w0.heap.size ≤ B) (hB : B < w.heap.size) : Gd (cutW w B) := by
 refine Gd.below ha.defs.2.2 ⟨ha.below.os, ha.below.tape, ha.below.output, by rw [cutW_size hB]; exact h, fun b hb => ?_⟩
 have : (cutW w B).heap[b]? = w.heap[b]? := by
  simp only [cutW, Array.getElem?_extract]
  rw [if_pos (by omega)]; simp
 rw [this]
 exact ha.below.block b hb
theorem all2_two {α β : Type} {R : α → β → Prop} {x y : α} {l : List β} (h : All2 R [x, y] l) : ∃ u v, l = [u, v] ∧ R x u ∧ R y v := by
 match l, h with
 | [u, v], h => exact ⟨u, v, rfl, h.1, h.2.1⟩
 | [], h => exact h.elim
 | [_], h => exact h.2.elim
 | _ :: _ :: _ :: _, h => exact h.2.2.elim
theorem box_range {c : List CV} : (List.range c.length).map (boxC c) = c := by
 apply List.ext_getElem (by simp)
 intro i h1 h2
 simp [boxC, List.getD, h2]
theorem ptrsK_ok : ∀ {l : List CV} {i k : Nat}, ptrsK i l = some k → l = (List.range l.length).map fun j => CV.p k (i + j)
 | [], _, _, h => by simp [ptrsK] at h
 | [x], i, k, h => by
  cases x with
  | p k' off =>
   simp only [ptrsK] at h
   cases hq : Nat.beq off i with
   | false => rw [hq] at h; cases h
   | true =>
    rw [hq] at h
    cases h
    obtain rfl := Nat.eq_of_beq_eq_true hq
    rfl
  | _ => simp [ptrsK] at h
 | x :: y :: l, i, k, h => by
  cases x with
  | p k' off =>
   simp only [ptrsK] at h
   split at h
   ·rename_i k2 h2
    cases hq : (Nat.beq k' k2 && Nat.beq off i) with
    | false => rw [hq] at h; cases h
    | true =>
     rw [hq] at h
     cases h
     simp only [Bool.and_eq_true] at hq
     have e1 := Nat.eq_of_beq_eq_true hq.1
     have e2 := Nat.eq_of_beq_eq_true hq.2
     subst e1 e2
     have ih := ptrsK_ok h2
     rw [List.length_cons, List.range_succ_eq_map, List.map_cons, List.map_map]
     refine List.cons_eq_cons.2 ⟨rfl, ?_⟩
     rw [ih]
     simp only [List.length_map, List.length_range]
     refine List.map_congr_left fun j _ => ?_
     simp only [Function.comp]
     rw [show off + 1 + j = off + (j + 1) by omega]
   ·cases h
  | _ => simp [ptrsK] at h
theorem well_call (hS : Valid P S) (ha : Abs w0 N0 Z M st a w) {c : Call} (ho : o.op = .call c) {g : Operand} (hc : c.callee = .value g) {dg : DV} (hdg : opv st g = some dg) {ds : List DV} (hds : opvs st c.args.toList = some ds) {e : Eff} (he : callE S forb st o.dst (fnOf dg) ds = some e) (hp : e.pre) : Well P w0 N0 Z o a w (st.app o.dst e) := by
 have hg := fnOf_rel (opv_rel ha hdg)
 clear hdg
 generalize fnOf dg = dg at he hg
 have hargs := opvs_rel ha hds
 unfold callE at he
 split at he
 ·rename_i f caps
  obtain ⟨cs, hgv, hcaps⟩ := hg
  have hall : All2 (RelD (RelC w (fgn w0 N0 M) M)) (ds ++ caps.map fun x => .t (.c x)) (c.args.toList.map a.eval ++ cs) :=
   hargs.append (All2.map_left (hcaps.mono fun _ _ g => g))
  split at he
  ·rename_i aas has
   have hall1 : All2 (RelD (RelF w (fun _ => True))) aas (c.args.toList.map a.eval ++ cs) := toFDs_rel (R := RelC w (fgn w0 N0 M) M) (R' := RelF w (fun _ => True)) (fun _ => true) (fun x y v _ h2 h3 => toF_rel ha (fun _ _ => trivial) (fun _ _ => trivial) h2 h3) (fun _ _ => good_true) has hall
   have fin : ∀ (r : DV) (pre : Option Prop) (fr : Fre) (N : Nat → Prop), e = ⟨r, [], pre⟩ → (fr = .no ∨ fr = .new) → S f aas = some (r, pre, fr) → (∀ w' v, RetOk w N w' r v fr → RelD (RelF w' (resN w N fr)) r v) → All2 (RelD (RelF w N)) aas (c.args.toList.map a.eval ++ cs) → (flatA r = true ∨ ∀ b, resN w N fr b → fgn w0 N0 M b) → Well P w0 N0 Z o a w (st.app o.dst e) := by
    intro r pre fr N ee hfr hSf hrt h1 h2
    subst ee
    have hX : ∃ (hen : Enters P f), Calls P f (c.args.toList.map a.eval ++ cs).toArray w fun e w'' => ∃ v, e = .returned v ∧ RetOk w N w'' r v fr ∧ Below w.heap.size w w'' := by
     rcases hfr with rfl | rfl
     ·obtain ⟨hen, hcall⟩ := hS f aas r pre .no hSf hp
      exact ⟨hen, hcall w N _ ha.gd h1⟩
     ·obtain ⟨hen, hcall⟩ := hS f aas r pre .new hSf hp
      exact ⟨hen, hcall w N _ ha.gd h1⟩
    obtain ⟨hen, hcall⟩ := hX
    refine .call f _ w (run_call hen ho hc hgv) ?_
    refine Calls.mono hcall ?_
    rintro e w'' ⟨v, rfl, h3, h4⟩
    have h3 := hrt w'' v h3
    refine ⟨v, rfl, M, ha.put h4 o.dst fun dv e => ?_⟩
    cases e
    rcases h2 with h2 | h2
    ·exact flatA_rel h2 h3
    ·exact RelD.mono (fun x u g => RelC.ofF (g.all h2)) h3
   split at he
   ·rename_i r pre R hSf
    split at he
    rotate_left
    ·cases he
    rename_i d hd
    split at he
    rotate_left
    ·cases he
    rename_i r' hat hnm
    cases hq : (Nat.blt d st.h.length && isRow R) with
    | false => rw [hq] at he; cases he
    | true =>
     rw [hq] at he
     cases he
     simp only [Bool.and_eq_true] at hq
     have q1 : d < st.h.length := Nat.le_of_ble_eq_true hq.1
     obtain ⟨hen, hcall⟩ := hS f aas r pre (.own R) hSf hp
     refine .call f _ w (run_call hen ho hc hgv) ?_
     refine Calls.mono (hcall w _ _ ha.gd hall1) ?_
     rintro e w'' ⟨v, rfl, h3, h4⟩
     obtain ⟨u, k1, k2⟩ := h3
     have hq2 := hq.2
     have key : (∀ b, u.ownBlock = some b → w.heap.size ≤ b ∧ b < w''.heap.size) ∧ R.alive = true ∧ ∀ M' : Map, M' d = some (.row u) → RelR w'' w0.heap.size (fgn w0 N0 M') M' d R := by
      cases R with
      | gen ty sz l =>
       obtain ⟨v', xs, e1, e2, e3, e4⟩ := k2
       have : u = v' := by simpa [own1] using e1
       subst this
       exact ⟨ownsRow_blk e2, rfl, fun M' hM' => ⟨u, xs, hM', ownsRow_base e2 ha.below.size, e3, e4.mono fun _ _ g => g.all fun b hb => hb.elim⟩⟩
      | num ty kd l =>
       obtain ⟨v', e1, e2⟩ := k2
       have : u = v' := by simpa [own1] using e1
       subst this
       exact ⟨ownsRow_blk e2, rfl, fun M' hM' => ⟨u, hM', ownsRow_base e2 ha.below.size⟩⟩
      | box ty c => cases hq2
      | dead => cases hq2
     obtain ⟨M', hA⟩ := ha.adopt d (r := R) (u := .row u) (x := r') (v := v) hat q1 key.2.1 h4 key.1 key.2.2 (fun M' hM' hoth => nameD_rel (fun b hb => ⟨fun h => absurd (Nat.lt_of_lt_of_le h ha.below.size) (by have := hb.1; omega), fun k l hk hl => by
      by_cases e : k = d
      ·subst e; rw [hM'] at hk; cases hk; exact hb.2 hl
      ·rw [hoth k e] at hk; have := (ha.own k l b hk hl).2; have := hb.1; omega⟩) hnm k1 hM')
     refine ⟨v, rfl, M', ?_⟩
     rw [hd]
     exact hA
   ·rename_i r pre ty c hSf
    split at he
    rotate_left
    ·cases he
    rename_i d hd
    split at he
    rotate_left
    ·cases he
    rename_i r' hat hnm
    cases hq : (Nat.blt d st.h.length && flatCs c) with
    | false => rw [hq] at he; cases he
    | true =>
     rw [hq] at he
     cases he
     simp only [Bool.and_eq_true] at hq
     have q1 : d < st.h.length := Nat.le_of_ble_eq_true hq.1
     obtain ⟨hen, hcall⟩ := hS f aas r pre (.clo ty c) hSf hp
     refine .call f _ w (run_call hen ho hc hgv) ?_
     refine Calls.mono (hcall w _ _ ha.gd hall1) ?_
     rintro e w'' ⟨v, rfl, h3, h4⟩
     obtain ⟨b, cs, k1, k2, k3, k4⟩ := h3
     obtain ⟨M', hA⟩ := ha.adopt d (r := .box ty c) (u := .box b) (x := r') (v := v) hat q1 rfl h4 (fun b' e => by cases e; exact ⟨k1, (Array.getElem?_eq_some_iff.1 k2).1⟩)
      (fun M' hM' => ⟨b, cs, hM', k2, k3.mono fun _ _ g => RelC.ofF (g.all fun b hb => hb.elim)⟩)
      (fun M' hM' hoth => nameF_rel (fun b' hb => ⟨fun h => absurd (Nat.lt_of_lt_of_le h ha.below.size) (by have := hb.1; omega), fun k l hk hl => by
       by_cases e : k = d
       ·subst e; rw [hM'] at hk; cases hk; exact hb.2 (by cases hl; rfl)
       ·rw [hoth k e] at hk; have := (ha.own k l b' hk hl).2; have := hb.1; omega⟩) hnm k4 hM')
     refine ⟨v, rfl, M', ?_⟩
     rw [hd]
     exact hA
   ·rename_i r pre j ty cs' hSf
    split at he
    rotate_left
    ·cases he
    rename_i k n c0 hj1 hj2
    split at he
    rotate_left
    ·cases he
    rename_i ty' cs0 hat
    have hat : st.at k = some (.box ty' cs0) := by
     unfold DS.rd at hat
     cases e : forb k with
     | true => rw [e] at hat; cases hat
     | false => rw [e] at hat; exact hat
    cases hq : (Nat.beq ty ty' && (Nat.beq n cs0.length && (!ownDs (ds.eraseIdx j)))) with
    | false => rw [hq] at he; cases he
    | true =>
     rw [hq] at he
     cases he
     simp only [Bool.and_eq_true, Bool.not_eq_true'] at hq
     obtain ⟨q1, q2, q3⟩ := hq
     have q1 := Nat.eq_of_beq_eq_true q1
     have q2 := Nat.eq_of_beq_eq_true q2
     subst q1
     subst q2
     simp only [List.map_nil, List.append_nil] at has hall
     have ecs : cs = [] := by
      cases cs with
      | nil => rfl
      | cons x l => exact hcaps.elim
     subst ecs
     simp only [List.append_nil] at hall hall1
     obtain ⟨u, hu1, hu2⟩ := hargs.get hj1
     obtain ⟨b, hMk, rfl⟩ := hu2
     obtain ⟨b', cells, e1, e2, e3⟩ := ha.row k _ hat
     rw [hMk] at e1
     cases e1
     have hlen : cells.size = cs0.length := by simpa using e3.length.symm
     have hpt : ∀ i x v, i ≠ j → aas[i]? = some x → (c.args.toList.map a.eval)[i]? = some v → RelD (RelF w (fun b1 => fgn w0 N0 M b1 ∧ b1 ≠ b)) x v := by
      intro i x v hi h1 h2
      obtain ⟨y, g1, g2⟩ := toFDs_get has h1
      obtain ⟨v', g3, g4⟩ := hall.get g1
      rw [h2] at g3
      cases g3
      have g5 := ownDs_good q3 y (List.mem_eraseIdx_iff_getElem?.2 ⟨i, hi, g1⟩)
      have g6 : RelD (RelF w (fgn w0 N0 M)) x v := toFD_rel (R := RelC w (fgn w0 N0 M) M) isF (fun x y v h1 h2 h3 => toF_id h1 h2 h3) g5 g2 g4
      exact RelD.mono (fun x u g => g.all fun b1 hb => ⟨hb, fun e => hb.2 k _ hMk (by rw [e]; rfl)⟩) g6
     obtain ⟨hen, hcall⟩ := hS f aas r pre (.wr j ty cs') hSf hp
     refine .call f _ w (run_call hen ho hc hgv) ?_
     simp only [List.append_nil]
     refine Calls.mono (hcall w (fgn w0 N0 M) _ ha.gd ⟨hall1, b, cells, hu1, e2, ⟨c0, by rw [hlen]; exact hj2⟩, hpt, gd_cut ha (ha.own k _ b hMk rfl).1 (ha.own k _ b hMk rfl).2⟩) ?_
     rintro e w'' ⟨v, rfl, ⟨k1, k2, k3⟩, B, cells', e4, e5, e6, fb⟩
     rw [hu1] at e4
     cases e4
     have hA := ha.setRow (cs := cells') (r' := .box ty cs') hat rfl hMk rfl (fun stp => ⟨b, cells', hMk, setRow_heap _ _ _ _ _ _ e2, flatCs_rel k2 e6⟩) rfl
     have hbel : Below (w.setRow b cells').heap.size (w.setRow b cells') w'' := by
      refine ⟨fb.os, fb.tape, fb.output, by simpa using fb.size, fun i hi => ?_⟩
      by_cases e : i = b
      ·rw [e, e5, setRow_heap _ _ _ _ _ _ e2]
      ·rw [fb.block i (by simpa using hi) e, setRow_other _ _ _ _ e]
     refine ⟨v, rfl, M, hA.put hbel o.dst fun dv e => ?_⟩
     cases e
     exact flatD_rel k1 k3
   ·rename_i r pre hSf
    cases hq : ((!ownDs (ds ++ caps.map fun x => .t (.c x))) || flatA r) with
    | false => rw [hq] at he; cases he
    | true =>
     rw [hq] at he
     cases he
     simp only [Bool.or_eq_true, Bool.not_eq_true'] at hq
     cases hown : ownDs (ds ++ caps.map fun x => .t (.c x)) with
     | false =>
      refine fin r pre .no (fgn w0 N0 M) rfl (Or.inl rfl) hSf (fun _ _ h => h) (toFDs_rel (R := RelC w (fgn w0 N0 M) M) (R' := RelF w (fgn w0 N0 M)) isF (fun x y v h1 h2 h3 => toF_id h1 h2 h3) (ownDs_good hown) has hall) (Or.inr fun b hb => ?_)
      rcases hb with ⟨_, hb⟩ | hb
      ·exact hb
      ·exact fgn_new ha hb
     | true =>
      refine fin r pre .no (fun _ => True) rfl (Or.inl rfl) hSf (fun _ _ h => h) hall1 (Or.inl ?_)
      rcases hq with hq | hq
      ·rw [hown] at hq; cases hq
      ·exact hq
   ·rename_i r pre hSf
    cases he
    refine fin r pre .new (fun _ => True) rfl (Or.inr rfl) hSf (fun _ _ h => h) hall1 (Or.inr fun b hb => ?_)
    rcases hb with ⟨hb, _⟩ | hb
    ·cases hb
    ·exact fgn_new ha hb
   ·cases he
  ·split at he
   rotate_left
   ·cases he
   rename_i x ka off sz n htf
   split at he
   rotate_left
   ·cases he
   rename_i tya ptrs hata
   split at he
   rotate_left
   ·cases he
   rename_i k hptr
   split at he
   rotate_left
   ·cases he
   rename_i ty cs0 x' hatk hx'
   cases hq : (Nat.beq off 0 && (Nat.beq sz 1 && (Nat.blt 0 n && (Nat.beq ptrs.length n && (Nat.beq cs0.length n && (flatCs cs0 && (!ownDs [x]))))))) with
   | false => rw [hq] at he; cases he
   | true =>
   rw [hq] at he
   simp only [_root_.cond_true] at he
   split at he
   rotate_left
   ·cases he
   rename_i r pre tya' ty' cs' hSf
   cases hq2 : (Nat.beq tya tya' && Nat.beq ty ty') with
   | false => rw [hq2] at he; cases he
   | true =>
   rw [hq2] at he
   cases he
   simp only [Bool.and_eq_true, Bool.not_eq_true'] at hq hq2
   obtain ⟨q0, q00, q1, q2, q3, q4, q5⟩ := hq
   have q0 := Nat.eq_of_beq_eq_true q0
   have q00 := Nat.eq_of_beq_eq_true q00
   have q1 : 0 < n := Nat.le_of_ble_eq_true q1
   have q2 := Nat.eq_of_beq_eq_true q2
   have q3 := Nat.eq_of_beq_eq_true q3
   have q6 := Nat.eq_of_beq_eq_true hq2.1
   have q7 := Nat.eq_of_beq_eq_true hq2.2
   subst q0 q00 q6 q7
   have hata := rd_at hata
   have hatk := rd_at hatk
   have ecs : cs = [] := by
    cases cs with
    | nil => rfl
    | cons u l => exact hcaps.elim
   subst ecs
   obtain ⟨v0, v1, ev, r0, r1⟩ := all2_two hargs
   have hpt := ptrsK_ok hptr
   rw [q2] at hpt
   have r1 : RelC w (fgn w0 N0 M) M (.ob ka 0 1 n) v1 := r1
   obtain ⟨bA, pc, g1, g2, g3⟩ := ha.row ka _ hata
   obtain ⟨bB, cells, g4, g5, g6⟩ := ha.row k _ hatk
   rcases r1 with ⟨b, cap, hM, hv, hn, hm⟩ | ⟨b, c', o', cap, hM, _⟩
   rotate_left
   ·rw [hM] at g1; cases g1
   rw [hM] at g1
   cases g1
   subst hv
   have hne : ka ≠ k := by
    rintro rfl
    rw [hata] at hatk
    cases hatk
    cases n with
    | zero => omega
    | succ n =>
     rw [hpt, List.range_succ_eq_map, List.map_cons] at q4
     simp [flatCs, flatC] at q4
   have hAB : bA ≠ bB := fun e => hne (ha.apart ka k _ _ _ _ bA hata rfl hatk rfl hM g4 rfl (by rw [e]; rfl))
   have hpc : pc.toList = (List.range n).map fun i => Value.pointer (some ⟨bB, i, none⟩) := by
    rw [hpt] at g3
    have hl : pc.toList.length = n := by rw [← g3.length]; simp
    apply List.ext_getElem (by simp [hl])
    intro i h1 h2
    have hi : i < n := by omega
    have e1 : ((List.range n).map fun j => CV.p k (0 + j))[i]? = some (.p k (0 + i)) := by simp [hi]
    obtain ⟨u, e2, e3⟩ := g3.get e1
    obtain ⟨b2, e4, e5⟩ := e3
    rw [g4] at e4
    cases e4
    rw [List.getElem?_eq_getElem h1] at e2
    simp only [Option.some.injEq] at e2
    rw [e2, e5]
    simp
   have hcells : All2 (RelF w (fun _ => True)) ((List.range n).map (boxC cs0)) cells.toList := by
    rw [← q3, box_range]
    exact flatCs_F q4 g6
   have hx0 : RelD (RelF w (fun b1 => fgn w0 N0 M b1 ∧ b1 ≠ bA ∧ b1 ≠ bB)) x' v0 := by
    have g7 := ownDs_good q5 x (by simp)
    have g8 : RelD (RelF w (fgn w0 N0 M)) x' v0 := toFD_rel (R := RelC w (fgn w0 N0 M) M) isF (fun x y v h1 h2 h3 => toF_id h1 h2 h3) g7 hx' r0
    exact RelD.mono (fun x u g => g.all fun b1 hb => ⟨hb, fun e => hb.2 ka _ hM (by rw [e]; rfl), fun e => hb.2 k _ g4 (by rw [e]; rfl)⟩) g8
   obtain ⟨hen, hcall⟩ := hS f [x', .t (.c (.px n 0 (boxC cs0)))] r pre (.wrs tya ty cs') hSf hp
   refine .call f _ w (run_call hen ho hc hgv) ?_
   simp only [List.append_nil]
   rw [ev]
   refine Calls.mono (hcall w (fgn w0 N0 M) _ ha.gd ⟨x', n, boxC cs0, v0, bA, cap, pc, bB, cells, rfl, rfl, hn, hm, q1, hAB, g2, hpc, g5, hcells, hx0, by
    have o1 := ha.own ka _ bA hM rfl
    have o2 := ha.own k _ bB g4 rfl
    exact gd_cut ha (by omega) (by omega)⟩) ?_
   rintro e w'' ⟨v, rfl, ⟨k1, k2, k3⟩, A, n', cap', pc', B, cells', e4, e5, e6, e7, e8, fb⟩
   simp only [List.getElem?_cons_succ, List.getElem?_cons_zero, Option.some.injEq, Value.slice.injEq, Addr.mk.injEq, and_true] at e4
   obtain ⟨rfl, _, _⟩ := e4
   rw [g2] at e5
   cases e5
   have e6 : B = bB := by
    have h1 : pc.toList[0]? = some (.pointer (some ⟨B, 0, none⟩)) := by simpa using e6
    rw [hpc] at h1
    simp [q1] at h1
    exact h1.symm
   subst e6
   have hA := ha.setRow (cs := cells') (r' := .box ty cs') hatk rfl g4 rfl (fun stp => ⟨B, cells', g4, setRow_heap _ _ _ _ _ _ g5, flatCs_rel k2 e8⟩) rfl
   have hbel : Below (w.setRow B cells').heap.size (w.setRow B cells') w'' := by
    refine ⟨fb.os, fb.tape, fb.output, by simpa using fb.size, fun i hi => ?_⟩
    by_cases e : i = B
    ·rw [e, e7, setRow_heap _ _ _ _ _ _ g5]
    ·rw [fb.block i (by simpa using hi) e, setRow_other _ _ _ _ e]
   refine ⟨v, rfl, M, hA.put hbel o.dst fun dv e => ?_⟩
   cases e
   exact flatD_rel k1 k3
 ·rename_i f l
  obtain ⟨vs, hgv, hvs⟩ := hg
  have hall : All2 (RelD (RelC w (fgn w0 N0 M) M)) (.t (.a l) :: ds) (.agg vs.toArray :: c.args.toList.map a.eval) := ⟨⟨vs, rfl, hvs⟩, hargs⟩
  split at he
  ·rename_i aas has
   have hall1 : All2 (RelD (RelF w (fun _ => True))) aas (.agg vs.toArray :: c.args.toList.map a.eval) := toFDs_rel (R := RelC w (fgn w0 N0 M) M) (R' := RelF w (fun _ => True)) (fun _ => true) (fun x y v _ h2 h3 => toF_rel ha (fun _ _ => trivial) (fun _ _ => trivial) h2 h3) (fun _ _ => good_true) has hall
   have fin : ∀ (r : DV) (pre : Option Prop) (fr : Fre) (N : Nat → Prop), e = ⟨r, [], pre⟩ → (fr = .no ∨ fr = .new) → S f aas = some (r, pre, fr) → (∀ w' v, RetOk w N w' r v fr → RelD (RelF w' (resN w N fr)) r v) → All2 (RelD (RelF w N)) aas (.agg vs.toArray :: c.args.toList.map a.eval) → (flatA r = true ∨ ∀ b, resN w N fr b → fgn w0 N0 M b) → Well P w0 N0 Z o a w (st.app o.dst e) := by
    intro r pre fr N ee hfr hSf hrt h1 h2
    subst ee
    have hX : ∃ (hen : Enters P f), Calls P f (.agg vs.toArray :: c.args.toList.map a.eval).toArray w fun e w'' => ∃ v, e = .returned v ∧ RetOk w N w'' r v fr ∧ Below w.heap.size w w'' := by
     rcases hfr with rfl | rfl
     ·obtain ⟨hen, hcall⟩ := hS f aas r pre .no hSf hp
      exact ⟨hen, hcall w N _ ha.gd h1⟩
     ·obtain ⟨hen, hcall⟩ := hS f aas r pre .new hSf hp
      exact ⟨hen, hcall w N _ ha.gd h1⟩
    obtain ⟨hen, hcall⟩ := hX
    refine .call f _ w (run_callB hen ho hc hgv) ?_
    refine Calls.mono hcall ?_
    rintro e w'' ⟨v, rfl, h3, h4⟩
    have h3 := hrt w'' v h3
    refine ⟨v, rfl, M, ha.put h4 o.dst fun dv e => ?_⟩
    cases e
    rcases h2 with h2 | h2
    ·exact flatA_rel h2 h3
    ·exact RelD.mono (fun x u g => RelC.ofF (g.all h2)) h3
   split at he
   ·rename_i r pre hSf
    cases hq : ((!ownDs (.t (.a l) :: ds)) || flatD r) with
    | false => rw [hq] at he; cases he
    | true =>
     rw [hq] at he
     cases he
     simp only [Bool.or_eq_true, Bool.not_eq_true'] at hq
     cases hown : ownDs (.t (.a l) :: ds) with
     | false =>
      refine fin r pre .no (fgn w0 N0 M) rfl (Or.inl rfl) hSf (fun _ _ h => h) (toFDs_rel (R := RelC w (fgn w0 N0 M) M) (R' := RelF w (fgn w0 N0 M)) isF (fun x y v h1 h2 h3 => toF_id h1 h2 h3) (ownDs_good hown) has hall) (Or.inr fun b hb => ?_)
      rcases hb with ⟨_, hb⟩ | hb
      ·exact hb
      ·exact fgn_new ha hb
     | true =>
      refine fin r pre .no (fun _ => True) rfl (Or.inl rfl) hSf (fun _ _ h => h) hall1 (Or.inl ?_)
      rcases hq with hq | hq
      ·rw [hown] at hq; cases hq
      ·exact flatD_A hq
   ·rename_i r pre hSf
    cases he
    refine fin r pre .new (fun _ => True) rfl (Or.inr rfl) hSf (fun _ _ h => h) hall1 (Or.inr fun b hb => ?_)
    rcases hb with ⟨hb, _⟩ | hb
    ·cases hb
    ·exact fgn_new ha hb
   ·cases he
  ·cases he
 ·cases he
theorem well_makeFunc (ha : Abs w0 N0 Z M st a w) {f : FuncId} {first caps : Array Operand} (ho : o.op = .makeFunc (.func f) first caps) (h0 : first.size = 0) {e : Eff} (he : (((opvs st caps.toList).bind cvs).map fun l => val (.t (.fn f l))) = some e) : Well P w0 N0 Z o a w (st.app o.dst e) := by
 simp only [Option.map_eq_some_iff, Option.bind_eq_some_iff] at he
 obtain ⟨l, ⟨ds, h1, h2⟩, rfl⟩ := he
 have hr := opvs_rel ha h1
 have key : ∀ {ds : List DV} {l : List CV} {vs : List Value}, cvs ds = some l → All2 (RelD (RelC w (fgn w0 N0 M) M)) ds vs → All2 (RelC w (fgn w0 N0 M) M) l vs := by
  intro ds
  induction ds with
  | nil => intro l vs h g; simp only [cvs, Option.some.injEq] at h; subst h; cases vs <;> first | trivial | exact g.elim
  | cons d ds ih =>
   intro l vs h g
   match d, h with
   | .t (.c x), h =>
    simp only [cvs, Option.map_eq_some_iff] at h
    obtain ⟨l', h1, rfl⟩ := h
    match vs, g with
    | v :: vs, g => exact ⟨g.1, ih h1 g.2⟩
    | [], g => exact g.elim
   | .t (.a _), h => simp [cvs] at h
   | .t (.fn _ _), h => simp [cvs] at h
   | .t (.fb _ _), h => simp [cvs] at h
   | .tu _, h => simp [cvs] at h
 refine Well.val ha (d := .t (.fn f l)) (v := .func (.func f) #[] (caps.toList.map a.eval).toArray) ?_ ⟨_, rfl, key h2 hr⟩
 have h3 : first = #[] := Array.eq_empty_of_size_eq_zero h0
 unfold execOp
 simp [ho, Instr.makeFunc, h3]
 apply Array.toList_inj.1
 simp
theorem well_makeBound (ha : Abs w0 N0 Z M st a w) {f : FuncId} {first caps : Array Operand} (ho : o.op = .makeFunc (.func f) first caps) (h0 : caps.size = 0) {e : Eff} (he : fbE f (opvs st first.toList) = some e) : Well P w0 N0 Z o a w (st.app o.dst e) := by
 unfold fbE at he
 split at he
 case h_2 => cases he
 rename_i l h1
 cases he
 have hr := opvs_rel ha h1
 have key : ∀ {us : List Value}, All2 (RelD (RelC w (fgn w0 N0 M) M)) [.t (.a l)] us → ∃ vs : List Value, us = [.agg vs.toArray] ∧ All2 (RelC w (fgn w0 N0 M) M) l vs := by
  intro us h
  match us, h with
  | [u], h =>
   obtain ⟨vs, e1, g⟩ := h.1
   exact ⟨vs, by rw [e1], g⟩
  | [], h => exact h.elim
  | _ :: _ :: _, h => exact h.2.elim
 obtain ⟨vs, hv, g⟩ := key hr
 refine Well.val ha (d := .t (.fb f l)) (v := .func (.func f) #[.agg vs.toArray] #[]) ?_ ⟨vs, rfl, g⟩
 have h3 : caps = #[] := Array.eq_empty_of_size_eq_zero h0
 have h4 : first.map a.eval = #[.agg vs.toArray] := by apply Array.toList_inj.1; rw [Array.toList_map, hv]
 unfold execOp
 simp [ho, Instr.makeFunc, h3, h4]
theorem run_len {c : Call} (ho : o.op = .call c) (hc : c.callee = .builtin .len) {x : Operand} {t : TypeId} (h1 : c.args.toList = [x]) (h2 : c.argTypes.toList = [t]) {v : Value} (hr : (Builtin.len_ #[t] o.type #[a.eval x]).run P w = .ok v w) :
  (execOp a.eval o).run P w = .ok (.value v) w := by
 have e1 : c.args = #[x] := Array.toList_inj.1 h1
 have e2 : c.argTypes = #[t] := Array.toList_inj.1 h2
 unfold execOp
 simp [ho, resolve, hc, e1, e2, invoke, builtin, hr]
theorem well_len (hT : TabOK P T) (ha : Abs w0 N0 Z M st a w) {c : Call} (ho : o.op = .call c) (hc : c.callee = .builtin .len) {x : Operand} {t : TypeId} (h1 : c.args.toList = [x]) (h2 : c.argTypes.toList = [t]) {e : Eff} (he : (opv st x).bind (lenE T forb st t) = some e) : Well P w0 N0 Z o a w (st.app o.dst e) := by
 simp only [Option.bind_eq_some_iff] at he
 obtain ⟨d, hd, he⟩ := he
 have hx := opv_rel ha hd
 have go : ∀ {el : TypeId} {s1 s2 : Nat} {z : List Value} {q : Bool} {ao : Option Addr} {n cap : Nat}, T t = some ⟨.sl el, s1, s2, z, q⟩ → a.eval x = .slice ao n cap → Well P w0 N0 Z o a w (st.app o.dst (val (dI n))) := by
  intro el s1 s2 z q ao n cap ht hv
  refine Well.val ha (d := dI n) (v := .int .i64 n) (run_len ho hc h1 h2 ?_) ⟨rfl, rfl⟩
  simp [hv, Builtin.len_, run_underlying ((hT t _ ht).sl rfl), goInt]
 have gown : ∀ {base : Nat} {e : TypeId} {sz : Nat} {v : Value} {n : Nat} {xs : List Value}, w.ownsRow base e sz v n xs → ∃ ao cap, v = .slice ao n cap := by
  intro base e sz v n xs h
  rcases h.2 with ⟨rfl, rfl⟩ | ⟨g, cap, cur, rfl, _⟩
  ·exact ⟨_, _, rfl⟩
  ·exact ⟨_, _, rfl⟩
 unfold lenE at he
 split at he
 ·split at he
  ·rename_i el s1 s2 z q ht
   cases he
   obtain ⟨ao, cap, hv, _⟩ := hx
   exact go ht hv
  ·cases he
 ·rename_i k
  obtain ⟨hM, _⟩ := hx
  split at he
  ·rename_i el s1 s2 z q ty sz l ht hrow
   cases he
   obtain ⟨v', xs, g1, g2, _⟩ := ha.row k _ (rd_at hrow)
   rw [hM] at g1; cases g1
   obtain ⟨ao, cap, hv⟩ := gown g2
   exact go ht hv
  ·rename_i el s1 s2 z q ty kd l ht hrow
   cases he
   obtain ⟨v', g1, g2⟩ := ha.row k _ (rd_at hrow)
   rw [hM] at g1; cases g1
   obtain ⟨ao, cap, hv⟩ := gown g2
   exact go ht hv
  ·cases he
 ·split at he
  ·rename_i el s1 s2 z q ht
   cases he
   exact go ht hx.1
  ·cases he
 ·rename_i k off sz n
  split at he
  ·rename_i el s1 s2 z q ht
   cases he
   have hx : RelC w (fgn w0 N0 M) M (.ob k off sz n) (a.eval x) := hx
   rcases hx with ⟨b, cap, hM, hv, _⟩ | ⟨b, c', o', cap, hM, _, hv, _⟩
   ·exact go ht hv
   ·exact go ht hv
  ·cases he
 ·rename_i s
  split at he
  ·rename_i s1 s2 z q ht
   cases he
   refine Well.val ha (d := dI s.size) (v := .int .i64 s.size) (run_len ho hc h1 h2 ?_) ⟨rfl, rfl⟩
   rw [show a.eval x = .string s from hx.1]
   simp [Builtin.len_, run_underlying ((hT t _ ht).str rfl), goInt]
  ·cases he
 ·cases he
theorem toValues_eq {R : CV → Value → Prop} (hR : ∀ y u, R (.v y) u → u = y) : ∀ {l : List DV} {vs us : List Value}, toValues l = some vs → All2 (RelD R) l us → us = vs
 | [], vs, [], h, _ => by simp only [toValues, Option.some.injEq] at h; exact h
 | d :: l, vs, u :: us, h, g => by
  simp only [toValues] at h
  split at h
  ·rename_i v ws h1 h2
   cases h
   rw [toValue_eq hR h1 g.1, toValues_eq hR h2 g.2]
  ·cases h
 | [], _, _ :: _, _, g => g.elim
 | _ :: _, _, [], _, g => g.elim
theorem well_bi (ha : Abs w0 N0 Z M st a w) {c : Call} (ho : o.op = .call c) {b : Builtin} (hc : c.callee = .builtin b) {f : Array Value → Sem Value} {e : Eff} (he : plainN P f (opvs st c.args.toList) = some e) (hb : ∀ consts vs, builtin b c.argTypes o.type consts vs = (do pure (.value (← f vs)) : Sem Next) := by intro _ _; rfl) : Well P w0 N0 Z o a w (st.app o.dst e) := by
 unfold plainN at he
 cases hx : opvs st c.args.toList with
 | none => rw [hx] at he; simp at he
 | some ds =>
  rw [hx] at he
  simp only [Option.bind_some] at he
  split at he
  ·rename_i vs hvs
   simp only [Option.map_eq_some_iff, Option.bind_eq_some_iff] at he
   obtain ⟨d, ⟨r, h1, h2⟩, rfl⟩ := he
   have e1 := toValues_eq relC_v' hvs (opvs_rel ha hx)
   have e2 : c.args.map a.eval = vs.toArray := by apply Array.toList_inj.1; rw [Array.toList_map, e1]
   refine Well.val ha (v := r) ?_ (ofValue_rel relC_v h2)
   unfold execOp
   simp only [ho, resolve, hc, invoke, Sem.run_bind, Sem.run_pure, Result.andThen_ok, e2, hb, pureRun_run _ h1]
  ·cases he
theorem exec0_sound (hT : TabOK P T) (hS : Valid P S) (ha : Abs w0 N0 Z M st a w) {e : Eff} (he : exec0 P T S forb st o = some e) (hp : e.pre) : Well P w0 N0 Z o a w (st.app o.dst e) := by
 unfold exec0 at he
 split at he
 ·rename_i x ho; exact well_move ha (Or.inl ho) he
 ·rename_i x ho; exact well_move ha (Or.inr ho) he
 ·rename_i c x y ho
  split at he
  ·rename_i t hc; exact well_pick ha ho hc he hp
  ·cases he
 ·rename_i t ho
  split at he
  ·rename_i i hi
   cases h1 : oneAll i.zero with
   | false => rw [h1] at he; cases he
   | true => rw [h1] at he; exact well_alloc0 hT ha ho hi h1 he
  ·cases he
 ·rename_i t x ho; exact well_box hT ha ho he
 ·rename_i t parts ho; exact well_build hT ha ho he
 ·rename_i t n parts ho; exact well_buildSlice hT ha ho he
 ·rename_i t x ho; exact well_load hT ha ho he hp
 ·rename_i t x y ho
  split at he
  ·rename_i dx dy h1 h2; exact well_store hT ha ho h1 h2 he hp
  ·cases he
 ·rename_i x ho; exact well_nil ha ho he
 ·rename_i op xt x y yt ho
  cases hd : isDiv op with
  | true => rw [hd] at he; exact well_div ha ho he hp
  | false =>
   rw [hd] at he
   simp only [cond_false] at he
   cases hd2 : isShift op with
   | true => rw [hd2] at he; exact well_shift ha ho he hp
   | false =>
   rw [hd2] at he
   simp only [cond_false] at he
   split at he
   ·rename_i e' heq
    cases he
    exact eqE_sound hT ha ho heq
   split at he
   ·rename_i e' heq
    cases he
    exact strE_sound ha ho heq hp
   ·refine plain2_sound ha he fun w => ?_
    unfold execOp
    simp only [ho]
 ·rename_i op t x ho
  refine plain1_sound ha he fun w => ?_
  unfold execOp
  simp only [ho]
 ·rename_i src dst x ho
  refine plain1_sound ha he fun w => ?_
  unfold execOp
  simp only [ho]
 ·rename_i f first caps ho
  cases hq : Nat.beq first.size 0 with
  | false =>
   rw [hq] at he
   simp only [_root_.cond_false] at he
   cases hc : Nat.beq caps.size 0 with
   | false => rw [hc] at he; cases he
   | true => rw [hc] at he; exact well_makeBound ha ho (Nat.eq_of_beq_eq_true hc) he
  | true => rw [hq] at he; exact well_makeFunc ha ho (Nat.eq_of_beq_eq_true hq) he
 ·rename_i s x f ho; exact well_fieldAddr hT ha ho he
 ·rename_i s x f ho; exact well_field hT ha ho he
 ·rename_i t x y ho
  split at he
  ·rename_i dx dy h1 h2; exact well_indexAddr hT ha ho h1 h2 he hp
  ·cases he
 ·rename_i x i ho; exact well_extract ha ho he
 ·rename_i t x ho; exact well_arrPtr hT ha ho he hp
 ·rename_i t x y ho
  split at he
  ·rename_i dx dy h1 h2; exact well_index hT ha ho h1 h2 he hp
  ·cases he
 ·rename_i t x y ho
  split at he
  ·rename_i dx dy h1 h2; exact well_make hT ha ho h1 h2 he hp
  ·cases he
 ·rename_i t x lo hi mx ho
  simp only [Option.bind_eq_some_iff] at he
  obtain ⟨d, hd, he⟩ := he
  exact well_slice hT ha ho hd he hp
 ·rename_i c ho
  split at he
  ·rename_i hc
   split at he
   ·rename_i x t h1 h2; exact well_len hT ha ho hc h1 h2 he
   ·cases he
  ·rename_i hc
   split at he
   ·rename_i x y t t' h1 h2
    split at he
    ·rename_i dx dy hx hy
     cases hq : Nat.beq t t' with
     | false => rw [hq] at he; cases he
     | true =>
      rw [hq] at he
      obtain rfl := Nat.eq_of_beq_eq_true hq
      exact well_append hT ha ho hc h1 h2 hx hy he hp
    ·cases he
   ·cases he
  ·rename_i hc; exact well_bi ha ho hc he
  ·rename_i hc; exact well_bi ha ho hc he
  ·rename_i f hc
   split at he
   ·rename_i dg ds h1 h2; exact well_call hS ha ho hc h1 h2 he hp
   ·cases he
  ·cases he
 ·cases he
theorem exec_inv {e : Eff} (he : exec P T S forb st o = some e) : exec0 P T S forb st o = some e ∧ okUp forb o e.up = true := by
 unfold exec at he
 split at he
 ·rename_i e' h
  cases hq : okUp forb o e'.up with
  | false => rw [hq] at he; cases he
  | true => rw [hq] at he; cases he; exact ⟨h, hq⟩
 ·cases he
theorem exec_sound (hT : TabOK P T) (hS : Valid P S) (ha : Abs w0 N0 Z M st a w) {e : Eff} (he : exec P T S forb st o = some e) (hp : e.pre) : Well P w0 N0 Z o a w (st.app o.dst e) :=
 exec0_sound hT hS ha (exec_inv he).1 hp
end Go.Proofs.YtfadkjcfjkmalaaGreatDoor.Ev
set_option linter.unusedVariables false
set_option linter.unusedSimpArgs false
namespace Go.Proofs.YtfadkjcfjkmalaaGreatDoor.Ev
open Go.RowKit
variable {w0 : World} {N0 : Nat → Prop} {Z : Pins} {P : Program} {T : Tab} {S : Sum} {M : Map} {a : Act} {w : World}
def wantE (ops : List Oper) (st : DS) (o : Oper) : Option Bool :=
 match o.guard with
 | none => some true
 | some (j, want) => match (ops[j]?).bind (·.dst) with
  | none => some false
  | some g => match st.tm g with
   | some (.t (.c (.v (.bool b)))) => some (b == want)
   | some (.tu []) => some false
   | _ => none
def runE (P : Program) (T : Tab) (S : Sum) (forb : Nat → Bool) (o : Oper) (st : DS) (k : DS → Prop) : Prop :=
 match exec P T S forb st o with
 | some e => match e.pr with
  | none => k (st.app o.dst e)
  | some p => p ∧ k (st.app o.dst e)
 | none => False
def forceL {α : Type} {β : Sort 1} : List α → (List α → β) → β
 | [], k => k []
 | a :: l, k => forceL l fun l' => k (a :: l')
theorem forceL_eq {α : Type} {β : Sort 1} : ∀ (l : List α) (k : List α → β), forceL l k = k l
 | [], k => rfl
 | a :: l, k => forceL_eq l fun l' => k (a :: l')
def forceS {β : Sort 1} (st : DS) (k : DS → β) : β := forceL st.t fun t => forceL st.h fun h => k ⟨t, h⟩
theorem forceS_eq {β : Sort 1} (st : DS) (k : DS → β) : forceS st k = k st := by
 unfold forceS
 rw [forceL_eq, forceL_eq]
def forceT {β : Sort 1} (st : DS) (k : DS → β) : β := forceL st.t fun t => k ⟨t, st.h⟩
theorem forceT_eq {β : Sort 1} (st : DS) (k : DS → β) : forceT st k = k st := by
 unfold forceT
 rw [forceL_eq]
def evOp0 (P : Program) (T : Tab) (S : Sum) (ops : List Oper) (forb : Nat → Bool) (o : Oper) (st : DS) (k : DS → Prop) : Prop :=
 match o.guard with
 | none => runE P T S forb o st k
 | some (j, want) => match (ops[j]?).bind (·.dst) with
  | none => k (st.putO o.dst (some noV))
  | some g => match st.tm g with
   | some (.t (.c (.v (.bool b)))) => cond b
     (cond want (runE P T S forb o (st.putO (some g) (some (dB true))) k) (k ((st.putO (some g) (some (dB true))).putO o.dst (some noV))))
     (cond want (k ((st.putO (some g) (some (dB false))).putO o.dst (some noV))) (runE P T S forb o (st.putO (some g) (some (dB false))) k))
   | some (.tu []) => k (st.putO o.dst (some noV))
   | _ => False
def evOp (P : Program) (T : Tab) (S : Sum) (ops : List Oper) (forb : Nat → Bool) (o : Oper) (st : DS) (k : DS → Prop) : Prop := evOp0 P T S ops forb o st fun s => forceT s k
def step (P : Program) (T : Tab) (S : Sum) (ops : List Oper) (forb : Nat → Bool) (o : Oper) (st : DS) : Option (Prop × DS) :=
 match wantE ops st o with
 | some true => (exec P T S forb st o).map fun e => (e.pre, st.app o.dst e)
 | some false => some (True, st.putO o.dst (some noV))
 | none => none
theorem put_same {st : DS} {i : Nat} {x : DV} (hx : st.tm i = some x) : st.putO (some i) (some x) = st := by
 unfold DS.putO
 simp only
 congr 1
 apply List.ext_getElem?
 intro j
 rw [List.getElem?_set]
 unfold DS.tm at hx
 split
 ·rename_i e; subst e
  split
  ·rename_i h2
   cases h3 : st.t[i]? with
   | none => rw [h3] at hx; cases hx
   | some o => rw [h3] at hx; simp at hx; rw [hx]
  ·rename_i h2
   rw [List.getElem?_eq_none (by omega)]
 ·rfl
theorem runE_iff {forb : Nat → Bool} {o : Oper} {st : DS} {k : DS → Prop} : runE P T S forb o st k ↔ ∃ e, exec P T S forb st o = some e ∧ e.pre ∧ k (st.app o.dst e) := by
 unfold runE
 split
 ·rename_i e he
  have key : (match e.pr with
   | none => k (st.app o.dst e)
   | some p => p ∧ k (st.app o.dst e)) ↔ e.pre ∧ k (st.app o.dst e) := by
   unfold Eff.pre okP
   cases e.pr with
   | none => exact ⟨fun h => ⟨trivial, h⟩, fun h => h.2⟩
   | some p => exact Iff.rfl
  rw [key]
  exact ⟨fun h => ⟨e, he, h⟩, fun ⟨e', h1, h2⟩ => by rw [he] at h1; cases h1; exact h2⟩
 ·rename_i he; exact ⟨fun h => h.elim, fun ⟨e', h1, h2⟩ => by rw [he] at h1; cases h1⟩
theorem evOp_iff {ops : List Oper} {forb : Nat → Bool} {o : Oper} {st : DS} {k : DS → Prop} : evOp P T S ops forb o st k ↔ ∃ p st', step P T S ops forb o st = some (p, st') ∧ p ∧ k st' := by
 have hrun : ∀ {st : DS}, wantE ops st o = some true → (runE P T S forb o st k ↔ ∃ p st', step P T S ops forb o st = some (p, st') ∧ p ∧ k st') := by
  intro st hw
  unfold step
  rw [hw, runE_iff]
  simp only [Option.map_eq_some_iff, Prod.mk.injEq]
  constructor
  ·rintro ⟨e, h1, h2, h3⟩; exact ⟨e.pre, _, ⟨e, h1, rfl, rfl⟩, h2, h3⟩
  ·rintro ⟨p, st', ⟨e, h1, rfl, rfl⟩, h2, h3⟩; exact ⟨e, h1, h2, h3⟩
 have hskip : ∀ {st : DS}, wantE ops st o = some false → (k (st.putO o.dst (some noV)) ↔ ∃ p st', step P T S ops forb o st = some (p, st') ∧ p ∧ k st') := by
  intro st hw
  unfold step
  rw [hw]
  constructor
  ·intro h; exact ⟨_, _, rfl, trivial, h⟩
  ·rintro ⟨p, st', h1, h2, h3⟩; cases h1; exact h3
 unfold evOp
 simp only [forceT_eq]
 unfold evOp0
 split
 ·rename_i hg; exact hrun (by unfold wantE; rw [hg])
 ·rename_i j want hg
  split
  ·rename_i hd; exact hskip (by unfold wantE; rw [hg]; simp only; rw [hd])
  ·rename_i g hd
   split
   ·rename_i b hb
    have hw : wantE ops st o = some (b == want) := by unfold wantE; rw [hg]; simp only; rw [hd]; simp only; rw [hb]
    cases b with
    | true =>
     simp only [cond_true]
     rw [show st.putO (some g) (some (dB true)) = st from put_same hb]
     cases want with
     | true => exact hrun (by rw [hw]; rfl)
     | false => exact hskip (by rw [hw]; rfl)
    | false =>
     simp only [cond_false]
     rw [show st.putO (some g) (some (dB false)) = st from put_same hb]
     cases want with
     | true => exact hskip (by rw [hw]; rfl)
     | false => exact hrun (by rw [hw]; rfl)
   ·rename_i hb; exact hskip (by unfold wantE; rw [hg]; simp only; rw [hd]; simp only; rw [hb])
   ·rename_i h1 h2
    refine ⟨fun h => h.elim, fun ⟨p, st', h3, _⟩ => ?_⟩
    unfold step wantE at h3
    rw [hg] at h3
    simp only at h3
    rw [hd] at h3
    simp only at h3
    cases h3
theorem exec_nd {forb : Nat → Bool} {o : Oper} {st : DS} {e : Eff} (h : exec P T S forb st o = some e) : ∀ c, o.op ≠ .defer c := by
 intro c hc
 unfold exec at h
 have h0 : exec0 P T S forb st o = none := by unfold exec0; rw [hc]
 rw [h0] at h
 simp at h
theorem step_sound {ro : Option Nat} (hT : TabOK P T) (hS : Valid P S) {ops : Array Oper} {forb : Nat → Bool} {o : Oper} {st st' : DS} {p : Prop} (ha : Abs w0 N0 Z M st a w) (h : step P T S ops.toList forb o st = some (p, st')) (hp : p) {K : Act → World → Prop} {Q : Exit → Act → World → Prop} (hK : ∀ M' a' w', Abs w0 N0 Z M' st' a' w' → K a' w') :
  if Region.wanted o (yielded ops a.tmps) then o.wpIn (fen ro) 0 P a w K Q else (∀ f, o.about P w a.eval = some f → (fen ro).fn f) ∧ K (a.put o.dst undef) w := by
 have hw : ∀ b, wantE ops.toList st o = some b → Region.wanted o (yielded ops a.tmps) = b := by
  intro b hb
  unfold wantE at hb
  unfold Region.wanted
  split at hb
  ·rename_i hg; cases hb; rw [hg]
  ·rename_i j want hg
   rw [hg]
   simp only
   unfold yielded
   simp only [Array.getElem?_toList] at hb
   split at hb
   ·rename_i hd; cases hb; rw [hd]; rfl
   ·rename_i g hd
    rw [hd]
    simp only [Option.bind_some]
    split at hb
    ·rename_i c hc
     cases hb
     obtain ⟨v, h1, h2⟩ := ha.tmp g _ hc
     rw [h1, show v = .bool c from h2.1]
     cases c <;> cases want <;> rfl
    ·rename_i hc
     cases hb
     obtain ⟨v, h1, vs, h2, h3⟩ := ha.tmp g _ hc
     rw [h1, h2]; rfl
    ·cases hb
 unfold step at h
 split at h
 ·rename_i hb
  rw [hw _ hb]
  simp only [Option.map_eq_some_iff, Prod.mk.injEq] at h
  obtain ⟨e, h1, rfl, rfl⟩ := h
  simp only [if_true]
  exact (exec_sound hT hS ha h1 hp).wp (exec_nd h1) hK
 ·rename_i hb
  rw [hw _ hb]
  cases h
  simp only [Bool.false_eq_true, if_false]
  refine ⟨fun f _ => fen_fn ro f, hK _ _ _ (ha.put (Below.refl _ _) o.dst fun dv e => ?_)⟩
  cases e
  exact ⟨[], rfl, trivial⟩
 ·cases h
@[reducible] def Item := Nat × Oper × (Nat → Bool)
def evItems (P : Program) (T : Tab) (S : Sum) (ops : List Oper) : List Item → DS → (DS → Prop) → Prop
 | [], st, k => k st
 | (_, o, f) :: l, st, k => evOp P T S ops f o st fun st' => evItems P T S ops l st' k
def noForb : Nat → Bool := fun _ => false
def evOps (P : Program) (T : Tab) (S : Sum) (ops : List Oper) : List Oper → DS → (DS → Prop) → Prop
 | [], st, k => k st
 | o :: l, st, k => evOp P T S ops noForb o st fun st' => evOps P T S ops l st' k
theorem evOps_sound {ro : Option Nat} (hT : TabOK P T) (hS : Valid P S) {ops : Array Oper} {Q : Exit → Act → World → Prop} {k : DS → Prop} (hQ : ∀ M' st' a' w', k st' → Abs w0 N0 Z M' st' a' w' → Q .normal a' w') : ∀ (l : List Oper) {M : Map} {st : DS} {a : Act} {w : World}, Abs w0 N0 Z M st a w → evOps P T S ops.toList l st k → wpListIn (fen ro) 0 P ops Q l a w
 | [], M, st, a, w, ha, h => hQ _ _ _ _ h ha
 | o :: l, M, st, a, w, ha, h => by
  simp only [evOps] at h
  rw [evOp_iff] at h
  obtain ⟨p, st', h1, h2, h3⟩ := h
  exact step_sound hT hS ha h1 h2 fun M' a' w' ha' => evOps_sound hT hS hQ l ha' h3
theorem region_text {ro : Option Nat} (hT : TabOK P T) (hS : Valid P S) {ops : Array Oper} {id : Nat} {Q : Exit → Act → World → Prop} {k : DS → Prop} (hQ : ∀ M' st' a' w', k st' → Abs w0 N0 Z M' st' a' w' → Q .normal a' w') {st : DS} (ha : Abs w0 N0 Z M st a w) (h : evOps P T S ops.toList ops.toList st k) : (Code.region id ops false).wpIn (fen ro) 0 P Q a w :=
 wpIn_region_list (evOps_sound hT hS hQ _ ha h)
end Go.Proofs.YtfadkjcfjkmalaaGreatDoor.Ev