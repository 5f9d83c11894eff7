/- Texts of this claim, together. -/
import Derived.Test.YtfadkjcfjkmalaaGreatDoorKE1
import Derived.CallsIn
import Derived.Great.FillDense
import Derived.Great.BuildSlice
import Derived.Laws.MakeOwn
import Derived.Laws.OwnMore

set_option linter.unusedVariables false
set_option linter.unusedSimpArgs false
namespace Go.Proofs.YtfadkjcfjkmalaaGreatDoor.Ev
open Go.RowKit
variable {w0 : World} {N0 : Nat → Prop} {Z : Pins} {P : Program} {T : Tab} {S : Sum} {forb : Nat → Bool} {M : Map} {st : DS} {a : Act} {w : World} {o : Oper}
theorem run_ti {t : TypeId} {i : TypeInfo} (h : P.info? t = some i) (w : World) : (typeInfo t).run P w = .ok i w := by simp [typeInfo, program, Sem.run, h]
theorem TyOK.desc {t : TypeId} {i : TyI} (h : TyOK P t i) : ∃ d, P.underlying t = some d ∧ shOf d = i.sh := by
 have := h.und
 cases e : P.underlying t with
 | none => rw [e] at this; cases this
 | some d => rw [e] at this; exact ⟨d, rfl, by simpa using this⟩
theorem TyOK.inf {t : TypeId} {i : TyI} (h : TyOK P t i) : ∃ x, P.info? t = some x ∧ x.size = i.size ∧ x.bytes = i.bytes ∧ ∃ z, x.zero = some z ∧ z.cells.toList = i.zero := by
 have h1 := h.info
 have h2 := h.zero
 cases e : P.info? t with
 | none => rw [e] at h1; cases h1
 | some x =>
  rw [e] at h1 h2
  simp only [Option.map_some, Option.some.injEq, Prod.mk.injEq, Option.bind_some] at h1 h2
  cases e2 : x.zero with
  | none => rw [e2] at h2; cases h2
  | some z => rw [e2] at h2; exact ⟨x, rfl, h1.1, h1.2, z, e2, by simpa using h2⟩
theorem TyOK.isAgg {t : TypeId} {i : TyI} (h : TyOK P t i) (w : World) : (Go.isAgg t).run P w = .ok i.sh.agg w := by
 obtain ⟨d, h1, h2⟩ := h.desc
 rw [← h2]
 simp only [Go.isAgg, Sem.run_bind, run_underlying h1, Result.andThen_ok]
 cases d <;> rfl
theorem TyOK.sizeOf {t : TypeId} {i : TyI} (h : TyOK P t i) (w : World) : (Go.sizeOf t).run P w = .ok i.size w := by
 obtain ⟨x, h1, h2, _⟩ := h.inf
 simp [Go.sizeOf, run_ti h1, h2]
theorem TyOK.zeroValue {t : TypeId} {i : TyI} (h : TyOK P t i) (w : World) : ∃ z, (Go.zeroValue t).run P w = .ok z w ∧ z.cells.toList = i.zero := by
 obtain ⟨x, h1, _, _, z, h2, h3⟩ := h.inf
 exact ⟨z, by simp [Go.zeroValue, run_ti h1, h2], h3⟩
theorem TyOK.arr {t : TypeId} {i : TyI} {n : Nat} {e : TypeId} (h : TyOK P t i) (hs : i.sh = .ar n e) : P.underlying t = some (.array n e) := by
 obtain ⟨d, h1, h2⟩ := h.desc
 rw [hs] at h2
 cases d <;> simp only [shOf, Sh.ar.injEq] at h2 <;> first | (cases h2; done) | skip
 rw [h1, h2.1, h2.2]
theorem TyOK.sl {t : TypeId} {i : TyI} {e : TypeId} (h : TyOK P t i) (hs : i.sh = .sl e) : P.underlying t = some (.slice e) := by
 obtain ⟨d, h1, h2⟩ := h.desc
 rw [hs] at h2
 cases d <;> simp only [shOf, Sh.sl.injEq] at h2 <;> first | (cases h2; done) | skip
 rw [h1, h2]
theorem TyOK.str {t : TypeId} {i : TyI} (h : TyOK P t i) (hs : i.sh = .str) : P.underlying t = some .string := by
 obtain ⟨d, h1, h2⟩ := h.desc
 rw [hs] at h2
 cases d <;> first | (cases h2; done) | exact h1
theorem TyOK.strct {t : TypeId} {i : TyI} {fs : List (Nat × TypeId)} (h : TyOK P t i) (hs : i.sh = .st fs) : ∃ F, P.underlying t = some (.struct F) ∧ F.toList.map (fun f => (f.offset, f.type)) = fs := by
 obtain ⟨d, h1, h2⟩ := h.desc
 rw [hs] at h2
 cases d <;> simp only [shOf, Sh.st.injEq] at h2 <;> first | (cases h2; done) | skip
 exact ⟨_, h1, h2⟩
theorem allV_rel {R : CV → Value → Prop} (hR : ∀ y u, R (.v y) u → u = y) : ∀ {l : List CV} {vs us : List Value}, allV l = some vs → All2 R l us → us = vs
 | [], _, [], h, _ => by simp only [allV, Option.some.injEq] at h; exact h
 | .v x :: l, vs, u :: us, h, g => by
  simp only [allV, Option.map_eq_some_iff] at h
  obtain ⟨ws, h1, h2⟩ := h
  subst h2
  rw [hR x u g.1, allV_rel hR h1 g.2]
 | [], _, _ :: _, _, g => g.elim
 | .v _ :: _, _, [], _, g => g.elim
 | .sl _ _ _ :: _, _, _, h, _ | .px _ _ _ :: _, _, _, h, _ | .os _ :: _, _, _, h, _ | .p _ _ :: _, _, _, h, _ | .pe _ _ _ _ :: _, _, _, h, _ | .ob _ _ _ _ :: _, _, _, h, _ | .er _ :: _, _, _, h, _ | .any :: _, _, _, h, _ => by simp [allV] at h
theorem toValue_eq {R : CV → Value → Prop} (hR : ∀ y u, R (.v y) u → u = y) {d : DV} {x v : Value} (h : toValue d = some x) (hr : RelD R d v) : v = x := by
 match d, h, hr with
 | .t (.c (.v y)), h, hr => simp only [toValue, Option.some.injEq] at h; rw [← h]; exact hR y v hr
 | .t (.a l), h, hr =>
  simp only [toValue, Option.map_eq_some_iff] at h
  obtain ⟨vs, h1, h2⟩ := h
  obtain ⟨us, h3, h4⟩ := hr
  rw [h3, ← h2, allV_rel hR h1 h4]
 | .t (.c (.sl _ _ _)), h, _ | .t (.c (.px _ _ _)), h, _ | .t (.c (.os _)), h, _ | .t (.c (.p _ _)), h, _ | .t (.c (.pe _ _ _ _)), h, _ | .t (.c (.ob _ _ _ _)), h, _ | .t (.c (.er _)), h, _ | .t (.c .any), h, _ | .t (.fn _ _), h, _ | .t (.fb _ _), h, _ | .tu _, h, _ => simp [toValue] at h
theorem all2_v {R : CV → Value → Prop} (hR : ∀ y, y.oneCell' = true → R (.v y) y) : ∀ {l : List Value}, oneAll l = true → All2 R (l.map CV.v) l
 | [], _ => trivial
 | y :: l, h => by
  simp only [oneAll, Bool.and_eq_true] at h
  exact ⟨hR y h.1, all2_v hR h.2⟩
theorem ofValue_rel {R : CV → Value → Prop} (hR : ∀ y, y.oneCell' = true → R (.v y) y) : ∀ {x : Value} {d : DV}, ofValue x = some d → RelD R d x := by
 intro x d h
 cases x <;> simp only [ofValue, Option.some.injEq, reduceCtorEq] at h <;> first | (subst h; exact hR _ rfl) | skip
 rename_i cs
 cases e : oneAll cs.toList with
 | false => rw [e] at h; cases h
 | true =>
  rw [e] at h
  simp only [cond_true, Option.some.injEq] at h
  subst h
  exact ⟨cs.toList, by simp, all2_v hR e⟩
theorem relC_v {N : Nat → Prop} : ∀ (y : Value), y.oneCell' = true → RelC w N M (.v y) y := fun y h => ⟨rfl, h⟩
theorem relC_v' {N : Nat → Prop} : ∀ (y u : Value), RelC w N M (.v y) u → u = y := fun y u h => h.1
theorem opv_rel (ha : Abs w0 N0 Z M st a w) {x : Operand} {d : DV} (h : opv st x = some d) : RelD (RelC w (fgn w0 N0 M) M) d (a.eval x) := by
 cases x with
 | tmp i =>
  obtain ⟨v, h1, h2⟩ := ha.tmp i d h
  have : a.eval (.tmp i) = v := by simp [Act.eval, Array.getD_eq_getD_getElem?, h1]
  rw [this]; exact h2
 | const v =>
  have h' : ofValue v = some d := by
   unfold opv at h
   split at h
   ·rename_i e; cases e
   ·cases h
   ·rename_i e; cases e; exact h
   ·rename_i e; cases e
   ·rename_i e; cases e
  exact ofValue_rel relC_v h'
 | func f =>
  simp only [opv, Option.some.injEq] at h
  subst h
  exact ⟨[], rfl, trivial⟩
 | _ => simp [opv] at h
theorem opvs_rel (ha : Abs w0 N0 Z M st a w) : ∀ {l : List Operand} {ds : List DV}, opvs st l = some ds → All2 (RelD (RelC w (fgn w0 N0 M) M)) ds (l.map a.eval)
 | [], ds, h => by simp only [opvs, Option.some.injEq] at h; subst h; trivial
 | x :: l, ds, h => by
  simp only [opvs] at h
  split at h
  ·rename_i d es h1 h2
   simp only [Option.some.injEq] at h; subst h
   exact ⟨opv_rel ha h1, opvs_rel ha h2⟩
  ·cases h
theorem cellsOf_rel {R : CV → Value → Prop} (hone : ∀ x v, R x v → v.oneCell' = true) {d : DV} {c : List CV} {v : Value} (h : cellsOf d = some c) (hr : RelD R d v) : All2 R c v.cells.toList := by
 match d, h, hr with
 | .t (.c x), h, hr =>
  simp only [cellsOf, Option.some.injEq] at h
  subst h
  have h1 := hone x v hr
  have : v.cells = #[v] := by cases v <;> first | rfl | (simp [Value.oneCell'] at h1; done)
  rw [this]
  exact ⟨hr, trivial⟩
 | .t (.a l), h, hr =>
  simp only [cellsOf, Option.some.injEq] at h
  subst h
  obtain ⟨us, h3, h4⟩ := hr
  rw [h3]
  simpa [Value.cells] using h4
 | .t (.fn _ _), h, _ | .t (.fb _ _), h, _ | .tu _, h, _ => simp [cellsOf] at h
inductive Well (P : Program) (w0 : World) (N0 : Nat → Prop) (Z : Pins) (o : Oper) (a : Act) (w : World) (st' : DS) : Prop where
 | value (v : Value) (M' : Map) (w' : World) (h : (execOp a.eval o).run P w = .ok (.value v) w') (ha : Abs w0 N0 Z M' st' (a.put o.dst v) w')
 | skip (M' : Map) (w' : World) (h : (execOp a.eval o).run P w = .ok .skip w') (ha : Abs w0 N0 Z M' st' (a.put o.dst undef) w')
 | call (f : FuncId) (args : Array Value) (w' : World) (h : (execOp a.eval o).run P w = .ok (.enter f args) w') (hc : Calls P f args w' fun e w'' => ∃ v, e = .returned v ∧ ∃ M', Abs w0 N0 Z M' st' (a.put o.dst v) w'')
def fen : Option Nat → Fence
 | none => Fence.wide
 | some l => Fence.wide.inRound l
theorem fen_fn (ro : Option Nat) (f : FuncId) : (fen ro).fn f := by cases ro <;> trivial
theorem fen_depth (ro : Option Nat) {n : Nat} : (fen ro).depth.isSome = true → 1 ≤ n := by cases ro <;> (intro h; cases h)
theorem fen_calls {ro : Option Nat} {n : Nat} {f : FuncId} {args : Array Value} {R : Ending → World → Prop} (h : Calls P f args w R) : CallsIn (fen ro) n P f args w R := by
 cases ro with
 | none => exact callsIn_wide.2 h
 | some l => exact (callsIn_wide (n := n)).2 h
theorem Well.wp {st' : DS} {ro : Option Nat} (hnd : ∀ c, o.op ≠ .defer c) (h : Well P w0 N0 Z o a w st') {K : Act → World → Prop} {Q : Exit → Act → World → Prop} (hK : ∀ M' a' w', Abs w0 N0 Z M' st' a' w' → K a' w') : o.wpIn (fen ro) 0 P a w K Q := by
 unfold Oper.wpIn
 refine ⟨fun f _ => fen_fn ro f, ?_⟩
 rw [Oper.semAt_eq _ _ _ hnd]
 cases h with
 | value v M' w' h ha => rw [h]; exact hK _ _ _ ha
 | skip M' w' h ha => rw [h]; exact hK _ _ _ ha
 | call f args w' h hc =>
  rw [h]
  refine ⟨fen_depth ro, fen_calls (Calls.mono hc ?_)⟩
  rintro e w'' ⟨v, rfl, M', ha⟩
  exact hK _ _ _ ha
theorem Well.val (ha : Abs w0 N0 Z M st a w) {d : DV} {v : Value} (h : (execOp a.eval o).run P w = .ok (.value v) w) (hr : RelD (RelC w (fgn w0 N0 M) M) d v) {p : Option Prop} : Well P w0 N0 Z o a w (st.app o.dst ⟨d, [], p⟩) :=
 .value v M w h (ha.putV o.dst hr)
theorem well_move (ha : Abs w0 N0 Z M st a w) {x : Operand} (ho : o.op = .move x ∨ o.op = .assign x) {e : Eff} (he : (opv st x).map val = some e) : Well P w0 N0 Z o a w (st.app o.dst e) := by
 simp only [Option.map_eq_some_iff] at he
 obtain ⟨d, h1, rfl⟩ := he
 refine Well.val ha (v := a.eval x) ?_ (opv_rel ha h1)
 unfold execOp
 rcases ho with ho | ho <;> (rw [ho]; rfl)
theorem plain2_sound (ha : Abs w0 N0 Z M st a w) {x y : Operand} {f : Value → Value → Sem Value} {e : Eff} (he : plain2 P f (opv st x) (opv st y) = some e) (ho : ∀ w, (execOp a.eval o).run P w = (do pure (.value (← f (a.eval x) (a.eval y))) : Sem Next).run P w) : Well P w0 N0 Z o a w (st.app o.dst e) := by
 unfold plain2 at he
 cases hx : opv st x with
 | none => rw [hx] at he; simp at he
 | some dx =>
  cases hy : opv st y with
  | none => rw [hx, hy] at he; simp at he
  | some dy =>
   rw [hx, hy] at he
   simp only [Option.bind_some] at he
   split at he
   ·rename_i u v hu hv
    simp only [Option.map_eq_some_iff, Option.bind_eq_some_iff] at he
    obtain ⟨d, ⟨r, h1, h2⟩, rfl⟩ := he
    have e1 := toValue_eq relC_v' hu (opv_rel ha hx)
    have e2 := toValue_eq relC_v' hv (opv_rel ha hy)
    refine Well.val ha (v := r) ?_ (ofValue_rel relC_v h2)
    rw [ho, e1, e2]
    simp only [Sem.run_bind, pureRun_run _ h1, Result.andThen_ok]
    rfl
   ·cases he
theorem plain1_sound (ha : Abs w0 N0 Z M st a w) {x : Operand} {f : Value → Sem Value} {e : Eff} (he : plain1 P f (opv st x) = some e) (ho : ∀ w, (execOp a.eval o).run P w = (do pure (.value (← f (a.eval x))) : Sem Next).run P w) : Well P w0 N0 Z o a w (st.app o.dst e) := by
 unfold plain1 at he
 cases hx : opv st x with
 | none => rw [hx] at he; simp at he
 | some dx =>
  rw [hx] at he
  simp only [Option.bind_some] at he
  split at he
  ·rename_i u hu
   simp only [Option.map_eq_some_iff, Option.bind_eq_some_iff] at he
   obtain ⟨d, ⟨r, h1, h2⟩, rfl⟩ := he
   have e1 := toValue_eq relC_v' hu (opv_rel ha hx)
   refine Well.val ha (v := r) ?_ (ofValue_rel relC_v h2)
   rw [ho, e1]
   simp only [Sem.run_bind, pureRun_run _ h1, Result.andThen_ok]
   rfl
  ·cases he
def aggV (i : TyI) (xs : List Value) (x : Value) : Prop := (i.sh.agg = true ∧ x = .agg xs.toArray) ∨ (i.sh.agg = false ∧ xs = [x])
theorem part_run (hT : TabOK P T) {t : TypeId} {i : TyI} (hi : T t = some i) {xs : List Value} {o : Nat} (ho : o + i.size ≤ xs.length) (hs : i.sh.agg = false → i.size = 1) (w : World) : ∃ v, (part t xs.toArray o).run P w = .ok v w ∧ aggV i ((xs.drop o).take i.size) v := by
 have h1 := (hT t i hi).isAgg w
 have h2 := (hT t i hi).sizeOf w
 cases hg : i.sh.agg with
 | true =>
  rw [hg] at h1
  exact ⟨.agg ((xs.drop o).take i.size).toArray, by simp [part, h1, h2], Or.inl ⟨hg, rfl⟩⟩
 | false =>
  rw [hg] at h1
  have h3 := hs hg
  have hlt : o < xs.length := by omega
  refine ⟨xs[o], by simp [part, h1, hlt], Or.inr ⟨hg, ?_⟩⟩
  rw [h3, List.drop_eq_getElem_cons hlt]
  rfl
theorem eqFs_run (hT : TabOK P T) {d : Nat} {rec : TypeId → List Value → List Value → Option Bool} (hr : ∀ {t : TypeId} {i : TyI} {xs ys : List Value} {b : Bool} {x y : Value}, T t = some i → rec t xs ys = some b → aggV i xs x → aggV i ys y → ∀ w, (Op.equalIn d t x y).run P w = .ok b w) {xs ys : List Value} :
  ∀ {F : List Field} {b : Bool}, eqFs rec T xs ys (F.map fun f => (f.offset, f.type)) = some b → F.all (fun f => f.name != "_") = true → ∀ w, (Op.eqFields d xs.toArray ys.toArray F).run P w = .ok b w
 | [], b, h, _, w => by
  simp only [List.map_nil, eqFs, Option.some.injEq] at h
  subst h; rfl
 | f :: F, b, h, hn, w => by
  simp only [List.all_cons, Bool.and_eq_true, bne_iff_ne, ne_eq] at hn
  simp only [List.map_cons, eqFs] at h
  split at h
  ·rename_i i hi
   cases hq : (Nat.ble (f.offset + i.size) xs.length && Nat.ble (f.offset + i.size) ys.length && (i.sh.agg || Nat.beq i.size 1)) with
   | false => rw [hq] at h; cases h
   | true =>
    rw [hq] at h
    simp only [Bool.not_true, cond_false] at h
    simp only [Bool.and_eq_true, Bool.or_eq_true] at hq
    have hs : i.sh.agg = false → i.size = 1 := fun e => by
     rcases hq.2 with h1 | h1
     ·rw [e] at h1; cases h1
     ·exact Nat.eq_of_beq_eq_true h1
    split at h
    ·rename_i b1 b2 h1 h2
     cases h
     obtain ⟨u, r1, a1⟩ := part_run (P := P) hT hi (Nat.le_of_ble_eq_true hq.1.1) hs w
     obtain ⟨v, r2, a2⟩ := part_run (P := P) hT hi (Nat.le_of_ble_eq_true hq.1.2) hs w
     have r3 := hr hi h1 a1 a2 w
     have r4 := eqFs_run hT hr h2 hn.2 w
     simp only [Op.eqFields, if_pos hn.1, Sem.run_bind, r1, r2, r3, Result.andThen_ok]
     cases b1 with
     | false => simp
     | true => simpa using r4
    ·cases h
  ·cases h
theorem eqEs_run (hT : TabOK P T) {d : Nat} {e : TypeId} {ei : TyI} (hei : T e = some ei) {rec : List Value → List Value → Option Bool} (hr : ∀ {xs ys : List Value} {b : Bool} {x y : Value}, rec xs ys = some b → aggV ei xs x → aggV ei ys y → ∀ w, (Op.equalIn d e x y).run P w = .ok b w) {xs ys : List Value} (hs : ei.sh.agg = false → ei.size = 1) :
  ∀ {n k : Nat} {b : Bool}, eqEs rec ei.size xs ys n k = some b → (k + n) * ei.size ≤ xs.length → (k + n) * ei.size ≤ ys.length → ∀ w,
   (do
    let r ← forIn (List.range' k n 1) ((none, ()) : Option Bool × Unit) fun i r => do
     let a ← part e xs.toArray (i * ei.size)
     let c ← part e ys.toArray (i * ei.size)
     let q ← Op.equalIn d e a c
     if (!q) = true then pure (ForInStep.done (some false, ())) else pure (ForInStep.yield (none, ()))
    match r.fst with
     | some a => pure a
     | none => pure true : Sem Bool).run P w = .ok b w
 | 0, k, b, h, _, _, w => by
  simp only [eqEs, Option.some.injEq] at h
  subst h; simp
 | n + 1, k, b, h, h1, h2, w => by
  simp only [eqEs] at h
  split at h
  ·rename_i b1 b2 g1 g2
   cases h
   have hk : k * ei.size + ei.size ≤ (k + (n + 1)) * ei.size := by rw [← Nat.succ_mul]; exact Nat.mul_le_mul_right _ (by omega)
   obtain ⟨u, r1, a1⟩ := part_run (P := P) hT hei (xs := xs) (o := k * ei.size) (by omega) hs w
   obtain ⟨v, r2, a2⟩ := part_run (P := P) hT hei (xs := ys) (o := k * ei.size) (by omega) hs w
   have r3 := hr g1 a1 a2 w
   have r4 := eqEs_run hT hei hr hs g2 (by rw [show k + 1 + n = k + (n + 1) by omega]; exact h1) (by rw [show k + 1 + n = k + (n + 1) by omega]; exact h2) w
   rw [List.range'_succ, List.forIn_cons]
   simp only [bind_assoc, Sem.run_bind, r1, r2, r3, Result.andThen_ok]
   cases b1 with
   | false => simp
   | true => simpa using r4
  ·cases h
theorem eqV_run (hT : TabOK P T) : ∀ (d : Nat) {t : TypeId} {i : TyI} {xs ys : List Value} {b : Bool} {x y : Value}, T t = some i → eqV T d t xs ys = some b → aggV i xs x → aggV i ys y → ∀ w, (Op.equalIn d t x y).run P w = .ok b w
 | 0, t, i, xs, ys, b, x, y, hi, h, _, _, w => by simp [eqV] at h
 | d + 1, t, i, xs, ys, b, x, y, hi, h, hx, hy, w => by
  obtain ⟨D, hu, hD⟩ := (hT t i hi).desc
  unfold eqV at h
  rw [hi] at h
  simp only at h
  have one : ∀ {v z : Value}, i.sh.agg = false → aggV i [v] z → z = v := by
   intro v z e h
   rcases h with ⟨h1, _⟩ | ⟨_, h2⟩
   ·rw [e] at h1; cases h1
   ·cases h2; rfl
  have agg : ∀ {l : List Value} {z : Value}, i.sh.agg = true → aggV i l z → z = .agg l.toArray := by
   intro l z e h
   rcases h with ⟨_, h1⟩ | ⟨h1, _⟩
   ·exact h1
   ·rw [e] at h1; cases h1
  split at h
  ·rename_i k hsh
   have hag : i.sh.agg = false := by rw [hsh]; rfl
   split at h
   ·have hx := one hag hx
    have hy := one hag hy
    rename_i k1 a1 k2 a2 _ _
    subst hx; subst hy
    cases hq : decide (k1 = k2) with
    | false => rw [hq] at h; cases h
    | true =>
     rw [hq] at h; cases h
     obtain rfl := of_decide_eq_true hq
     rw [hsh] at hD
     cases D <;> first | (cases hD; done) | skip
     simp [Op.equalIn, run_underlying hu]
   ·cases h
  ·rename_i hsh
   have hag : i.sh.agg = false := by rw [hsh]; rfl
   split at h
   ·have hx := one hag hx
    have hy := one hag hy
    subst hx; subst hy
    cases h
    rw [hsh] at hD
    cases D <;> first | (cases hD; done) | skip
    simp [Op.equalIn, run_underlying hu]
   ·cases h
  ·rename_i hsh
   have hag : i.sh.agg = false := by rw [hsh]; rfl
   split at h
   ·have hx := one hag hx
    have hy := one hag hy
    subst hx; subst hy
    cases h
    rw [hsh] at hD
    cases D <;> first | (cases hD; done) | skip
    simp [Op.equalIn, run_underlying hu]
   ·cases h
  ·rename_i fs hsh
   have hag : i.sh.agg = true := by rw [hsh]; rfl
   have hx := agg hag hx
   have hy := agg hag hy
   subst hx; subst hy
   cases hq : (i.eqok && Nat.beq xs.length i.size && Nat.beq ys.length i.size) with
   | false => rw [hq] at h; cases h
   | true =>
    rw [hq] at h
    simp only [Bool.and_eq_true] at hq
    obtain ⟨e1, e2, e3⟩ := (hT t i hi).eq hq.1.1
    obtain ⟨F, hF, hfs⟩ := (hT t i hi).strct hsh
    have hfo : P.fieldsOf t = F := by unfold Program.fieldsOf; rw [hF]
    rw [run_equalIn_agg w d t _ _ (by rw [hfo]; exact hF) e1, hfo]
    rw [hfo] at e3
    rw [← hfs] at h
    exact eqFs_run hT (fun h1 h2 h3 h4 w => eqV_run hT d h1 h2 h3 h4 w) h e3 w
  ·rename_i n e hsh
   have hag : i.sh.agg = true := by rw [hsh]; rfl
   have hx := agg hag hx
   have hy := agg hag hy
   subst hx; subst hy
   split at h
   ·rename_i ei hei
    cases hq : (Nat.beq xs.length (n * ei.size) && Nat.beq ys.length (n * ei.size) && (ei.sh.agg || Nat.beq ei.size 1)) with
    | false => rw [hq] at h; cases h
    | true =>
     rw [hq] at h
     simp only [Bool.and_eq_true, Bool.or_eq_true] at hq
     have hs : ei.sh.agg = false → ei.size = 1 := fun e => by
      rcases hq.2 with h1 | h1
      ·rw [e] at h1; cases h1
      ·exact Nat.eq_of_beq_eq_true h1
     have l1 := Nat.eq_of_beq_eq_true hq.1.1
     have l2 := Nat.eq_of_beq_eq_true hq.1.2
     have h1 := (hT t i hi).arr hsh
     have h2 := (hT e ei hei).sizeOf w
     have h3 := eqEs_run hT hei (fun h1 h2 h3 w => eqV_run hT d hei h1 h2 h3 w) hs (n := n) (k := 0) h (by rw [Nat.zero_add]; omega) (by rw [Nat.zero_add]; omega) w
     simp only [Op.equalIn, Sem.run_bind, run_underlying h1, Result.andThen_ok, h2]
     rw [Std.Legacy.Range.forIn_eq_forIn_range']
     simp [Std.Legacy.Range.size] at h3 ⊢
     rw [← h3]
     congr 1
     funext q w2
     obtain ⟨q1, q2⟩ := q
     cases q1 <;> rfl
   ·cases h
  ·cases h
theorem eqE_sound (hT : TabOK P T) (ha : Abs w0 N0 Z M st a w) {op : BinOp} {t yt : TypeId} {x y : Operand} (ho : o.op = .binOp op t x y yt) {e : Eff} (he : eqE T op t (opv st x) (opv st y) = some e) : Well P w0 N0 Z o a w (st.app o.dst e) := by
 unfold eqE at he
 split at he
 ·rename_i l m hx hy
  split at he
  ·rename_i xs ys i h1 h2 hi
   cases hq : (i.eqok && i.sh.agg) with
   | false => rw [hq] at he; cases he
   | true =>
    rw [hq] at he
    simp only [cond_true, Option.bind_eq_some_iff] at he
    obtain ⟨b, hb, he⟩ := he
    obtain ⟨us, e1, e2⟩ := opv_rel ha hx
    obtain ⟨vs, e3, e4⟩ := opv_rel ha hy
    rw [allV_rel relC_v' h1 e2] at e1
    rw [allV_rel relC_v' h2 e4] at e3
    simp only [Bool.and_eq_true] at hq
    obtain ⟨_, g2, _⟩ := (hT t i hi).eq hq.1
    have hag : i.sh.agg = true := hq.2
    have hr := eqV_run hT 10000 hi hb (Or.inl ⟨hag, rfl⟩) (Or.inl ⟨hag, rfl⟩) w
    cases op <;> simp only [reduceCtorEq, Option.some.injEq] at he
    ·subst he
     refine Well.val ha (d := dB b) (v := .bool b) ?_ ⟨rfl, rfl⟩
     unfold execOp
     simp only [ho, e1, e3, Sem.run_bind, run_eqGuard_agg w _ t _ _ _ _ g2, Result.andThen_ok, run_eql_struct, hr, Sem.run_pure]
    ·subst he
     refine Well.val ha (d := dB (!b)) (v := .bool (!b)) ?_ ⟨rfl, rfl⟩
     unfold execOp
     simp only [ho, e1, e3, Sem.run_bind, run_eqGuard_agg w _ t _ _ _ _ g2, Result.andThen_ok, run_neq_struct, hr, Sem.run_pure]
  ·cases he
 ·cases he
end Go.Proofs.YtfadkjcfjkmalaaGreatDoor.Ev
set_option linter.unusedVariables false
set_option linter.unusedSimpArgs false
namespace Go.Proofs.YtfadkjcfjkmalaaGreatDoor.Ev
open Go.RowKit
variable {w0 : World} {N0 : Nat → Prop} {Z : Pins} {P : Program} {T : Tab} {S : Sum} {forb : Nat → Bool} {M : Map} {st : DS} {a : Act} {w : World} {o : Oper}
theorem rd_at {k : Nat} {r : Row} (h : st.rd forb k = some r) : st.at k = some r := by
 unfold DS.rd at h
 cases e : forb k with
 | true => rw [e] at h; cases h
 | false => rw [e] at h; exact h
theorem well_pick (ha : Abs w0 N0 Z M st a w) {c x y : Operand} (ho : o.op = .pick c x y) {t : Bool} (hc : opv st c = some (.t (.c (.v (.bool t))))) {e : Eff} (he : pickE t (opv st x) (opv st y) = some e) (hp : e.pre) : Well P w0 N0 Z o a w (st.app o.dst e) := by
 have ec : a.eval c = .bool t := (opv_rel ha hc).1
 have run : ∀ v, (if t then a.eval x else a.eval y) = v → (execOp a.eval o).run P w = .ok (.value v) w := by
  intro v hv
  unfold execOp
  simp only [ho, ec, asBool, Sem.run_bind, Sem.run_pure, Result.andThen_ok]
  rw [hv]
 unfold pickE at he
 split at he
 ·rename_i x' y' hx hy
  cases he
  have ex : a.eval x = .bool x' := (opv_rel ha hx).1
  have ey : a.eval y = .bool y' := (opv_rel ha hy).1
  exact Well.val ha (d := dB (bif t then x' else y')) (run (.bool (bif t then x' else y')) (by rw [ex, ey]; cases t <;> rfl)) ⟨rfl, rfl⟩
 ·rename_i d hx hy
  cases he
  exact Well.val ha (run _ (by rw [show t = true from hp]; rfl)) (opv_rel ha hx)
 ·rename_i d hx hy
  cases he
  exact Well.val ha (run _ (by rw [show t = false from hp]; rfl)) (opv_rel ha hy)
 ·cases he
theorem well_div (ha : Abs w0 N0 Z M st a w) {op : BinOp} {xt yt : TypeId} {x y : Operand} (ho : o.op = .binOp op xt x y yt) {e : Eff} (he : divE op (opv st x) (opv st y) = some e) (hp : e.pre) : Well P w0 N0 Z o a w (st.app o.dst e) := by
 unfold divE at he
 split at he
 ·rename_i k u k' v hx hy
  have ex : a.eval x = .int k u := (opv_rel ha hx).1
  have ey : a.eval y = .int k' v := (opv_rel ha hy).1
  split at he
  ·cases he
   obtain ⟨rfl, h0⟩ := hp
   refine Well.val ha (d := dInt k (k.wrap (u.tdiv v))) (v := .int k (k.wrap (u.tdiv v))) ?_ ⟨rfl, rfl⟩
   unfold execOp
   simp only [ho]
   rw [ex, ey]
   simp [go_sem, Op.intDiv, h0]
  ·cases he
   obtain ⟨rfl, h0⟩ := hp
   refine Well.val ha (d := dInt k (u.tmod v)) (v := .int k (u.tmod v)) ?_ ⟨rfl, rfl⟩
   unfold execOp
   simp only [ho]
   rw [ex, ey]
   simp [go_sem, Op.intDiv, h0]
  ·cases he
 ·cases he
theorem well_shift (ha : Abs w0 N0 Z M st a w) {op : BinOp} {xt yt : TypeId} {x y : Operand} (ho : o.op = .binOp op xt x y yt) {e : Eff} (he : shiftE op (opv st x) (opv st y) = some e) (hp : e.pre) : Well P w0 N0 Z o a w (st.app o.dst e) := by
 unfold shiftE at he
 split at he
 ·rename_i k u k' v hx hy
  have ex : a.eval x = .int k u := (opv_rel ha hx).1
  have ey : a.eval y = .int k' v := (opv_rel ha hy).1
  split at he
  ·cases he
   have h0 : 0 ≤ v := hp
   refine Well.val ha (d := dInt k (k.wrap (u * 2 ^ (min v.toNat k.bits)))) (v := .int k (k.wrap (u * 2 ^ (min v.toNat k.bits)))) ?_ ⟨rfl, rfl⟩
   unfold execOp
   simp only [ho]
   rw [ex, ey]
   simp [go_sem, Op.shift, show ¬ v < 0 by omega]
  ·cases he
   have h0 : 0 ≤ v := hp
   refine Well.val ha (d := dInt k (u.fdiv (2 ^ (min v.toNat k.bits)))) (v := .int k (u.fdiv (2 ^ (min v.toNat k.bits)))) ?_ ⟨rfl, rfl⟩
   unfold execOp
   simp only [ho]
   rw [ex, ey]
   simp [go_sem, Op.shift, show ¬ v < 0 by omega]
  ·cases he
 ·cases he
theorem well_alloc (hT : TabOK P T) (ha : Abs w0 N0 Z M st a w) {t : TypeId} {c : List CV} {cs : List Value} (hrel : All2 (RelC w (fgn w0 N0 M) M) c cs) (hrun : (execOp a.eval o).run P w = .ok (.value (.pointer (some ⟨w.heap.size, 0, none⟩))) (w.alloc (.cells cs.toArray t))) {e : Eff} (he : allocE T st o.dst t c = some e) : Well P w0 N0 Z o a w (st.app o.dst e) := by
 unfold allocE at he
 cases hd : o.dst with
 | none => rw [hd] at he; cases he
 | some d =>
  rw [hd] at he
  simp only at he
  cases hat : st.at d with
  | some r => rw [hat] at he; cases he
  | none =>
   rw [hat] at he
   simp only at he
   cases hb : Nat.blt d st.h.length with
   | false => rw [hb] at he; cases he
   | true =>
    rw [hb] at he
    cases he
    have hlt : d < st.h.length := Nat.le_of_ble_eq_true hb
    obtain ⟨M', h⟩ := ha.newRow d (r := .box t c) (l := .box w.heap.size) (cs := cs.toArray) (ty := t) (x := .t (.c (.p d 0))) (v := .pointer (some ⟨w.heap.size, 0, none⟩)) hat hlt rfl rfl
     (fun M' h1 h2 => ⟨_, _, h1, heap_alloc_new w _, hrel.mono fun _ _ g => h2.relC g⟩) (fun M' h1 => ⟨_, h1, rfl⟩)
    exact .value _ M' _ hrun (by rw [hd]; exact h)
theorem well_box (hT : TabOK P T) (ha : Abs w0 N0 Z M st a w) {t : TypeId} {x : Operand} (ho : o.op = .box t x) {e : Eff} (he : (((opv st x).bind cellsOf).bind fun c => allocE T st o.dst t c) = some e) : Well P w0 N0 Z o a w (st.app o.dst e) := by
 simp only [Option.bind_eq_some_iff] at he
 obtain ⟨c, ⟨d, h1, h2⟩, h3⟩ := he
 refine well_alloc hT ha (cellsOf_rel (fun _ _ h => RelC.one h) h2 (opv_rel ha h1)) ?_ h3
 unfold execOp
 simp only [ho, Instr.box, newVar, newRow, newObj, Sem.run_bind, Sem.run_pure, Result.andThen_ok, Sem.run]
 first | done | rfl
theorem well_alloc0 (hT : TabOK P T) (ha : Abs w0 N0 Z M st a w) {t : TypeId} (ho : o.op = .alloc t) {i : TyI} (hi : T t = some i) (h1 : oneAll i.zero = true) {e : Eff} (he : allocE T st o.dst t (i.zero.map .v) = some e) : Well P w0 N0 Z o a w (st.app o.dst e) := by
 obtain ⟨z, hz, hzc⟩ := (hT t i hi).zeroValue w
 refine well_alloc hT ha (cs := i.zero) (all2_v relC_v h1) ?_ he
 unfold execOp
 simp only [ho, Instr.alloc, Sem.run_bind, hz, Result.andThen_ok, newVar, newRow, newObj, Sem.run_pure, Sem.run]
 rw [← hzc]
 simp
 try rfl
def VOk (P : Program) (w0 : World) (N0 : Nat → Prop) (M : Map) (o : Oper) (a : Act) (w : World) (e : Eff) : Prop := e.up = [] ∧ ∃ v, (execOp a.eval o).run P w = .ok (.value v) w ∧ RelD (RelC w (fgn w0 N0 M) M) e.v v
theorem VOk.well (ha : Abs w0 N0 Z M st a w) {e : Eff} (h : VOk P w0 N0 M o a w e) : Well P w0 N0 Z o a w (st.app o.dst e) := by
 obtain ⟨v, up, p⟩ := e
 obtain ⟨h1, u, h2, h3⟩ := h
 simp only at h1 h3
 subst h1
 exact Well.val ha h2 h3
theorem well_load_cells (hT : TabOK P T) (ha : Abs w0 N0 Z M st a w) {t : TypeId} {x : Operand} (ho : o.op = .load t x) {i : TyI} (hi : T t = some i) {b off : Nat} (hx : a.eval x = .pointer (some ⟨b, off, none⟩)) {d : DV} {v : Value} (hr : RelD (RelC w (fgn w0 N0 M) M) d v)
  (h : (i.sh.agg = true ∧ ∃ vs : List Value, v = .agg vs.toArray ∧ vs.length = i.size ∧ ∀ j u, vs[j]? = some u → w.cell? ⟨b, off + j, none⟩ = some u) ∨ (i.sh.agg = false ∧ w.cell? ⟨b, off, none⟩ = some v)) {p : Option Prop} : VOk P w0 N0 M o a w ⟨d, [], p⟩ := by
 refine ⟨rfl, v, ?_, hr⟩
 have h1 := (hT t i hi).isAgg w
 have h2 := (hT t i hi).sizeOf w
 unfold execOp
 simp only [ho, hx]
 rcases h with ⟨g1, vs, g2, g3, g4⟩ | ⟨g1, g2⟩
 ·have h3 := run_loadCells_list (P := P) w ⟨b, off, none⟩ vs (fun j u hj => by rw [Addr.add_lit]; exact g4 j u hj)
  unfold loadCells at h3
  rw [g1] at h1
  rw [← g3] at h2
  simp [go_sem, h1, h2, h3, g2]
 ·rw [g1] at h1
  simp [go_sem, h1, g2]
theorem fwd_get (c : Nat → CV) : ∀ (n off j : Nat), (fwd c off n)[j]? = if j < n then some (c (off + j)) else none
 | 0, off, j => by simp [fwd]
 | n + 1, off, 0 => by simp [fwd]
 | n + 1, off, j + 1 => by
  simp only [fwd, List.getElem?_cons_succ, fwd_get c n (off + 1) j]
  by_cases h : j < n
  ·rw [if_pos h, if_pos (by omega)]; congr 2; omega
  ·rw [if_neg h, if_neg (by omega)]
theorem fwd_len (c : Nat → CV) : ∀ (n off : Nat), (fwd c off n).length = n
 | 0, off => rfl
 | n + 1, off => by simp [fwd, fwd_len c n]
theorem all2_fwd {R : CV → Value → Prop} {c : Nat → CV} {f : Nat → Value} : ∀ (n off : Nat), (∀ j, j < n → R (c (off + j)) (f (off + j))) → All2 R (fwd c off n) ((List.range' off n).map f)
 | 0, off, _ => trivial
 | n + 1, off, h => ⟨by simpa using h 0 (by omega), all2_fwd n (off + 1) fun j hj => by have := h (j + 1) (by omega); rwa [show off + (j + 1) = off + 1 + j by omega] at this⟩
theorem loadL_sound (hT : TabOK P T) (ha : Abs w0 N0 Z M st a w) {t : TypeId} {x : Operand} (ho : o.op = .load t x) {i : TyI} (hi : T t = some i) {b off : Nat} (hx : a.eval x = .pointer (some ⟨b, off, none⟩)) {c : List CV} {cs : List Value} {o2 : Nat} (hc : All2 (RelC w (fgn w0 N0 M) M) c cs) (hcell : ∀ j u, cs[o2 + j]? = some u → w.cell? ⟨b, off + j, none⟩ = some u) {e : Eff} (he : loadL i c o2 = some e) : VOk P w0 N0 M o a w e := by
 unfold loadL at he
 cases hg : i.sh.agg with
 | true =>
  rw [hg] at he
  simp only [cond_true] at he
  cases hb : Nat.ble (o2 + i.size) c.length with
  | false => rw [hb] at he; cases he
  | true =>
   rw [hb] at he
   cases he
   have hle : o2 + i.size ≤ c.length := Nat.le_of_ble_eq_true hb
   have hlen := hc.length
   refine well_load_cells hT ha ho hi hx (d := .t (.a (sub c o2 i.size))) (v := .agg ((cs.drop o2).take i.size).toArray) ⟨_, rfl, (hc.drop o2).take i.size⟩ (Or.inl ⟨hg, _, rfl, ?_, fun j u hj => ?_⟩)
   ·rw [List.length_take, List.length_drop]; omega
   ·rw [List.getElem?_take] at hj
    split at hj
    ·rw [List.getElem?_drop] at hj
     exact hcell j u hj
    ·cases hj
 | false =>
  rw [hg] at he
  simp only [cond_false, Option.map_eq_some_iff] at he
  obtain ⟨y, h1, rfl⟩ := he
  obtain ⟨u, h2, h3⟩ := hc.get h1
  exact well_load_cells hT ha ho hi hx (d := .t (.c y)) (v := u) h3 (Or.inr ⟨hg, hcell 0 u (by simpa using h2)⟩)
theorem loadF_sound (hT : TabOK P T) (ha : Abs w0 N0 Z M st a w) {t : TypeId} {x : Operand} (ho : o.op = .load t x) {i : TyI} (hi : T t = some i) {b o1 off n : Nat} (hx : a.eval x = .pointer (some ⟨b, o1 + off, none⟩)) {c : Nat → CV} (hcell : ∀ j, j < n → ∃ u, w.cell? ⟨b, o1 + j, none⟩ = some u ∧ RelF w (fgn w0 N0 M) (c j) u) {e : Eff} (he : loadF i n c off = some e) : VOk P w0 N0 M o a w e := by
 unfold loadF at he
 cases hg : i.sh.agg with
 | true =>
  rw [hg] at he
  simp only [cond_true] at he
  cases hb : Nat.ble (off + i.size) n with
  | false => rw [hb] at he; cases he
  | true =>
   rw [hb] at he
   cases he
   have hle : off + i.size ≤ n := Nat.le_of_ble_eq_true hb
   let f : Nat → Value := fun j => (w.cell? ⟨b, o1 + j, none⟩).getD undef
   refine well_load_cells hT ha ho hi hx (d := .t (.a (fwd c off i.size))) (v := .agg ((List.range' off i.size).map f).toArray) ⟨_, rfl, all2_fwd _ _ fun j hj => ?_⟩ (Or.inl ⟨hg, _, rfl, by simp, fun j u hj => ?_⟩)
   ·obtain ⟨u, h1, h2⟩ := hcell (off + j) (by omega)
    have : f (off + j) = u := by simp only [f, h1]; rfl
    rw [this]; exact RelC.ofF h2
   ·by_cases hlt : j < i.size
    ·obtain ⟨u', h1, h2⟩ := hcell (off + j) (by omega)
     rw [List.getElem?_map, List.getElem?_eq_getElem (by simpa using hlt), List.getElem_range'] at hj
     simp only [Option.map_some, Option.some.injEq, Nat.one_mul] at hj
     rw [← hj, show o1 + off + j = o1 + (off + j) by omega, h1]
     simp only [f, h1]; rfl
    ·rw [List.getElem?_eq_none (by simpa using hlt)] at hj; cases hj
 | false =>
  rw [hg] at he
  simp only [cond_false] at he
  cases hb : Nat.blt off n with
  | false => rw [hb] at he; cases he
  | true =>
   rw [hb] at he
   cases he
   obtain ⟨u, h1, h2⟩ := hcell off (Nat.le_of_ble_eq_true hb)
   exact well_load_cells hT ha ho hi hx (d := .t (.c (c off))) (v := u) (RelC.ofF h2) (Or.inr ⟨hg, h1⟩)
theorem flatten_get {α : Type} {sz : Nat} : ∀ {l : List (List α)} {i : Nat} {e : List α} {j : Nat}, (∀ e ∈ l, e.length = sz) → l[i]? = some e → j < sz → l.flatten[i * sz + j]? = e[j]?
 | [], i, e, j, _, h, _ => by simp at h
 | x :: l, 0, e, j, hl, h, hj => by
  simp at h; subst h
  have := hl x (by simp)
  rw [Nat.zero_mul, Nat.zero_add, List.flatten_cons, List.getElem?_append_left (by omega)]
 | x :: l, i + 1, e, j, hl, h, hj => by
  simp at h
  have h1 := hl x (by simp)
  rw [List.flatten_cons, List.getElem?_append_right (by rw [h1, Nat.succ_mul]; omega), h1, show (i + 1) * sz + j - sz = i * sz + j by rw [Nat.succ_mul]; omega]
  exact flatten_get (fun e he => hl e (by simp [he])) h hj
theorem own_cell {base : Nat} {e : TypeId} {sz : Nat} {v : Value} {n : Nat} {xs : List Value} (h : w.ownsRow base e sz v n xs) {j : Nat} {u : Value} (hj : xs[j]? = some u) : ∃ b cap, v = .slice (some ⟨b, 0, none⟩) n cap ∧ w.cell? ⟨b, j, none⟩ = some u := by
 obtain ⟨h1, h2⟩ := h
 rcases h2 with ⟨rfl, h3⟩ | ⟨g, cap, cur, rfl, hb, hg, hn, hm, hs, ht⟩
 ·rw [h3, Nat.zero_mul] at h1
  rw [List.eq_nil_of_length_eq_zero h1] at hj; simp at hj
 ·refine ⟨g, cap, rfl, ?_⟩
  rw [cell_of_row w g j cur e (0, 0) hg]
  rw [← ht, List.getElem?_take] at hj
  split at hj
  ·simpa using hj
  ·cases hj
theorem numCells_ok : ∀ {z : List Value} {c : Nat → CV} {off : Nat} {xs : List CV} {p : Prop}, numCells z c off = some (xs, p) → p → xs = fwd c off z.length
 | [], c, off, xs, p, h, _ => by simp only [numCells, Option.some.injEq, Prod.mk.injEq] at h; rw [← h.1]; rfl
 | z :: zs, c, off, xs, p, h, hp => by
  simp only [numCells] at h
  split at h
  ·rename_i x p1 xs' p2 h1 h2
   simp only [Option.some.injEq, Prod.mk.injEq] at h
   obtain ⟨rfl, rfl⟩ := h
   have e := numCells_ok h2 hp.2
   have e1 : x = c off := by
    cases z <;> first | (simp only [numCell, Option.some.injEq, Prod.mk.injEq] at h1; obtain ⟨rfl, rfl⟩ := h1; exact hp.1.symm) | (simp [numCell] at h1; done)
   rw [e, e1]; rfl
  ·cases h
theorem fwd_genC {l : List (List CV)} {j : Nat} {el : List CV} (h : l[j]? = some el) : ∀ (n off : Nat), off + n ≤ el.length → fwd (genC l j) off n = sub el off n
 | 0, off, _ => by simp [fwd, sub]
 | n + 1, off, hl => by
  have hlt : off < el.length := by omega
  have ih := fwd_genC h n (off + 1) (by omega)
  unfold sub at ih ⊢
  rw [List.drop_eq_getElem_cons hlt, List.take_succ_cons, ← ih]
  simp only [fwd]
  congr 1
  simp [genC, List.getD, h, hlt]
theorem loadG_red {i : TyI} {sz j off : Nat} {l : List (List CV)} {e : Eff} (h : loadG i sz l j off = some e) (hp : e.pre) (hl : ∀ el ∈ l, el.length = sz) : ∃ el, l[j]? = some el ∧ loadL i el off = some (val e.v) ∧ e.up = [] := by
 unfold loadG at h
 split at h
 ·rename_i xs p hn
  cases hb : (Nat.ble (off + i.size) sz && Nat.beq i.zero.length i.size) with
  | false => rw [hb] at h; cases h
  | true =>
   rw [hb] at h
   simp only [cond_true] at h
   simp only [Bool.and_eq_true] at hb
   have b1 := Nat.le_of_ble_eq_true hb.1
   have b2 := Nat.eq_of_beq_eq_true hb.2
   have go : (j < l.length ∧ p) → ∃ el, l[j]? = some el ∧ xs = sub el off i.size ∧ off + i.size ≤ el.length := by
    rintro ⟨h1, h2⟩
    have e1 := hl l[j] (List.getElem_mem h1)
    refine ⟨l[j], List.getElem?_eq_getElem h1, ?_, by omega⟩
    rw [numCells_ok hn h2, b2]
    exact fwd_genC (List.getElem?_eq_getElem h1) _ _ (by omega)
   split at h
   ·rename_i xs' hag
    cases h
    obtain ⟨el, h1, h2, h3⟩ := go hp
    refine ⟨el, h1, ?_, rfl⟩
    unfold loadL
    rw [hag, cond_true, (Nat.ble_eq_true_of_le h3 : Nat.ble (off + i.size) el.length = true), cond_true, ← h2]
   ·rename_i x hag
    cases h
    obtain ⟨el, h1, h2, h3⟩ := go hp
    refine ⟨el, h1, ?_, rfl⟩
    have hs : i.size = 1 := by
     have := congrArg List.length h2
     simp only [sub, List.length_take, List.length_drop, List.length_singleton] at this
     omega
    have hlt : off < el.length := by omega
    unfold loadL
    rw [hag, cond_false]
    unfold sub at h2
    rw [hs, List.drop_eq_getElem_cons hlt] at h2
    simp only [List.take_succ_cons, List.take_zero, List.cons.injEq, and_true] at h2
    rw [List.getElem?_eq_getElem hlt, Option.map_some, h2]
   ·cases h
 ·simp only [Option.bind_eq_some_iff] at h
  obtain ⟨el, h1, h2⟩ := h
  have e2 : e = val e.v := by
   unfold loadL at h2
   cases hg : i.sh.agg with
   | true =>
    rw [hg, cond_true] at h2
    cases hb : Nat.ble (off + i.size) el.length with
    | false => rw [hb] at h2; cases h2
    | true => rw [hb] at h2; cases h2; rfl
   | false =>
    rw [hg, cond_false, Option.map_eq_some_iff] at h2
    obtain ⟨x, _, rfl⟩ := h2; rfl
  refine ⟨el, h1, by rw [h2]; exact congrArg some e2, by rw [e2]; rfl⟩
theorem load_ok (hT : TabOK P T) (ha : Abs w0 N0 Z M st a w) {t : TypeId} {x : Operand} (ho : o.op = .load t x) {e : Eff} (he : (opv st x).bind (loadE T forb st t) = some e) (hp : e.pre) : VOk P w0 N0 M o a w e := by
 simp only [Option.bind_eq_some_iff] at he
 obtain ⟨d, hd, he⟩ := he
 have hx := opv_rel ha hd
 unfold loadE at he
 split at he
 ·rename_i i k off hi
  obtain ⟨b, hM, hv⟩ := hx
  split at he
  ·rename_i ty c hrow
   obtain ⟨b', cs, g1, g2, g3⟩ := ha.row k _ (rd_at hrow)
   rw [hM] at g1; cases g1
   exact loadL_sound hT ha ho hi hv g3 (fun j u hj => by rw [cell_of_row w b (off + j) cs ty (0, 0) g2]; simpa using hj) he
  ·cases he
 ·rename_i i n off c hi
  obtain ⟨b, o1, hv, _, _, hc⟩ := hx
  exact loadF_sound hT ha ho hi hv hc he
 ·rename_i i k j sz off hi
  obtain ⟨b, n, cap, hM, hv⟩ := hx
  split at he
  ·rename_i ty sz' l hrow
   cases hq : Nat.beq sz sz' with
   | false => rw [hq] at he; cases he
   | true =>
    rw [hq] at he
    obtain rfl := Nat.eq_of_beq_eq_true hq
    simp only [cond_true] at he
    obtain ⟨v', xs, g1, g2, g3, g4⟩ := ha.row k _ (rd_at hrow)
    rw [hM] at g1; cases g1
    obtain ⟨el, hel, he, hup⟩ := loadG_red he hp g3
    have hsz : el.length = sz := g3 el (List.mem_of_getElem? hel)
    have hsub : All2 (RelC w (fgn w0 N0 M) M) el ((xs.drop (j * sz)).take sz) := by
     have h1 := (g4.drop (j * sz)).take sz
     have h2 : (l.flatten.drop (j * sz)).take sz = el := by
      apply List.ext_getElem?
      intro q
      rw [List.getElem?_take]
      split
      ·rename_i hq; rw [List.getElem?_drop, flatten_get g3 hel hq]
      ·rename_i hq; rw [List.getElem?_eq_none (by omega)]
     rw [h2] at h1
     exact h1.mono fun _ _ g => RelC.ofF g
    have fin := loadL_sound hT ha ho hi hv hsub (fun q u hq => by
     rw [List.getElem?_take] at hq
     split at hq
     ·rw [List.getElem?_drop] at hq
      obtain ⟨b', cap', e1, e2⟩ := own_cell g2 hq
      cases e1
      rw [← e2]; congr 2; omega
     ·cases hq) he
    exact ⟨hup, fin.2⟩
  ·rename_i ty kd l hrow
   cases hq : (Nat.beq sz 1 && Nat.beq off 0 && !i.sh.agg) with
   | false => rw [hq] at he; cases he
   | true =>
    rw [hq] at he
    cases he
    simp only [Bool.and_eq_true, Bool.not_eq_true'] at hq
    obtain ⟨⟨q1, q2⟩, q3⟩ := hq
    obtain rfl := Nat.eq_of_beq_eq_true q1
    obtain rfl := Nat.eq_of_beq_eq_true q2
    obtain ⟨v', g1, g2⟩ := ha.row k _ (rd_at hrow)
    rw [hM] at g1; cases g1
    have hj : j < l.length := hp
    obtain ⟨b', cap', e1, e2⟩ := own_cell g2 (j := j) (u := .int kd (l.getD j 0)) (by simp [List.getElem?_map, hj])
    cases e1
    exact well_load_cells hT ha ho hi hv (d := dInt kd (l.getD j 0)) (v := .int kd (l.getD j 0)) ⟨rfl, rfl⟩ (Or.inr ⟨q3, by rw [← e2]; congr 2; omega⟩)
  ·cases he
 ·cases he
theorem well_load (hT : TabOK P T) (ha : Abs w0 N0 Z M st a w) {t : TypeId} {x : Operand} (ho : o.op = .load t x) {e : Eff} (he : (opv st x).bind (loadE T forb st t) = some e) (hp : e.pre) : Well P w0 N0 Z o a w (st.app o.dst e) :=
 (load_ok hT ha ho he hp).well ha
end Go.Proofs.YtfadkjcfjkmalaaGreatDoor.Ev
set_option linter.unusedVariables false
set_option linter.unusedSimpArgs false
namespace Go.Proofs.YtfadkjcfjkmalaaGreatDoor.Ev
open Go.RowKit
variable {w0 : World} {N0 : Nat → Prop} {Z : Pins} {P : Program} {T : Tab} {S : Sum} {forb : Nat → Bool} {M : Map} {st : DS} {a : Act} {w : World} {o : Oper}
theorem add_none (b off n : Nat) : (⟨b, off, none⟩ : Addr).add n = ⟨b, off + n, none⟩ := Addr.add_lit b off n
theorem well_nil (ha : Abs w0 N0 Z M st a w) {x : Operand} (ho : o.op = .nilCheck x) {e : Eff} (he : (opv st x).bind nilCheckE = some e) : Well P w0 N0 Z o a w (st.app o.dst e) := by
 simp only [Option.bind_eq_some_iff] at he
 obtain ⟨d, hd, he⟩ := he
 have hx := opv_rel ha hd
 have go : ∀ b, a.eval x = .pointer (some b) → (execOp a.eval o).run P w = .ok (.value (a.eval x)) w := by
  intro b hb
  unfold execOp
  simp only [ho, hb]
  rfl
 unfold nilCheckE at he
 split at he
 ·rename_i k off
  cases he
  obtain ⟨b, hM, hv⟩ := hx
  exact Well.val ha (d := .t (.c (.p k off))) (go _ hv) ⟨b, hM, hv⟩
 ·rename_i n off c
  cases he
  obtain ⟨b, o1, hv, r⟩ := hx
  exact Well.val ha (d := .t (.c (.px n off c))) (go _ hv) ⟨b, o1, hv, r⟩
 ·rename_i k i sz off
  cases he
  obtain ⟨b, n, cap, hM, hv⟩ := hx
  exact Well.val ha (d := .t (.c (.pe k i sz off))) (go _ hv) ⟨b, n, cap, hM, hv⟩
 ·cases he
theorem fieldOf_ok (hT : TabOK P T) {s : TypeId} {f o1 : Nat} {ft : TypeId} (h : fieldOf T s f = some (o1, ft)) : ∃ F fld, P.underlying s = some (.struct F) ∧ F[f]? = some fld ∧ fld.offset = o1 ∧ fld.type = ft := by
 unfold fieldOf at h
 split at h
 ·rename_i fs s1 s2 s3 s4 hs
  obtain ⟨F, h1, h2⟩ := (hT s _ hs).strct rfl
  rw [← h2, List.getElem?_map] at h
  simp only [Option.map_eq_some_iff, Prod.mk.injEq] at h
  obtain ⟨fld, g1, g2, g3⟩ := h
  exact ⟨F, fld, h1, by simpa using g1, g2, g3⟩
 ·cases h
theorem sizeT_ok (hT : TabOK P T) {t : TypeId} (h : sizeT T t ≠ 0) (w : World) : (Go.sizeOf t).run P w = .ok (sizeT T t) w := by
 unfold sizeT at *
 split
 ·rename_i i hi; exact (hT t i hi).sizeOf w
 ·rename_i hi; rw [hi] at h; exact (h rfl).elim
theorem well_fieldAddr (hT : TabOK P T) (ha : Abs w0 N0 Z M st a w) {s : TypeId} {x : Operand} {f : Nat} (ho : o.op = .fieldAddr s x f) {e : Eff} (he : (opv st x).bind (fieldAddrE T s f) = some e) : Well P w0 N0 Z o a w (st.app o.dst e) := by
 simp only [Option.bind_eq_some_iff] at he
 obtain ⟨d, hd, he⟩ := he
 have hx := opv_rel ha hd
 unfold fieldAddrE at he
 cases hf : fieldOf T s f with
 | none => rw [hf] at he; cases he
 | some p =>
  obtain ⟨o1, ft⟩ := p
  rw [hf] at he
  simp only at he
  obtain ⟨F, fld, h1, h2, h3, h4⟩ := fieldOf_ok hT hf
  cases hz : Nat.beq (sizeT T ft) 0 with
  | true => rw [hz] at he; cases he
  | false =>
   rw [hz] at he
   simp only [cond_false] at he
   have hne : sizeT T ft ≠ 0 := fun h => by rw [h] at hz; cases hz
   have hsz := sizeT_ok hT hne
   have go : ∀ b off, a.eval x = .pointer (some ⟨b, off, none⟩) → (execOp a.eval o).run P w = .ok (.value (.pointer (some ⟨b, off + o1, none⟩))) w := by
    intro b off hb
    unfold execOp
    simp only [ho, hb, Instr.fieldAt, Sem.run_bind, run_underlying h1, Result.andThen_ok, h2, Instr.sureAddr, Sem.run_pure, fieldPlace, h4, hsz, if_neg hne, h3, add_none]
   split at he
   ·rename_i k off
    cases he
    obtain ⟨b, hM, hv⟩ := hx
    exact Well.val ha (d := .t (.c (.p k (off + o1)))) (go _ _ hv) ⟨b, hM, rfl⟩
   ·rename_i n off c
    cases he
    obtain ⟨b, o2, hv, r⟩ := hx
    exact Well.val ha (d := .t (.c (.px n (off + o1) c))) (go _ _ hv) ⟨b, o2, by rw [Nat.add_assoc], r⟩
   ·rename_i k j sz off
    cases he
    obtain ⟨b, n, cap, hM, hv⟩ := hx
    exact Well.val ha (d := .t (.c (.pe k j sz (off + o1)))) (go _ _ hv) ⟨b, n, cap, hM, by rw [Nat.add_assoc]⟩
   ·cases he
theorem run_indexAt_ar (hT : TabOK P T) {t e : TypeId} {n : Nat} {s1 s2 : Nat} {z : List Value} {q : Bool} (ht : T t = some ⟨.ar n e, s1, s2, z, q⟩) {ei : TyI} (hei : T e = some ei) {b off : Nat} {k : IntKind} {i : Int} (hi : 0 ≤ i ∧ i < n) :
  (Instr.indexAt t (.pointer (some ⟨b, off, none⟩)) (.int k i)).run P w = .ok (.pointer (some ⟨b, off + i.toNat * ei.size, none⟩)) w := by
 have h1 := (hT t _ ht).arr rfl
 have h2 := (hT e _ hei).sizeOf w
 simp [Instr.indexAt, asIntOf, run_underlying h1, Instr.sureAddr, hi, h2, add_none]
theorem run_indexAt_sl (hT : TabOK P T) {t e : TypeId} {s1 s2 : Nat} {z : List Value} {q : Bool} (ht : T t = some ⟨.sl e, s1, s2, z, q⟩) {ei : TyI} (hei : T e = some ei) {b off n cap : Nat} {k : IntKind} {i : Int} (hi : 0 ≤ i ∧ i < n) :
  (Instr.indexAt t (.slice (some ⟨b, off, none⟩) n cap) (.int k i)).run P w = .ok (.pointer (some ⟨b, off + i.toNat * ei.size, none⟩)) w := by
 have h1 := (hT t _ ht).sl rfl
 have h2 := (hT e _ hei).sizeOf w
 simp [Instr.indexAt, asIntOf, run_underlying h1, hi, h2, add_none]
theorem own_shape {base : Nat} {e : TypeId} {sz : Nat} {v : Value} {n : Nat} {xs : List Value} (h : w.ownsRow base e sz v n xs) (hn : 0 < n) : ∃ b cap, v = .slice (some ⟨b, 0, none⟩) n cap := by
 rcases h.2 with ⟨rfl, h3⟩ | ⟨g, cap, cur, rfl, _⟩
 ·omega
 ·exact ⟨g, cap, rfl⟩
theorem well_indexAddr (hT : TabOK P T) (ha : Abs w0 N0 Z M st a w) {t : TypeId} {x y : Operand} (ho : o.op = .indexAddr t x y) {dx dy : DV} (hdx : opv st x = some dx) (hdy : opv st y = some dy) {e : Eff} (he : indexAddrE T forb st t dx dy = some e) (hp : e.pre) : Well P w0 N0 Z o a w (st.app o.dst e) := by
 have hx := opv_rel ha hdx
 have hy := opv_rel ha hdy
 have run : ∀ v, (Instr.indexAt t (a.eval x) (a.eval y)).run P w = .ok v w → (execOp a.eval o).run P w = .ok (.value v) w := by
  intro v hv
  unfold execOp
  simp only [ho, Sem.run_bind, hv, Result.andThen_ok, Sem.run_pure]
 unfold indexAddrE at he
 split at he
 ·rename_i n el s1 s2 z q kd i ht
  have ey : a.eval y = .int kd i := hy.1
  split at he
  ·cases he
  ·rename_i ei hei
   split at he
   ·rename_i k off
    cases he
    obtain ⟨b, hM, hv⟩ := hx
    exact Well.val ha (d := .t (.c (.p k (off + i.toNat * ei.size)))) (run _ (by rw [hv, ey]; exact run_indexAt_ar hT ht hei hp)) ⟨b, hM, rfl⟩
   ·rename_i m off c
    cases he
    obtain ⟨b, o2, hv, r⟩ := hx
    exact Well.val ha (d := .t (.c (.px m (off + i.toNat * ei.size) c))) (run _ (by rw [hv, ey]; exact run_indexAt_ar hT ht hei hp)) ⟨b, o2, by rw [Nat.add_assoc], r⟩
   ·cases he
 ·rename_i el s1 s2 z q kd i ht
  have ey : a.eval y = .int kd i := hy.1
  split at he
  ·cases he
  ·rename_i ei hei
   split at he
   ·rename_i sz n c
    cases hq : Nat.beq sz ei.size with
    | false => rw [hq] at he; cases he
    | true =>
     rw [hq] at he
     cases he
     obtain rfl := Nat.eq_of_beq_eq_true hq
     obtain ⟨ao, cap, hv, h1, h2, h3, h4⟩ := hx
     have hp' : 0 ≤ i ∧ i < n := hp
     obtain ⟨b, off, rfl, g2, g3, g4⟩ := h4 (by omega)
     refine Well.val ha (d := .t (.c (.px ei.size 0 (fun j => c i.toNat j)))) (run _ (by rw [hv, ey]; exact run_indexAt_sl hT ht hei hp')) ?_
     refine ⟨b, off + i.toNat * ei.size, rfl, g2, g3, fun j hj => g4 _ _ (by omega) hj⟩
   ·rename_i k
    obtain ⟨hM, hsh⟩ := hx
    split at he
    ·rename_i ty sz l hrow
     cases hq : Nat.beq sz ei.size with
     | false => rw [hq] at he; cases he
     | true =>
      rw [hq] at he
      cases he
      obtain rfl := Nat.eq_of_beq_eq_true hq
      obtain ⟨v', xs, g1, g2, _⟩ := ha.row k _ (rd_at hrow)
      rw [hM] at g1; cases g1
      have hp' : 0 ≤ i ∧ i < l.length := hp
      obtain ⟨b, cap, hv⟩ := own_shape g2 (by omega)
      refine Well.val ha (d := .t (.c (.pe k i.toNat ei.size 0))) (run _ (by rw [hv, ey]; exact run_indexAt_sl hT ht hei hp')) ⟨b, _, cap, by rw [hM, hv], by rw [Nat.zero_add, Nat.add_zero]⟩
    ·rename_i ty kd' l hrow
     cases hq : Nat.beq 1 ei.size with
     | false => rw [hq] at he; cases he
     | true =>
      rw [hq] at he
      cases he
      have hq' := Nat.eq_of_beq_eq_true hq
      obtain ⟨v', g1, g2⟩ := ha.row k _ (rd_at hrow)
      rw [hM] at g1; cases g1
      have hp' : 0 ≤ i ∧ i < l.length := hp
      obtain ⟨b, cap, hv⟩ := own_shape g2 (by omega)
      refine Well.val ha (d := .t (.c (.pe k i.toNat 1 0))) (run _ (by rw [hv, ey]; exact run_indexAt_sl hT ht hei hp')) ⟨b, _, cap, by rw [hM, hv], by rw [Nat.zero_add, Nat.add_zero, hq']⟩
    ·cases he
   ·rename_i k off sz n
    split at he
    ·rename_i ty cs hrow
     cases hq : Nat.beq sz ei.size with
     | false => rw [hq] at he; cases he
     | true =>
      rw [hq] at he
      cases he
      obtain ⟨b', cells, g1, g2, _⟩ := ha.row k _ (rd_at hrow)
      have hx : RelC w (fgn w0 N0 M) M (.ob k off sz n) (a.eval x) := hx
      rcases hx with ⟨b, cap, hM, hv, hn, hm⟩ | ⟨b, c', o', cap, hM, _⟩
      ·exact Well.val ha (d := .t (.c (.p k (off + i.toNat * ei.size)))) (run _ (by rw [hv, ey]; exact run_indexAt_sl hT ht hei hp)) ⟨b, hM, rfl⟩
      ·rw [hM] at g1; cases g1
    ·cases he
   ·cases he
 ·cases he
def sub' (l : List Value) (off n : Nat) : List Value := (l.drop off).take n
theorem run_part (hT : TabOK P T) {t : TypeId} {i : TyI} (hi : T t = some i) {R : CV → Value → Prop} {l : List CV} {cs : List Value} (hl : All2 R l cs) {off : Nat} {e : Eff} (he : loadL i l off = some e) : ∃ v d, e = val d ∧ (part t cs.toArray off).run P w = .ok v w ∧ RelD R d v := by
 have h1 := (hT t i hi).isAgg w
 have h2 := (hT t i hi).sizeOf w
 unfold loadL at he
 cases hg : i.sh.agg with
 | true =>
  rw [hg] at he h1
  simp only [cond_true] at he
  cases hb : Nat.ble (off + i.size) l.length with
  | false => rw [hb] at he; cases he
  | true =>
   rw [hb] at he
   cases he
   refine ⟨.agg (sub' cs off i.size).toArray, _, rfl, ?_, (⟨_, rfl, (hl.drop off).take i.size⟩ : RelD R (.t (.a (sub l off i.size))) _)⟩
   simp [part, h1, h2, sub']
 | false =>
  rw [hg] at he h1
  simp only [cond_false, Option.map_eq_some_iff] at he
  obtain ⟨y, g1, rfl⟩ := he
  obtain ⟨u, g2, g3⟩ := hl.get g1
  exact ⟨u, .t (.c y), rfl, by simp [part, h1, g2], g3⟩
theorem well_field (hT : TabOK P T) (ha : Abs w0 N0 Z M st a w) {s : TypeId} {x : Operand} {f : Nat} (ho : o.op = .field s x f) {e : Eff} (he : (opv st x).bind (fieldE T s f) = some e) : Well P w0 N0 Z o a w (st.app o.dst e) := by
 simp only [Option.bind_eq_some_iff] at he
 obtain ⟨d, hd, he⟩ := he
 have hx := opv_rel ha hd
 unfold fieldE at he
 split at he
 ·rename_i o1 ft l hf
  obtain ⟨F, fld, h1, h2, h3, h4⟩ := fieldOf_ok hT hf
  obtain ⟨vs, hv, hl⟩ := hx
  unfold partE at he
  simp only [Option.bind_eq_some_iff] at he
  obtain ⟨i, hi, he⟩ := he
  obtain ⟨v, d', rfl, hr, hrel⟩ := run_part (w := w) hT hi hl he
  refine Well.val ha (d := d') (v := v) ?_ hrel
  unfold execOp
  simp only [ho, hv, Instr.field, Sem.run_bind, run_underlying h1, Result.andThen_ok, h2, asAgg, Sem.run_pure, h3, h4, hr]
 ·cases he
theorem well_index (hT : TabOK P T) (ha : Abs w0 N0 Z M st a w) {t : TypeId} {x ix : Operand} (ho : o.op = .index t x ix) {dx dy : DV} (h1 : opv st x = some dx) (h2 : opv st ix = some dy) {e : Eff} (he : indexE T t dx dy = some e) (hp : e.pre) : Well P w0 N0 Z o a w (st.app o.dst e) := by
 have hx := opv_rel ha h1
 have hy := opv_rel ha h2
 unfold indexE at he
 split at he
 ·rename_i n el s1 s2 z q l kd i ht
  simp only [Option.map_eq_some_iff] at he
  obtain ⟨f, he, rfl⟩ := he
  obtain ⟨vs, hv, hl⟩ := hx
  have ey : a.eval ix = .int kd i := hy.1
  have hp' : 0 ≤ i ∧ i < n := hp
  unfold partE at he
  simp only [Option.bind_eq_some_iff] at he
  obtain ⟨ei, hi, he⟩ := he
  obtain ⟨v, d', rfl, hr, hrel⟩ := run_part (w := w) hT hi hl he
  have hs : sizeT T el = ei.size := by simp [sizeT, hi]
  rw [hs] at hr
  refine Well.val ha (d := d') (v := v) ?_ hrel
  unfold execOp
  simp only [ho, hv, ey, Instr.index, asIntOf, Sem.run_bind, Sem.run_pure, Result.andThen_ok, run_underlying ((hT t _ ht).arr rfl), if_pos hp', (hT el ei hi).sizeOf, hr]
 ·rename_i s1 s2 z q s kd i ht
  cases he
  have ex : a.eval x = .string s := hx.1
  have ey : a.eval ix = .int kd i := hy.1
  have hp' : 0 ≤ i ∧ i < s.size := hp
  have hlt : i.toNat < s.data.size := by have : s.size = s.data.size := rfl; omega
  have hg : s[i.toNat]? = some s.data[i.toNat] := by
   have : s[i.toNat]? = some s[i.toNat] := getElem?_pos s i.toNat hlt
   rw [this]; rfl
  refine Well.val ha (d := dInt .u8 ((s.data.getD i.toNat 0).toNat : Nat)) (v := .int .u8 ((s.data.getD i.toNat 0).toNat : Nat)) ?_ ⟨rfl, rfl⟩
  unfold execOp
  simp only [ho, ex, ey, Instr.index, asIntOf, Sem.run_bind, Sem.run_pure, Result.andThen_ok, run_underlying ((hT t _ ht).str rfl), if_pos hp'.1, hg]
  rw [show s.data.getD i.toNat 0 = s.data[i.toNat] from by unfold Array.getD; exact dif_pos hlt]
 ·cases he
theorem well_arrPtr (hT : TabOK P T) (ha : Abs w0 N0 Z M st a w) {t : TypeId} {x : Operand} (ho : o.op = .sliceToArrayPointer t x) {e : Eff} (he : (opv st x).bind (arrPtrE T t) = some e) (hp : e.pre) : Well P w0 N0 Z o a w (st.app o.dst e) := by
 simp only [Option.bind_eq_some_iff] at he
 obtain ⟨d, hd, he⟩ := he
 have hx := opv_rel ha hd
 unfold arrPtrE at he
 split at he
 ·rename_i n el s1 s2 z q sz m c ht
  cases hq : Nat.beq sz 1 && Nat.blt 0 n with
  | false => rw [hq] at he; cases he
  | true =>
   rw [hq] at he
   cases he
   rw [Bool.and_eq_true] at hq
   obtain rfl := Nat.eq_of_beq_eq_true hq.1
   have hn : 0 < n := Nat.le_of_ble_eq_true hq.2
   obtain ⟨ao, cap, hv, h1, h2, h3, h4⟩ := hx
   have hp' : n ≤ m := hp
   obtain ⟨b, off, rfl, g2, g3, g4⟩ := h4 (by omega)
   refine Well.val ha (d := .t (.c (.px n 0 (fun j => c j 0)))) (v := .pointer (some ⟨b, off, none⟩)) ?_ ⟨b, off, rfl, g2, g3, fun j hj => ?_⟩
   ·unfold execOp
    have r := run_arrayAt (P := P) w t el n (some ⟨b, off, none⟩) m cap ((hT t _ ht).arr rfl) hp'
    simp only [ho, hv, Sem.run_bind, r, Result.andThen_ok, Sem.run_pure]
   ·obtain ⟨y, e1, e2⟩ := g4 j 0 (by omega) (by omega)
    exact ⟨y, by rw [← e1, Nat.mul_one, Nat.add_zero], e2⟩
 ·cases he
theorem well_extract (ha : Abs w0 N0 Z M st a w) {x : Operand} {i : Nat} (ho : o.op = .extract x i) {e : Eff} (he : (opv st x).bind (extractE i) = some e) : Well P w0 N0 Z o a w (st.app o.dst e) := by
 simp only [Option.bind_eq_some_iff] at he
 obtain ⟨d, hd, he⟩ := he
 have hx := opv_rel ha hd
 unfold extractE at he
 split at he
 ·rename_i l
  simp only [Option.map_eq_some_iff] at he
  obtain ⟨y, g1, rfl⟩ := he
  obtain ⟨vs, hv, hl⟩ := hx
  obtain ⟨u, g2, g3⟩ := hl.get g1
  refine Well.val ha (d := .t y) (v := u) ?_ g3
  unfold execOp
  simp [ho, hv, Instr.extract, g2]
 ·cases he
end Go.Proofs.YtfadkjcfjkmalaaGreatDoor.Ev
set_option linter.unusedVariables false
set_option linter.unusedSimpArgs false
namespace Go.Proofs.YtfadkjcfjkmalaaGreatDoor.Ev
open Go.RowKit
variable {w0 : World} {N0 : Nat → Prop} {Z : Pins} {P : Program} {T : Tab} {S : Sum} {forb : Nat → Bool} {M : Map} {st : DS} {a : Act} {w : World} {o : Oper}
theorem Abs.setRow (ha : Abs w0 N0 Z M st a w) {k b : Nat} {r r' : Row} {l : Loc} {cs : Array Value} (hk : st.at k = some r) (hal : r.alive = true) (hM : M k = some l) (hb : l.block = some b)
  (hrow : Stp w0 N0 M M w (w.setRow b cs) → RelR (w.setRow b cs) w0.heap.size (fgn w0 N0 M) M k r') (hal' : r'.alive = true) : Abs w0 N0 Z M { st with h := st.h.set k (some r') } a (w.setRow b cs) := by
 have hown := ha.own k l b hM hb
 have stp : Stp w0 N0 M M w (w.setRow b cs) :=
  ⟨by simp, fun b' hf _ => setRow_other _ _ _ _ (fun e => hf k l hM (by rw [hb]; exact congrArg some e.symm)), fun _ _ h => h, fun k l b h1 h2 => Or.inl ⟨k, l, h1, h2⟩⟩
 have hbe : Below w0.heap.size w (w.setRow b cs) := ⟨rfl, rfl, rfl, by simp, fun j hj => setRow_other _ _ _ _ (by omega)⟩
 have hat : ∀ j, ({ st with h := st.h.set k (some r') } : DS).at j = if k = j ∧ k < st.h.length then some r' else st.at j := fun j => getset _ _ _ _
 have hlt : k < st.h.length := by
  unfold DS.at at hk
  cases e : st.h[k]? with
  | none => rw [e] at hk; cases hk
  | some x => exact (List.getElem?_eq_some_iff.1 e).1
 refine ha.step stp hbe ha.fits rfl (fun i dv h => Or.inl ⟨h, rfl⟩) (fun j r2 h => ?_) (fun j h => ?_) (fun j l2 b2 h1 h2 => ?_) (fun k1 k2 r1 r2 l1 l2 b2 h1 h2 h3 h4 h5 h6 h7 h8 => ?_)
 ·rw [hat] at h
  by_cases e : k = j ∧ k < st.h.length
  ·rw [if_pos e] at h; cases h; rw [← e.1]; exact Or.inr (hrow stp)
  ·rw [if_neg e] at h
   refine Or.inl ⟨h, fun h2 l2 b2 h3 h4 => setRow_other _ _ _ _ fun e2 => ?_⟩
   subst e2
   exact e ⟨ha.apart k j r r2 l l2 b2 hk hal h h2 hM h3 hb h4, hlt⟩
 ·rw [hat] at h
  by_cases e : k = j ∧ k < st.h.length
  ·rw [if_pos e] at h; cases h
  ·rw [if_neg e] at h; exact ha.dom j h
 ·have := ha.own j l2 b2 h1 h2; exact ⟨this.1, by simpa using this.2⟩
 ·have g : ∀ j r, ({ st with h := st.h.set k (some r') } : DS).at j = some r → r.alive = true → ∃ r, st.at j = some r ∧ r.alive = true := by
   intro j r3 e1 e2
   rw [hat] at e1
   by_cases e : k = j ∧ k < st.h.length
   ·rw [← e.1]; exact ⟨r, hk, hal⟩
   ·rw [if_neg e] at e1; exact ⟨r3, e1, e2⟩
  obtain ⟨q1, g1, g2⟩ := g _ _ h1 h2
  obtain ⟨q2, g3, g4⟩ := g _ _ h3 h4
  exact ha.apart k1 k2 q1 q2 l1 l2 b2 g1 g2 g3 g4 h5 h6 h7 h8
theorem run_storeAt (hT : TabOK P T) {t : TypeId} {i : TyI} (hi : T t = some i) {b off : Nat} {v : Value} {cs : Array Value} {ty : TypeId} (hg : w.heap[b]? = some (.cells cs ty (0, 0))) (hs : v.cells.size = i.size) (hfit : off + v.cells.size ≤ cs.size) (h1 : ∀ x ∈ v.cells.toList, x.oneCell' = true) :
  (Instr.storeAt t (.pointer (some ⟨b, off, none⟩)) v).run P w = .ok () (w.setRow b (cs.toList.take off ++ v.cells.toList ++ cs.toList.drop (off + v.cells.size)).toArray) := by
 have h2 := (hT t i hi).sizeOf w
 have h3 := run_storeCells_at (P := P) b off ty v.cells.toList 0 cs w hg (by simpa using hfit) h1
 simp only [Nat.add_zero, Array.length_toList] at h3
 simp [Instr.storeAt, Instr.sureAddr, storeVar, h2, hs]
 rw [← hs]
 simpa using h3
theorem all2_put {R : CV → Value → Prop} {c xs : List CV} {cs vs : List Value} (h : All2 R c cs) (g : All2 R xs vs) (off : Nat) : All2 R (put c off xs) (cs.take off ++ vs ++ cs.drop (off + vs.length)) := by
 unfold put
 rw [← g.length]
 exact ((h.take off).append g).append (h.drop _)
theorem take_set {l : List Value} {n j : Nat} {v : Value} (hj : j < n) (hn : n ≤ l.length) : (l.take j ++ [v] ++ l.drop (j + 1)).take n = (l.take n).set j v := by
 apply List.ext_getElem?
 intro i
 rw [List.getElem?_take, List.getElem?_set]
 by_cases hi : i < n
 ·rw [if_pos hi]
  by_cases h1 : j = i
  ·subst h1
   rw [if_pos rfl, if_pos (by rw [List.length_take]; omega)]
   rw [List.append_assoc, List.getElem?_append_right (by rw [List.length_take]; omega)]
   simp [List.length_take, Nat.min_eq_left (show j ≤ l.length by omega)]
  ·rw [if_neg h1, List.getElem?_take, if_pos hi]
   by_cases h2 : i < j
   ·rw [List.append_assoc, List.getElem?_append_left (by rw [List.length_take]; omega), List.getElem?_take, if_pos h2]
   ·rw [List.getElem?_append_right (by simp; omega), List.getElem?_drop]
    congr 1
    simp; omega
 ·rw [if_neg hi]
  split
  ·omega
  ·rw [List.getElem?_take, if_neg hi]
theorem take_put {α : Type} (l ys : List α) {o N : Nat} (h1 : o + ys.length ≤ N) (h2 : N ≤ l.length) : (l.take o ++ ys ++ l.drop (o + ys.length)).take N = (l.take N).take o ++ ys ++ (l.take N).drop (o + ys.length) := by
 rw [List.take_append, List.take_of_length_le (by simp; omega)]
 congr 1
 ·rw [List.take_take, Nat.min_eq_left (by omega)]
 ·rw [List.take_drop, List.length_append, List.length_take, Nat.min_eq_left (by omega)]
  congr 2; omega
theorem put_len {l xs : List CV} {o : Nat} (h : o + xs.length ≤ l.length) : (put l o xs).length = l.length := by
 unfold put; simp; omega
theorem flat_put {sz off : Nat} {xs : List CV} (ho : off + xs.length ≤ sz) : ∀ (l : List (List CV)) (j : Nat), (∀ e ∈ l, e.length = sz) → j < l.length → (l.set j (put (l.getD j []) off xs)).flatten = put l.flatten (j * sz + off) xs
 | [], j, _, h => by simp at h
 | e :: l, 0, hl, _ => by
  have he := hl e (by simp)
  rw [List.set_cons_zero, List.flatten_cons, List.flatten_cons, Nat.zero_mul, Nat.zero_add]
  simp only [List.getD_cons_zero]
  unfold put
  rw [List.take_append_of_le_length (by omega), List.drop_append_of_le_length (by omega), List.append_assoc]
 | e :: l, j + 1, hl, h => by
  have he := hl e (by simp)
  have ih := flat_put ho l j (fun x hx => hl x (by simp [hx])) (by simpa using h)
  rw [List.set_cons_succ, List.flatten_cons, List.flatten_cons, List.getD_cons_succ, ih]
  unfold put
  have e1 : (j + 1) * sz + off = e.length + (j * sz + off) := by rw [Nat.succ_mul]; omega
  rw [e1, List.take_length_add_append, show e.length + (j * sz + off) + xs.length = e.length + (j * sz + off + xs.length) by omega, List.drop_length_add_append]
  simp
theorem isF_rel {N : Nat → Prop} : ∀ {x : CV} {v : Value}, isF x = true → RelC w N M x v → RelF w N x v
 | .v _, _, _, h => h
 | .sl _ _ _, _, _, h => h
 | .px _ _ _, _, _, h => h
 | .er _, _, _, h => h
 | .any, _, _, h => h
 | .os _, _, h, _ | .p _ _, _, h, _ | .pe _ _ _ _, _, h, _ | .ob _ _ _ _, _, h, _ => by simp [isF] at h
theorem all2_F {N : Nat → Prop} : ∀ {l : List CV} {vs : List Value}, allF l = true → All2 (RelC w N M) l vs → All2 (RelF w N) l vs
 | [], [], _, _ => trivial
 | x :: l, v :: vs, h, g => by
  simp only [allF, Bool.and_eq_true] at h
  exact ⟨isF_rel h.1 g.1, all2_F h.2 g.2⟩
 | [], _ :: _, _, g => g.elim
 | _ :: _, [], _, g => g.elim
theorem unFn_rel {w : World} {N : Nat → Prop} {M : Map} {d : DV} {v : Value} (h : RelD (RelC w N M) d v) : RelD (RelC w N M) (unFn d) v := by
 unfold unFn
 split
 ·obtain ⟨vs, e, g⟩ := h
  cases vs with
  | nil => exact ⟨e, by rw [e]; rfl⟩
  | cons _ _ => exact g.elim
 ·exact h
theorem fnOf_rel {w : World} {N : Nat → Prop} {M : Map} {d : DV} {v : Value} (h : RelD (RelC w N M) d v) : RelD (RelC w N M) (fnOf d) v := by
 unfold fnOf
 split
 ·exact ⟨[], h.1, trivial⟩
 ·exact h
theorem well_store (hT : TabOK P T) (ha : Abs w0 N0 Z M st a w) {t : TypeId} {x y : Operand} (ho : o.op = .store t x y) {dx dy : DV} (hdx : opv st x = some dx) (hdy : opv st y = some dy) {e : Eff} (he : storeE T forb st t dx (unFn dy) = some e) (hp : e.pre) : Well P w0 N0 Z o a w (st.app o.dst e) := by
 have hx := opv_rel ha hdx
 have hy := unFn_rel (opv_rel ha hdy)
 clear hdy
 generalize unFn dy = dy at he hy
 have fin : ∀ M' w' e', (Instr.storeAt t (a.eval x) (a.eval y)).run P w = .ok () w' → Abs w0 N0 Z M' e' a w' → e'.t = st.t → ∀ st', st' = e'.putO o.dst (some noV) → (∀ dv, some noV = some dv → RelD (RelC w' (fgn w0 N0 M') M') dv undef) → Well P w0 N0 Z o a w st' := by
  intro M' w' e' hr hab _ st' hst hv
  refine .skip M' w' ?_ ?_
  ·unfold execOp
   simp only [ho, Sem.run_bind, hr, Result.andThen_ok]
   rfl
  ·rw [hst]; exact hab.put (Below.refl _ _) o.dst hv
 have hund : ∀ {w' : World} {M' : Map} (dv : DV), some noV = some dv → RelD (RelC w' (fgn w0 N0 M') M') dv undef := by
  intro w' M' dv e
  cases e
  exact ⟨[], rfl, trivial⟩
 unfold storeE at he
 split at he
 rotate_left
 ·cases he
 rename_i i xs hi hcy
 split at he
 ·rename_i k off
  obtain ⟨b, hM, hv⟩ := hx
  split at he
  ·rename_i ty c hrow
   cases hq : (Nat.beq xs.length i.size && Nat.ble (off + xs.length) c.length) with
   | false => rw [hq] at he; cases he
   | true =>
    rw [hq] at he
    cases he
    simp only [Bool.and_eq_true] at hq
    have q1 := Nat.eq_of_beq_eq_true hq.1
    have q2 := Nat.le_of_ble_eq_true hq.2
    have hat := rd_at hrow
    obtain ⟨b', cs, g1, g2, g3⟩ := ha.row k _ hat
    rw [hM] at g1; cases g1
    have hcells := cellsOf_rel (fun _ _ h => RelC.one h) hcy hy
    have hl1 := hcells.length
    have hl2 := g3.length
    simp only [Array.length_toList] at hl1 hl2
    have hrun := run_storeAt (w := w) hT hi (off := off) g2 (v := a.eval y) (by omega) (by omega) (hcells.all_right fun _ _ h => RelC.one h)
    have hab := ha.setRow (cs := ((cs.toList.take off ++ (a.eval y).cells.toList ++ cs.toList.drop (off + (a.eval y).cells.size)).toArray)) (r' := .box ty (put c off xs)) hat rfl hM rfl
     (fun stp => ⟨b, _, hM, setRow_heap _ _ _ _ _ _ g2, by
      have := all2_put g3 hcells off
      simp only [Array.length_toList] at this
      exact this.mono fun _ _ g => stp.relC g⟩) rfl
    exact fin M _ _ (by rw [hv]; exact hrun) hab rfl _ rfl hund
  ·cases he
 ·rename_i k j sz off
  obtain ⟨b, m, cap, hM, hv⟩ := hx
  split at he
  ·rename_i ty kd' l hrow
   split at he
   rotate_left
   ·cases he
   rename_i kd n
   cases hq : (Nat.beq sz 1 && Nat.beq off 0 && Nat.beq i.size 1) with
   | false => rw [hq] at he; cases he
   | true =>
    rw [hq] at he
    cases he
    simp only [Bool.and_eq_true] at hq
    obtain rfl := Nat.eq_of_beq_eq_true hq.1.1
    obtain rfl := Nat.eq_of_beq_eq_true hq.1.2
    have q3 := Nat.eq_of_beq_eq_true hq.2
    obtain ⟨hj, rfl⟩ : j < l.length ∧ kd = kd' := hp
    have hat := rd_at hrow
    obtain ⟨v', g1, g2⟩ := ha.row k _ hat
    rw [hM] at g1; cases g1
    have hcells := cellsOf_rel (fun _ _ h => RelC.one h) hcy hy
    have hey : (a.eval y).cells.toList = [.int kd n] := by
     match h : (a.eval y).cells.toList, hcells with
     | [u], hc => rw [show u = .int kd n from hc.1.1]
     | [], hc => exact hc.elim
     | _ :: _ :: _, hc => exact hc.2.elim
    have hsz : (a.eval y).cells.size = 1 := by rw [← Array.length_toList, hey]; rfl
    obtain ⟨h1, h2⟩ := g2
    rcases h2 with ⟨h2, h3⟩ | ⟨g, cap', cur, h3, hb, hg, hn, hm, hs, ht⟩
    ·cases h2
    ·cases h3
     have hsc : cur.size = cap * 1 := hs
     have hlc : l.length ≤ cur.size := by omega
     have hrun := run_storeAt (w := w) hT hi (off := j * 1 + 0) hg (v := a.eval y) (by omega) (by omega) (hcells.all_right fun _ _ h => RelC.one h)
     have hab := ha.setRow (cs := ((cur.toList.take (j * 1 + 0) ++ (a.eval y).cells.toList ++ cur.toList.drop (j * 1 + 0 + (a.eval y).cells.size)).toArray)) (r' := .num ty kd (l.set j n)) hat rfl hM rfl
      (fun stp => by
       refine ⟨_, hM, by simp, Or.inr ⟨b, cap, _, by simp, hb, setRow_heap _ _ _ _ _ _ hg, by simpa using hn, hm, ?_, ?_⟩⟩
       ·simp [hsz]; omega
       ·rw [hsz, hey]
        simp only [Nat.mul_one, Nat.add_zero, List.length_set]
        have := take_set (l := cur.toList) (n := l.length) (j := j) (v := .int kd n) hj (by simpa using hlc)
        rw [this]
        rw [Nat.mul_one] at ht
        rw [ht, List.map_set]) rfl
     exact fin M _ _ (by rw [hv]; exact hrun) hab rfl _ rfl hund
  ·rename_i ty sz' l hrow
   cases hq : (Nat.beq sz sz' && (Nat.beq xs.length i.size && (Nat.ble (off + xs.length) sz && allF xs))) with
   | false => rw [hq] at he; cases he
   | true =>
    rw [hq] at he
    cases he
    simp only [Bool.and_eq_true] at hq
    obtain ⟨q1, q2, q3, q4⟩ := hq
    obtain rfl := Nat.eq_of_beq_eq_true q1
    have q2 := Nat.eq_of_beq_eq_true q2
    have q3 := Nat.le_of_ble_eq_true q3
    have hj : j < l.length := hp
    have hat := rd_at hrow
    obtain ⟨v', xs0, g1, g2, g3, g4⟩ := ha.row k _ hat
    rw [hM] at g1; cases g1
    have hcells := cellsOf_rel (fun _ _ h => RelC.one h) hcy hy
    have hF := all2_F q4 hcells
    have hl1 := hcells.length
    obtain ⟨h1, h2⟩ := g2
    rcases h2 with ⟨h2, h3⟩ | ⟨g, cap', cur, h3, hb, hg, hn, hm, hs, ht⟩
    ·cases h2
    ·cases h3
     have hjs : j * sz + sz ≤ l.length * sz := by rw [← Nat.succ_mul]; exact Nat.mul_le_mul_right _ hj
     have hns : l.length * sz ≤ cap * sz := Nat.mul_le_mul_right _ hn
     have hcl : cur.toList.length = cap * sz := by simpa using hs
     have hys : (a.eval y).cells.toList.length = xs.length := hl1.symm
     have hsz : (a.eval y).cells.size = xs.length := by simpa using hys
     have hrun := run_storeAt (w := w) hT hi (off := j * sz + off) hg (v := a.eval y) (by omega) (by omega) (hcells.all_right fun _ _ h => RelC.one h)
     have hab := ha.setRow (cs := ((cur.toList.take (j * sz + off) ++ (a.eval y).cells.toList ++ cur.toList.drop (j * sz + off + (a.eval y).cells.size)).toArray)) (r' := .gen ty sz (l.set j (put (l.getD j []) off xs))) hat rfl hM rfl
      (fun stp => by
       refine ⟨_, xs0.take (j * sz + off) ++ (a.eval y).cells.toList ++ xs0.drop (j * sz + off + (a.eval y).cells.toList.length), hM, ⟨?_, Or.inr ⟨b, cap, _, by simp, hb, setRow_heap _ _ _ _ _ _ hg, by simpa using hn, hm, ?_, ?_⟩⟩, ?_, ?_⟩
       ·simp only [List.length_append, List.length_take, List.length_drop, List.length_set]; omega
       ·simp; omega
       ·rw [List.length_set, ← Array.length_toList]
        have := take_put cur.toList (a.eval y).cells.toList (o := j * sz + off) (N := l.length * sz) (by omega) (by omega)
        simp only [List.toList_toArray]
        rw [this, ht]
       ·intro e he
        rcases List.mem_or_eq_of_mem_set he with he | he
        ·exact g3 e he
        ·have h5 := g3 l[j] (List.getElem_mem hj)
         rw [he, put_len (by simp [List.getD, hj]; omega)]
         simp [List.getD, hj, h5]
       ·rw [flat_put (by omega) l j g3 hj]
        exact (all2_put g4 hF (j * sz + off)).mono fun _ _ g => stp.relF g) rfl
     exact fin M _ _ (by rw [hv]; exact hrun) hab rfl _ rfl hund
  ·cases he
 ·cases he
theorem partsOf_rel (ha : Abs w0 N0 Z M st a w) : ∀ {l : List (Nat × Operand)} {ps : List (Nat × List CV)}, partsOf st l = some ps → All2 (fun p q => p.1 = q.1 ∧ All2 (RelC w (fgn w0 N0 M) M) p.2 q.2.cells.toList) ps (l.map fun x => (x.1, a.eval x.2))
 | [], ps, h => by simp only [partsOf, Option.some.injEq] at h; subst h; trivial
 | (i, x) :: l, ps, h => by
  simp only [partsOf] at h
  split at h
  ·rename_i c r h1 h2
   simp only [Option.some.injEq] at h; subst h
   simp only [Option.bind_eq_some_iff] at h1
   obtain ⟨d, g1, g2⟩ := h1
   exact ⟨⟨rfl, cellsOf_rel (fun _ _ h => RelC.one h) g2 (opv_rel ha g1)⟩, partsOf_rel ha h2⟩
  ·cases h
theorem foldl_put (off : Nat) : ∀ (xs : List Value) (k : Nat) (A : Array Value), off + k + xs.length ≤ A.size →
  ((xs.zipIdx k).foldl (fun cs p => cs.setIfInBounds (off + p.2) p.1) A).toList = A.toList.take (off + k) ++ xs ++ A.toList.drop (off + k + xs.length)
 | [], k, A, _ => by simp
 | x :: xs, k, A, h => by
  simp only [List.length_cons] at h
  rw [List.zipIdx_cons, List.foldl_cons, foldl_put off xs (k + 1) _ (by simp; omega)]
  simp only [Array.toList_setIfInBounds]
  rw [show off + (k + 1) = off + k + 1 by omega]
  have hlt : off + k < A.toList.length := by simp; omega
  have e1 : (A.toList.set (off + k) x).take (off + k + 1) = A.toList.take (off + k) ++ [x] := by
   rw [List.take_succ_eq_append_getElem (by simpa using hlt)]
   simp [List.take_set]
   exact List.set_eq_of_length_le (by rw [List.length_take]; omega)
  have e2 : (A.toList.set (off + k) x).drop (off + k + 1 + xs.length) = A.toList.drop (off + k + (x :: xs).length) := by
   rw [List.drop_set_of_lt (by omega)]
   congr 1; simp; omega
  rw [e1, e2]
  simp
theorem fill_rel {R : CV → Value → Prop} {place : Nat → Option (Nat × Nat)} : ∀ {ps : List (Nat × List CV)} {qs : List (Nat × Value)} {c c' : List CV} {A : Array Value}, fillE place c ps = some c' → All2 R c A.toList → All2 (fun p q => p.1 = q.1 ∧ All2 R p.2 q.2.cells.toList) ps qs → ∃ A', Instr.fill place A qs = some A' ∧ All2 R c' A'.toList
 | [], [], c, c', A, h, hc, _ => by simp only [fillE, Option.some.injEq] at h; subst h; exact ⟨A, rfl, hc⟩
 | (i, x) :: ps, (i', v) :: qs, c, c', A, h, hc, hq => by
  obtain ⟨⟨e1, e2⟩, hq⟩ := hq
  simp only at e1 e2
  subst e1
  simp only [fillE] at h
  split at h
  ·cases h
  ·rename_i off size hpl
   cases hb : (Nat.beq x.length size && Nat.ble (off + x.length) c.length) with
   | false => rw [hb] at h; cases h
   | true =>
    rw [hb] at h
    simp only [cond_true] at h
    simp only [Bool.and_eq_true] at hb
    have b1 := Nat.eq_of_beq_eq_true hb.1
    have b2 := Nat.le_of_ble_eq_true hb.2
    have l1 := e2.length
    have l2 := hc.length
    simp only [Array.length_toList] at l1 l2
    have hA : (v.cells.zipIdx.foldl (fun cs (c, j) => cs.setIfInBounds (off + j) c) A).toList = A.toList.take off ++ v.cells.toList ++ A.toList.drop (off + v.cells.toList.length) := by
     have := foldl_put off v.cells.toList 0 A (by simp; omega)
     rw [← Array.foldl_toList, Array.toList_zipIdx]
     simpa using this
    obtain ⟨A', g1, g2⟩ := fill_rel (A := v.cells.zipIdx.foldl (fun cs (c, j) => cs.setIfInBounds (off + j) c) A) h (by rw [hA]; exact all2_put hc e2 off) hq
    refine ⟨A', ?_, g2⟩
    simp only [Instr.fill, hpl]
    rw [if_neg (by simp; omega)]
    exact g1
 | [], _ :: _, _, _, _, _, _, h => h.elim
 | _ :: _, [], _, _, _, _, _, h => h.elim
theorem placesOf_ok (hT : TabOK P T) : ∀ {F : List Field} {pl : List (Nat × Nat)}, placesOf T (F.map fun f => (f.offset, f.type)) = some pl → F.mapM (fun f => (P.info? f.type).map fun i => (f.offset, i.size)) = some pl
 | [], pl, h => by simp only [List.map_nil, placesOf, Option.some.injEq] at h; subst h; rfl
 | f :: F, pl, h => by
  simp only [List.map_cons, placesOf] at h
  split at h
  ·rename_i i r h1 h2
   simp only [Option.some.injEq] at h; subst h
   obtain ⟨x, g1, g2, _⟩ := (hT _ _ h1).inf
   simp [List.mapM_cons, g1, g2, placesOf_ok hT h2]
  ·cases h
theorem well_build (hT : TabOK P T) (ha : Abs w0 N0 Z M st a w) {t : TypeId} {parts : Array (Nat × Operand)} (ho : o.op = .build t parts) {e : Eff} (he : buildE T st t parts.toList = some e) : Well P w0 N0 Z o a w (st.app o.dst e) := by
 unfold buildE at he
 split at he
 ·rename_i i ps hi hps
  cases hz : oneAll i.zero with
  | false => rw [hz] at he; cases he
  | true =>
   rw [hz] at he
   simp only [cond_true] at he
   obtain ⟨d, hu, hd⟩ := (hT t i hi).desc
   obtain ⟨it, hit, _, _, z, hiz, hzc⟩ := (hT t i hi).inf
   have hqs := partsOf_rel ha hps
   have h0 : All2 (RelC w (fgn w0 N0 M) M) (i.zero.map .v) z.cells.toList := by rw [hzc]; exact all2_v relC_v hz
   have fin : ∀ (cells : Array Value) (l : List CV), P.built t (parts.map fun x => (x.1, a.eval x.2)).toList = some cells → All2 (RelC w (fgn w0 N0 M) M) l cells.toList → Well P w0 N0 Z o a w (st.app o.dst (val (.t (.a l)))) := by
    intro cells l h1 h2
    refine Well.val ha (d := .t (.a l)) (v := .agg cells) ?_ ⟨cells.toList, by simp, h2⟩
    unfold execOp
    simp only [ho, Sem.run_bind, run_build w t _ cells h1, Result.andThen_ok, Sem.run_pure]
   have hpm : (parts.map fun x => (x.1, a.eval x.2)).toList = parts.toList.map fun x => (x.1, a.eval x.2) := by simp
   split at he
   ·rename_i fs hsh
    simp only [Option.bind_eq_some_iff, Option.map_eq_some_iff] at he
    obtain ⟨pl, h1, l, h2, rfl⟩ := he
    obtain ⟨F, hF, hfs⟩ := (hT t i hi).strct hsh
    obtain ⟨A', g1, g2⟩ := fill_rel h2 h0 hqs
    refine fin A' l ?_ g2
    unfold Program.built
    rw [← hfs] at h1
    simp only [hit, hF, hiz, placesOf_ok hT h1, hpm]
    rw [← g1]
    congr 1
    funext j
    simp
   ·rename_i n el hsh
    simp only [Option.bind_eq_some_iff, Option.map_eq_some_iff] at he
    obtain ⟨ei, h1, l, h2, rfl⟩ := he
    obtain ⟨A', g1, g2⟩ := fill_rel h2 h0 hqs
    obtain ⟨ie, hie, hies, _⟩ := (hT el ei h1).inf
    refine fin A' l ?_ g2
    unfold Program.built
    simp only [hit, (hT t i hi).arr hsh, hiz, hie, hpm, hies]
    exact g1
   ·cases he
 ·cases he
theorem inOrder_rel {sz : Nat} : ∀ {ps : List (Nat × List CV)} {qs : List (Nat × Value)} {k : Nat} {l : List (List CV)}, inOrder sz k ps = some l → All2 (fun p q => p.1 = q.1 ∧ All2 (RelC w (fgn w0 N0 M) M) p.2 q.2.cells.toList) ps qs →
  ∃ vs : List Value, qs = (vs.zipIdx k).map (fun x => (x.2, x.1)) ∧ vs.length = l.length ∧ (∀ v ∈ vs, v.cells.size = sz) ∧ (∀ e ∈ l, e.length = sz) ∧ All2 (RelF w (fgn w0 N0 M)) l.flatten (vs.flatMap fun v => v.cells.toList)
 | [], [], k, l, h, _ => by
  simp only [inOrder, Option.some.injEq] at h; subst h
  exact ⟨[], rfl, rfl, by simp, by simp, trivial⟩
 | (i, c) :: ps, (i', v) :: qs, k, l, h, hq => by
  obtain ⟨⟨e1, e2⟩, hq⟩ := hq
  simp only at e1 e2
  subst e1
  simp only [inOrder] at h
  cases hb : (Nat.beq i k && Nat.beq c.length sz && allF c) with
  | false => rw [hb] at h; cases h
  | true =>
   rw [hb] at h
   simp only [cond_true, Option.map_eq_some_iff] at h
   obtain ⟨l', h1, rfl⟩ := h
   simp only [Bool.and_eq_true] at hb
   obtain rfl := Nat.eq_of_beq_eq_true hb.1.1
   have b2 := Nat.eq_of_beq_eq_true hb.1.2
   obtain ⟨vs, g1, g2, g3, g4, g5⟩ := inOrder_rel h1 hq
   have hlen := e2.length
   simp only [Array.length_toList] at hlen
   refine ⟨v :: vs, by rw [g1]; simp [List.zipIdx_cons], by simp [g2], ?_, ?_, ?_⟩
   ·intro u hu
    rcases List.mem_cons.1 hu with rfl | hu
    ·omega
    ·exact g3 u hu
   ·intro u hu
    rcases List.mem_cons.1 hu with rfl | hu
    ·exact b2
    ·exact g4 u hu
   ·rw [List.flatten_cons, List.flatMap_cons]
    exact (all2_F hb.2 e2).append g5
 | [], _ :: _, _, _, _, h => h.elim
 | _ :: _, [], _, _, _, h => h.elim
theorem inPtr_rel {w : World} {R : CV → Value → Prop} : ∀ {ps : List (Nat × List CV)} {qs : List (Nat × Value)} {k : Nat} {l : List CV}, inPtr k ps = some l → All2 (fun p q => p.1 = q.1 ∧ All2 R p.2 q.2.cells.toList) ps qs →
  ∃ vs : List Value, qs = (vs.zipIdx k).map (fun x => (x.2, x.1)) ∧ vs.length = l.length ∧ (∀ v ∈ vs, v.cells.size = 1) ∧ All2 R l (vs.flatMap fun v => v.cells.toList)
 | [], [], k, l, h, _ => by
  simp only [inPtr, Option.some.injEq] at h; subst h
  exact ⟨[], rfl, rfl, by simp, trivial⟩
 | (i, c) :: ps, (i', v) :: qs, k, l, h, hq => by
  obtain ⟨⟨e1, e2⟩, hq⟩ := hq
  simp only at e1 e2
  subst e1
  simp only [inPtr] at h
  split at h
  ·rename_i a off
   cases hb : Nat.beq i k with
   | false => rw [hb] at h; cases h
   | true =>
    rw [hb] at h
    simp only [cond_true, Option.map_eq_some_iff] at h
    obtain ⟨l', h1, rfl⟩ := h
    obtain rfl := Nat.eq_of_beq_eq_true hb
    obtain ⟨vs, g1, g2, g3, g4⟩ := inPtr_rel (w := w) h1 hq
    have hlen := e2.length
    simp only [Array.length_toList, List.length_singleton] at hlen
    refine ⟨v :: vs, by rw [g1]; simp [List.zipIdx_cons], by simp [g2], ?_, ?_⟩
    ·intro u hu
     rcases List.mem_cons.1 hu with rfl | hu
     ·omega
     ·exact g3 u hu
    ·rw [List.flatMap_cons]
     exact All2.append e2 g4
  ·cases h
 | [], _ :: _, _, _, _, h => h.elim
 | _ :: _, [], _, _, _, h => h.elim
theorem well_buildSlice (hT : TabOK P T) (ha : Abs w0 N0 Z M st a w) {t : TypeId} {n : Nat} {parts : Array (Nat × Operand)} (ho : o.op = .buildSlice t n parts) {e : Eff} (he : buildSliceE T st o.dst t n parts.toList = some e) : Well P w0 N0 Z o a w (st.app o.dst e) := by
 unfold buildSliceE at he
 cases hd : o.dst with
 | none => rw [hd] at he; cases he
 | some d =>
 rw [hd] at he
 simp only at he
 split at he
 ·rename_i el s1 s2 z q ps ht hps
  split at he
  ·rename_i ei hei hat
   have hu := (hT t _ ht).sl rfl
   obtain ⟨ie, hie, hies, _, zv, hiz, hzc⟩ := (hT el ei hei).inf
   have key : ∀ (m : Nat) (vs : List Value), parts.toList.map (fun x => (x.1, a.eval x.2)) = vs.zipIdx.map (fun x => (x.2, x.1)) → vs.length = m → (∀ v ∈ vs, v.cells.size = ei.size) → 0 < ei.size → ei.zero.length = ei.size → m * ei.size ≤ 1000 →
     (vs.flatMap fun v => v.cells.toList).length = m * ei.size ∧ (Instr.buildSlice t m (parts.map fun x => (x.1, a.eval x.2))).run P w = .ok (.slice (some ⟨w.heap.size, 0, none⟩) m m) (w.alloc (.cells (vs.flatMap fun v => v.cells.toList).toArray el)) := by
    intro m vs g1 g2 g3 q3 q4 q2
    subst g2
    have hzl : zv.cells.size = ei.size := by rw [← Array.length_toList, hzc, q4]
    have hpm : (parts.map fun x => (x.1, a.eval x.2)).toList = parts.toList.map fun x => (x.1, a.eval x.2) := by simp
    have hcl : (vs.flatMap fun v => v.cells.toList).length = vs.length * ei.size := by
     clear g1 q2
     induction vs with
     | nil => simp
     | cons v vs ih =>
      rw [List.flatMap_cons, List.length_append, ih (fun u hu => g3 u (by simp [hu])), Array.length_toList, g3 v (by simp), List.length_cons, Nat.succ_mul]; omega
    refine ⟨hcl, ?_⟩
    by_cases h0 : vs.length * ei.size = 0
    ·have hl0 : vs.length = 0 := by
      rcases Nat.mul_eq_zero.1 h0 with h | h
      ·exact h
      ·omega
     have hvs : vs = [] := List.eq_nil_of_length_eq_zero (by omega)
     rw [hvs] at g1
     simp only [List.zipIdx_nil, List.map_nil] at g1
     have hpl : (parts.map fun x => (x.1, a.eval x.2)).toList = [] := by rw [hpm, g1]
     have hpa : (parts.map fun x => (x.1, a.eval x.2)) = #[] := by
      apply Array.toList_inj.1; rw [hpl]
     rw [hpa, hvs]
     simp [Instr.buildSlice, run_underlying hu, Go.sizeOf, run_ti hie, Instr.fill, newRow]
     rw [Array.range_zero', Array.map_empty]
    ·refine run_buildSlice w t el vs.length _ _ ie zv hu hie hiz (by rw [hies]; omega) (by rw [hies]; exact h0) ?_
     rw [hpm, g1, hies]
     exact Great.fill_whole q3 vs _ g3 (by simp)
   split at he
   ·rename_i l hl
    cases hq : (Nat.beq l.length n && Nat.ble (n * ei.size) 1000 && Nat.blt 0 ei.size && Nat.beq ei.zero.length ei.size && Nat.blt d st.h.length) with
    | false => rw [hq] at he; cases he
    | true =>
     rw [hq] at he
     cases he
     simp only [Bool.and_eq_true] at hq
     obtain ⟨⟨⟨⟨q1, q2⟩, q3⟩, q4⟩, q5⟩ := hq
     obtain rfl := Nat.eq_of_beq_eq_true q1
     have q2 := Nat.le_of_ble_eq_true q2
     have q3 : 0 < ei.size := Nat.le_of_ble_eq_true q3
     have q4 := Nat.eq_of_beq_eq_true q4
     have q5 : d < st.h.length := Nat.le_of_ble_eq_true q5
     obtain ⟨vs, g1, g2, g3, g4, g5⟩ := inOrder_rel hl (partsOf_rel ha hps)
     obtain ⟨hcl, hrun⟩ := key l.length vs g1 g2 g3 q3 q4 q2
     obtain ⟨M', h⟩ := ha.newRow d (r := .gen el ei.size l) (l := .row (.slice (some ⟨w.heap.size, 0, none⟩) l.length l.length)) (cs := (vs.flatMap fun v => v.cells.toList).toArray) (ty := el) (x := .t (.c (.os d))) (v := .slice (some ⟨w.heap.size, 0, none⟩) l.length l.length) hat q5 rfl rfl
      (fun M' h1 h2 => ⟨_, _, h1, ⟨hcl, Or.inr ⟨w.heap.size, l.length, _, rfl, ha.below.size, heap_alloc_new w _, Nat.le_refl _, by unfold maxLen; have : l.length * 1 ≤ l.length * ei.size := Nat.mul_le_mul_left _ q3; omega, by simpa using hcl, by rw [List.take_of_length_le (by simp [hcl])]⟩⟩, g4, g5.mono fun _ _ g => h2.relF g⟩)
      (fun M' h1 => ⟨h1, Or.inr ⟨_, _, _, rfl⟩⟩)
     refine .value _ M' _ ?_ (by rw [hd]; exact h)
     unfold execOp
     simp only [ho, Sem.run_bind, hrun, Result.andThen_ok, Sem.run_pure]
   ·split at he
    ·rename_i c hc
     split at he
     ·cases hq : (Nat.beq c.length n && Nat.ble n 1000 && Nat.blt 0 n && Nat.beq ei.size 1 && Nat.beq ei.zero.length ei.size && Nat.blt d st.h.length) with
      | false => rw [hq] at he; cases he
      | true =>
       rw [hq] at he
       cases he
       simp only [Bool.and_eq_true] at hq
       obtain ⟨⟨⟨⟨⟨q1, q2⟩, q3⟩, q6⟩, q4⟩, q5⟩ := hq
       obtain rfl := Nat.eq_of_beq_eq_true q1
       have q2 := Nat.le_of_ble_eq_true q2
       have q6 := Nat.eq_of_beq_eq_true q6
       have q4 := Nat.eq_of_beq_eq_true q4
       have q5 : d < st.h.length := Nat.le_of_ble_eq_true q5
       obtain ⟨vs, g1, g2, g3, g5⟩ := inPtr_rel (w := w) hc (partsOf_rel ha hps)
       obtain ⟨_, hrun⟩ := key c.length vs g1 g2 (by rw [q6]; exact g3) (by omega) q4 (by rw [q6]; omega)
       obtain ⟨M', h⟩ := ha.newRow d (r := .box el c) (l := .box w.heap.size) (cs := (vs.flatMap fun v => v.cells.toList).toArray) (ty := el) (x := .t (.c (.ob d 0 1 c.length))) (v := .slice (some ⟨w.heap.size, 0, none⟩) c.length c.length) hat q5 rfl rfl
        (fun M' h1 h2 => ⟨_, _, h1, heap_alloc_new w _, g5.mono fun _ _ g => h2.relC g⟩)
        (fun M' h1 => Or.inl ⟨_, _, h1, rfl, Nat.le_refl _, by unfold maxLen; omega⟩)
       refine .value _ M' _ ?_ (by rw [hd]; exact h)
       unfold execOp
       simp only [ho, Sem.run_bind, hrun, Result.andThen_ok, Sem.run_pure]
     ·cases he
    ·cases he
  ·cases he
 ·cases he
theorem made_flat {z : Array Value} {zl : List Value} (hz : z.toList = zl) (hpos : 0 < zl.length) (n : Nat) : (madeCells z (n * zl.length)).toList = (List.replicate n zl).flatten := by
 have hsz : z.size = zl.length := by rw [← hz]; simp
 apply List.ext_getElem?
 intro q
 by_cases hq : q < n * zl.length
 ·have e1 : (madeCells z (n * zl.length)).toList[q]? = some (z[q % z.size]!) := by
   rw [Array.getElem?_toList]; simp [madeCells, hq]
  have hlt : q % zl.length < zl.length := Nat.mod_lt _ hpos
  have hd : q / zl.length < n := Nat.div_lt_of_lt_mul (by rwa [Nat.mul_comm])
  have e2 : (List.replicate n zl)[q / zl.length]? = some zl := by simp [List.getElem?_replicate, hd]
  have e3 := flatten_get (l := List.replicate n zl) (sz := zl.length) (fun e he => by rw [List.eq_of_mem_replicate he]) e2 hlt
  rw [Nat.div_add_mod' q zl.length] at e3
  rw [e1, e3, hsz]
  have h5 : q % zl.length < z.size := by omega
  rw [getElem!_pos z _ h5]
  subst hz
  rw [Array.getElem?_toList, Array.getElem?_eq_getElem h5]
 ·rw [List.getElem?_eq_none (by simp [madeCells]; omega), List.getElem?_eq_none]
  simp; omega
theorem zeros_some {z : List Value} {k : IntKind} (h : zeros z = some (some k)) : z = [.int k 0] := by
 unfold zeros at h
 split at h
 ·rename_i k' n
  cases e : (n == 0) with
  | false => rw [e] at h; cases h
  | true => rw [e] at h; cases h; rw [eq_of_beq e]
 ·cases e : oneAll z with
  | false => rw [e] at h; cases h
  | true => rw [e] at h; cases h
theorem zeros_none {z : List Value} (h : zeros z = some none) : oneAll z = true := by
 unfold zeros at h
 split at h
 ·rename_i k' n
  cases e : (n == 0) with
  | false => rw [e] at h; cases h
  | true => rw [e] at h; cases h
 ·cases e : oneAll z with
  | false => rw [e] at h; cases h
  | true => rfl
theorem flat_v {N : Nat → Prop} {z : List Value} (h : oneAll z = true) : ∀ n, All2 (RelF w N) (List.replicate n (z.map CV.v)).flatten (List.replicate n z).flatten
 | 0 => trivial
 | n + 1 => by
  rw [List.replicate_succ, List.replicate_succ, List.flatten_cons, List.flatten_cons]
  exact (all2_v (fun y hy => ⟨rfl, hy⟩) h).append (flat_v h n)
theorem well_make (hT : TabOK P T) (ha : Abs w0 N0 Z M st a w) {t : TypeId} {x y : Operand} (ho : o.op = .makeSlice t x y) {dx dy : DV} (h1 : opv st x = some dx) (h2 : opv st y = some dy) {e : Eff} (he : makeE T st o.dst t dx dy = some e) (hp : e.pre) : Well P w0 N0 Z o a w (st.app o.dst e) := by
 have hx := opv_rel ha h1
 have hy := opv_rel ha h2
 unfold makeE at he
 cases hd : o.dst with
 | none => rw [hd] at he; cases he
 | some d =>
 rw [hd] at he
 simp only at he
 split at he
 ·rename_i el s1 s2 z q n m ht
  have ex : a.eval x = .int .i64 n := hx.1
  have ey : a.eval y = .int .i64 m := hy.1
  split at he
  ·rename_i ei hei hat
   cases hq : (Nat.blt d st.h.length && Nat.blt 0 ei.size && Nat.beq ei.zero.length ei.size) with
   | false => rw [hq] at he; cases he
   | true =>
    rw [hq] at he
    simp only [Bool.and_eq_true] at hq
    obtain ⟨⟨q1, q2⟩, q3⟩ := hq
    have q1 : d < st.h.length := Nat.le_of_ble_eq_true q1
    have q2 : 0 < ei.size := Nat.le_of_ble_eq_true q2
    have q3 := Nat.eq_of_beq_eq_true q3
    simp only [cond_true] at he
    have hu := (hT t _ ht).sl rfl
    obtain ⟨i, hi, his, hib, zv, hiz, hzc⟩ := (hT el ei hei).inf
    have run : m = n ∧ 0 ≤ n ∧ roomP ei.bytes n.toNat → (execOp a.eval o).run P w = .ok (.value (.slice (some ⟨w.heap.size, 0, none⟩) n.toNat n.toNat)) (w.alloc (.cells (madeCells zv.cells (n.toNat * ei.size)) el)) ∧ n.toNat ≤ maxLen := by
     rintro ⟨rfl, h0, hr1, hr2⟩
     have hb : (i.bytes : Int) * m ≤ 281474976710656 := by
      have h5 : ((i.bytes * m.toNat : Nat) : Int) ≤ 281474976710656 := by
       have : m.toNat * ei.bytes = i.bytes * m.toNat := by rw [hib, Nat.mul_comm]
       omega
      rw [Int.natCast_mul, Int.toNat_of_nonneg h0] at h5
      exact h5
     have h6 : m ≤ 9223372036854775807 := by unfold maxLen at hr2; omega
     have hr := run_make (P := P) w t el i zv hu hi hiz .i64 .i64 m m h0 (Int.le_refl _) hb h6
     rw [his] at hr
     refine ⟨?_, hr2⟩
     unfold execOp
     simp only [ho, ex, ey, Sem.run_bind, hr, Result.andThen_ok, Sem.run_pure]
    have hfl : (madeCells zv.cells (n.toNat * ei.size)).toList = (List.replicate n.toNat ei.zero).flatten := by
     rw [← q3]; exact made_flat hzc (by omega) _
    have hsz : (madeCells zv.cells (n.toNat * ei.size)).size = n.toNat * ei.size := size_madeCells _ _
    split at he
    ·rename_i k hz
     cases he
     obtain ⟨r1, r2⟩ := run hp
     have hz1 := zeros_some hz
     have hes : ei.size = 1 := by rw [← q3, hz1]; rfl
     obtain ⟨M', h⟩ := ha.newRow d (r := .num el k (List.replicate n.toNat 0)) (l := .row (.slice (some ⟨w.heap.size, 0, none⟩) n.toNat n.toNat)) (cs := madeCells zv.cells (n.toNat * ei.size)) (ty := el) (x := .t (.c (.os d))) (v := .slice (some ⟨w.heap.size, 0, none⟩) n.toNat n.toNat) hat q1 rfl rfl
      (fun M' h1 h2 => ⟨_, h1, ⟨by simp, Or.inr ⟨w.heap.size, n.toNat, _, by simp, ha.below.size, heap_alloc_new w _, by simp, r2, by rw [hsz, hes], by
       rw [List.length_replicate, Nat.mul_one, hfl, hz1, List.take_of_length_le (by simp)]
       clear run r1 hfl hsz h2 hp
       induction n.toNat with
       | zero => rfl
       | succ q ih => rw [List.replicate_succ, List.flatten_cons, ih, List.replicate_succ]; rfl⟩⟩⟩)
      (fun M' h1 => ⟨h1, Or.inr ⟨_, _, _, rfl⟩⟩)
     exact .value _ M' _ r1 (by rw [hd]; exact h)
    ·rename_i hz
     cases he
     obtain ⟨r1, r2⟩ := run hp
     have hz1 := zeros_none hz
     obtain ⟨M', h⟩ := ha.newRow d (r := .gen el ei.size (List.replicate n.toNat (ei.zero.map CV.v))) (l := .row (.slice (some ⟨w.heap.size, 0, none⟩) n.toNat n.toNat)) (cs := madeCells zv.cells (n.toNat * ei.size)) (ty := el) (x := .t (.c (.os d))) (v := .slice (some ⟨w.heap.size, 0, none⟩) n.toNat n.toNat) hat q1 rfl rfl
      (fun M' h1 h2 => ⟨_, (List.replicate n.toNat ei.zero).flatten, h1, ⟨by simp [q3], Or.inr ⟨w.heap.size, n.toNat, _, by simp, ha.below.size, heap_alloc_new w _, by simp, r2, hsz, by
       rw [List.length_replicate, hfl, List.take_of_length_le (by simp [q3])]⟩⟩, (fun e he => by rw [List.eq_of_mem_replicate he]; simpa using q3), flat_v hz1 _⟩)
      (fun M' h1 => ⟨h1, Or.inr ⟨_, _, _, rfl⟩⟩)
     exact .value _ M' _ r1 (by rw [hd]; exact h)
    ·cases he
  ·cases he
 ·cases he
end Go.Proofs.YtfadkjcfjkmalaaGreatDoor.Ev