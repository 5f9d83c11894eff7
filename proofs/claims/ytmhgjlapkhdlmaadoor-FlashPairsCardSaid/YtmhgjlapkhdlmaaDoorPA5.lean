/- Texts of this claim, together. -/
import Derived.Test.YtmhgjlapkhdlmaaDoorPA4
import Derived.Test.YtmhgjlapkhdlmaaDoorPA1
import Derived.StillTail
import Derived.Deep.AppendLies
import Derived.Laws.AppendOwnNone
import Derived.Laws.CopyOwn
import Derived.Laws.NewBlocks
import Derived.ProofKit
import Derived.OpenShut
import Derived.ShutString
import Derived.ChangeOld
import Derived.Below
import Derived.Lib.SmallJoins
import Derived.Test.YtmhgjlapkhdlmaaDoorProg

set_option linter.unusedVariables false
set_option linter.unusedSimpArgs false
namespace Go.Proofs.YtmhgjlapkhdlmaaDoor.Ev
open Go.RowKit
variable {w0 : World} {N0 : Nat → Prop} {Z : Pins} {P : Program} {T : Tab} {S : Sum} {M : Map} {a : Act} {w : World}
theorem fn_core (hm : P.follows .mixedOrders = true) (hT : TabOK P T) (hS : Valid P S) {ann : Ann} (hI : ValidIt P ann.it) {J : Inv} {f : FuncId} {fn : Func} (hf : P.funcs[f]? = some fn) {c : Code} (hb : fn.body = some c) (hok : okCode ann c = true ∧ flatB ann false false c 0 = true) {args : List DV} {K : DS → Prop} (h : ev P T S ann J c 0 [] K (fun _ _ => False) K (start args fn.ntmps)) (hL : AllG J (loops P T S ann J c 0 (fun _ => K) (fun _ _ _ => False) (fun _ => K))) (hlen : args.length ≤ fn.ntmps)
  (W : World) (N : Nat → Prop) (vs : List Value) (hG : Gd W) (hargs : All2 (RelD (RelF W N)) args vs) {R : Ending → World → Prop}
  (hret : ∀ M' st' a' w', K st' → Abs W N noPins M' st' a' w' → ∃ v, (results fn a'.tmps).run P w' = .ok v w' ∧ R (.returned v) w') : Calls P f vs.toArray W R := by
 have hvl := hargs.length
 have hstart : Abs W N noPins (fun _ => none) (start args fn.ntmps) { tmps := vs.toArray ++ Array.replicate (fn.ntmps - vs.toArray.size) undef, defers := [] } W := by
  refine ⟨Below.refl _ _, by simp [start, hvl], Marks.nil hG, fun i dv hi => ?_, fun k r hr => ?_, fun _ _ => rfl, (fun k l b h1 _ => by cases h1), (fun k k' r r' l l' b _ _ _ _ h1 _ _ _ => by cases h1), (fun _ _ h => h.elim), (fun _ h => h.elim), (fun _ _ h => by cases h), (fun _ _ _ _ => Nat.zero_le _)⟩
  ·unfold DS.tm start at hi
   simp only at hi
   by_cases hlt : i < args.length
   ·rw [List.getElem?_append_left (by simpa using hlt), List.getElem?_map] at hi
    have e1 : args[i]? = some dv := by
     cases e : args[i]? with
     | none => rw [e] at hi; cases hi
     | some x => rw [e] at hi; simpa using hi
    obtain ⟨v, e2, e3⟩ := hargs.get e1
    refine ⟨v, ?_, RelD.mono (fun x u g => RelC.ofF (RelF.mono (Nat.le_refl _) (fun _ _ _ _ => rfl) (fun b hb hl => ⟨fun _ => hb, fun k l h => by cases h⟩) x g)) e3⟩
    rw [Array.getElem?_append_left (by simp; omega)]
    simpa using e2
   ·rw [List.getElem?_append_right (by simpa using hlt), List.getElem?_replicate] at hi
    split at hi
    ·rename_i h2
     simp only [Option.join_some, Option.some.injEq] at hi
     subst hi
     simp only [List.length_map] at h2
     refine ⟨undef, ?_, [], rfl, trivial⟩
     rw [Array.getElem?_append_right (by simp; omega), Array.getElem?_replicate, if_pos (by simp; omega)]
    ·cases hi
  ·unfold DS.at start at hr
   simp only [List.getElem?_replicate] at hr
   split at hr <;> cases hr
 have hleave : ∀ (ds : List Deferred) (M' : Map) (st' : DS) (a' : Act) (w' : World), a'.defers = ds → K st' → Abs W N noPins M' st' a' w' → LeavesInM Fence.wide 0 P fn a'.tmps R ds .returning w' := by
  intro ds
  induction ds with
  | nil =>
   intro M' st' a' w' _ hk ha'
   exact hret M' st' a' w' hk ha'
  | cons d ds ih =>
   intro M' st' a' w' hd hk ha'
   obtain ⟨D, h1, h2, h3, h4⟩ := ha'.defs.1 d (by rw [hd]; simp)
   refine ⟨by simp, Or.inl ⟨D, _, by rw [h1], run_takeDeferred h3, ?_⟩⟩
   have hm2 := ha'.defs
   rw [hd] at hm2
   have ha2 : Abs W N noPins M' st' { a' with defers := ds } w' := ⟨ha'.below, ha'.fits, ⟨fun d' hd' => hm2.1 d' (by simp [hd']), (List.pairwise_cons.1 hm2.2.1).2, hm2.2.2⟩, ha'.tmp, ha'.row, ha'.dom, ha'.own, ha'.apart, ha'.pinB, ha'.pinN, ha'.pinK, fun _ _ _ _ => Nat.zero_le _⟩
   refine ih M' st' { a' with defers := ds } _ rfl hk (ha2.grownN (grownBy_putObj' w' D _) fun r e => ?_)
   cases e
   exact ⟨h2, ⟨_, h3, rfl⟩, fun _ h => h.elim, fun d' hd' e => (List.pairwise_cons.1 hm2.2.1).1 d' hd' (by rw [e, h1])⟩
 refine (callsIn_wide (n := 0)).1 (callsIn_of_wp_marks hf hb trivial ?_)
 refine ev_sound hm hT hS hI c (ro := none) (q := false) (fun _ => ⟨rfl, rfl⟩) hok.1 hok.2 (Or.inr ⟨hL, rfl, rfl, rfl⟩) hstart (fun M' st' a' w' hk ha' => ?_) (fun i M' st' a' w' hk _ => hk.elim) (fun M' st' a' w' hk ha' => ?_) h
 ·exact hleave _ M' st' a' w' rfl hk ha'
 ·exact hleave _ M' st' a' w' rfl hk ha'
def ownRow (st : DS) (k : Nat) (r : DV) : Option (DV × Row) := match st.at k with
 | some (.gen ty sz l) => some (r, .gen ty sz l)
 | some (.num ty kd l) => some (r, .num ty kd l)
 | _ => none
def ownOf (st : DS) : DV → Option (DV × Row)
 | .t (.c (.os k)) => ownRow st k (.t (.c (.os 0)))
 | .tu (.c (.os k) :: l) => bif flatTs l then ownRow st k (.tu (.c (.os 0) :: l)) else none
 | _ => none
def plainR : Row → Prop
 | .gen _ _ l => ∀ e ∈ l, ∀ x ∈ e, ∃ y, x = .v y
 | .num _ _ _ => True
 | _ => False
def retKO (T : Tab) (fn : Func) (post : DV → Row → Prop) (st : DS) : Prop := match resE T st fn.results.toList with
 | some (d, p) => match ownOf st d with
  | some (r, R) => (match p with
   | none => post r R
   | some p => p ∧ post r R)
  | none => False
 | none => False
def evFnO (P : Program) (T : Tab) (S : Sum) (ann : Ann) (J : Inv) (fn : Func) (args : List DV) (post : DV → Row → Prop) : Prop := match fn.body with
 | some c => ev P T S ann J c 0 [] (retKO T fn post) (fun _ _ => False) (retKO T fn post) (start args fn.ntmps)
 | none => False
def loopsFnO (P : Program) (T : Tab) (S : Sum) (ann : Ann) (J : Inv) (fn : Func) (post : DV → Row → Prop) : List Ent := match fn.body with
 | some c => loops P T S ann J c 0 (fun _ => retKO T fn post) (fun _ _ _ => False) (fun _ => retKO T fn post)
 | none => []
def roundO (P : Program) (T : Tab) (S : Sum) (ann : Ann) (J : Inv) (fn : Func) (post : DV → Row → Prop) (i : Nat) (F : List Nat) (s : DS) : Prop := match (loopsFnO P T S ann J fn post)[i]? with
 | some (.lp _ G) => G F s
 | some (.rf _ G) => (match F with
  | [i] => G i s
  | _ => True)
 | none => True
theorem all2_plain {N N' : Nat → Prop} : ∀ {l : List CV} {vs : List Value}, (∀ x ∈ l, ∃ y, x = .v y) → All2 (RelF w N) l vs → All2 (RelF w N') l vs
 | [], [], _, _ => trivial
 | x :: l, v :: vs, h, g => by
  obtain ⟨y, rfl⟩ := h x (by simp)
  exact ⟨g.1, all2_plain (fun z hz => h z (by simp [hz])) g.2⟩
 | [], _ :: _, _, g => g.elim
 | _ :: _, [], _, g => g.elim
theorem ownOf_rel {st : DS} (ha : Abs w0 N0 Z M st a w) {d r : DV} {R : Row} (h : ownOf st d = some (r, R)) (hp : plainR R) {v : Value} (hr : RelD (RelC w (fgn w0 N0 M) M) d v) : ∃ u, RelD (RelC w (fun _ => False) (own1 u)) r v ∧ RelR w w0.heap.size (fun _ => False) (own1 u) 0 R := by
 have row : ∀ {k : Nat} {r r' : DV} {R : Row}, ownRow st k r = some (r', R) → plainR R → r = r' ∧ ∃ u, M k = some (.row u) ∧ RelR w w0.heap.size (fun _ => False) (own1 u) 0 R := by
  intro k r r' R h hp
  unfold ownRow at h
  split at h
  ·rename_i ty sz l hrow
   cases h
   obtain ⟨v', xs, g1, g2, g3, g4⟩ := ha.row k _ hrow
   refine ⟨rfl, v', g1, v', xs, by simp [own1], g2, g3, all2_plain (fun x hx => ?_) g4⟩
   obtain ⟨e, he, hx⟩ := List.mem_flatten.1 hx
   exact hp e he x hx
  ·rename_i ty kd l hrow
   cases h
   obtain ⟨v', g1, g2⟩ := ha.row k _ hrow
   exact ⟨rfl, v', g1, v', by simp [own1], g2⟩
  ·cases h
 unfold ownOf at h
 split at h
 ·rename_i k
  obtain ⟨rfl, u, hM, hR⟩ := row h hp
  have hr1 : M k = some (.row v) := hr.1
  rw [hM] at hr1; cases hr1
  exact ⟨_, ⟨by simp [own1], hr.2⟩, hR⟩
 ·rename_i k l
  cases hq : flatTs l with
  | false => rw [hq] at h; cases h
  | true =>
   rw [hq] at h
   obtain ⟨rfl, u, hM, hR⟩ := row h hp
   obtain ⟨vs, e, g⟩ := hr
   match vs, g with
   | x :: vs, g =>
    have hr1 : M k = some (.row x) := g.1.1
    rw [hM] at hr1; cases hr1
    exact ⟨_, ⟨_ :: vs, e, ⟨by simp [own1], g.1.2⟩, flatTs_any hq g.2⟩, hR⟩
   | [], g => exact g.elim
 ·cases h
theorem Ok.fnO {P : Program} {T : Tab} {S : Sum} (hm : P.follows .mixedOrders = true) (hT : TabOK P T) (hS : Valid P S) {ann : Ann} (hI : ValidIt P ann.it) {f : FuncId} {fn : Func} (hf : P.funcs[f]? = some fn) (hn : (fn.name == "runtime.NumGoroutine") = false) (hok : okFn ann fn = true) {F : Con}
  (h : ∀ args r pre fresh, F args = some (r, pre, fresh) → okP pre → ∃ R, fresh = .own R ∧ plainR R ∧ ∃ (J : Inv) (al : List DV), LeA args al ∧ al.length ≤ fn.ntmps ∧ evFnO P T S ann J fn al (fun r' R' => r' = r ∧ R' = R) ∧ AllG J (loopsFnO P T S ann J fn (fun r' R' => r' = r ∧ R' = R))) : Ok P f F := by
 intro args r pre fresh h1 h2
 obtain ⟨R, rfl, hpl, J, al, g1, g2, g3, g4⟩ := h args r pre fresh h1 h2
 unfold okFn at hok
 unfold evFnO at g3
 unfold loopsFnO at g4
 cases hb : fn.body with
 | none => rw [hb] at g3; exact g3.elim
 | some c =>
 rw [hb] at g3 g4 hok
 simp only at g3 g4
 simp only [Bool.and_eq_true] at hok
 refine ⟨Enters.of hf hn (by rw [hb]; rfl), fun W N vs hG hv => ?_⟩
 refine fn_core hm hT hS hI hf hb hok g3 g4 g2 W N vs hG (g1 W N vs hv) fun M' st' a' w' hk ha' => ?_
 unfold retKO at hk
 split at hk
 ·rename_i d p hres
  split at hk
  ·rename_i r' R' hown
   have hk' : okP p ∧ r' = r ∧ R' = R := by
    cases p with
    | none => exact ⟨trivial, hk⟩
    | some p => exact hk
   obtain ⟨hp, rfl, rfl⟩ := hk'
   obtain ⟨v, e1, e2⟩ := resE_run hT ha' hres hp
   exact ⟨v, e1, v, rfl, ownOf_rel ha' hown hpl e2, ha'.below⟩
  ·exact hk.elim
 ·exact hk.elim
end Go.Proofs.YtmhgjlapkhdlmaaDoor.Ev
set_option linter.unusedVariables false
set_option linter.unusedSimpArgs false
namespace Go.Proofs.YtmhgjlapkhdlmaaDoor
open Go.RowKit
section
variable {P : Program} {ops : Array Oper} {md : Region.Mode} {C : World → Prop}
def simpleOp (o : Oper) : Bool :=
 match o.op with
 | .move _ | .assign _ | .pick .. | .binOp .. | .unOp .. | .slice .. | .indexAddr .. | .fieldAddr .. | .extract .. | .field .. | .index .. | .build .. => true
 | _ => false
theorem value_of_bind {P : Program} {w w1 : World} {n : Next} (s : Sem Value) (h : ((do let x ← s; pure (.value x) : Sem Next)).run P w = .ok n w1) : ∃ v, n = .value v := by
 rw [Sem.run_bind] at h
 cases hs : s.run P w with
 | ok x w2 => rw [hs] at h; simp only [Result.andThen_ok, Sem.run_pure] at h; cases h; exact ⟨_, rfl⟩
 | halt x w2 => rw [hs] at h; cases h
theorem value_of_bind' {P : Program} {α : Type} {w w1 : World} {n : Next} (s : Sem α) (f : α → Value) (h : ((do let x ← s; pure (.value (f x)) : Sem Next)).run P w = .ok n w1) : ∃ v, n = .value v := by
 rw [Sem.run_bind] at h
 cases hs : s.run P w with
 | ok x w2 => rw [hs] at h; simp only [Result.andThen_ok, Sem.run_pure] at h; cases h; exact ⟨_, rfl⟩
 | halt x w2 => rw [hs] at h; cases h
theorem simpleOp_value {o : Oper} (h : simpleOp o = true) {ρ : Operand → Value} {w w1 : World} {n : Next} (hr : (execOp ρ o).run P w = .ok n w1) : ∃ v, n = .value v := by
 unfold simpleOp at h
 unfold execOp at hr
 split at h
 all_goals first
  | (rename_i e; rw [e] at hr; simp only [Sem.run_pure] at hr; cases hr; exact ⟨_, rfl⟩)
  | (rename_i e; rw [e] at hr; exact value_of_bind _ hr)
  | (rename_i e; rw [e] at hr; exact value_of_bind' _ _ hr)
  | cases h
theorem yields_of_quiet {i : Nat} {o : Oper} {a : Act} {K : Act → Prop} (hi : ops[i]? = some o) (hs : simpleOp o = true) (h : qOp P ops (fun _ => True) i K a) : ∃ v, Yields P ops o v a ∧ K (a.put o.dst v) := by
 obtain ⟨v, hy, hK⟩ := yieldsIn_of_qOp hi h
 refine ⟨v, ?_, hK⟩
 rcases hy with ⟨hw, hy⟩ | ⟨hw, rfl⟩
 ·refine Or.inl ⟨hw, fun w => ?_⟩
  have h1 := hy w trivial
  unfold Oper.quietAt at h1
  generalize hr : (execOp a.eval o).run P w = r at h1
  cases r with
  | ok n w' =>
   obtain ⟨u, rfl⟩ := simpleOp_value hs hr
   simp only [Oper.quietUpon] at h1
   rw [h1.1, h1.2]
  | halt x w' => simp only [Oper.quietUpon] at h1
 ·exact Or.inr ⟨hw, rfl⟩
structure MidInv (md : Region.Mode) (ops : Array Oper) (n : Nat) (l0 listed : Array Bool) : Prop where
 size : listed.size = ops.size
 closed : ∀ j oj, ops[j]? = some oj → listed.getD j false = true → ∀ e ∈ oj.after, Region.binds md e = true → listed.getD e.on false = true
 tail : ∀ t, n ≤ t → t < ops.size → listed.getD t true = false
 start : ∀ j, l0.getD j false = true → listed.getD j false = true
theorem MidInv.set {n i : Nat} {l0 listed : Array Bool} (inv : MidInv md ops n l0 listed) (hi : i ∈ Region.ready md ops listed) (hin : i < n) : MidInv md ops n l0 (listed.setIfInBounds i true) := by
 obtain ⟨hun, oi, hoi, hall⟩ := mem_ready.1 hi
 refine ⟨by simp [inv.size], fun j oj hj hl e he hb => ?_, fun t ht ht' => ?_, fun j hj => getD_set_true (inv.start j hj)⟩
 ·by_cases hij : i = j
  ·subst hij
   have : oj = oi := Option.some.inj (hj.symm.trans hoi)
   subst this
   exact getD_set_true (hall e he hb)
  ·rw [getD_set_ne false hij] at hl
   exact getD_set_true (inv.closed j oj hj hl e he hb)
 ·rw [getD_set_ne true (by omega)]; exact inv.tail t ht ht'
def pick (l : List Oper) : List Nat → List Oper
 | [] => []
 | i :: p => (l.drop i).head?.toList ++ pick l p
theorem pick_cons {l : List Oper} {i : Nat} {p : List Nat} {o : Oper} (h : l[i]? = some o) : pick l (i :: p) = o :: pick l p := by
 simp [pick, List.head?_drop, h]
def noPan (Q : Exit → Act → World → Prop) : Exit → Act → World → Prop
 | .panic _, _, _ => False
 | e, a, w => Q e a w
end
theorem quiet_simple {P : Program} {o : Oper} {a : Act} {C : World → Prop} {K : Act → Prop} (hs : simpleOp o = true) (h : o.quiet P a (fun _ => True) K) : o.quiet P a C K := by
 obtain ⟨v, hv, hK⟩ := h
 refine ⟨v, fun w _ => ?_, hK⟩
 have h1 := hv w trivial
 unfold Oper.quietAt at *
 generalize hr : (execOp a.eval o).run P w = r at h1
 cases r with
 | ok n w' =>
  obtain ⟨u, rfl⟩ := simpleOp_value hs hr
  exact h1
 | halt x w' => exact h1
theorem quiet_val {P : Program} {o : Oper} {a : Act} {C : World → Prop} {K : Act → Prop} (v : Value) (h : ∀ w, C w → (execOp a.eval o).run P w = .ok (.value v) w) (hK : K (a.put o.dst v)) : o.quiet P a C K :=
 ⟨v, fun w hw => by unfold Oper.quietAt; rw [h w hw]; exact ⟨rfl, rfl⟩, hK⟩
def Elem (P : Program) (t e : TypeId) (sz bytes : Nat) : Prop := ∃ i z, P.underlying t = some (.slice e) ∧ P.info? e = some i ∧ i.zero = some z ∧ i.size = sz ∧ i.bytes = bytes ∧ z.cells.size = sz ∧ 0 < sz
theorem Elem.mk {P : Program} {t e : TypeId} {z : Value} {sz bytes : Nat} (ht : P.underlying t = some (.slice e)) (hi : (P.info? e).map (fun i => (i.zero, i.size, i.bytes)) = some (some z, sz, bytes)) (hz : z.cells.size = sz) (hs : 0 < sz) : Elem P t e sz bytes := by
 obtain ⟨i, h1, h2, h3, h4⟩ := info_parts hi
 exact ⟨i, z, ht, h1, h2, h3, h4, hz, hs⟩
structure Pushed (base : Nat) (w w' : World) (v v' : Value) : Prop where
 below : Below base w w'
 other : ∀ k, k < w.heap.size → some k ≠ v.ownBlock → w'.heap[k]? = w.heap[k]?
 lies : v'.ownBlock = v.ownBlock ∨ v'.ownBlock = some w.heap.size
theorem wpList_append_list {P : Program} {ops : Array Oper} {rest : List Oper} {o : Oper} {a : Act} {Q : Exit → Act → World → Prop} {w : World} (hgd : o.guard = none) (s x : Operand) (t : TypeId)
  (ho : o.op = .call { callee := .builtin .append, args := #[s, x], argTypes := #[t, t] }) {e : TypeId} {sz bytes : Nat} (E : Elem P t e sz bytes) (base : Nat)
  (v : Value) (n : Nat) (xs : List Value) (hs : a.eval s = v) (hown : w.ownsRow base e sz v n xs)
  (ao : Option Addr) (m c : Nat) (news : List Value) (hx : a.eval x = .slice ao m c) (hl : news.length = m * sz) (h1 : ∀ u ∈ news, u.oneCell' = true)
  (hsrc : (ao = none ∧ m = 0 ∧ c = 0) ∨ ∃ ad, ao = some ad ∧ ∀ j u, news[j]? = some u → w.cell? (ad.add j) = some u)
  (hb : (n + m) * bytes ≤ 140737488355328) (hn : n + m ≤ maxLen) (hbase : base ≤ w.heap.size)
  (h : ∀ v' w', w'.ownsRow base e sz v' (n + m) (xs ++ news) → Pushed base w w' v v' → (v' = .slice none 0 0 ↔ v = .slice none 0 0 ∧ m = 0) → wpList P ops Q rest (a.put o.dst v') w') : wpList P ops Q (o :: rest) a w := by
 obtain ⟨i, z, ht, hi, hz, hsize, hby, hzs, hsz⟩ := E
 rcases hsrc with ⟨rfl, rfl, rfl⟩ | ⟨ad, rfl, hcells⟩
 ·obtain rfl : news = [] := List.eq_nil_of_length_eq_zero (by simpa using hl)
  refine wpList_append_own_none hgd s x t ho base e i sz ht hi v n xs hs hown hx ?_
  exact h v w (by simpa using hown) ⟨Below.refl _ _, fun _ _ _ => rfl, Or.inl rfl⟩ (by simp)
 ·obtain ⟨v', w', hr, h2, h3, h4, h5⟩ := run_append_own_at (P := P) w base t o.type e i z sz bytes ht hi hz hsize hby hzs hsz v n xs hown ad m c news hl hcells h1 hn hb hbase
  refine wpList_plain hgd fun K hK => ?_
  unfold Oper.wp execOp
  simp only [ho, resolve, invoke, builtin, Sem.run_bind, Sem.run_pure, Result.andThen_ok, List.map_toArray, List.map_cons, List.map_nil, hs, hx, hr]
  exact hK _ _ (h v' w' h2 ⟨(Below.refl _ _).grown h3 hbase (fun k hk => (hown.lt k hk).1), h3.block, h5⟩ h4)
theorem wpList_push {P : Program} {ops : Array Oper} {rest : List Oper} {o : Oper} {a : Act} {Q : Exit → Act → World → Prop} {w : World} (hgd : o.guard = none) (s x : Operand) (t : TypeId)
  (ho : o.op = .call { callee := .builtin .append, args := #[s, x], argTypes := #[t, t] }) {e : TypeId} {sz bytes : Nat} (E : Elem P t e sz bytes) (base : Nat)
  (v : Value) (n : Nat) (xs : List Value) (hs : a.eval s = v) (w0 : World) (hown : w0.ownsRow base e sz v n xs) (us : List Value) (hul : us.length = sz) (h1 : ∀ u ∈ us, u.oneCell' = true)
  (hw : w = w0.alloc (.cells us.toArray e)) (N : Nat) (hN : w0.heap.size = N) (hx : a.eval x = .slice (some ⟨N, 0, none⟩) 1 1)
  (hb : (n + 1) * bytes ≤ 140737488355328) (hn : n + 1 ≤ maxLen) (hbase : base ≤ w0.heap.size)
  (h : ∀ v' w', w'.ownsRow base e sz v' (n + 1) (xs ++ us) → Below base w0 w' → (∀ k, k < w0.heap.size → some k ≠ v.ownBlock → w'.heap[k]? = w0.heap[k]?) → (∀ k, v'.ownBlock = some k → v.ownBlock = some k ∨ w0.heap.size ≤ k) → wpList P ops Q rest (a.put o.dst v') w') : wpList P ops Q (o :: rest) a w := by
 subst hw; subst hN
 refine wpList_append_list hgd s x t ho E base v n xs hs (hown.alloc _) _ 1 1 us hx (by omega) h1 (Or.inr ⟨_, rfl, World.news_of_block (cs := us.toArray) (heap_alloc_new w0 _)⟩) hb hn (by simp; omega) ?_
 intro v' w' h2 h3 _
 refine h v' w' h2 (((Below.refl _ _).alloc hbase _).trans h3.below) (fun k hk hne => (h3.other k (by simp; omega) hne).trans (Below.heap_alloc _ _ _ hk)) (fun k hk => ?_)
 rcases h3.lies with e | e
 ·exact Or.inl (by rw [← e]; exact hk)
 ·right; rw [hk] at e; simp at e; omega
end Go.Proofs.YtmhgjlapkhdlmaaDoor
set_option linter.unusedVariables false
set_option linter.unusedSimpArgs false
namespace Go.Proofs.YtmhgjlapkhdlmaaDoor
open Go.RowKit
section
variable {P : Program} {md : Region.Mode}
end
theorem ownsRow_empty {P : Program} (w : World) {t e : TypeId} {sz bytes : Nat} (E : Elem P t e sz bytes) : (w.alloc (.cells #[] e)).ownsRow w.heap.size e sz (.slice (some ⟨w.heap.size, 0, none⟩) 0 0) 0 [] :=
 World.ownsRow_made w #[] 0 (Nat.le_refl _) (by simp [maxLen]) (by simp)
end Go.Proofs.YtmhgjlapkhdlmaaDoor
set_option linter.unusedVariables false
set_option linter.unusedSimpArgs false
namespace Go.Proofs.YtmhgjlapkhdlmaaDoor
open Go.RowKit
section
variable {P : Program} {md : Region.Mode}
inductive Stp where
 | q (ks : List Nat)
 | f (ks : List Nat)
 | p (i j : Nat)
def contF (K : Act → World → Prop) : Exit → Act → World → Prop
 | .normal, a, w => K a w
 | _, _, _ => False
theorem wp_F {ops : Array Oper} {Q : Exit → Act → World → Prop} {X K : Act → World → Prop} {o : Oper} {a : Act} {w : World} (hh : o.wp P a w K (contF X)) : o.wp P a w K Q := by
 unfold Oper.wp at *
 generalize (execOp a.eval o).run P w = r at *
 cases r with
 | ok n w' =>
  cases n <;> simp only [Oper.upon] at hh ⊢ <;>
   first
    | exact hh
    | exact Calls.mono hh (fun e w'' he => by
      cases e with
      | returned v => exact he
      | panicked c => exact (he : False).elim
      | outgrown => obtain ⟨a, w, h⟩ := he; exact (h : False).elim)
 | halt x w' => cases x <;> simp only [Oper.upon] at hh ⊢ <;> first | exact hh | exact (hh : False).elim
theorem wpOp_F {ops : Array Oper} {Q : Exit → Act → World → Prop} {X K : Act → World → Prop} {i : Nat} {a : Act} {w : World} (hh : wpOp P ops (contF X) i K a w) : wpOp P ops Q i K a w := by
 unfold wpOp at *
 split
 ·simpa [*] using hh
 ·rename_i o ho
  simp only [ho] at hh
  split
  ·rename_i hw
   simp only [hw, if_true] at hh
   rcases hh with h | ⟨_, a, w, h⟩
   ·exact Or.inl (wp_F (ops := ops) h)
   ·exact (h : False).elim
  ·rename_i hw; simp only [hw] at hh; exact hh
def runSet (L : Array Bool) (ks : List Nat) : Array Bool := ks.foldl (fun L k => L.setIfInBounds k true) L
def qB (md : Region.Mode) (ops : Array Oper) : List Nat → Array Bool → Bool
 | [], _ => true
 | k :: p, L => ((ops[k]?).map simpleOp).getD false && (Region.ready md ops L).contains k && Region.free md ops L k && qB md ops p (L.setIfInBounds k true)
def fB (md : Region.Mode) (ops : Array Oper) : List Nat → Array Bool → Bool
 | [], _ => true
 | k :: p, L => decide (Region.ready md ops L = [k]) && (ops[k]?).isSome && fB md ops p (L.setIfInBounds k true)
def mixB (md : Region.Mode) (ops : Array Oper) : List Stp → Array Bool → Bool
 | [], L => (Region.ready md ops L).isEmpty
 | .q ks :: s, L => qB md ops ks L && mixB md ops s (runSet L ks)
 | .f ks :: s, L => fB md ops ks L && mixB md ops s (runSet L ks)
 | .p i j :: s, L => decide (Region.ready md ops L = [i, j]) && fB md ops [j] (runSet L [i]) && fB md ops [i] (runSet L [j]) && (ops[i]?).isSome && (ops[j]?).isSome && (runSet L [j, i] == runSet L [i, j]) && mixB md ops s (runSet L [i, j])
def lenS : List Stp → Nat
 | [] => 0
 | .q ks :: s => ks.length + lenS s
 | .f ks :: s => ks.length + lenS s
 | .p _ _ :: s => 2 + lenS s
def wpMix (P : Program) (l : List Oper) (Q : Exit → Act → World → Prop) : List Stp → Act → World → Prop
 | [], a, w => Q .normal a w
 | .q ks :: s, a, w => wpQuiet P l.toArray (fun _ => True) (fun a' => wpMix P l Q s a' w) (pick l ks) a
 | .f ks :: s, a, w => wpList P l.toArray (contF (wpMix P l Q s)) (pick l ks) a w
 | .p i j :: s, a, w => wpList P l.toArray (contF (wpMix P l Q s)) (pick l [i, j]) a w ∧ wpList P l.toArray (contF (wpMix P l Q s)) (pick l [j, i]) a w
theorem wpAny_q {l : List Oper} {Q : Exit → Act → World → Prop} (hQ : ∀ c a a' w, Q (.panic c) a w → Q (.panic c) a' w) (hsel : Region.noSelect l.toArray = true) {X : Act → World → Prop} {n : Nat} :
  ∀ (p : List Nat) (L : Array Bool) (a : Act) (w : World), qB md l.toArray p L = true → (∀ a', X a' w → wpAny P md l.toArray Q n (runSet L p) a' w) → wpQuiet P l.toArray (fun _ => True) (fun a' => X a' w) (pick l p) a →
   wpAny P md l.toArray Q (p.length + n) L a w := by
 intro p
 induction p with
 | nil => intro L a w hB h hx; rw [List.length_nil, Nat.zero_add]; exact h a hx
 | cons i p ih =>
  intro L a w hB h hx
  simp only [qB, Bool.and_eq_true] at hB
  obtain ⟨⟨⟨ho, hr⟩, hf⟩, hB'⟩ := hB
  cases ho2 : l.toArray[i]? with
  | none => rw [ho2] at ho; cases ho
  | some o =>
   rw [ho2] at ho
   have hs1 : simpleOp o = true := by simpa using ho
   have ho' : l[i]? = some o := by simpa using ho2
   rw [pick_cons ho'] at hx
   have hr' : i ∈ Region.ready md l.toArray L := by simpa using hr
   have hq : qOp P l.toArray (fun _ => True) i (wpQuiet P l.toArray (fun _ => True) (fun a' => X a' w) (pick l p)) a := by unfold qOp; simp only [ho2]; exact hx
   obtain ⟨v, hy, hK⟩ := yields_of_quiet ho2 hs1 hq
   rw [List.length_cons, show p.length + 1 + n = (p.length + n) + 1 from by omega]
   exact wpAny_first ho2 (Region.noSelect_spec hsel) (fun c a w h => hQ c _ _ w h) _ L a w (Region.free_spec ho2 hf) hr' hy (ih _ _ _ hB' h hK)
theorem wpAny_f {l : List Oper} {Q : Exit → Act → World → Prop} {X : Act → World → Prop} {n : Nat} :
  ∀ (p : List Nat) (L : Array Bool) (a : Act) (w : World), fB md l.toArray p L = true → (∀ a' w', X a' w' → wpAny P md l.toArray Q n (runSet L p) a' w') → wpList P l.toArray (contF X) (pick l p) a w →
   wpAny P md l.toArray Q (p.length + n) L a w := by
 intro p
 induction p with
 | nil => intro L a w hB h hx; rw [List.length_nil, Nat.zero_add]; exact h a w hx
 | cons k p ih =>
  intro L a w hB h hx
  simp only [fB, Bool.and_eq_true, decide_eq_true_eq] at hB
  obtain ⟨⟨hr, ho⟩, hB'⟩ := hB
  obtain ⟨o, ho⟩ := Option.isSome_iff_exists.1 ho
  have ho' : l[k]? = some o := by simpa using ho
  rw [pick_cons ho'] at hx
  rw [List.length_cons, show p.length + 1 + n = (p.length + n) + 1 from by omega]
  refine ⟨fun h1 => (by rw [hr] at h1; cases h1), fun i hi => ?_⟩
  rw [hr] at hi
  have hik : i = k := by simpa using hi
  subst hik
  have hw : wpOp P l.toArray (contF X) i (wpList P l.toArray (contF X) (pick l p)) a w := by unfold wpOp; simp only [ho]; exact hx
  exact wpOp_mono (fun a' w' h' => ih _ _ _ hB' h h') (wpOp_F hw)
theorem wpAny_mix {l : List Oper} {Q : Exit → Act → World → Prop} (hQ : ∀ c a a' w, Q (.panic c) a w → Q (.panic c) a' w) (hsel : Region.noSelect l.toArray = true) :
  ∀ (s : List Stp) (L : Array Bool) (a : Act) (w : World), mixB md l.toArray s L = true → wpMix P l Q s a w → wpAny P md l.toArray Q (lenS s) L a w := by
 intro s
 induction s with
 | nil => intro L a w hB h; exact ⟨by simpa [mixB] using hB, h⟩
 | cons st s ih =>
  intro L a w hB h
  cases st with
  | q ks =>
   simp only [mixB, Bool.and_eq_true] at hB
   exact wpAny_q hQ hsel (X := wpMix P l Q s) ks L a w hB.1 (fun a' h' => ih _ _ _ hB.2 h') h
  | f ks =>
   simp only [mixB, Bool.and_eq_true] at hB
   exact wpAny_f ks L a w hB.1 (fun a' w' h' => ih _ _ _ hB.2 h') h
  | p i j =>
   simp only [mixB, Bool.and_eq_true, decide_eq_true_eq, beq_iff_eq] at hB
   obtain ⟨⟨⟨⟨⟨⟨hr, h1⟩, h2⟩, hi⟩, hj⟩, he⟩, hB'⟩ := hB
   obtain ⟨ha, hb⟩ := h
   show wpAny P md l.toArray Q (2 + lenS s) L a w
   rw [show 2 + lenS s = (1 + lenS s) + 1 from by omega]
   refine ⟨fun h1 => (by rw [hr] at h1; cases h1), fun k hk => ?_⟩
   rw [hr] at hk
   rcases (by simpa using hk : k = i ∨ k = j) with rfl | rfl
   ·obtain ⟨o, ho⟩ := Option.isSome_iff_exists.1 hi
    have ho' : l[k]? = some o := by simpa using ho
    rw [pick_cons ho'] at ha
    have hw : wpOp P l.toArray (contF (wpMix P l Q s)) k (wpList P l.toArray (contF (wpMix P l Q s)) (pick l [j])) a w := by unfold wpOp; simp only [ho]; exact ha
    exact wpOp_mono (fun a' w' h' => wpAny_f [j] _ a' w' h1 (fun a'' w'' h'' => ih _ _ _ hB' h'') h') (wpOp_F hw)
   ·obtain ⟨o, ho⟩ := Option.isSome_iff_exists.1 hj
    have ho' : l[k]? = some o := by simpa using ho
    rw [pick_cons ho'] at hb
    have hw : wpOp P l.toArray (contF (wpMix P l Q s)) k (wpList P l.toArray (contF (wpMix P l Q s)) (pick l [i])) a w := by unfold wpOp; simp only [ho]; exact hb
    refine wpOp_mono (fun a' w' h' => wpAny_f [i] _ a' w' h2 (fun a'' w'' h'' => ?_) h') (wpOp_F hw)
    have := ih _ _ _ hB' h''
    rw [← he] at this
    exact this
end
end Go.Proofs.YtmhgjlapkhdlmaaDoor
set_option linter.unusedVariables false
set_option linter.unusedSimpArgs false
namespace Go.Proofs.YtmhgjlapkhdlmaaDoor
open Go.RowKit
section
variable {P : Program} {md : Region.Mode} {ops : Array Oper} {Q : Exit → Act → World → Prop} {C : World → Prop}
def stillB : Callee → Bool
 | .builtin .len | .builtin .max | .builtin .min | .builtin .cap => true
 | _ => false
def stillOp (o : Oper) : Bool := simpleOp o || (match o.op with | .load .. => true | .call c => stillB c.callee | _ => false)
theorem stillOp_value {o : Oper} (h : stillOp o = true) {ρ : Operand → Value} {w w1 : World} {n : Next} (hr : (execOp ρ o).run P w = .ok n w1) : ∃ v, n = .value v := by
 unfold stillOp at h
 rw [Bool.or_eq_true] at h
 rcases h with h | h
 ·exact simpleOp_value h hr
 ·split at h
  ·rename_i e
   unfold execOp at hr
   rw [e] at hr
   exact value_of_bind _ hr
  ·rename_i c e
   unfold execOp at hr
   rw [e] at hr
   unfold stillB at h
   split at h
   all_goals first
    | (rename_i e2; simp only [resolve, e2, Sem.run_bind, Sem.run_pure, Result.andThen_ok, invoke, builtin] at hr; exact value_of_bind _ (by simpa only [Sem.run_bind, Sem.run_pure] using hr))
    | cases h
  ·cases h
def YieldsX (P : Program) (ops : Array Oper) (C : World → Prop) (o : Oper) (v : Value) (a : Act) : Prop :=
 (Region.wanted o (yielded ops a.tmps) = true ∧ ∀ w, C w → (execOp a.eval o).run P w = .ok (.value v) w) ∨ (Region.wanted o (yielded ops a.tmps) = false ∧ v = undef)
theorem yieldsX_of_quiet {i : Nat} {o : Oper} {a : Act} {K : Act → Prop} (hi : ops[i]? = some o) (hs : stillOp o = true) (h : qOp P ops C i K a) : ∃ v, YieldsX P ops C o v a ∧ K (a.put o.dst v) := by
 obtain ⟨v, hy, hK⟩ := yieldsIn_of_qOp hi h
 refine ⟨v, ?_, hK⟩
 rcases hy with ⟨hw, hy⟩ | ⟨hw, rfl⟩
 ·refine Or.inl ⟨hw, fun w hC => ?_⟩
  have h1 := hy w hC
  unfold Oper.quietAt at h1
  generalize hr : (execOp a.eval o).run P w = r at h1
  cases r with
  | ok n w' =>
   obtain ⟨u, rfl⟩ := stillOp_value hs hr
   simp only [Oper.quietUpon] at h1
   rw [h1.1, h1.2]
  | halt x w' => simp only [Oper.quietUpon] at h1
 ·exact Or.inr ⟨hw, rfl⟩
theorem YieldsX.wpOp {i : Nat} {o : Oper} {v : Value} {a : Act} (hi : ops[i]? = some o) (hy : YieldsX P ops C o v a) {K : Act → World → Prop} {w : World} (hC : C w) (h : K (a.put o.dst v) w) : wpOp P ops Q i K a w := by
 unfold Go.wpOp
 simp only [hi]
 rcases hy with ⟨hw, hv⟩ | ⟨hw, rfl⟩
 ·simp only [hw, if_true, Oper.wp, hv w hC, Oper.upon]; exact .inl h
 ·simp only [hw, Bool.false_eq_true, if_false]; exact h
theorem YieldsX.of_same {o : Oper} {v : Value} {a a' : Act} (hy : YieldsX P ops C o v a) (he : execOp a'.eval o = execOp a.eval o)
  (hw : Region.wanted o (yielded ops a'.tmps) = Region.wanted o (yielded ops a.tmps)) : YieldsX P ops C o v a' := by
 unfold YieldsX at *
 rw [he, hw]
 exact hy
theorem wpOp_putX {j : Nat} {oi oj : Oper} {v : Value} (hj : ops[j]? = some oj) (hap : oi.apart ops oj = true)
  (hsi : ∀ cs b, oi.op ≠ .select cs b) (hsj : ∀ cs b, oj.op ≠ .select cs b)
  (hQ : ∀ c a w, Q (.panic c) (a.put oi.dst v) w → Q (.panic c) a w) {K : Act → World → Prop} {a : Act} {w : World}
  (hy : YieldsX P ops C oi v a) (h : wpOp P ops Q j K (a.put oi.dst v) w) :
  wpOp P ops Q j (fun a' w' => YieldsX P ops C oi v a' ∧ K (a'.put oi.dst v) w') a w := by
 obtain ⟨h1, h2, h3⟩ := Oper.apart_spec hap
 have keep : ∀ (a : Act), YieldsX P ops C oi v a → ∀ u, YieldsX P ops C oi v (a.put oj.dst u) := fun a hy u =>
  hy.of_same (execOp_put oi hsi a oj.dst u h3) (wanted_put oi a oj.dst u h3)
 have keepD : ∀ d, YieldsX P ops C oi v { a with defers := d :: a.defers } := fun d => hy.of_same rfl rfl
 unfold wpOp at *
 simp only [hj] at *
 rw [wanted_put oj a oi.dst v h1] at h
 split
 ·rename_i hw
  simp only [hw, if_true] at h
  rcases h with h | ⟨hasks, hlets⟩
  case inr => exact .inr ⟨by unfold Oper.asks at *; rw [execOp_put oj hsj a oi.dst v h1] at hasks; exact hasks, hlets⟩
  refine .inl ?_
  unfold Oper.wp at *
  rw [execOp_put oj hsj a oi.dst v h1] at h
  generalize (execOp a.eval oj).run P w = r at *
  cases r with
  | ok n w' =>
   cases n <;> simp only [Oper.upon] at h ⊢
   case value u => exact ⟨keep a hy u, by rw [← Act.put_comm a v u h2]; exact h⟩
   case skip => exact ⟨keep a hy _, by rw [← Act.put_comm a v undef h2]; exact h⟩
   case defer d =>
    refine ⟨keep _ (keepD d) _, ?_⟩
    rw [← Act.put_comm _ v undef h2, ← Act.put_defers]
    exact h
   case enter f args =>
    refine Calls.mono h fun e w'' he => ?_
    cases e with
    | returned u => exact ⟨keep a hy u, by rw [← Act.put_comm a v u h2]; exact he⟩
    | panicked c => exact hQ _ _ _ he
    | outgrown => exact he
   case row row args => exact Rows.mono h fun u w'' he => ⟨keep a hy u, by rw [← Act.put_comm a v u h2]; exact he⟩
  | halt x w' =>
   cases x <;> simp only [Oper.upon] at h ⊢
   case panic u => exact hQ _ _ _ h
 ·rename_i hw
  simp only [hw] at h
  exact ⟨keep a hy _, by rw [← Act.put_comm a v undef h2]; exact h⟩
def wpAnyC (P : Program) (md : Region.Mode) (ops : Array Oper) (C : World → Prop) (Q : Exit → Act → World → Prop) (n1 m : Nat) : Nat → Array Bool → Act → World → Prop
 | 0, listed, a, w => (∀ j, j < n1 → listed.getD j true = true) ∧ wpAny P md ops Q m listed a w
 | fuel + 1, listed, a, w => Region.ready md ops listed ≠ [] ∧ ∀ i ∈ Region.ready md ops listed, wpOp P ops Q i (fun a' w' => C w' ∧ wpAnyC P md ops C Q n1 m fuel (listed.setIfInBounds i true) a' w') a w
theorem wpAny_of_C {n1 m : Nat} : ∀ (f : Nat) (listed : Array Bool) (a : Act) (w : World), wpAnyC P md ops C Q n1 m f listed a w → wpAny P md ops Q (f + m) listed a w := by
 intro f
 induction f with
 | zero => intro listed a w h; rw [Nat.zero_add]; exact h.2
 | succ f ih =>
  intro listed a w h
  rw [show f + 1 + m = (f + m) + 1 by omega]
  exact ⟨fun h0 => absurd h0 h.1, fun i hi => wpOp_mono (fun _ _ h' => ih _ _ _ h'.2) (h.2 i hi)⟩
def phaseB (md : Region.Mode) (ops : Array Oper) (n1 : Nat) : Bool :=
 (List.range ops.size).all fun j => decide (j < n1) || (List.range n1).all fun i => Region.waitsFor md ops j i
theorem phase_ready {n1 i j : Nat} {listed : Array Bool} (hp : phaseB md ops n1 = true) (hi : i < n1) (hun : listed.getD i true = false) (hj : j ∈ Region.ready md ops listed) : j < n1 := by
 obtain ⟨_, oj, hoj, hall⟩ := mem_ready.1 hj
 have hlt : j < ops.size := (Array.getElem?_eq_some_iff.1 hoj).1
 have h1 := List.all_eq_true.1 hp j (List.mem_range.2 hlt)
 simp only [Bool.or_eq_true, decide_eq_true_eq] at h1
 rcases h1 with h1 | h1
 ·exact h1
 ·obtain ⟨o', ho', e, he, hb, hon⟩ := Region.waitsFor_spec (List.all_eq_true.1 h1 i (List.mem_range.2 hi))
  have : o' = oj := Option.some.inj (ho'.symm.trans hoj)
  subst this
  have h2 := hall e he hb
  rw [hon, getD_both hun] at h2
  cases h2
theorem wpAnyC_first {n1 m i : Nat} {oi : Oper} {v : Value} (hp : phaseB md ops n1 = true) (hin : i < n1) (hi : ops[i]? = some oi) (hsel : ∀ (j : Nat) (o : Oper) cs b, ops[j]? = some o → o.op ≠ .select cs b)
  (hQ : ∀ c a w, Q (.panic c) (a.put oi.dst v) w → Q (.panic c) a w) :
  ∀ (fuel : Nat) (listed : Array Bool) (a : Act) (w : World), C w →
   (∀ j oj, ops[j]? = some oj → j ≠ i → listed.getD j true = false → (∀ e ∈ oj.after, Region.binds md e = true → e.on ≠ i) → oi.apart ops oj = true) →
   i ∈ Region.ready md ops listed → YieldsX P ops C oi v a →
   wpAnyC P md ops C Q n1 m fuel (listed.setIfInBounds i true) (a.put oi.dst v) w → wpAnyC P md ops C Q n1 m (fuel + 1) listed a w := by
 intro fuel
 induction fuel with
 | zero =>
  intro listed a w hC _ hr hy H
  refine ⟨fun h => (by rw [h] at hr; cases hr), fun j hj => ?_⟩
  by_cases hji : j = i
  ·subst hji; exact hy.wpOp hi hC ⟨hC, H⟩
  ·have hjn := phase_ready hp hin (mem_ready.1 hr).1 hj
   have h1 := H.1 j hjn
   rw [getD_set_ne true (Ne.symm hji), (mem_ready.1 hj).1] at h1
   cases h1
 | succ fuel ih =>
  intro listed a w hC hfree hr hy H
  refine ⟨fun h => (by rw [h] at hr; cases hr), fun j hj => ?_⟩
  by_cases hji : j = i
  ·subst hji; exact hy.wpOp hi hC ⟨hC, H⟩
  ·have h1 := H.2 j (ready_mono hj hji)
   obtain ⟨hjun, oj, hoj, hall⟩ := mem_ready.1 hj
   have hnot : ∀ e ∈ oj.after, Region.binds md e = true → e.on ≠ i := fun e he hb heq => by
    have h1 := hall e he hb
    have h0 := (mem_ready.1 hr).1
    rw [heq] at h1
    rcases Nat.lt_or_ge i listed.size with h' | h'
    ·simp [h'] at h0 h1; rw [h0] at h1; cases h1
    ·simp [Array.getElem?_eq_none h'] at h1
   have h2 := wpOp_putX hoj (hfree j oj hoj hji hjun hnot) (fun cs b => hsel i oi cs b hi) (fun cs b => hsel j oj cs b hoj) hQ hy h1
   have hfree' : ∀ k ok, ops[k]? = some ok → k ≠ i → (listed.setIfInBounds j true).getD k true = false →
     (∀ e ∈ ok.after, Region.binds md e = true → e.on ≠ i) → oi.apart ops ok = true := fun k ok hk hki hun hno => by
    refine hfree k ok hk hki ?_ hno
    by_cases hjk : j = k
    ·subst hjk; exact hjun
    ·rw [getD_set_ne true hjk] at hun; exact hun
   refine wpOp_mono (fun a' w' h3 => ⟨h3.2.1, ih (listed.setIfInBounds j true) a' w' h3.2.1 hfree' (ready_mono hr (Ne.symm hji)) h3.1 ?_⟩) h2
   rw [Array.setIfInBounds_comm _ _ hji]
   exact h3.2.2
def qcB (md : Region.Mode) (ops : Array Oper) (n1 : Nat) : List Nat → Array Bool → Bool
 | [], _ => true
 | k :: p, L => decide (k < n1) && ((ops[k]?).map stillOp).getD false && (Region.ready md ops L).contains k && Region.free md ops L k && qcB md ops n1 p (L.setIfInBounds k true)
def mixcB (md : Region.Mode) (ops : Array Oper) (n1 : Nat) (s2 : List Stp) : List Stp → Array Bool → Bool
 | [], L => (List.range n1).all (fun j => L.getD j true) && mixB md ops s2 L
 | .q ks :: s, L => qcB md ops n1 ks L && mixcB md ops n1 s2 s (runSet L ks)
 | .f ks :: s, L => fB md ops ks L && mixcB md ops n1 s2 s (runSet L ks)
 | .p i j :: s, L => decide (Region.ready md ops L = [i, j]) && fB md ops [j] (runSet L [i]) && fB md ops [i] (runSet L [j]) && (ops[i]?).isSome && (ops[j]?).isSome && (runSet L [j, i] == runSet L [i, j]) && mixcB md ops n1 s2 s (runSet L [i, j])
def wpSteps (P : Program) (ops : Array Oper) (C : World → Prop) (X : Act → World → Prop) : List Oper → Act → World → Prop
 | [], a, w => X a w
 | o :: rest, a, w => wpList P ops (contF fun a' w' => C w' ∧ wpSteps P ops C X rest a' w') [o] a w
def wpMixC (P : Program) (l : List Oper) (C : World → Prop) (Q : Exit → Act → World → Prop) (s2 : List Stp) : List Stp → Act → World → Prop
 | [], a, w => wpMix P l Q s2 a w
 | .q ks :: s, a, w => wpQuiet P l.toArray C (fun a' => wpMixC P l C Q s2 s a' w) (pick l ks) a
 | .f ks :: s, a, w => wpSteps P l.toArray C (wpMixC P l C Q s2 s) (pick l ks) a w
 | .p i j :: s, a, w => wpSteps P l.toArray C (wpMixC P l C Q s2 s) (pick l [i, j]) a w ∧ wpSteps P l.toArray C (wpMixC P l C Q s2 s) (pick l [j, i]) a w
theorem wpAnyC_q {l : List Oper} {Q : Exit → Act → World → Prop} {n1 m : Nat} (hp : phaseB md l.toArray n1 = true) (hQ : ∀ c a a' w, Q (.panic c) a w → Q (.panic c) a' w) (hsel : Region.noSelect l.toArray = true) {X : Act → World → Prop} {n : Nat} :
  ∀ (p : List Nat) (L : Array Bool) (a : Act) (w : World), C w → qcB md l.toArray n1 p L = true → (∀ a', X a' w → wpAnyC P md l.toArray C Q n1 m n (runSet L p) a' w) → wpQuiet P l.toArray C (fun a' => X a' w) (pick l p) a →
   wpAnyC P md l.toArray C Q n1 m (p.length + n) L a w := by
 intro p
 induction p with
 | nil => intro L a w hC hB h hx; rw [List.length_nil, Nat.zero_add]; exact h a hx
 | cons i p ih =>
  intro L a w hC hB h hx
  simp only [qcB, Bool.and_eq_true, decide_eq_true_eq] at hB
  obtain ⟨⟨⟨⟨hin, ho⟩, hr⟩, hf⟩, hB'⟩ := hB
  cases ho2 : l.toArray[i]? with
  | none => rw [ho2] at ho; cases ho
  | some o =>
   rw [ho2] at ho
   have hs1 : stillOp o = true := by simpa using ho
   have ho' : l[i]? = some o := by simpa using ho2
   rw [pick_cons ho'] at hx
   have hr' : i ∈ Region.ready md l.toArray L := by simpa using hr
   have hq : qOp P l.toArray C i (wpQuiet P l.toArray C (fun a' => X a' w) (pick l p)) a := by unfold qOp; simp only [ho2]; exact hx
   obtain ⟨v, hy, hK⟩ := yieldsX_of_quiet ho2 hs1 hq
   rw [List.length_cons, show p.length + 1 + n = (p.length + n) + 1 from by omega]
   exact wpAnyC_first hp hin ho2 (Region.noSelect_spec hsel) (fun c a w h => hQ c _ _ w h) _ L a w hC (Region.free_spec ho2 hf) hr' hy (ih _ _ _ hC hB' h hK)
theorem wpAnyC_f {l : List Oper} {Q : Exit → Act → World → Prop} {X : Act → World → Prop} {n n1 m : Nat} :
  ∀ (p : List Nat) (L : Array Bool) (a : Act) (w : World), C w → fB md l.toArray p L = true → (∀ a' w', C w' → X a' w' → wpAnyC P md l.toArray C Q n1 m n (runSet L p) a' w') → wpSteps P l.toArray C X (pick l p) a w →
   wpAnyC P md l.toArray C Q n1 m (p.length + n) L a w := by
 intro p
 induction p with
 | nil => intro L a w hC hB h hx; rw [List.length_nil, Nat.zero_add]; exact h a w hC hx
 | cons k p ih =>
  intro L a w hC hB h hx
  simp only [fB, Bool.and_eq_true, decide_eq_true_eq] at hB
  obtain ⟨⟨hr, ho⟩, hB'⟩ := hB
  obtain ⟨o, ho⟩ := Option.isSome_iff_exists.1 ho
  have ho' : l[k]? = some o := by simpa using ho
  rw [pick_cons ho'] at hx
  rw [List.length_cons, show p.length + 1 + n = (p.length + n) + 1 from by omega]
  refine ⟨fun h1 => (by rw [hr] at h1; cases h1), fun i hi => ?_⟩
  rw [hr] at hi
  have hik : i = k := by simpa using hi
  subst hik
  rw [wpSteps] at hx
  have hw : wpOp P l.toArray (contF fun a' w' => C w' ∧ wpSteps P l.toArray C X (pick l p) a' w') i (fun a' w' => C w' ∧ wpSteps P l.toArray C X (pick l p) a' w') a w := by
   unfold wpOp; simp only [ho]; exact hx
  exact wpOp_mono (fun a' w' h' => ⟨h'.1, ih _ _ _ h'.1 hB' h h'.2⟩) (wpOp_F hw)
theorem wpAnyC_mix {l : List Oper} {Q : Exit → Act → World → Prop} {n1 : Nat} {s2 : List Stp} (hp : phaseB md l.toArray n1 = true) (hQ : ∀ c a a' w, Q (.panic c) a w → Q (.panic c) a' w) (hsel : Region.noSelect l.toArray = true) :
  ∀ (s : List Stp) (L : Array Bool) (a : Act) (w : World), C w → mixcB md l.toArray n1 s2 s L = true → wpMixC P l C Q s2 s a w → wpAnyC P md l.toArray C Q n1 (lenS s2) (lenS s) L a w := by
 intro s
 induction s with
 | nil =>
  intro L a w hC hB h
  simp only [mixcB, Bool.and_eq_true] at hB
  exact ⟨fun j hj => List.all_eq_true.1 hB.1 j (List.mem_range.2 hj), wpAny_mix hQ hsel s2 L a w hB.2 h⟩
 | cons st s ih =>
  intro L a w hC hB h
  cases st with
  | q ks =>
   simp only [mixcB, Bool.and_eq_true] at hB
   exact wpAnyC_q hp hQ hsel (X := wpMixC P l C Q s2 s) ks L a w hC hB.1 (fun a' h' => ih _ _ _ hC hB.2 h') h
  | f ks =>
   simp only [mixcB, Bool.and_eq_true] at hB
   exact wpAnyC_f ks L a w hC hB.1 (fun a' w' hC' h' => ih _ _ _ hC' hB.2 h') h
  | p i j =>
   simp only [mixcB, Bool.and_eq_true, decide_eq_true_eq, beq_iff_eq] at hB
   obtain ⟨⟨⟨⟨⟨⟨hr, h1⟩, h2⟩, hi⟩, hj⟩, he⟩, hB'⟩ := hB
   obtain ⟨ha, hb⟩ := h
   show wpAnyC P md l.toArray C Q n1 (lenS s2) (2 + lenS s) L a w
   rw [show 2 + lenS s = (1 + lenS s) + 1 from by omega]
   refine ⟨fun h1 => (by rw [hr] at h1; cases h1), fun k hk => ?_⟩
   rw [hr] at hk
   rcases (by simpa using hk : k = i ∨ k = j) with rfl | rfl
   ·obtain ⟨o, ho⟩ := Option.isSome_iff_exists.1 hi
    have ho' : l[k]? = some o := by simpa using ho
    rw [pick_cons ho', wpSteps] at ha
    have hw : wpOp P l.toArray (contF fun a' w' => C w' ∧ wpSteps P l.toArray C (wpMixC P l C Q s2 s) (pick l [j]) a' w') k (fun a' w' => C w' ∧ wpSteps P l.toArray C (wpMixC P l C Q s2 s) (pick l [j]) a' w') a w := by
     unfold wpOp; simp only [ho]; exact ha
    exact wpOp_mono (fun a' w' h' => ⟨h'.1, wpAnyC_f [j] _ a' w' h'.1 h1 (fun a'' w'' hC'' h'' => ih _ _ _ hC'' hB' h'') h'.2⟩) (wpOp_F hw)
   ·obtain ⟨o, ho⟩ := Option.isSome_iff_exists.1 hj
    have ho' : l[k]? = some o := by simpa using ho
    rw [pick_cons ho', wpSteps] at hb
    have hw : wpOp P l.toArray (contF fun a' w' => C w' ∧ wpSteps P l.toArray C (wpMixC P l C Q s2 s) (pick l [i]) a' w') k (fun a' w' => C w' ∧ wpSteps P l.toArray C (wpMixC P l C Q s2 s) (pick l [i]) a' w') a w := by
     unfold wpOp; simp only [ho]; exact hb
    refine wpOp_mono (fun a' w' h' => ⟨h'.1, wpAnyC_f [i] _ a' w' h'.1 h2 (fun a'' w'' hC'' h'' => ?_) h'.2⟩) (wpOp_F hw)
    have := ih _ _ _ hC'' hB' h''
    rw [← he] at this
    exact this
def mixcAllB (l : List Oper) (n1 : Nat) (s s2 : List Stp) : Bool :=
 Region.noSelect l.toArray && phaseB .any l.toArray n1 && decide (lenS s + lenS s2 = l.length) && mixcB .any l.toArray n1 s2 s (Array.replicate l.length false)
theorem wp_mixC (C : World → Prop) {id : Nat} {a : Act} {w : World} {l : List Oper} (n1 : Nat) (s s2 : List Stp) (hm : P.follows .mixedOrders = true) (hB : mixcAllB l n1 s s2 = true) (hC : C w.drew)
  (h : ∀ Q' : Exit → Act → World → Prop, (∀ a w, Q .normal a w → Q' .normal a w) → wpMixC P l C Q' s2 s a w.drew) :
  (Code.region id l.toArray true).wp P Q a w := by
 simp only [mixcAllB, Bool.and_eq_true, decide_eq_true_eq] at hB
 obtain ⟨⟨⟨hsel, hp⟩, hlen⟩, hB⟩ := hB
 refine Code.wp_mono (Q := noPan Q) (fun e a w hq => by cases e <;> first | exact hq | exact (hq : False).elim) ?_
 refine wp_region_any hm ?_
 have := wpAny_of_C (C := C) _ _ _ _ (wpAnyC_mix (md := .any) (Q := noPan Q) hp (fun c a a' w hq => hq) hsel s (Array.replicate l.length false) a w.drew hC hB (h (noPan Q) fun _ _ h => h))
 rw [show lenS s + lenS s2 = l.toArray.size from by simp; omega] at this
 simpa using this
end
theorem run_load_cell {P : Program} {o : Oper} {a : Act} {w : World} {ty : TypeId} {x : Operand} {p : Addr} {v : Value} (ho : o.op = .load ty x) (hx : a.eval x = .pointer (some p)) (hd : ∀ w, (isAgg ty).run P w = .ok false w) (hc : w.cell? p = some v) :
  (execOp a.eval o).run P w = .ok (.value v) w := by
 unfold execOp
 simp only [ho, hx]
 simp [go_sem, hc, hd]
def aggB (P : Program) (ty : TypeId) : Bool := match P.underlying ty with | some (.struct _) | some (.array _ _) | none => true | _ => false
def yesB (P : Program) (ty : TypeId) (n : Nat) : Bool := (match P.underlying ty with | some (.struct _) | some (.array _ _) => true | _ => false) && ((P.info? ty).map (·.size) == some n)
theorem isAgg_no {P : Program} {ty : TypeId} (h : aggB P ty = false) (w : World) : (isAgg ty).run P w = .ok false w := by
 unfold aggB at h
 cases e : P.underlying ty with
 | none => rw [e] at h; cases h
 | some d =>
  rw [e] at h
  simp only [isAgg, Sem.run_bind, run_underlying e, Result.andThen_ok]
  split
  ·cases h
  ·cases h
  ·rfl
theorem quiet_cellB {P : Program} {o : Oper} {a : Act} {B : Nat} {w0 : World} {K : Act → Prop} {ty : TypeId} {x : Operand} {b off : Nat} {v : Value} (ho : o.op = .load ty x) (hx : a.eval x = .pointer (some ⟨b, off, none⟩)) (hd : aggB P ty = false)
  (hc : w0.cell? ⟨b, off, none⟩ = some v) (hb : b < B) (hK : K (a.put o.dst v)) : o.quiet P a (fun w' => Below B w0 w') K :=
 quiet_val v (fun w hw => run_load_cell ho hx (isAgg_no hd) ((hw.cell (p := ⟨b, off, none⟩) hb).trans hc)) hK
theorem isAgg_yes {P : Program} {ty : TypeId} {n : Nat} (h : yesB P ty n = true) (w : World) : (isAgg ty).run P w = .ok true w ∧ (sizeOf ty).run P w = .ok n w := by
 simp only [yesB, Bool.and_eq_true, beq_iff_eq] at h
 obtain ⟨h1, h2⟩ := h
 constructor
 ·cases e : P.underlying ty with
  | none => rw [e] at h1; cases h1
  | some d =>
   rw [e] at h1
   simp only [isAgg, Sem.run_bind, run_underlying e, Result.andThen_ok]
   split
   ·rfl
   ·rfl
   ·rename_i h3 h4
    split at h1
    ·rename_i _ _ e2; cases e2; exact (h3 _ rfl).elim
    ·rename_i _ _ _ e2; cases e2; exact (h4 _ _ rfl).elim
    ·cases h1
 ·cases e : P.info? ty with
  | none => rw [e] at h2; cases h2
  | some i => rw [e] at h2; simp at h2; simp [sizeOf, run_typeInfo w e, h2]
theorem run_load_agg {P : Program} {o : Oper} {a : Act} {w : World} {ty : TypeId} {x : Operand} {p : Addr} (cs : List Value) (ho : o.op = .load ty x) (hx : a.eval x = .pointer (some p)) (hd : yesB P ty cs.length = true) (hc : ∀ j v, cs[j]? = some v → w.cell? (p.add j) = some v) :
  (execOp a.eval o).run P w = .ok (.value (.agg cs.toArray)) w := by
 have h := run_loadCells_list (P := P) w p cs hc
 unfold loadCells at h
 obtain ⟨h1, h2⟩ := isAgg_yes hd w
 unfold execOp
 simp only [ho, hx]
 simp [go_sem, h1, h2, h]
theorem quiet_agg3B {P : Program} {o : Oper} {a : Act} {B : Nat} {w0 : World} {K : Act → Prop} {ty : TypeId} {x : Operand} {b off : Nat} {v0 v1 v2 : Value} (ho : o.op = .load ty x) (hx : a.eval x = .pointer (some ⟨b, off, none⟩)) (hd : yesB P ty 3 = true)
  (h0 : w0.cell? ⟨b, off, none⟩ = some v0) (h1 : w0.cell? ⟨b, off + 1, none⟩ = some v1) (h2 : w0.cell? ⟨b, off + 2, none⟩ = some v2) (hb : b < B) (hK : K (a.put o.dst (.agg #[v0, v1, v2]))) : o.quiet P a (fun w' => Below B w0 w') K :=
 quiet_val _ (fun w hw => run_load_agg [v0, v1, v2] ho hx hd (fun j v hj => by
  match j, hj with
  | 0, hj => cases hj; exact (hw.cell (p := ⟨b, off, none⟩) hb).trans h0
  | 1, hj => cases hj; exact (hw.cell (p := ⟨b, off + 1, none⟩) hb).trans h1
  | 2, hj => cases hj; exact (hw.cell (p := ⟨b, off + 2, none⟩) hb).trans h2
  | j + 3, hj => simp at hj)) hK
end Go.Proofs.YtmhgjlapkhdlmaaDoor
set_option linter.unusedVariables false
set_option linter.unusedSimpArgs false
namespace Go.Proofs.YtmhgjlapkhdlmaaDoor
open Go.RowKit
theorem add_plain' (g i j : Nat) : (⟨g, i, none⟩ : Addr).add j = ⟨g, i + j, none⟩ := by unfold Addr.add; split <;> simp_all
def flat (n sz : Nat) (c : Nat → Nat → Value) : List Value := (List.range (n * sz)).map fun q => c (q / sz) (q % sz)
theorem flat_at {n sz : Nat} {c : Nat → Nat → Value} {q : Nat} {u : Value} (h : (flat n sz c)[q]? = some u) : q < n * sz ∧ u = c (q / sz) (q % sz) := by
 have hq : q < n * sz := by have := (List.getElem?_eq_some_iff.1 h).1; simpa [flat] using this
 refine ⟨hq, ?_⟩
 simp [flat, hq] at h
 exact h.symm
theorem flat_ints (l : List Int) : flat l.length 1 (fun i _ => .int .i64 (nth l i)) = l.map (Value.int .i64) := by
 apply List.ext_getElem (by simp [flat])
 intro i h1 h2
 have h3 : i < l.length := by simpa using h2
 simp [flat, nth, List.getD, h3]
theorem SlAt.src {w : World} {v : Value} {n sz : Nat} {c : Nat → Nat → Value} (h : SlAt w v n sz c) : ∃ ao cap, v = .slice ao n cap ∧ n ≤ cap ∧ cap ≤ maxLen ∧
  ∀ W : World, Below w.heap.size w W → ((ao = none ∧ n = 0 ∧ cap = 0) ∨ ∃ ad, ao = some ad ∧ ∀ q u, (flat n sz c)[q]? = some u → W.cell? (ad.add q) = some u) := by
 obtain ⟨ao, cap, rfl, h1, h2, h3, h4⟩ := h
 refine ⟨ao, cap, rfl, h1, h2, fun W hW => ?_⟩
 by_cases hn : 0 < n
 ·obtain ⟨b, off, e, hlt, hc⟩ := h3 hn
  refine Or.inr ⟨_, e, fun q u hq => ?_⟩
  obtain ⟨hq1, rfl⟩ := flat_at hq
  have hs : 0 < sz := Nat.pos_of_ne_zero (by rintro rfl; simp at hq1)
  have hi : q / sz < n := Nat.div_lt_of_lt_mul (by rwa [Nat.mul_comm])
  rw [add_plain', ← hc (q / sz) (q % sz) hi (Nat.mod_lt _ hs), show off + q / sz * sz + q % sz = off + q from by rw [Nat.add_assoc, Nat.mul_comm, Nat.div_add_mod]]
  exact hW.cell (p := ⟨b, off + q, none⟩) hlt
 ·have hn0 : n = 0 := by omega
  subst hn0
  cases ao with
  | none => exact Or.inl ⟨rfl, rfl, h4 rfl⟩
  | some ad => exact Or.inr ⟨ad, rfl, fun q u hq => absurd (flat_at hq).1 (by omega)⟩
theorem IntsAt.src {w : World} {v : Value} {l : List Int} (h : IntsAt w v l) : ∃ ao cap, v = .slice ao l.length cap ∧ l.length ≤ cap ∧ cap ≤ maxLen ∧
  ∀ W : World, Below w.heap.size w W → ((ao = none ∧ l.length = 0 ∧ cap = 0) ∨ ∃ ad, ao = some ad ∧ ∀ q u, (l.map (Value.int .i64))[q]? = some u → W.cell? (ad.add q) = some u) := by
 have := SlAt.src h
 rwa [show flat l.length 1 (fun i _ => Value.int .i64 (l.getD i 0)) = l.map (Value.int .i64) from flat_ints l] at this
def SlIn (w : World) (v : Value) (n sz : Nat) (c : Nat → Nat → Value) (N : Nat → Prop) : Prop :=
 ∃ ao cap, v = .slice ao n cap ∧ n ≤ cap ∧ cap ≤ maxLen ∧
  (0 < n → ∃ b off, ao = some ⟨b, off, none⟩ ∧ b < w.heap.size ∧ N b ∧ ∀ i j, i < n → j < sz → w.cell? ⟨b, off + i * sz + j, none⟩ = some (c i j)) ∧ (ao = none → cap = 0)
theorem SlIn.sl {w : World} {v : Value} {n sz : Nat} {c : Nat → Nat → Value} {N : Nat → Prop} (h : SlIn w v n sz c N) : SlAt w v n sz c := by
 obtain ⟨ao, cap, rfl, h1, h2, h3, h4⟩ := h
 refine ⟨ao, cap, rfl, h1, h2, fun h0 => ?_, h4⟩
 obtain ⟨b, off, e, hlt, _, hc⟩ := h3 h0
 exact ⟨b, off, e, hlt, hc⟩
theorem cell_of_heap {w w' : World} {b o : Nat} (h : w'.heap[b]? = w.heap[b]?) : w'.cell? ⟨b, o, none⟩ = w.cell? ⟨b, o, none⟩ := by
 simp only [World.cell?, h]
theorem SlIn.keep {w w' : World} {v : Value} {n sz : Nat} {c : Nat → Nat → Value} {N N' : Nat → Prop} (h : SlIn w v n sz c N) (hs : w.heap.size ≤ w'.heap.size) (hk : ∀ b, b < w.heap.size → N b → w'.heap[b]? = w.heap[b]? ∧ N' b) : SlIn w' v n sz c N' := by
 obtain ⟨ao, cap, rfl, h1, h2, h3, h4⟩ := h
 refine ⟨ao, cap, rfl, h1, h2, fun h0 => ?_, h4⟩
 obtain ⟨b, off, e, hlt, hN, hc⟩ := h3 h0
 obtain ⟨h5, h6⟩ := hk b hlt hN
 exact ⟨b, off, e, Nat.lt_of_lt_of_le hlt hs, h6, fun i j hi hj => (cell_of_heap h5).trans (hc i j hi hj)⟩
def Pair2 (w : World) (b : Nat) (x y : Value) : Prop := b < w.heap.size ∧ w.cell? ⟨b, 0, none⟩ = some x ∧ w.cell? ⟨b, 1, none⟩ = some y
theorem Pair2.below {w w' : World} {b : Nat} {x y : Value} (h : Pair2 w b x y) (hb : Below w.heap.size w w') : Pair2 w' b x y :=
 ⟨Nat.lt_of_lt_of_le h.1 hb.size, (hb.cell (p := ⟨b, 0, none⟩) h.1).trans h.2.1, (hb.cell (p := ⟨b, 1, none⟩) h.1).trans h.2.2⟩
def Quad (w : World) (b : Nat) (x y z u : Value) : Prop := b < w.heap.size ∧ w.cell? ⟨b, 0, none⟩ = some x ∧ w.cell? ⟨b, 1, none⟩ = some y ∧ w.cell? ⟨b, 2, none⟩ = some z ∧ w.cell? ⟨b, 3, none⟩ = some u
theorem Quad.below {w w' : World} {b : Nat} {x y z u : Value} (h : Quad w b x y z u) (hb : Below w.heap.size w w') : Quad w' b x y z u :=
 ⟨Nat.lt_of_lt_of_le h.1 hb.size, (hb.cell (p := ⟨b, 0, none⟩) h.1).trans h.2.1, (hb.cell (p := ⟨b, 1, none⟩) h.1).trans h.2.2.1, (hb.cell (p := ⟨b, 2, none⟩) h.1).trans h.2.2.2.1, (hb.cell (p := ⟨b, 3, none⟩) h.1).trans h.2.2.2.2⟩
def scan (f : Nat → Int) (n : Nat) : Int := firstNZ ((List.range n).map f)
theorem scan_end {f : Nat → Int} {n : Nat} (h : ∀ j, j < n → f j = 0) : scan f n = 0 := by
 unfold scan
 rw [firstNZ_zero]
 intro x hx
 obtain ⟨j, hj, rfl⟩ := List.mem_map.1 hx
 exact h j (List.mem_range.1 hj)
theorem scan_zero {f : Nat → Int} {n : Nat} (h : scan f n = 0) : ∀ j, j < n → f j = 0 := by
 unfold scan at h
 rw [firstNZ_zero] at h
 exact fun j hj => h _ (List.mem_map.2 ⟨j, List.mem_range.2 hj, rfl⟩)
theorem scan_at {f : Nat → Int} {n k : Nat} (h : ∀ j, j < k → f j = 0) (hk : k < n) (hne : f k ≠ 0) : scan f n = f k := by
 unfold scan
 obtain ⟨m, rfl⟩ : ∃ m, n = k + (m + 1) := ⟨n - k - 1, by omega⟩
 rw [List.range_add, List.map_append, firstNZ_append_zero]
 ·rw [List.range_succ_eq_map]
  simp [firstNZ, hne]
 ·intro x hx
  obtain ⟨j, hj, rfl⟩ := List.mem_map.1 hx
  exact h j (List.mem_range.1 hj)
def scanI (f : Nat → Int) (n : Nat) : Int := (((List.range n).find? (fun i => f i != 0)).getD 0 : Nat)
theorem scanI_end {f : Nat → Int} {n : Nat} (h : ∀ j, j < n → f j = 0) : scanI f n = 0 := by
 unfold scanI
 rw [List.find?_eq_none.2]
 ·rfl
 ·intro x hx; rw [h x (List.mem_range.1 hx)]; simp
theorem scanI_at {f : Nat → Int} {n k : Nat} (h : ∀ j, j < k → f j = 0) (hk : k < n) (hne : f k ≠ 0) : scanI f n = k := by
 unfold scanI
 obtain ⟨m, rfl⟩ : ∃ m, n = k + (m + 1) := ⟨n - k - 1, by omega⟩
 rw [List.range_add, List.find?_append, List.find?_eq_none.2, List.range_succ_eq_map]
 ·simp [hne]
 ·intro x hx; rw [h x (List.mem_range.1 hx)]; simp
theorem elemInt : Elem Tryd.prog 53 3 1 8 := Elem.mk (z := .int .i64 0) Tryd.underlying53 (by kernel_rfl) rfl (by decide)
theorem map_nth {l : List Int} {i : Nat} (h : i < l.length) : (l.map (Value.int .i64))[i]? = some (.int .i64 (nth l i)) := by simp [nth, List.getD, h]
end Go.Proofs.YtmhgjlapkhdlmaaDoor
set_option linter.unusedVariables false
set_option linter.unusedSimpArgs false
namespace Go.Proofs.YtmhgjlapkhdlmaaDoor
open Go.RowKit
section
variable {H : Type} {enc : TypeId × Value → H} {P : Program} {w : World} {base : Nat} {spare : Nat → Bool} {held : Bool}
theorem cell_lt {w : World} {a : Addr} {v : Value} (h : w.cell? a = some v) : a.block < w.heap.size := by
 unfold World.cell? at h
 cases e : w.heap[a.block]? with
 | none => simp [e] at h
 | some o => exact (Array.getElem?_eq_some_iff.1 e).1
theorem list_of {α : Type} (d : α) : ∀ (n : Nat) {R : Nat → α → Prop}, (∀ i, i < n → ∃ x, R i x) → ∃ l : List α, l.length = n ∧ ∀ i, i < n → R i (l.getD i d) := by
 intro n
 induction n with
 | zero => intro R _; exact ⟨[], rfl, fun i hi => absurd hi (by omega)⟩
 | succ n ih =>
  intro R h
  obtain ⟨l, hl, hr⟩ := ih (fun i hi => h i (by omega))
  obtain ⟨x, hx⟩ := h n (by omega)
  refine ⟨l ++ [x], by simp [hl], fun i hi => ?_⟩
  rcases Nat.lt_or_ge i n with h1 | h1
  ·have : (l ++ [x]).getD i d = l.getD i d := by simp [List.getD, List.getElem?_append_left (show i < l.length by omega)]
   rw [this]; exact hr i h1
  ·have e : i = n := by omega
   subst e
   have : (l ++ [x]).getD i d = x := by rw [← hl]; simp [List.getD]
   rw [this]; exact hx
theorem SlAt.congr {w : World} {v : Value} {n sz : Nat} {c d : Nat → Nat → Value} (h : SlAt w v n sz c) (e : ∀ i j, i < n → j < sz → c i j = d i j) : SlAt w v n sz d := by
 obtain ⟨ao, cap, rfl, h1, h2, h3, h4⟩ := h
 refine ⟨ao, cap, rfl, h1, h2, fun h0 => ?_, h4⟩
 obtain ⟨b, off, e1, hlt, hc⟩ := h3 h0
 exact ⟨b, off, e1, hlt, fun i j hi hj => by rw [hc i j hi hj, e i j hi hj]⟩
theorem slAt_of_trod {t e : TypeId} {sz fuel : Nat} {v : Value} {x : DataW H × List MemPlace} (ht : P.underlying t = some (.slice e)) (hc : P.cellsOf e = sz) (hsz : 0 < sz)
  (h : DataW.trod enc P w base spare held fuel t [v] = some x) :
  ∃ (n : Nat) (css : Nat → List Value), SlAt w v n sz (fun i j => (css i).getD j undef) ∧ ∀ i, i < n → (css i).length = sz ∧ ∃ m y, DataW.trod enc P w base spare held m e (css i) = some y := by
 rcases DataW.trod_slice ht h with ⟨h0, _⟩ | ⟨a, len, cap, elems, rest, m, _, h0, _, hb, hl, hm, hlen, hel, _, _⟩
 ·obtain rfl : v = .slice none 0 0 := by simpa using h0
  exact ⟨0, fun _ => [], ⟨none, 0, rfl, by simp, by simp, fun h => absurd h (by omega), fun _ => rfl⟩, fun i hi => absurd hi (by omega)⟩
 ·obtain rfl : v = .slice (some a) len cap := by simpa using h0
  have each : ∀ i, i < len → ∃ cs : List Value, w.cells? base (a.add (i * sz)) sz = some cs ∧ ∃ y, DataW.trod enc P w base spare held m e cs = some y := by
   intro i hi
   have h1 := hel i hi
   rw [hc] at h1
   have h2 : elems[i]? = some elems[i] := by simp
   rw [h2, Option.bind_eq_some_iff] at h1
   obtain ⟨cs, h3, h4⟩ := h1
   exact ⟨cs, h3, _, h4⟩
  obtain ⟨css, hcl, hcs⟩ := list_of ([] : List Value) len each
  have hcell : ∀ i j, i < len → j < sz → w.cell? ((a.add (i * sz)).add j) = some ((css.getD i []).getD j undef) := by
   intro i j hi hj
   obtain ⟨_, h2, h3⟩ := World.cells?_some (hcs i hi).1
   rw [h3 j hj]
   generalize css.getD i [] = c at h2 ⊢
   rw [List.getElem?_eq_getElem (by omega)]
   simp [List.getD, List.getElem?_eq_getElem (show j < c.length by omega)]
  refine ⟨len, fun i => css.getD i [], ⟨some a, cap, rfl, hl, hm, fun hp => ?_, fun h => by cases h⟩, fun i hi => ⟨(World.cells?_some (hcs i hi).1).2.1, m, (hcs i hi).2⟩⟩
  obtain ⟨b, off, spot⟩ := a
  have hspot : spot = none := by simpa [Addr.add] using World.cell?_spot (hcell 0 0 hp hsz)
  subst hspot
  refine ⟨b, off, rfl, by simpa [Addr.add] using cell_lt (hcell 0 0 hp hsz), fun i j hi hj => ?_⟩
  have := hcell i j hi hj
  rw [add_plain', add_plain'] at this
  exact this
end
end Go.Proofs.YtmhgjlapkhdlmaaDoor
set_option linter.unusedVariables false
set_option linter.unusedSimpArgs false
namespace Go.Proofs.YtmhgjlapkhdlmaaDoor.Ev
open Go.RowKit
inductive CK where
 | int (k : IntKind)
 | bool
 | str
 | sl (e : TypeId)
def findF (P : Program) (go : TypeId → Nat → Option CK) (j : Nat) : List Field → Option CK
 | [] => none
 | f :: l => bif Nat.ble f.offset j && Nat.blt j (f.offset + P.cellsOf f.type) then go f.type (j - f.offset) else findF P go j l
def kindAt (P : Program) : Nat → TypeId → Nat → Option CK
 | 0, _, _ => none
 | k + 1, t, j => match P.underlying t with
  | some (.int ik) => bif Nat.beq j 0 then some (.int ik) else none
  | some .bool => bif Nat.beq j 0 then some .bool else none
  | some .string => bif Nat.beq j 0 then some .str else none
  | some (.slice e) => bif Nat.beq j 0 then some (.sl e) else none
  | some (.array n e) => bif Nat.blt j (n * P.cellsOf e) then kindAt P k e (j % P.cellsOf e) else none
  | some (.struct fs) => findF P (kindAt P k) j fs.toList
  | _ => none
def kindB (P : Program) : Nat → TypeId → Bool
 | 0, _ => false
 | d + 1, t => (List.range (P.cellsOf t)).all fun j => match kindAt P 20 t j with
  | some (.sl e) => Nat.blt 0 (P.cellsOf e) && kindB P d e
  | some _ => true
  | none => false
def okK (P : Program) : Nat → CK → CV → Prop
 | _, .int ik, c => ∃ n, c = .v (.int ik n) ∧ (Lit.int ik n).wf = true
 | _, .bool, c => ∃ b, c = .v (.bool b)
 | _, .str, c => ∃ s, c = .v (.string s) ∧ s.size ≤ maxLen
 | 0, .sl e, c => False
 | d + 1, .sl e, c => ∃ n cc, c = .sl (P.cellsOf e) n cc ∧ n ≤ maxLen ∧ ∀ i j, i < n → j < P.cellsOf e → ∃ κ, kindAt P 20 e j = some κ ∧ okK P d κ (cc i j)
section
variable {H : Type} {enc : TypeId × Value → H} {P : Program} {w : World} {base : Nat} {spare : Nat → Bool} {held : Bool}
def leaf (H : Type) (enc : TypeId × Value → H) (P : Program) (w : World) (base : Nat) (spare : Nat → Bool) (held : Bool) : CK → Value → Prop
 | .int ik, u => ∃ n, u = .int ik n ∧ (Lit.int ik n).wf = true
 | .bool, u => ∃ b, u = .bool b
 | .str, u => ∃ s : ByteArray, u = .string s ∧ s.size ≤ maxLen
 | .sl e, u => ∃ t m y, P.underlying t = some (.slice e) ∧ DataW.trod enc P w base spare held m t [u] = some y
theorem leaf_of : ∀ (k : Nat) (t : TypeId) (fuel : Nat) (cs : List Value) (x : DataW H × List MemPlace) (j : Nat) (κ : CK), kindAt P k t j = some κ → DataW.trod enc P w base spare held fuel t cs = some x → ∃ u, cs[j]? = some u ∧ leaf H enc P w base spare held κ u := by
 intro k
 induction k with
 | zero => intro t fuel cs x j κ h; cases h
 | succ k ih =>
  intro t fuel cs x j κ hk h
  unfold kindAt at hk
  have zero : ∀ {κ' : CK}, (bif Nat.beq j 0 then some κ' else none) = some κ → j = 0 ∧ κ' = κ := by
   intro κ' e
   cases hb : Nat.beq j 0 with
   | false => rw [hb] at e; cases e
   | true => rw [hb] at e; cases e; exact ⟨Nat.eq_of_beq_eq_true hb, rfl⟩
  split at hk
  ·rename_i ik ht
   obtain ⟨rfl, rfl⟩ := zero hk
   obtain ⟨n, rfl, _, h2⟩ := DataW.trod_int ht h
   exact ⟨_, rfl, n, rfl, h2⟩
  ·rename_i ht
   obtain ⟨rfl, rfl⟩ := zero hk
   obtain ⟨b, rfl, _⟩ := DataW.trod_bool ht h
   exact ⟨_, rfl, b, rfl⟩
  ·rename_i ht
   obtain ⟨rfl, rfl⟩ := zero hk
   obtain ⟨s, rfl, _, h2⟩ := DataW.trod_string ht h
   exact ⟨_, rfl, s, rfl, h2⟩
  ·rename_i e ht
   obtain ⟨rfl, rfl⟩ := zero hk
   rcases DataW.trod_slice ht h with ⟨rfl, _⟩ | ⟨a, len, cap, elems, rest, m, _, rfl, _⟩
   ·exact ⟨_, rfl, t, fuel, x, ht, h⟩
   ·exact ⟨_, rfl, t, fuel, x, ht, h⟩
  ·rename_i n e ht
   cases hb : Nat.blt j (n * P.cellsOf e) with
   | false => rw [hb] at hk; cases hk
   | true =>
    rw [hb] at hk
    simp only [cond_true] at hk
    have hj : j < n * P.cellsOf e := Nat.le_of_ble_eq_true hb
    have hpos : 0 < P.cellsOf e := by
     rcases Nat.eq_zero_or_pos (P.cellsOf e) with q | q
     ·rw [q, Nat.mul_zero] at hj; omega
     ·exact q
    obtain ⟨xs, m, _, _, hl, hxs, hf⟩ := DataW.trod_array ht h
    have hi : j / P.cellsOf e < n := Nat.div_lt_of_lt_mul (by rwa [Nat.mul_comm])
    have h5 := hf _ hi
    rw [show xs[j / P.cellsOf e]? = some xs[j / P.cellsOf e] from List.getElem?_eq_getElem (by omega)] at h5
    obtain ⟨u, h6, h7⟩ := ih e _ _ _ _ _ hk h5
    refine ⟨u, ?_, h7⟩
    rw [List.getElem?_take, if_pos (Nat.mod_lt _ hpos), List.getElem?_drop] at h6
    rwa [Nat.div_add_mod' j (P.cellsOf e)] at h6
  ·rename_i fs ht
   obtain ⟨xs, m, _, _, hl, hxs, hf⟩ := DataW.trod_struct ht h
   have find : ∀ l : List Field, (∀ f ∈ l, ∃ i : Nat, fs[i]? = some f) → findF P (kindAt P k) j l = some κ → ∃ (f : Field) (i : Nat), fs[i]? = some f ∧ f.offset ≤ j ∧ j < f.offset + P.cellsOf f.type ∧ kindAt P k f.type (j - f.offset) = some κ := by
    intro l
    induction l with
    | nil => intro _ h; cases h
    | cons f l ihl =>
     intro hm h
     unfold findF at h
     cases hb : (Nat.ble f.offset j && Nat.blt j (f.offset + P.cellsOf f.type)) with
     | false => rw [hb] at h; exact ihl (fun g hg => hm g (by simp [hg])) h
     | true =>
      rw [hb] at h
      simp only [Bool.and_eq_true] at hb
      obtain ⟨i, hi⟩ := hm f (by simp)
      exact ⟨f, i, hi, Nat.le_of_ble_eq_true hb.1, Nat.le_of_ble_eq_true hb.2, h⟩
   obtain ⟨f, i, hi, h1, h2, h3⟩ := find fs.toList (fun f hf => by
    obtain ⟨i, hi, e⟩ := List.getElem_of_mem hf
    exact ⟨i, by rw [← e]; simp at hi ⊢⟩) hk
   have h5 := hf i f hi
   have hlt : i < fs.size := by
    rcases Nat.lt_or_ge i fs.size with q | q
    ·exact q
    ·rw [Array.getElem?_eq_none q] at hi; cases hi
   rw [show xs[i]? = some xs[i] from List.getElem?_eq_getElem (by omega)] at h5
   obtain ⟨u, h6, h7⟩ := ih _ _ _ _ _ _ h3 h5
   refine ⟨u, ?_, h7⟩
   rw [List.getElem?_take, if_pos (by omega), List.getElem?_drop] at h6
   rwa [show f.offset + (j - f.offset) = j by omega] at h6
  ·cases hk
theorem open_cell : ∀ (d : Nat) (t : TypeId) (fuel : Nat) (cs : List Value) (x : DataW H × List MemPlace), kindB P d t = true → DataW.trod enc P w base spare held fuel t cs = some x → ∀ j, j < P.cellsOf t → ∃ κ c u, kindAt P 20 t j = some κ ∧ cs[j]? = some u ∧ RelF w (fun _ => True) c u ∧ okK P d κ c := by
 intro d
 induction d with
 | zero => intro t fuel cs x h; cases h
 | succ d ih =>
  intro t fuel cs x hB h j hj
  have hB' := hB
  unfold kindB at hB
  have h1 := List.all_eq_true.1 hB j (List.mem_range.2 hj)
  cases hk : kindAt P 20 t j with
  | none => rw [hk] at h1; cases h1
  | some κ =>
   rw [hk] at h1
   obtain ⟨u, h2, h3⟩ := leaf_of 20 t fuel cs x j κ hk h
   cases κ with
   | int ik =>
    obtain ⟨n, rfl, hw⟩ := h3
    exact ⟨_, .v (.int ik n), _, rfl, h2, ⟨rfl, rfl⟩, by simp only [okK]; exact ⟨n, rfl, hw⟩⟩
   | bool =>
    obtain ⟨b, rfl⟩ := h3
    exact ⟨_, .v (.bool b), _, rfl, h2, ⟨rfl, rfl⟩, by simp only [okK]; exact ⟨b, rfl⟩⟩
   | str =>
    obtain ⟨s, rfl, hs⟩ := h3
    exact ⟨_, .v (.string s), _, rfl, h2, ⟨rfl, rfl⟩, by simp only [okK]; exact ⟨s, rfl, hs⟩⟩
   | sl e =>
    simp only [Bool.and_eq_true] at h1
    have hpos : 0 < P.cellsOf e := Nat.le_of_ble_eq_true h1.1
    obtain ⟨t', m, y, ht, hy⟩ := h3
    obtain ⟨n, css, ⟨ao, cap, rfl, g1, g2, g3, g4⟩, hel⟩ := slAt_of_trod ht rfl hpos hy
    have each : ∀ i j, i < n → j < P.cellsOf e → ∃ c : CV, ∃ κ u, kindAt P 20 e j = some κ ∧ (css i)[j]? = some u ∧ RelF w (fun _ => True) c u ∧ okK P d κ c := by
     intro i j hi hj
     obtain ⟨_, m', y', h6⟩ := hel i hi
     obtain ⟨κ, c, u, q⟩ := ih e m' (css i) y' h1.2 h6 j hj
     exact ⟨c, κ, u, q⟩
    classical
    let cc : Nat → Nat → CV := fun i j => if h : i < n ∧ j < P.cellsOf e then Classical.choose (each i j h.1 h.2) else .v (.bool false)
    have hcc : ∀ i j, i < n → j < P.cellsOf e → ∃ κ u, kindAt P 20 e j = some κ ∧ (css i)[j]? = some u ∧ RelF w (fun _ => True) (cc i j) u ∧ okK P d κ (cc i j) := by
     intro i j hi hj
     have : cc i j = Classical.choose (each i j hi hj) := dif_pos ⟨hi, hj⟩
     rw [this]
     exact Classical.choose_spec (each i j hi hj)
    refine ⟨_, .sl (P.cellsOf e) n cc, _, rfl, h2, ⟨ao, cap, rfl, g1, g2, g4, fun h0 => ?_⟩, by
     simp only [okK]
     exact ⟨n, cc, rfl, Nat.le_trans g1 g2, fun i j hi hj => by obtain ⟨κ, u, q1, _, _, q4⟩ := hcc i j hi hj; exact ⟨κ, q1, q4⟩⟩⟩
    obtain ⟨b, off, e1, hlt, hc⟩ := g3 h0
    refine ⟨b, off, e1, hlt, trivial, fun i j hi hj => ?_⟩
    obtain ⟨κ, u, q1, q2, q3, _⟩ := hcc i j hi hj
    refine ⟨u, ?_, q3⟩
    rw [hc i j hi hj]
    simp [List.getD, q2]
theorem open_cells {d : Nat} {t : TypeId} {fuel : Nat} {cs : List Value} {x : DataW H × List MemPlace} (hB : kindB P d t = true) (hl : cs.length = P.cellsOf t) (h : DataW.trod enc P w base spare held fuel t cs = some x) :
  ∃ l : List CV, l.length = P.cellsOf t ∧ All2 (RelF w (fun _ => True)) l cs ∧ ∀ j, j < P.cellsOf t → ∃ κ, kindAt P 20 t j = some κ ∧ okK P d κ (l.getD j (.v (.bool false))) := by
 have each := open_cell d t fuel cs x hB h
 obtain ⟨l, h1, h2⟩ := list_of (CV.v (.bool false)) (P.cellsOf t) (R := fun j c => ∃ κ u, kindAt P 20 t j = some κ ∧ cs[j]? = some u ∧ RelF w (fun _ => True) c u ∧ okK P d κ c) (fun j hj => by obtain ⟨κ, c, u, q⟩ := each j hj; exact ⟨c, κ, u, q⟩)
 refine ⟨l, h1, All2.of_get (by omega) fun i a b ha hb => ?_, fun j hj => ?_⟩
 ·have hi : i < P.cellsOf t := by
   rcases Nat.lt_or_ge i l.length with q | q
   ·omega
   ·rw [List.getElem?_eq_none q] at ha; cases ha
  obtain ⟨κ, u, _, q2, q3, _⟩ := h2 i hi
  rw [hb] at q2
  cases q2
  rw [show l.getD i (.v (.bool false)) = a by simp [List.getD, ha]] at q3
  exact q3
 ·obtain ⟨κ, u, q1, _, _, q4⟩ := h2 j hj
  exact ⟨κ, q1, q4⟩
theorem open_agg {d : Nat} {t : TypeId} {cs : Array Value} {y : DataW H} {ps : List MemPlace} (hB : kindB P d t = true) (hl : cs.size = P.cellsOf t) (h : DataW.Trod enc P w base spare held t (.agg cs) y ps) :
  ∃ l : List CV, l.length = P.cellsOf t ∧ All2 (RelF w (fun _ => True)) l cs.toList ∧ ∀ j, j < P.cellsOf t → ∃ κ, kindAt P 20 t j = some κ ∧ okK P d κ (l.getD j (.v (.bool false))) := by
 obtain ⟨fuel, hf⟩ := h
 exact open_cells hB (by simpa using hl) (by simpa [Value.cells] using hf)
end
theorem open_i64 {P : Program} {d : Nat} {t : TypeId} {j : Nat} {c : CV} (hk : kindAt P 20 t j = some (.int .i64)) (h : ∃ κ, kindAt P 20 t j = some κ ∧ okK P d κ c) : ∃ n : Int, c = .v (.int .i64 n) ∧ -9223372036854775808 ≤ n ∧ n ≤ 9223372036854775807 := by
 obtain ⟨κ, h1, h2⟩ := h
 rw [hk] at h1
 cases h1
 have h3 : ∃ n, c = .v (.int .i64 n) ∧ (Lit.int .i64 n).wf = true := by cases d <;> exact h2
 obtain ⟨n, e, hw⟩ := h3
 have := bounds_i64 hw
 exact ⟨n, e, this.1, this.2⟩
theorem open_sl {P : Program} {d : Nat} {t e : TypeId} {j : Nat} {c : CV} (hk : kindAt P 20 t j = some (.sl e)) (h : ∃ κ, kindAt P 20 t j = some κ ∧ okK P (d + 1) κ c) : ∃ n cc, c = .sl (P.cellsOf e) n cc ∧ n ≤ maxLen ∧ ∀ i j, i < n → j < P.cellsOf e → ∃ κ, kindAt P 20 e j = some κ ∧ okK P d κ (cc i j) := by
 obtain ⟨κ, h1, h2⟩ := h
 rw [hk] at h1
 cases h1
 exact h2
def allI (P : Program) (e : TypeId) : Bool := (List.range (P.cellsOf e)).all fun j => match kindAt P 20 e j with
 | some (.int .i64) => true
 | _ => false
theorem nums_of {P : Program} {d : Nat} {e : TypeId} {n : Nat} {cc : Nat → Nat → CV} (hk : allI P e = true) (h : ∀ i j, i < n → j < P.cellsOf e → ∃ κ, kindAt P 20 e j = some κ ∧ okK P d κ (cc i j)) : numsP (P.cellsOf e) n cc := by
 intro i j hi hj
 have h1 := List.all_eq_true.1 hk j (List.mem_range.2 hj)
 split at h1
 ·rename_i hq
  obtain ⟨m, e1, _⟩ := open_i64 hq (h i j hi hj)
  rw [e1]; rfl
 ·cases h1
end Go.Proofs.YtmhgjlapkhdlmaaDoor.Ev
set_option linter.unusedVariables false
set_option linter.unusedSimpArgs false
namespace Go.Proofs.YtmhgjlapkhdlmaaDoor
open Go.RowKit
structure P3 where
 (x y z : Int)
structure Rg where
 (lo hi : Int)
structure FHit where
 (p : P3) (t c : Rg)
structure Lat where
 (o : P3) (st n : Int)
structure Muon where
 (s : List Int) (w : Int)
structure Knot where
 (d y : Int)
def P3.bd (p : P3) (K : Int) : Prop := (-K ≤ p.x ∧ p.x ≤ K) ∧ (-K ≤ p.y ∧ p.y ≤ K) ∧ -K ≤ p.z ∧ p.z ≤ K
def posE (p : P3) : Int := unl (inB p.x (-10000) 10000 && inB p.y (-10000) 10000 && inB p.z (-10000) 10000) 2
theorem unl_0 {b : Bool} {n : Int} (h : n ≠ 0) : unl b n = 0 ↔ b = true := by cases b <;> simp [unl, h]
theorem posE_0 {p : P3} : posE p = 0 ↔ p.bd 10000 := by
 unfold posE
 rw [unl_0 (by decide)]
 simp only [Bool.and_eq_true, inB_true, P3.bd]
 constructor
 ·rintro ⟨⟨h1, h2⟩, h3⟩; exact ⟨h1, h2, h3⟩
 ·rintro ⟨h1, h2, h3⟩; exact ⟨⟨h1, h2⟩, h3⟩
theorem P3.bd.mono {p : P3} {A B : Int} (h : p.bd A) (hAB : A ≤ B) : p.bd B := by unfold P3.bd at *; omega
def sqD (a b : P3) : Int := (a.x - b.x) * (a.x - b.x) + (a.y - b.y) * (a.y - b.y) + (a.z - b.z) * (a.z - b.z)
def rtGo : Nat → Int → Int → Int → Int
 | 0, _, lo, _ => lo
 | k + 1, n, lo, hi => if lo < hi then (if (lo + hi + 1) / 2 * ((lo + hi + 1) / 2) ≤ n then rtGo k n ((lo + hi + 1) / 2) hi else rtGo k n lo ((lo + hi + 1) / 2 - 1)) else lo
def rt (n : Int) : Int := rtGo 21 n 0 1048576
theorem rtGo_spec : ∀ (k : Nat) (n lo hi : Int), 0 ≤ lo → lo ≤ hi → hi - lo < 2 ^ k → lo * lo ≤ n → n < (hi + 1) * (hi + 1) → 0 ≤ rtGo k n lo hi ∧ rtGo k n lo hi ≤ hi ∧ rtGo k n lo hi * rtGo k n lo hi ≤ n ∧ n < (rtGo k n lo hi + 1) * (rtGo k n lo hi + 1)
 | 0, n, lo, hi, h0, h1, h2, h3, h4 => by
  have : hi = lo := by simp at h2; omega
  subst this
  exact ⟨h0, Int.le_refl _, h3, h4⟩
 | k + 1, n, lo, hi, h0, h1, h2, h3, h4 => by
  have e : (2 : Int) ^ (k + 1) = 2 ^ k * 2 := rfl
  rw [e] at h2
  unfold rtGo
  split
  ·rename_i h
   split
   ·rename_i g
    exact rtGo_spec k n _ hi (by omega) (by omega) (by generalize (2 : Int) ^ k = K at *; omega) g h4
   ·rename_i g
    have := rtGo_spec k n lo ((lo + hi + 1) / 2 - 1) h0 (by omega) (by generalize (2 : Int) ^ k = K at *; omega) h3 (by rw [show (lo + hi + 1) / 2 - 1 + 1 = (lo + hi + 1) / 2 by omega]; omega)
    exact ⟨this.1, by omega, this.2.2⟩
  ·rename_i h
   have : hi = lo := by omega
   subst this
   exact ⟨h0, Int.le_refl _, h3, h4⟩
theorem rt_spec {n : Int} (h0 : 0 ≤ n) (h1 : n < 1099511627776) : 0 ≤ rt n ∧ rt n ≤ 1048576 ∧ rt n * rt n ≤ n ∧ n < (rt n + 1) * (rt n + 1) := rtGo_spec 21 n 0 1048576 (by omega) (by omega) (by decide) (by omega) (by omega)
theorem root_unique {n a b : Int} (ha : 0 ≤ a) (hb : 0 ≤ b) (h1 : a * a ≤ n) (h2 : n < (a + 1) * (a + 1)) (h3 : b * b ≤ n) (h4 : n < (b + 1) * (b + 1)) : a = b := by
 rcases Int.lt_trichotomy a b with h | h | h
 ·have := Int.mul_le_mul (show a + 1 ≤ b by omega) (show a + 1 ≤ b by omega) (by omega) hb; omega
 ·exact h
 ·have := Int.mul_le_mul (show b + 1 ≤ a by omega) (show b + 1 ≤ a by omega) (by omega) ha; omega
theorem rt_of {n r : Int} (h0 : 0 ≤ r) (h1 : r * r ≤ n) (h2 : n < (r + 1) * (r + 1)) (hn : n < 1099511627776) : r = rt n := by
 have h3 := Int.mul_nonneg h0 h0
 obtain ⟨g1, _, g3, g4⟩ := rt_spec (n := n) (by omega) hn
 exact root_unique h0 g1 h1 h2 g3 g4
def dly (a b : P3) : Int := rt (sqD a b * 9 / 4)
theorem sq_rg {d K : Int} (h : -K ≤ d ∧ d ≤ K) : 0 ≤ d * d ∧ d * d ≤ K * K := by
 rcases Int.le_total 0 d with h1 | h1
 ·exact ⟨Int.mul_nonneg h1 h1, Int.mul_le_mul h.2 h.2 h1 (by omega)⟩
 ·have := Int.mul_le_mul (show -d ≤ K by omega) (show -d ≤ K by omega) (by omega) (by omega)
  have := Int.mul_nonneg (show 0 ≤ -d by omega) (show 0 ≤ -d by omega)
  rw [Int.neg_mul_neg] at *
  omega
theorem sqD_rg {a b : P3} (ha : a.bd 15000) (hb : b.bd 15000) : 0 ≤ sqD a b ∧ sqD a b ≤ 2700000000 := by
 obtain ⟨a1, a2, a3⟩ := ha
 obtain ⟨b1, b2, b3⟩ := hb
 have h1 := sq_rg (d := a.x - b.x) (K := 30000) (by omega)
 have h2 := sq_rg (d := a.y - b.y) (K := 30000) (by omega)
 have h3 := sq_rg (d := a.z - b.z) (K := 30000) (by omega)
 unfold sqD
 omega
theorem dly_rg {a b : P3} (ha : a.bd 15000) (hb : b.bd 15000) : 0 ≤ dly a b ∧ dly a b ≤ 100000 := by
 have h := sqD_rg ha hb
 obtain ⟨g1, g2, g3, g4⟩ := rt_spec (n := sqD a b * 9 / 4) (by omega) (by omega)
 refine ⟨g1, ?_⟩
 unfold dly
 rcases Int.le_total (rt (sqD a b * 9 / 4)) 100000 with h1 | h1
 ·exact h1
 ·have := Int.mul_le_mul h1 h1 (by decide) (by omega); omega
def rgIn (r : Rg) (m : Int) : Bool := inB r.lo 0 m && inB r.hi 0 m
def rgE (r : Rg) : Int := unl (decide (r.lo ≤ r.hi)) 9
def FHit.err (h : FHit) : Int := firstNZ [posE h.p, unl (rgIn h.t 1000000000 && rgIn h.c 1000000) 2, rgE h.t, rgE h.c]
def cntE (n : Nat) (m : Int) : Int := firstNZ [unl (decide ((n : Int) > 0)) 10, unl (decide ((n : Int) ≤ m)) 8]
def FHit.zero : FHit := ⟨⟨0, 0, 0⟩, ⟨0, 0⟩, ⟨0, 0⟩⟩
def hitAt (l : List FHit) (i : Nat) : FHit := l.getD i FHit.zero
def hitsE (l : List FHit) : Int := if cntE l.length 8 = 0 then scan (fun i => (hitAt l i).err) l.length else cntE l.length 8
def hitsI (l : List FHit) : Int := if cntE l.length 8 = 0 then scanI (fun i => (hitAt l i).err) l.length else 0
def latE (x : Lat) : Int := firstNZ [posE x.o, unl (inB x.st 1 1000 && inB x.n 1 6) 2]
def bothE (l : List FHit) (x : Lat) : Int := firstNZ [hitsE l, latE x]
def posAt (x : Lat) (k : Int) : P3 := ⟨x.o.x + x.st * (k / x.n / x.n), x.o.y + x.st * (k / x.n % x.n), x.o.z + x.st * (k % x.n)⟩
def Lat.sz (x : Lat) : Int := x.n * x.n * x.n
def allP (x : Lat) : List P3 := (List.range x.sz.toNat).map fun k : Nat => posAt x k
theorem fn2' {a b : Int} : firstNZ [a, b] = 0 ↔ a = 0 ∧ b = 0 := by
 simp only [firstNZ]
 by_cases h1 : a = 0 <;> by_cases h2 : b = 0 <;> simp_all
theorem lat_ok {x : Lat} (h : latE x = 0) : x.o.bd 10000 ∧ (1 ≤ x.st ∧ x.st ≤ 1000) ∧ 1 ≤ x.n ∧ x.n ≤ 6 := by
 unfold latE at h
 obtain ⟨h1, h2⟩ := fn2'.1 h
 rw [unl_0 (by decide), Bool.and_eq_true, inB_true, inB_true] at h2
 exact ⟨posE_0.1 h1, h2⟩
theorem sz_rg {x : Lat} (h : latE x = 0) : 1 ≤ x.sz ∧ x.sz ≤ 216 := by
 obtain ⟨_, _, h1, h2⟩ := lat_ok h
 unfold Lat.sz
 rcases (by omega : x.n = 1 ∨ x.n = 2 ∨ x.n = 3 ∨ x.n = 4 ∨ x.n = 5 ∨ x.n = 6) with e | e | e | e | e | e <;> rw [e] <;> decide
theorem digits {n k : Int} (h1 : 1 ≤ n) (hk : 0 ≤ k) (hk2 : k < n * n * n) : (0 ≤ k / n / n ∧ k / n / n < n) ∧ (0 ≤ k / n % n ∧ k / n % n < n) ∧ 0 ≤ k % n ∧ k % n < n := by
 have e1 : 0 ≤ k / n := Int.ediv_nonneg hk (by omega)
 have e2 : k / n < n * n := by rw [Int.ediv_lt_iff_lt_mul (by omega)]; exact hk2
 have e3 : k / n / n < n := by rw [Int.ediv_lt_iff_lt_mul (by omega)]; exact e2
 exact ⟨⟨Int.ediv_nonneg e1 (by omega), e3⟩, ⟨Int.emod_nonneg _ (by omega), Int.emod_lt_of_pos _ (by omega)⟩, Int.emod_nonneg _ (by omega), Int.emod_lt_of_pos _ (by omega)⟩
theorem step_rg {st n j : Int} (hs : 1 ≤ st ∧ st ≤ 1000) (hn : n ≤ 6) (hj : 0 ≤ j ∧ j < n) : 0 ≤ st * j ∧ st * j ≤ 5000 := by
 refine ⟨Int.mul_nonneg (by omega) hj.1, ?_⟩
 have := Int.mul_le_mul hs.2 (show j ≤ 5 by omega) hj.1 (by decide)
 omega
theorem posAt_bd {x : Lat} {k : Int} (h : latE x = 0) (hk : 0 ≤ k) (hk2 : k < x.sz) : (posAt x k).bd 15000 := by
 obtain ⟨⟨a1, a2, a3⟩, hs, h1, h2⟩ := lat_ok h
 obtain ⟨d1, d2, d3⟩ := digits h1 hk hk2
 have e1 := step_rg hs h2 d1
 have e2 := step_rg hs h2 d2
 have e3 := step_rg hs h2 d3
 unfold posAt P3.bd
 simp only
 omega
theorem allP_len {x : Lat} : (allP x).length = x.sz.toNat := by simp [allP]
theorem hitsE_ok {l : List FHit} (h : hitsE l = 0) : (0 < l.length ∧ l.length ≤ 8) ∧ ∀ i, i < l.length → (hitAt l i).err = 0 := by
 unfold hitsE at h
 by_cases hc : cntE l.length 8 = 0
 ·rw [if_pos hc] at h
  obtain ⟨h1, h2⟩ := fn2'.1 hc
  rw [unl_0 (by decide)] at h1 h2
  have h1 := of_decide_eq_true h1
  have h2 := of_decide_eq_true h2
  exact ⟨by omega, scan_zero h⟩
 ·rw [if_neg hc] at h; exact (hc h).elim
theorem hit_ok {h : FHit} (e : h.err = 0) : h.p.bd 10000 ∧ (0 ≤ h.t.lo ∧ h.t.lo ≤ h.t.hi ∧ h.t.hi ≤ 1000000000) ∧ 0 ≤ h.c.lo ∧ h.c.lo ≤ h.c.hi ∧ h.c.hi ≤ 1000000 := by
 unfold FHit.err at e
 rw [firstNZ_zero] at e
 have e1 := e _ (List.mem_cons_self ..)
 have e2 := e _ (List.mem_cons_of_mem _ (List.mem_cons_self ..))
 have e3 := e _ (List.mem_cons_of_mem _ (List.mem_cons_of_mem _ (List.mem_cons_self ..)))
 have e4 := e _ (List.mem_cons_of_mem _ (List.mem_cons_of_mem _ (List.mem_cons_of_mem _ (List.mem_cons_self ..))))
 unfold rgE at e3 e4
 rw [unl_0 (by decide)] at e2 e3 e4
 have e3 := of_decide_eq_true e3
 have e4 := of_decide_eq_true e4
 unfold rgIn at e2
 simp only [Bool.and_eq_true, inB_true] at e2
 exact ⟨posE_0.1 e1, by omega, by omega⟩
def stR (p : P3) (h : FHit) : Rg := ⟨h.t.lo - dly p h.p, h.t.hi - dly p h.p⟩
def sts (l : List FHit) (p : P3) : List Rg := l.map (stR p)
def meetR (a b : Rg) : Rg := ⟨max a.lo b.lo, min a.hi b.hi⟩
def rgAt (l : List Rg) (i : Nat) : Rg := l.getD i ⟨0, 0⟩
def comm (l : List Rg) : Rg := (l.drop 1).foldl meetR (rgAt l 0)
def tms (l : List FHit) (p : P3) : Rg := comm (sts l p)
def tmsE (l : List FHit) (p : P3) : Int := if firstNZ [hitsE l, posE p] = 0 then unl (decide ((tms l p).lo ≤ (tms l p).hi)) 12 else firstNZ [hitsE l, posE p]
def tmsV (l : List FHit) (p : P3) : Rg := if tmsE l p = 0 then tms l p else ⟨0, 0⟩
def opnS (l : List FHit) (x : Lat) : List (List Rg) := if bothE l x = 0 then (allP x).map (sts l) else []
def opnH (l : List FHit) (x : Lat) : List FHit := if bothE l x = 0 then l else []
def Lat.zero : Lat := ⟨⟨0, 0, 0⟩, 0, 0⟩
def opnX (l : List FHit) (x : Lat) : Lat := if bothE l x = 0 then x else Lat.zero
def exB (p : P3) (t : Int) (h : FHit) : Bool := inB t (stR p h).lo (stR p h).hi
theorem sts_len {l : List FHit} {p : P3} : (sts l p).length = l.length := by simp [sts]
theorem sts_at {l : List FHit} {p : P3} {i : Nat} (hi : i < l.length) : rgAt (sts l p) i = stR p (hitAt l i) := by
 simp [rgAt, sts, hitAt, List.getD, hi]
def cntB (f : Nat → Bool) (n : Nat) : Int := (((List.range n).filter f).length : Int)
theorem cntB_succ {f : Nat → Bool} {k : Nat} : cntB f (k + 1) = cntB f k + if f k = true then 1 else 0 := by
 unfold cntB
 rw [List.range_succ, List.filter_append, List.length_append, List.filter_cons]
 split <;> simp
theorem cntB_rg (f : Nat → Bool) (k : Nat) : 0 ≤ cntB f k ∧ cntB f k ≤ k := by
 unfold cntB
 have := List.length_filter_le f (List.range k)
 rw [List.length_range] at this
 omega
def badB (f g : Nat → Bool) (i : Nat) : Int := if (f i || g i) = true then 0 else 19
def jdE (f g : Nat → Bool) (n : Nat) : Int := if scan (badB f g) n ≠ 0 then scan (badB f g) n else if cntB f n = 0 ∨ cntB g n = 0 then 3 else 0
def jdV (f g : Nat → Bool) (n : Nat) : Int := if scan (badB f g) n ≠ 0 then scanI (badB f g) n else if cntB f n = 0 ∨ cntB g n = 0 then 0 else cntB f n
def exF (l : List FHit) (x : Lat) (q s : Int) (i : Nat) : Bool := exB (posAt x q) s (hitAt l i)
def cpF (x : Lat) (a b s t : Int) : Int := firstNZ [unl (inB a 0 (x.sz - 1) && inB b 0 (x.sz - 1)) 6, unl (decide (a ≤ b)) 9, unl (inB s (-2000000000) 2000000000 && inB t (-2000000000) 2000000000) 2]
def cpE (l : List FHit) (x : Lat) (a b s t : Int) : Int := if bothE l x ≠ 0 then bothE l x else if cpF x a b s t ≠ 0 then cpF x a b s t else jdE (exF l x a s) (exF l x b t) l.length
def cpV (l : List FHit) (x : Lat) (a b s t : Int) : Int := if bothE l x ≠ 0 then 0 else if cpF x a b s t ≠ 0 then 0 else jdV (exF l x a s) (exF l x b t) l.length
def muAt (l : List Muon) (i : Nat) : Muon := l.getD i ⟨[], 0⟩
def senB (n : Int) : Bool := inB n 0 7
def Muon.err (m : Muon) : Int := firstNZ [unl (inB m.w 1 100) 2, unl (decide ((m.s.length : Int) ≤ 8)) 8, unl (m.s.all senB) 6]
def musE (l : List Muon) : Int := if cntE l.length 40 = 0 then scan (fun i => (muAt l i).err) l.length else cntE l.length 40
def musI (l : List Muon) : Int := if cntE l.length 40 = 0 then scanI (fun i => (muAt l i).err) l.length else 0
def sen1 (i a b : Int) : Int := firstNZ [unl (senB b) 6, unl (decide (i = 0) || decide (b > a)) 9]
def senE (l : List Int) (i : Nat) : Int := sen1 i (l.getD (i - 1) 0) (l.getD i 0)
def vetE (f : Int) (s : List Int) : Int := firstNZ [unl (inB f 0 8) 2, unl (decide ((s.length : Int) ≤ 8)) 8, scan (senE s) s.length]
def passB (f : Int) (v : List Int) (m : Muon) : Bool := (m.s.take f.toNat).all fun s => !v.contains s
def sumW : List Muon → Int
 | [] => 0
 | m :: l => m.w + sumW l
def sumQ : List Muon → Int
 | [] => 0
 | m :: l => m.w * m.w + sumQ l
theorem sumW_app : ∀ (a b : List Muon), sumW (a ++ b) = sumW a + sumW b
 | [], b => by simp [sumW]
 | m :: a, b => by simp only [List.cons_append, sumW, sumW_app a b]; omega
theorem sumQ_app : ∀ (a b : List Muon), sumQ (a ++ b) = sumQ a + sumQ b
 | [], b => by simp [sumQ]
 | m :: a, b => by simp only [List.cons_append, sumQ, sumQ_app a b]; omega
theorem sums_rg : ∀ (l : List Muon), (∀ m ∈ l, 1 ≤ m.w ∧ m.w ≤ 100) → ((l.length : Int) ≤ sumW l ∧ sumW l ≤ 100 * l.length) ∧ (0 ≤ sumQ l ∧ sumQ l ≤ 10000 * l.length)
 | [], _ => by simp [sumW, sumQ]
 | m :: l, h => by
  have h1 := h m (List.mem_cons_self ..)
  have h2 := sums_rg l fun x hx => h x (List.mem_cons_of_mem _ hx)
  have h3 := sq_rg (d := m.w) (K := 100) (by omega)
  simp only [sumW, sumQ, List.length_cons]
  push_cast
  omega
def passL (f : Int) (v : List Int) (l : List Muon) : List Muon := l.filter (passB f v)
theorem mus_ok {l : List Muon} (h : musE l = 0) : (0 < l.length ∧ l.length ≤ 40) ∧ ∀ i, i < l.length → (muAt l i).err = 0 := by
 unfold musE at h
 by_cases hc : cntE l.length 40 = 0
 ·rw [if_pos hc] at h
  obtain ⟨h1, h2⟩ := fn2'.1 hc
  rw [unl_0 (by decide)] at h1 h2
  have h1 := of_decide_eq_true h1
  have h2 := of_decide_eq_true h2
  exact ⟨by omega, scan_zero h⟩
 ·rw [if_neg hc] at h; exact (hc h).elim
theorem fn3 {a b c : Int} (h : firstNZ [a, b, c] = 0) : a = 0 ∧ b = 0 ∧ c = 0 := by
 simp only [firstNZ] at h
 by_cases h1 : a = 0 <;> by_cases h2 : b = 0 <;> by_cases h3 : c = 0 <;> simp_all
theorem mu_ok {m : Muon} (h : m.err = 0) : (1 ≤ m.w ∧ m.w ≤ 100) ∧ m.s.length ≤ 8 ∧ ∀ n ∈ m.s, 0 ≤ n ∧ n ≤ 7 := by
 unfold Muon.err at h
 obtain ⟨h1, h2, h3⟩ := fn3 h
 rw [unl_0 (by decide)] at h1 h2 h3
 have h2 := of_decide_eq_true h2
 rw [List.all_eq_true] at h3
 exact ⟨inB_true.1 h1, by omega, fun n hn => inB_true.1 (h3 n hn)⟩
theorem mus_mem {l : List Muon} (h : musE l = 0) : ∀ m ∈ l, (1 ≤ m.w ∧ m.w ≤ 100) ∧ m.s.length ≤ 8 ∧ ∀ n ∈ m.s, 0 ≤ n ∧ n ≤ 7 := by
 intro m hm
 obtain ⟨i, hi, e⟩ := List.getElem_of_mem hm
 have := mu_ok ((mus_ok h).2 i hi)
 rwa [show muAt l i = m by simp [muAt, List.getD, hi, e]] at this
theorem vet_ok {f : Int} {v : List Int} (h : vetE f v = 0) : (0 ≤ f ∧ f ≤ 8) ∧ v.length ≤ 8 ∧ ∀ i, i < v.length → senE v i = 0 := by
 unfold vetE at h
 obtain ⟨h1, h2, h3⟩ := fn3 h
 rw [unl_0 (by decide)] at h1 h2
 have h2 := of_decide_eq_true h2
 exact ⟨inB_true.1 h1, by omega, scan_zero h3⟩
theorem pass_rg {l : List Muon} (h : musE l = 0) (f : Int) (v : List Int) : ((l.length : Int) ≤ sumW l ∧ sumW l ≤ 4000) ∧ (0 ≤ sumW (passL f v l) ∧ sumW (passL f v l) ≤ 4000) ∧ 0 ≤ sumQ (passL f v l) ∧ sumQ (passL f v l) ≤ 400000 := by
 have h0 := (mus_ok h).1
 have h1 := sums_rg l fun m hm => (mus_mem h m hm).1
 have h2 := sums_rg (passL f v l) fun m hm => (mus_mem h m (List.mem_filter.1 hm).1).1
 have h3 := List.length_filter_le (passB f v) l
 unfold passL at *
 omega
def gcd2 (a b : Int) : Int := (Int.gcd a b : Int)
theorem gcd2_step (a b : Int) : gcd2 b (Int.tmod a b) = gcd2 a b := by
 unfold gcd2 Int.gcd
 rw [Int.natAbs_tmod, Nat.gcd_comm b.natAbs, ← Nat.gcd_rec, Nat.gcd_comm]
theorem gcd2_pos {a b : Int} (h : b ≠ 0) : 0 < gcd2 a b := by
 unfold gcd2
 have : 0 < Int.gcd a b := Nat.pos_of_ne_zero fun e => h (Int.gcd_eq_zero_iff.1 e).2
 omega
def lowN (a b : Int) : Int := a / gcd2 a b
def lowD (a b : Int) : Int := b / gcd2 a b
def vvE (l : List Muon) (f : Int) (v : List Int) : Int := firstNZ [musE l, vetE f v]
def prtN (l : List Muon) (f : Int) (v : List Int) : Int := if vvE l f v = 0 then lowN (sumW (passL f v l)) (sumW l) else 0
def prtD (l : List Muon) (f : Int) (v : List Int) : Int := if vvE l f v = 0 then lowD (sumW (passL f v l)) (sumW l) else 0
def befL : List Int → List Int → Bool
 | [], [] => false
 | [], _ :: _ => true
 | _ :: _, [] => false
 | a :: l, b :: m => decide (a < b) || (decide (a = b) && befL l m)
def lessL (a b : List Int) : Bool := decide (a.length < b.length) || (decide (a.length = b.length) && befL a b)
def membs (n s : Nat) : List Int := ((List.range n).filter fun i => s.testBit i).map fun i : Nat => (i : Int)
def smStep (hd : List Int → Bool) (o : Option (List Int)) (s : List Int) : Option (List Int) := match o with
 | none => if hd s = true then some s else none
 | some b => if lessL b s = true then some b else if hd s = true then some s else some b
def smallF (n : Nat) (hd : List Int → Bool) : Option (List Int) := (List.range (2 ^ n)).foldl (fun o k => smStep hd o (membs n k)) none
def keepB (l : List Muon) (f a b : Int) (v : List Int) : Bool := decide (sumW (passL f v l) * b ≤ a * sumW l)
end Go.Proofs.YtmhgjlapkhdlmaaDoor
set_option linter.unusedVariables false
set_option linter.unusedSimpArgs false
namespace Go.Proofs.YtmhgjlapkhdlmaaDoor
open Go.RowKit Ev
def plAt (l : List P3) (i : Nat) : P3 := l.getD i ⟨0, 0, 0⟩
def plsC (l : List P3) : Nat → Nat → CV := fun i j => match j with
 | 0 => .v (.int .i64 (plAt l i).x)
 | 1 => .v (.int .i64 (plAt l i).y)
 | _ => .v (.int .i64 (plAt l i).z)
def plCv (x : P3) : List CV := [.v (.int .i64 x.x), .v (.int .i64 x.y), .v (.int .i64 x.z)]
theorem plain_P3 (l : List P3) (i j : Nat) : ∃ y, plsC l i j = .v y := by unfold plsC; split <;> exact ⟨_, rfl⟩
theorem le_pls (l : List P3) : LeD (.t (.c (.sl 3 (l.map plCv).length (genC (l.map plCv))))) (.t (.c (.sl 3 l.length (plsC l)))) := by
 rw [List.length_map]
 refine leSl fun i j hi hj => ?_
 unfold genC plsC plAt
 simp only [List.getD_eq_getElem?_getD, List.getElem?_map, List.getElem?_eq_getElem hi, Option.map_some, Option.getD_some]
 rcases (by omega : j = 0 ∨ j = 1 ∨ j = 2) with rfl | rfl | rfl <;> rfl
theorem pl_ext {a b : P3} : a = b ↔ a.x = b.x ∧ a.y = b.y ∧ a.z = b.z := by
 obtain ⟨_, _, _⟩ := a
 obtain ⟨_, _, _⟩ := b
 simp [and_assoc]
instance : DecidableEq P3 := fun a b => decidable_of_iff _ pl_ext.symm
def rgsC (l : List Rg) : Nat → Nat → CV := fun i j => match j with
 | 0 => .v (.int .i64 (rgAt l i).lo)
 | _ => .v (.int .i64 (rgAt l i).hi)
def mkRg (g : Nat → Int) : Rg := ⟨g 0, g 1⟩
def rgCv (x : Rg) : List CV := [.v (.int .i64 x.lo), .v (.int .i64 x.hi)]
theorem rgAt_C {n : Nat} {c : Nat → Nat → CV} {i : Nat} (hi : i < n) : rgAt (listC n mkRg c) i = mkRg fun j => cvInt (c i j) := listC_get hi
theorem leL_Rg {n : Nat} {c : Nat → Nat → CV} (hp : numsP 2 n c) : LeD (.t (.c (.sl 2 n c))) (.t (.c (.sl 2 (listC n mkRg c).length (rgsC (listC n mkRg c))))) := by
 refine leL hp fun i j hi hj => ?_
 unfold rgsC
 rw [rgAt_C hi]
 rcases (by omega : j = 0 ∨ j = 1) with rfl | rfl <;> rfl
theorem numsP_rgs (l : List Rg) : numsP 2 l.length (rgsC l) := by
 intro i j hi hj
 rcases (by omega : j = 0 ∨ j = 1) with rfl | rfl <;> rfl
theorem rgs_listC (l : List Rg) : listC l.length mkRg (rgsC l) = l := listC_id ⟨0, 0⟩ fun i hi => rfl
theorem plain_Rg (l : List Rg) (i j : Nat) : ∃ y, rgsC l i j = .v y := by unfold rgsC; split <;> exact ⟨_, rfl⟩
theorem le_rgs (l : List Rg) : LeD (.t (.c (.sl 2 (l.map rgCv).length (genC (l.map rgCv))))) (.t (.c (.sl 2 l.length (rgsC l)))) := by
 rw [List.length_map]
 refine leSl fun i j hi hj => ?_
 unfold genC rgsC rgAt
 simp only [List.getD_eq_getElem?_getD, List.getElem?_map, List.getElem?_eq_getElem hi, Option.map_some, Option.getD_some]
 rcases (by omega : j = 0 ∨ j = 1) with rfl | rfl <;> rfl
theorem rgAt_take {l : List Rg} {k : Nat} (h : k < l.length) : l.take (k + 1) = l.take k ++ [rgAt l k] := by
 rw [List.take_succ_eq_append_getElem h]; simp [rgAt, List.getD, h]
theorem rgAt_in {l : List Rg} {k : Nat} (h : k < l.length) : rgAt l k ∈ l := by
 rw [show rgAt l k = l[k] by simp [rgAt, List.getD, h]]; exact List.getElem_mem h
theorem rg_ext {a b : Rg} : a = b ↔ a.lo = b.lo ∧ a.hi = b.hi := by
 obtain ⟨_, _⟩ := a
 obtain ⟨_, _⟩ := b
 simp [and_assoc]
instance : DecidableEq Rg := fun a b => decidable_of_iff _ rg_ext.symm
theorem numsP_rgg (l : List Rg) : numsP 2 (l.map rgCv).length (genC (l.map rgCv)) := by
 rw [List.length_map]
 intro i j hi hj
 have e : genC (l.map rgCv) i j = rgsC l i j := by
  unfold genC rgsC rgAt
  simp only [List.getD_eq_getElem?_getD, List.getElem?_map, List.getElem?_eq_getElem hi, Option.map_some, Option.getD_some]
  rcases (by omega : j = 0 ∨ j = 1) with rfl | rfl <;> rfl
 rw [e]
 exact numsP_rgs l i j hi hj
theorem rgg_listC (l : List Rg) : listC (l.map rgCv).length mkRg (genC (l.map rgCv)) = l := by
 rw [List.length_map]
 refine listC_id ⟨0, 0⟩ fun i hi => ?_
 unfold mkRg genC
 simp only [List.getD_eq_getElem?_getD, List.getElem?_map, List.getElem?_eq_getElem hi, Option.map_some, Option.getD_some]
 rfl
def hitsC (l : List FHit) : Nat → Nat → CV := fun i j => match j with
 | 0 => .v (.int .i64 (hitAt l i).p.x)
 | 1 => .v (.int .i64 (hitAt l i).p.y)
 | 2 => .v (.int .i64 (hitAt l i).p.z)
 | 3 => .v (.int .i64 (hitAt l i).t.lo)
 | 4 => .v (.int .i64 (hitAt l i).t.hi)
 | 5 => .v (.int .i64 (hitAt l i).c.lo)
 | _ => .v (.int .i64 (hitAt l i).c.hi)
def mkHit (g : Nat → Int) : FHit := ⟨⟨g 0, g 1, g 2⟩, ⟨g 3, g 4⟩, ⟨g 5, g 6⟩⟩
def hitCv (x : FHit) : List CV := [.v (.int .i64 x.p.x), .v (.int .i64 x.p.y), .v (.int .i64 x.p.z), .v (.int .i64 x.t.lo), .v (.int .i64 x.t.hi), .v (.int .i64 x.c.lo), .v (.int .i64 x.c.hi)]
theorem hitAt_C {n : Nat} {c : Nat → Nat → CV} {i : Nat} (hi : i < n) : hitAt (listC n mkHit c) i = mkHit fun j => cvInt (c i j) := listC_get hi
theorem leL_FHit {n : Nat} {c : Nat → Nat → CV} (hp : numsP 7 n c) : LeD (.t (.c (.sl 7 n c))) (.t (.c (.sl 7 (listC n mkHit c).length (hitsC (listC n mkHit c))))) := by
 refine leL hp fun i j hi hj => ?_
 unfold hitsC
 rw [hitAt_C hi]
 rcases (by omega : j = 0 ∨ j = 1 ∨ j = 2 ∨ j = 3 ∨ j = 4 ∨ j = 5 ∨ j = 6) with rfl | rfl | rfl | rfl | rfl | rfl | rfl <;> rfl
theorem numsP_hits (l : List FHit) : numsP 7 l.length (hitsC l) := by
 intro i j hi hj
 rcases (by omega : j = 0 ∨ j = 1 ∨ j = 2 ∨ j = 3 ∨ j = 4 ∨ j = 5 ∨ j = 6) with rfl | rfl | rfl | rfl | rfl | rfl | rfl <;> rfl
theorem hits_listC (l : List FHit) : listC l.length mkHit (hitsC l) = l := listC_id FHit.zero fun i hi => rfl
theorem plain_FHit (l : List FHit) (i j : Nat) : ∃ y, hitsC l i j = .v y := by unfold hitsC; split <;> exact ⟨_, rfl⟩
theorem le_hits (l : List FHit) : LeD (.t (.c (.sl 7 (l.map hitCv).length (genC (l.map hitCv))))) (.t (.c (.sl 7 l.length (hitsC l)))) := by
 rw [List.length_map]
 refine leSl fun i j hi hj => ?_
 unfold genC hitsC hitAt
 simp only [List.getD_eq_getElem?_getD, List.getElem?_map, List.getElem?_eq_getElem hi, Option.map_some, Option.getD_some]
 rcases (by omega : j = 0 ∨ j = 1 ∨ j = 2 ∨ j = 3 ∨ j = 4 ∨ j = 5 ∨ j = 6) with rfl | rfl | rfl | rfl | rfl | rfl | rfl <;> rfl
theorem hitAt_take {l : List FHit} {k : Nat} (h : k < l.length) : l.take (k + 1) = l.take k ++ [hitAt l k] := by
 rw [List.take_succ_eq_append_getElem h]; simp [hitAt, List.getD, h]
theorem hit_ext {a b : FHit} : a = b ↔ a.p.x = b.p.x ∧ a.p.y = b.p.y ∧ a.p.z = b.p.z ∧ a.t.lo = b.t.lo ∧ a.t.hi = b.t.hi ∧ a.c.lo = b.c.lo ∧ a.c.hi = b.c.hi := by
 obtain ⟨⟨_, _, _⟩, ⟨_, _⟩, ⟨_, _⟩⟩ := a
 obtain ⟨⟨_, _, _⟩, ⟨_, _⟩, ⟨_, _⟩⟩ := b
 simp [and_assoc]
instance : DecidableEq FHit := fun a b => decidable_of_iff _ hit_ext.symm
theorem hits_fwd (l : List FHit) : ((List.range l.length).map fun i => fwd ((hitsC l) i) 0 7) = l.map hitCv := by
 apply List.ext_getElem?
 intro i
 by_cases hi : i < l.length
 ·simp only [List.getElem?_map, List.getElem?_range hi, List.getElem?_eq_getElem hi, Option.map_some]
  have e : hitAt l i = l[i] := by simp [hitAt, List.getD, hi]
  rw [← e]; rfl
 ·rw [List.getElem?_eq_none (by simpa using hi), List.getElem?_eq_none (by simpa using hi)]
theorem kn_ext {a b : Knot} : a = b ↔ a.d = b.d ∧ a.y = b.y := by
 obtain ⟨_, _⟩ := a
 obtain ⟨_, _⟩ := b
 simp [and_assoc]
instance : DecidableEq Knot := fun a b => decidable_of_iff _ kn_ext.symm
theorem leC_k {a b : CV} (h : a = b) : LeC1 a b := by rw [h]; exact LeC1.refl b
theorem leSlC {sz n : Nat} {c c' : Nat → Nat → CV} (h : ∀ i j, i < n → j < sz → LeC1 (c i j) (c' i j)) : LeC1 (.sl sz n c) (.sl sz n c') := by
 rintro w N v ⟨ao, cap, h1, h2, h3, h4, h5⟩
 refine ⟨ao, cap, h1, h2, h3, h4, fun h0 => ?_⟩
 obtain ⟨b, off, g1, g2, g3, g4⟩ := h5 h0
 refine ⟨b, off, g1, g2, g3, fun i j hi hj => ?_⟩
 obtain ⟨x, e1, e2⟩ := g4 i j hi hj
 exact ⟨x, e1, h i j hi hj _ _ _ e2⟩
def rlAt (l : List (List Rg)) (i : Nat) : List Rg := l.getD i []
def rlsC (l : List (List Rg)) : Nat → Nat → CV := fun i _ => .sl 2 (rlAt l i).length (rgsC (rlAt l i))
def rlOf (n : Nat) (c : Nat → Nat → CV) : List (List Rg) := (List.range n).map fun i => listC (cvLen (c i 0)) mkRg (cvCells (c i 0))
def rlP (n : Nat) (c : Nat → Nat → CV) : Prop := ∀ i, i < n → slP 2 (c i 0) ∧ numsP 2 (cvLen (c i 0)) (cvCells (c i 0))
theorem rlOf_len {n : Nat} {c : Nat → Nat → CV} : (rlOf n c).length = n := by simp [rlOf]
theorem rlOf_at {n : Nat} {c : Nat → Nat → CV} {i : Nat} (hi : i < n) : rlAt (rlOf n c) i = listC (cvLen (c i 0)) mkRg (cvCells (c i 0)) := by simp [rlAt, rlOf, List.getD, hi]
theorem leL_LRg {n : Nat} {c : Nat → Nat → CV} (hp : rlP n c) : LeD (.t (.c (.sl 1 n c))) (.t (.c (.sl 1 (rlOf n c).length (rlsC (rlOf n c))))) := by
 rw [rlOf_len]
 refine leT_c (leSlC fun i j hi hj => ?_)
 obtain ⟨h1, h2⟩ := hp i hi
 unfold rlsC
 rw [rlOf_at hi, show j = 0 by omega]
 exact leC_s h1 (leL_Rg h2)
theorem rlP_rls (l : List (List Rg)) : rlP l.length (rlsC l) := fun i hi => ⟨rfl, numsP_rgs _⟩
theorem rls_of (l : List (List Rg)) : rlOf l.length (rlsC l) = l := by
 apply List.ext_getElem?
 intro i
 by_cases hi : i < l.length
 ·simp only [rlOf, List.getElem?_map, List.getElem?_range hi, Option.map_some, List.getElem?_eq_getElem hi]
  congr 1
  show listC (rlAt l i).length mkRg (rgsC (rlAt l i)) = l[i]
  rw [rgs_listC]
  simp [rlAt, List.getD, hi]
 ·rw [List.getElem?_eq_none (by simpa [rlOf] using hi), List.getElem?_eq_none (by omega)]
def rlCv (x : List Rg) : List CV := [.sl 2 x.length (rgsC x)]
theorem rlCv_at {l : List (List Rg)} {i j : Nat} (hi : i < l.length) (hj : j < 1) : genC (l.map rlCv) i j = rlsC l i j := by
 unfold genC rlsC rlAt
 rw [show j = 0 by omega]
 simp [List.getD_eq_getElem?_getD, List.getElem?_map, List.getElem?_eq_getElem hi, rlCv]
theorem leC_rls (l : List (List Rg)) : LeC1 (.sl 1 (l.map rlCv).length (genC (l.map rlCv))) (.sl 1 l.length (rlsC l)) := by
 rw [List.length_map]
 exact leSlC fun i j hi hj => by rw [rlCv_at hi hj]; exact LeC1.refl _
theorem rlAt_lt {l : List (List Rg)} {k : Nat} (h : k < l.length) : rlAt l k = l[k] := by simp [rlAt, List.getD, h]
def musC (l : List Muon) : Nat → Nat → CV := fun i j => match j with
 | 0 => .sl 1 (muAt l i).s.length (intsC (muAt l i).s)
 | _ => .v (.int .i64 (muAt l i).w)
def muOf (n : Nat) (c : Nat → Nat → CV) : List Muon := (List.range n).map fun i => ⟨listC (cvLen (c i 0)) mkInt (cvCells (c i 0)), cvInt (c i 1)⟩
def muP (n : Nat) (c : Nat → Nat → CV) : Prop := ∀ i, i < n → slP 1 (c i 0) ∧ numsP 1 (cvLen (c i 0)) (cvCells (c i 0)) ∧ c i 1 = .v (.int .i64 (cvInt (c i 1)))
theorem muOf_len {n : Nat} {c : Nat → Nat → CV} : (muOf n c).length = n := by simp [muOf]
theorem muOf_at {n : Nat} {c : Nat → Nat → CV} {i : Nat} (hi : i < n) : muAt (muOf n c) i = ⟨listC (cvLen (c i 0)) mkInt (cvCells (c i 0)), cvInt (c i 1)⟩ := by simp [muAt, muOf, List.getD, hi]
theorem leL_Muon {n : Nat} {c : Nat → Nat → CV} (hp : muP n c) : LeD (.t (.c (.sl 2 n c))) (.t (.c (.sl 2 (muOf n c).length (musC (muOf n c))))) := by
 rw [muOf_len]
 refine leT_c (leSlC fun i j hi hj => ?_)
 obtain ⟨h1, h2, h3⟩ := hp i hi
 unfold musC
 rw [muOf_at hi]
 rcases (by omega : j = 0 ∨ j = 1) with rfl | rfl
 ·exact leC_s h1 (leL_int h2)
 ·exact leC_i h3
theorem numsP_ints (l : List Int) : numsP 1 l.length (intsC l) := fun i j hi hj => rfl
theorem ints_listC (l : List Int) : listC l.length mkInt (intsC l) = l := listC_id 0 fun i hi => rfl
theorem muP_mus (l : List Muon) : muP l.length (musC l) := fun i hi => ⟨rfl, numsP_ints _, rfl⟩
theorem mus_of (l : List Muon) : muOf l.length (musC l) = l := by
 apply List.ext_getElem?
 intro i
 by_cases hi : i < l.length
 ·simp only [muOf, List.getElem?_map, List.getElem?_range hi, Option.map_some, List.getElem?_eq_getElem hi]
  congr 1
  show (⟨listC (muAt l i).s.length mkInt (intsC (muAt l i).s), (muAt l i).w⟩ : Muon) = l[i]
  rw [ints_listC]
  simp [muAt, List.getD, hi]
 ·rw [List.getElem?_eq_none (by simpa [muOf] using hi), List.getElem?_eq_none (by omega)]
theorem muAt_take {l : List Muon} {k : Nat} (h : k < l.length) : l.take (k + 1) = l.take k ++ [muAt l k] := by
 rw [List.take_succ_eq_append_getElem h]; simp [muAt, List.getD, h]
theorem leI {a b : Int} (h : a = b) : LeD (.t (.c (.v (.int .i64 a)))) (.t (.c (.v (.int .i64 b)))) := LeD.of (by rw [h])
theorem leB {a b : Bool} (h : a = b) : LeD (.t (.c (.v (.bool a)))) (.t (.c (.v (.bool b)))) := LeD.of (by rw [h])
theorem le_tu {a a' b b' : TV} (h1 : LeD (.t a) (.t a')) (h2 : LeD (.t b) (.t b')) : LeD (.tu [a, b]) (.tu [a', b']) := by
 rintro w N v ⟨vs, e, g⟩
 match vs, g with
 | [x, y], g => exact ⟨[x, y], e, h1 w N x g.1, h2 w N y g.2.1, trivial⟩
 | [], g => exact g.elim
 | [_], g => exact g.2.elim
 | _ :: _ :: _ :: _, g => exact g.2.2.elim
theorem leC_nil {sz : Nat} {c : Nat → Nat → CV} : LeC1 (.v (.slice none 0 0)) (.sl sz 0 c) := by
 intro w N v h
 exact ⟨none, 0, h.1, Nat.le_refl _, by unfold maxLen; omega, fun _ => rfl, fun h => by omega⟩
theorem le_nil {sz : Nat} {c : Nat → Nat → CV} : LeD (.t (.c (.v (.slice none 0 0)))) (.t (.c (.sl sz 0 c))) := leT_c leC_nil
theorem mx_if (a b : Int) : (if b > a then b else a) = max a b := by split <;> omega
theorem mn_if (a b : Int) : (if b < a then b else a) = min a b := by split <;> omega
theorem fn2 {a b : Int} (h : firstNZ [a, b] = 0) : a = 0 ∧ b = 0 := by
 simp only [firstNZ] at h
 by_cases h1 : a = 0 <;> by_cases h2 : b = 0 <;> simp_all
theorem wi {n : Int} (h : -9000000000000000000 ≤ n ∧ n ≤ 9000000000000000000) : IntKind.i64.wrap n = n := IntWalk.i64_in _ (by omega)
theorem mul_rg {x y A B C : Int} (hx : -A ≤ x ∧ x ≤ A) (hy : -B ≤ y ∧ y ≤ B) (hC : A * B ≤ C) : -C ≤ x * y ∧ x * y ≤ C := by
 have hA : 0 ≤ A := by omega
 have hB : 0 ≤ B := by omega
 have key : ∀ a b : Int, 0 ≤ a → a ≤ A → 0 ≤ b → b ≤ B → a * b ≤ A * B := fun a b h1 h2 h3 h4 => Int.mul_le_mul h2 h4 h3 hA
 rcases Int.le_total 0 x with h1 | h1 <;> rcases Int.le_total 0 y with h2 | h2
 ·have := key x y h1 hx.2 h2 hy.2; have := Int.mul_nonneg h1 h2; omega
 ·have := key x (-y) h1 hx.2 (by omega) (by omega); have := Int.mul_nonneg h1 (show 0 ≤ -y by omega); rw [Int.mul_neg] at *; omega
 ·have := key (-x) y (by omega) (by omega) h2 hy.2; have := Int.mul_nonneg (show 0 ≤ -x by omega) h2; rw [Int.neg_mul] at *; omega
 ·have := key (-x) (-y) (by omega) (by omega) (by omega) (by omega); have := Int.mul_nonneg (show 0 ≤ -x by omega) (show 0 ≤ -y by omega); rw [Int.neg_mul_neg] at *; omega
end Go.Proofs.YtmhgjlapkhdlmaaDoor
set_option linter.unusedVariables false
namespace Go.Proofs.YtmhgjlapkhdlmaaDoor
open Go.RowKit Ev
def tabL : List (Nat × TyI) := [(3, ⟨.nm .i64, 1, 8, [.int .i64 0], true⟩),
 (4, ⟨.bl, 1, 1, [.bool false], true⟩),
 (5, ⟨.nm .u8, 1, 1, [.int .u8 0], true⟩),
 (22, ⟨.sl 107, 1, 24, [.slice none 0 0], false⟩),
 (24, ⟨.st [(0, 3), (1, 3), (2, 3)], 3, 24, [.int .i64 0, .int .i64 0, .int .i64 0], true⟩),
 (26, ⟨.st [(0, 24), (3, 3), (4, 3)], 5, 40, [.int .i64 0, .int .i64 0, .int .i64 0, .int .i64 0, .int .i64 0], true⟩),
 (28, ⟨.st [(0, 24), (3, 24), (6, 3)], 7, 56, [.int .i64 0, .int .i64 0, .int .i64 0, .int .i64 0, .int .i64 0, .int .i64 0, .int .i64 0], true⟩),
 (31, ⟨.nm .i64, 1, 8, [.int .i64 0], true⟩),
 (44, ⟨.sl 24, 1, 24, [.slice none 0 0], false⟩),
 (48, ⟨.sl 158, 1, 24, [.slice none 0 0], false⟩),
 (50, ⟨.st [(0, 3), (1, 3)], 2, 16, [.int .i64 0, .int .i64 0], true⟩),
 (52, ⟨.st [(0, 3), (1, 50)], 3, 24, [.int .i64 0, .int .i64 0, .int .i64 0], true⟩),
 (53, ⟨.sl 3, 1, 24, [.slice none 0 0], false⟩),
 (55, ⟨.st [(0, 26), (5, 53), (6, 3)], 7, 72, [.int .i64 0, .int .i64 0, .int .i64 0, .int .i64 0, .int .i64 0, .slice none 0 0, .int .i64 0], false⟩),
 (71, ⟨.st [(0, 3), (1, 53)], 2, 32, [.int .i64 0, .slice none 0 0], false⟩),
 (86, ⟨.sl 174, 1, 24, [.slice none 0 0], false⟩),
 (88, ⟨.st [(0, 86)], 1, 24, [.slice none 0 0], false⟩),
 (90, ⟨.st [(0, 3), (1, 3), (2, 24)], 5, 40, [.int .i64 0, .int .i64 0, .int .i64 0, .int .i64 0, .int .i64 0], true⟩),
 (94, ⟨.st [(0, 3), (1, 3)], 2, 16, [.int .i64 0, .int .i64 0], true⟩),
 (107, ⟨.st [(0, 24), (3, 94), (5, 94)], 7, 56, [.int .i64 0, .int .i64 0, .int .i64 0, .int .i64 0, .int .i64 0, .int .i64 0, .int .i64 0], true⟩),
 (116, ⟨.st [(0, 94), (2, 94), (4, 94)], 6, 48, [.int .i64 0, .int .i64 0, .int .i64 0, .int .i64 0, .int .i64 0, .int .i64 0], true⟩),
 (126, ⟨.st [(0, 3), (1, 3), (2, 3)], 3, 24, [.int .i64 0, .int .i64 0, .int .i64 0], true⟩),
 (129, ⟨.st [(0, 3), (1, 3), (2, 3), (3, 3)], 4, 32, [.int .i64 0, .int .i64 0, .int .i64 0, .int .i64 0], true⟩),
 (139, ⟨.ar 2 126, 6, 48, [.int .i64 0, .int .i64 0, .int .i64 0, .int .i64 0, .int .i64 0, .int .i64 0], true⟩),
 (140, ⟨.ar 2 24, 6, 48, [.int .i64 0, .int .i64 0, .int .i64 0, .int .i64 0, .int .i64 0, .int .i64 0], true⟩),
 (141, ⟨.ar 2 3, 2, 16, [.int .i64 0, .int .i64 0], true⟩),
 (151, ⟨.oth, 1, 8, [.nilFunc], false⟩),
 (155, ⟨.oth, 1, 8, [.nilFunc], false⟩),
 (158, ⟨.st [(0, 53), (1, 3)], 2, 32, [.slice none 0 0, .int .i64 0], false⟩),
 (160, ⟨.oth, 1, 8, [.nilFunc], false⟩),
 (162, ⟨.oth, 1, 8, [.nilFunc], false⟩),
 (166, ⟨.oth, 1, 8, [.nilFunc], false⟩),
 (170, ⟨.oth, 1, 8, [.nilFunc], false⟩),
 (174, ⟨.st [(0, 3), (1, 3)], 2, 16, [.int .i64 0, .int .i64 0], true⟩),
 (175, ⟨.oth, 1, 8, [.nilFunc], false⟩),
 (178, ⟨.sl 94, 1, 24, [.slice none 0 0], false⟩),
 (181, ⟨.sl 178, 1, 24, [.slice none 0 0], false⟩),
 (183, ⟨.st [(0, 22), (1, 26), (6, 181)], 7, 88, [.slice none 0 0, .int .i64 0, .int .i64 0, .int .i64 0, .int .i64 0, .int .i64 0, .slice none 0 0], false⟩),
 (194, ⟨.sl 31, 1, 24, [.slice none 0 0], false⟩),
 (195, ⟨.nm .u64, 1, 8, [.int .u64 0], true⟩),
 (200, ⟨.oth, 1, 8, [.nilFunc], false⟩),
 (202, ⟨.oth, 1, 8, [.nilFunc], false⟩),
 (210, ⟨.oth, 1, 8, [.nilFunc], false⟩),
 (212, ⟨.nm .u32, 1, 4, [.int .u32 0], true⟩),
 (214, ⟨.nm .u64, 1, 8, [.int .u64 0], true⟩),
 (215, ⟨.ar 32 5, 32, 32, [.int .u8 0, .int .u8 0, .int .u8 0, .int .u8 0, .int .u8 0, .int .u8 0, .int .u8 0, .int .u8 0, .int .u8 0, .int .u8 0, .int .u8 0, .int .u8 0, .int .u8 0, .int .u8 0, .int .u8 0, .int .u8 0, .int .u8 0, .int .u8 0, .int .u8 0, .int .u8 0, .int .u8 0, .int .u8 0, .int .u8 0, .int .u8 0, .int .u8 0, .int .u8 0, .int .u8 0, .int .u8 0, .int .u8 0, .int .u8 0, .int .u8 0, .int .u8 0], true⟩)]
def tab : Tab := fun t => lookA t tabL
theorem ty3 : TyOK Tryd.prog 3 ⟨.nm .i64, 1, 8, [.int .i64 0], true⟩ := ⟨by kernel_rfl, by kernel_rfl, by kernel_rfl, fun _ => ⟨by kernel_rfl, by kernel_rfl, by kernel_rfl⟩⟩
theorem ty4 : TyOK Tryd.prog 4 ⟨.bl, 1, 1, [.bool false], true⟩ := ⟨by kernel_rfl, by kernel_rfl, by kernel_rfl, fun _ => ⟨by kernel_rfl, by kernel_rfl, by kernel_rfl⟩⟩
theorem ty5 : TyOK Tryd.prog 5 ⟨.nm .u8, 1, 1, [.int .u8 0], true⟩ := ⟨by kernel_rfl, by kernel_rfl, by kernel_rfl, fun _ => ⟨by kernel_rfl, by kernel_rfl, by kernel_rfl⟩⟩
theorem ty22 : TyOK Tryd.prog 22 ⟨.sl 107, 1, 24, [.slice none 0 0], false⟩ := ⟨by kernel_rfl, by kernel_rfl, by kernel_rfl, fun h => by cases h⟩
theorem ty24 : TyOK Tryd.prog 24 ⟨.st [(0, 3), (1, 3), (2, 3)], 3, 24, [.int .i64 0, .int .i64 0, .int .i64 0], true⟩ := ⟨by kernel_rfl, by kernel_rfl, by kernel_rfl, fun _ => ⟨by kernel_rfl, by kernel_rfl, by kernel_rfl⟩⟩
theorem ty26 : TyOK Tryd.prog 26 ⟨.st [(0, 24), (3, 3), (4, 3)], 5, 40, [.int .i64 0, .int .i64 0, .int .i64 0, .int .i64 0, .int .i64 0], true⟩ := ⟨by kernel_rfl, by kernel_rfl, by kernel_rfl, fun _ => ⟨by kernel_rfl, by kernel_rfl, by kernel_rfl⟩⟩
theorem ty28 : TyOK Tryd.prog 28 ⟨.st [(0, 24), (3, 24), (6, 3)], 7, 56, [.int .i64 0, .int .i64 0, .int .i64 0, .int .i64 0, .int .i64 0, .int .i64 0, .int .i64 0], true⟩ := ⟨by kernel_rfl, by kernel_rfl, by kernel_rfl, fun _ => ⟨by kernel_rfl, by kernel_rfl, by kernel_rfl⟩⟩
theorem ty31 : TyOK Tryd.prog 31 ⟨.nm .i64, 1, 8, [.int .i64 0], true⟩ := ⟨by kernel_rfl, by kernel_rfl, by kernel_rfl, fun _ => ⟨by kernel_rfl, by kernel_rfl, by kernel_rfl⟩⟩
theorem ty44 : TyOK Tryd.prog 44 ⟨.sl 24, 1, 24, [.slice none 0 0], false⟩ := ⟨by kernel_rfl, by kernel_rfl, by kernel_rfl, fun h => by cases h⟩
theorem ty48 : TyOK Tryd.prog 48 ⟨.sl 158, 1, 24, [.slice none 0 0], false⟩ := ⟨by kernel_rfl, by kernel_rfl, by kernel_rfl, fun h => by cases h⟩
theorem ty50 : TyOK Tryd.prog 50 ⟨.st [(0, 3), (1, 3)], 2, 16, [.int .i64 0, .int .i64 0], true⟩ := ⟨by kernel_rfl, by kernel_rfl, by kernel_rfl, fun _ => ⟨by kernel_rfl, by kernel_rfl, by kernel_rfl⟩⟩
theorem ty52 : TyOK Tryd.prog 52 ⟨.st [(0, 3), (1, 50)], 3, 24, [.int .i64 0, .int .i64 0, .int .i64 0], true⟩ := ⟨by kernel_rfl, by kernel_rfl, by kernel_rfl, fun _ => ⟨by kernel_rfl, by kernel_rfl, by kernel_rfl⟩⟩
theorem ty53 : TyOK Tryd.prog 53 ⟨.sl 3, 1, 24, [.slice none 0 0], false⟩ := ⟨by kernel_rfl, by kernel_rfl, by kernel_rfl, fun h => by cases h⟩
theorem ty55 : TyOK Tryd.prog 55 ⟨.st [(0, 26), (5, 53), (6, 3)], 7, 72, [.int .i64 0, .int .i64 0, .int .i64 0, .int .i64 0, .int .i64 0, .slice none 0 0, .int .i64 0], false⟩ := ⟨by kernel_rfl, by kernel_rfl, by kernel_rfl, fun h => by cases h⟩
theorem ty71 : TyOK Tryd.prog 71 ⟨.st [(0, 3), (1, 53)], 2, 32, [.int .i64 0, .slice none 0 0], false⟩ := ⟨by kernel_rfl, by kernel_rfl, by kernel_rfl, fun h => by cases h⟩
theorem ty86 : TyOK Tryd.prog 86 ⟨.sl 174, 1, 24, [.slice none 0 0], false⟩ := ⟨by kernel_rfl, by kernel_rfl, by kernel_rfl, fun h => by cases h⟩
theorem ty88 : TyOK Tryd.prog 88 ⟨.st [(0, 86)], 1, 24, [.slice none 0 0], false⟩ := ⟨by kernel_rfl, by kernel_rfl, by kernel_rfl, fun h => by cases h⟩
theorem ty90 : TyOK Tryd.prog 90 ⟨.st [(0, 3), (1, 3), (2, 24)], 5, 40, [.int .i64 0, .int .i64 0, .int .i64 0, .int .i64 0, .int .i64 0], true⟩ := ⟨by kernel_rfl, by kernel_rfl, by kernel_rfl, fun _ => ⟨by kernel_rfl, by kernel_rfl, by kernel_rfl⟩⟩
theorem ty94 : TyOK Tryd.prog 94 ⟨.st [(0, 3), (1, 3)], 2, 16, [.int .i64 0, .int .i64 0], true⟩ := ⟨by kernel_rfl, by kernel_rfl, by kernel_rfl, fun _ => ⟨by kernel_rfl, by kernel_rfl, by kernel_rfl⟩⟩
theorem ty107 : TyOK Tryd.prog 107 ⟨.st [(0, 24), (3, 94), (5, 94)], 7, 56, [.int .i64 0, .int .i64 0, .int .i64 0, .int .i64 0, .int .i64 0, .int .i64 0, .int .i64 0], true⟩ := ⟨by kernel_rfl, by kernel_rfl, by kernel_rfl, fun _ => ⟨by kernel_rfl, by kernel_rfl, by kernel_rfl⟩⟩
theorem ty116 : TyOK Tryd.prog 116 ⟨.st [(0, 94), (2, 94), (4, 94)], 6, 48, [.int .i64 0, .int .i64 0, .int .i64 0, .int .i64 0, .int .i64 0, .int .i64 0], true⟩ := ⟨by kernel_rfl, by kernel_rfl, by kernel_rfl, fun _ => ⟨by kernel_rfl, by kernel_rfl, by kernel_rfl⟩⟩
theorem ty126 : TyOK Tryd.prog 126 ⟨.st [(0, 3), (1, 3), (2, 3)], 3, 24, [.int .i64 0, .int .i64 0, .int .i64 0], true⟩ := ⟨by kernel_rfl, by kernel_rfl, by kernel_rfl, fun _ => ⟨by kernel_rfl, by kernel_rfl, by kernel_rfl⟩⟩
theorem ty129 : TyOK Tryd.prog 129 ⟨.st [(0, 3), (1, 3), (2, 3), (3, 3)], 4, 32, [.int .i64 0, .int .i64 0, .int .i64 0, .int .i64 0], true⟩ := ⟨by kernel_rfl, by kernel_rfl, by kernel_rfl, fun _ => ⟨by kernel_rfl, by kernel_rfl, by kernel_rfl⟩⟩
theorem ty139 : TyOK Tryd.prog 139 ⟨.ar 2 126, 6, 48, [.int .i64 0, .int .i64 0, .int .i64 0, .int .i64 0, .int .i64 0, .int .i64 0], true⟩ := ⟨by kernel_rfl, by kernel_rfl, by kernel_rfl, fun _ => ⟨by kernel_rfl, by kernel_rfl, by kernel_rfl⟩⟩
theorem ty140 : TyOK Tryd.prog 140 ⟨.ar 2 24, 6, 48, [.int .i64 0, .int .i64 0, .int .i64 0, .int .i64 0, .int .i64 0, .int .i64 0], true⟩ := ⟨by kernel_rfl, by kernel_rfl, by kernel_rfl, fun _ => ⟨by kernel_rfl, by kernel_rfl, by kernel_rfl⟩⟩
theorem ty141 : TyOK Tryd.prog 141 ⟨.ar 2 3, 2, 16, [.int .i64 0, .int .i64 0], true⟩ := ⟨by kernel_rfl, by kernel_rfl, by kernel_rfl, fun _ => ⟨by kernel_rfl, by kernel_rfl, by kernel_rfl⟩⟩
theorem ty151 : TyOK Tryd.prog 151 ⟨.oth, 1, 8, [.nilFunc], false⟩ := ⟨by kernel_rfl, by kernel_rfl, by kernel_rfl, fun h => by cases h⟩
theorem ty155 : TyOK Tryd.prog 155 ⟨.oth, 1, 8, [.nilFunc], false⟩ := ⟨by kernel_rfl, by kernel_rfl, by kernel_rfl, fun h => by cases h⟩
theorem ty158 : TyOK Tryd.prog 158 ⟨.st [(0, 53), (1, 3)], 2, 32, [.slice none 0 0, .int .i64 0], false⟩ := ⟨by kernel_rfl, by kernel_rfl, by kernel_rfl, fun h => by cases h⟩
theorem ty160 : TyOK Tryd.prog 160 ⟨.oth, 1, 8, [.nilFunc], false⟩ := ⟨by kernel_rfl, by kernel_rfl, by kernel_rfl, fun h => by cases h⟩
theorem ty162 : TyOK Tryd.prog 162 ⟨.oth, 1, 8, [.nilFunc], false⟩ := ⟨by kernel_rfl, by kernel_rfl, by kernel_rfl, fun h => by cases h⟩
theorem ty166 : TyOK Tryd.prog 166 ⟨.oth, 1, 8, [.nilFunc], false⟩ := ⟨by kernel_rfl, by kernel_rfl, by kernel_rfl, fun h => by cases h⟩
theorem ty170 : TyOK Tryd.prog 170 ⟨.oth, 1, 8, [.nilFunc], false⟩ := ⟨by kernel_rfl, by kernel_rfl, by kernel_rfl, fun h => by cases h⟩
theorem ty174 : TyOK Tryd.prog 174 ⟨.st [(0, 3), (1, 3)], 2, 16, [.int .i64 0, .int .i64 0], true⟩ := ⟨by kernel_rfl, by kernel_rfl, by kernel_rfl, fun _ => ⟨by kernel_rfl, by kernel_rfl, by kernel_rfl⟩⟩
theorem ty175 : TyOK Tryd.prog 175 ⟨.oth, 1, 8, [.nilFunc], false⟩ := ⟨by kernel_rfl, by kernel_rfl, by kernel_rfl, fun h => by cases h⟩
theorem ty178 : TyOK Tryd.prog 178 ⟨.sl 94, 1, 24, [.slice none 0 0], false⟩ := ⟨by kernel_rfl, by kernel_rfl, by kernel_rfl, fun h => by cases h⟩
theorem ty181 : TyOK Tryd.prog 181 ⟨.sl 178, 1, 24, [.slice none 0 0], false⟩ := ⟨by kernel_rfl, by kernel_rfl, by kernel_rfl, fun h => by cases h⟩
theorem ty183 : TyOK Tryd.prog 183 ⟨.st [(0, 22), (1, 26), (6, 181)], 7, 88, [.slice none 0 0, .int .i64 0, .int .i64 0, .int .i64 0, .int .i64 0, .int .i64 0, .slice none 0 0], false⟩ := ⟨by kernel_rfl, by kernel_rfl, by kernel_rfl, fun h => by cases h⟩
theorem ty194 : TyOK Tryd.prog 194 ⟨.sl 31, 1, 24, [.slice none 0 0], false⟩ := ⟨by kernel_rfl, by kernel_rfl, by kernel_rfl, fun h => by cases h⟩
theorem ty195 : TyOK Tryd.prog 195 ⟨.nm .u64, 1, 8, [.int .u64 0], true⟩ := ⟨by kernel_rfl, by kernel_rfl, by kernel_rfl, fun _ => ⟨by kernel_rfl, by kernel_rfl, by kernel_rfl⟩⟩
theorem ty200 : TyOK Tryd.prog 200 ⟨.oth, 1, 8, [.nilFunc], false⟩ := ⟨by kernel_rfl, by kernel_rfl, by kernel_rfl, fun h => by cases h⟩
theorem ty202 : TyOK Tryd.prog 202 ⟨.oth, 1, 8, [.nilFunc], false⟩ := ⟨by kernel_rfl, by kernel_rfl, by kernel_rfl, fun h => by cases h⟩
theorem ty210 : TyOK Tryd.prog 210 ⟨.oth, 1, 8, [.nilFunc], false⟩ := ⟨by kernel_rfl, by kernel_rfl, by kernel_rfl, fun h => by cases h⟩
theorem ty212 : TyOK Tryd.prog 212 ⟨.nm .u32, 1, 4, [.int .u32 0], true⟩ := ⟨by kernel_rfl, by kernel_rfl, by kernel_rfl, fun _ => ⟨by kernel_rfl, by kernel_rfl, by kernel_rfl⟩⟩
theorem ty214 : TyOK Tryd.prog 214 ⟨.nm .u64, 1, 8, [.int .u64 0], true⟩ := ⟨by kernel_rfl, by kernel_rfl, by kernel_rfl, fun _ => ⟨by kernel_rfl, by kernel_rfl, by kernel_rfl⟩⟩
theorem ty215 : TyOK Tryd.prog 215 ⟨.ar 32 5, 32, 32, [.int .u8 0, .int .u8 0, .int .u8 0, .int .u8 0, .int .u8 0, .int .u8 0, .int .u8 0, .int .u8 0, .int .u8 0, .int .u8 0, .int .u8 0, .int .u8 0, .int .u8 0, .int .u8 0, .int .u8 0, .int .u8 0, .int .u8 0, .int .u8 0, .int .u8 0, .int .u8 0, .int .u8 0, .int .u8 0, .int .u8 0, .int .u8 0, .int .u8 0, .int .u8 0, .int .u8 0, .int .u8 0, .int .u8 0, .int .u8 0, .int .u8 0, .int .u8 0], true⟩ := ⟨by kernel_rfl, by kernel_rfl, by kernel_rfl, fun _ => ⟨by kernel_rfl, by kernel_rfl, by kernel_rfl⟩⟩
set_option maxRecDepth 100000 in
theorem tabOK : TabOK Tryd.prog tab := by
 refine tab_of fun p hp => ?_
 simp only [tabL, List.mem_cons, List.not_mem_nil, or_false] at hp
 rcases hp with rfl | rfl | rfl | rfl | rfl | rfl | rfl | rfl | rfl | rfl | rfl | rfl | rfl | rfl | rfl | rfl | rfl | rfl | rfl | rfl | rfl | rfl | rfl | rfl | rfl | rfl | rfl | rfl | rfl | rfl | rfl | rfl | rfl | rfl | rfl | rfl | rfl | rfl | rfl | rfl | rfl | rfl | rfl | rfl | rfl | rfl
 ·exact ty3
 ·exact ty4
 ·exact ty5
 ·exact ty22
 ·exact ty24
 ·exact ty26
 ·exact ty28
 ·exact ty31
 ·exact ty44
 ·exact ty48
 ·exact ty50
 ·exact ty52
 ·exact ty53
 ·exact ty55
 ·exact ty71
 ·exact ty86
 ·exact ty88
 ·exact ty90
 ·exact ty94
 ·exact ty107
 ·exact ty116
 ·exact ty126
 ·exact ty129
 ·exact ty139
 ·exact ty140
 ·exact ty141
 ·exact ty151
 ·exact ty155
 ·exact ty158
 ·exact ty160
 ·exact ty162
 ·exact ty166
 ·exact ty170
 ·exact ty174
 ·exact ty175
 ·exact ty178
 ·exact ty181
 ·exact ty183
 ·exact ty194
 ·exact ty195
 ·exact ty200
 ·exact ty202
 ·exact ty210
 ·exact ty212
 ·exact ty214
 ·exact ty215
theorem mixed : Tryd.prog.follows .mixedOrders = true := by kernel_rfl
end Go.Proofs.YtmhgjlapkhdlmaaDoor