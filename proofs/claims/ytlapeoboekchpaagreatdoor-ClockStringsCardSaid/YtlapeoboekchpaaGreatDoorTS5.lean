/- Texts of this claim, together. -/
import Derived.Test.YtlapeoboekchpaaGreatDoorTS4
import Derived.StillTail
import Derived.Deep.AppendLies
import Derived.Laws.AppendOwnNone
import Derived.Laws.CopyOwn
import Derived.Laws.NewBlocks

set_option linter.unusedVariables false
set_option linter.unusedSimpArgs false
namespace Go.Proofs.YtlapeoboekchpaaGreatDoor.Ev
open Go.RowKit
def okCV : CV → Option Value
 | .v x => bif x.oneCell' then some x else none
 | _ => none
def cvsV : List CV → Option (List Value)
 | [] => some []
 | x :: l => match okCV x, cvsV l with
  | some v, some vs => some (v :: vs)
  | _, _ => none
def tvV : TV → Option Value
 | .c x => okCV x
 | .a l => (cvsV l).map fun vs => .agg vs.toArray
 | _ => none
def tvsV : List TV → Option (List Value)
 | [] => some []
 | x :: l => match tvV x, tvsV l with
  | some v, some vs => some (v :: vs)
  | _, _ => none
def dvV : DV → Option Value
 | .t x => tvV x
 | .tu l => (tvsV l).map fun vs => .tuple vs.toArray
theorem okCV_rel {w : World} {N : Nat → Prop} {x : CV} {v : Value} (h : okCV x = some v) : RelF w N x v := by
 cases x with
 | v y =>
  simp only [okCV] at h
  cases e : y.oneCell' with
  | true => rw [e] at h; cases h; exact ⟨rfl, e⟩
  | false => rw [e] at h; cases h
 | _ => cases h
theorem cvsV_rel {w : World} {N : Nat → Prop} : ∀ {l : List CV} {vs : List Value}, cvsV l = some vs → All2 (RelF w N) l vs
 | [], vs, h => by cases h; trivial
 | x :: l, vs, h => by
  simp only [cvsV] at h
  split at h
  ·rename_i v us h1 h2
   cases h
   exact ⟨okCV_rel h1, cvsV_rel h2⟩
  ·cases h
theorem tvV_rel {w : World} {N : Nat → Prop} {x : TV} {v : Value} (h : tvV x = some v) : RelT (RelF w N) x v := by
 cases x with
 | c y => exact okCV_rel h
 | a l =>
  simp only [tvV, Option.map_eq_some_iff] at h
  obtain ⟨vs, h1, rfl⟩ := h
  exact ⟨vs, rfl, cvsV_rel h1⟩
 | fn f l => cases h
 | fb f l => cases h
theorem tvsV_rel {w : World} {N : Nat → Prop} : ∀ {l : List TV} {vs : List Value}, tvsV l = some vs → All2 (RelT (RelF w N)) l vs
 | [], vs, h => by cases h; trivial
 | x :: l, vs, h => by
  simp only [tvsV] at h
  split at h
  ·rename_i v us h1 h2
   cases h
   exact ⟨tvV_rel h1, tvsV_rel h2⟩
  ·cases h
theorem dvV_rel {w : World} {N : Nat → Prop} {d : DV} {v : Value} (h : dvV d = some v) : RelD (RelF w N) d v := by
 cases d with
 | t x => exact tvV_rel h
 | tu l =>
  simp only [dvV, Option.map_eq_some_iff] at h
  obtain ⟨vs, h1, rfl⟩ := h
  exact ⟨vs, rfl, tvsV_rel h1⟩
theorem All2.cons_inv {α β : Type} {R : α → β → Prop} {a : α} {l : List α} {m : List β} (h : All2 R (a :: l) m) : ∃ b bs, m = b :: bs ∧ R a b ∧ All2 R l bs := by
 cases m with
 | nil => exact h.elim
 | cons b bs => exact ⟨b, bs, rfl, h.1, h.2⟩
theorem All2.nil_inv {α β : Type} {R : α → β → Prop} {m : List β} (h : All2 R ([] : List α) m) : m = [] := by
 cases m with
 | nil => rfl
 | cons b bs => exact h.elim
theorem plain_arg {w : World} {N : Nat → Prop} {d : DV} {v u : Value} (h : toValue d = some v) (g : RelD (RelF w N) d u) : u = v := toValue_eq (fun y u h => h.1) h g
theorem Ok.oldG {P : Program} {f : FuncId} (hen : Enters P f) {F : Con} (h : ∀ args r pre fresh, F args = some (r, pre, fresh) → okP pre → fresh = .no ∧ ∃ v, dvV r = some v ∧ ∀ W N vs, All2 (RelD (RelF W N)) args vs → Calls P f vs.toArray W fun e w' => e = .returned v ∧ Below W.heap.size W w') : Ok P f F := by
 intro args r pre fresh h1 h2
 obtain ⟨rfl, v, g1, g2⟩ := h args r pre fresh h1 h2
 exact ⟨hen, fun W N us _ hu => Calls.mono (g2 W N us hu) fun e w' ⟨e1, e2⟩ => ⟨v, e1, dvV_rel g1, e2⟩⟩
theorem Ok.oldGd {P : Program} {f : FuncId} (hen : Enters P f) {F : Con} (h : ∀ args r pre fresh, F args = some (r, pre, fresh) → okP pre → fresh = .no ∧ ∃ v, dvV r = some v ∧ ∀ W N vs, Gd W → All2 (RelD (RelF W N)) args vs → Calls P f vs.toArray W fun e w' => e = .returned v ∧ Below W.heap.size W w') : Ok P f F := by
 intro args r pre fresh h1 h2
 obtain ⟨rfl, v, g1, g2⟩ := h args r pre fresh h1 h2
 exact ⟨hen, fun W N us hG hu => Calls.mono (g2 W N us hG hu) fun e w' ⟨e1, e2⟩ => ⟨v, e1, dvV_rel g1, e2⟩⟩
theorem Ok.over {P : Program} {f : FuncId} {F F' : Con} (h : Ok P f F) (hF : ∀ args r' pre' fresh, F' args = some (r', pre', fresh) → okP pre' → ∃ r pre, F args = some (r, pre, fresh) ∧ okP pre ∧ r = r') : Ok P f F' := by
 intro args r' pre' fresh h1 h2
 obtain ⟨r, pre, g1, g2, rfl⟩ := hF args r' pre' fresh h1 h2
 exact h args r pre fresh g1 g2
theorem law_end {P : Program} {f : FuncId} {args : Array Value} {W : World} {N : Nat → Prop} (g : Calls P f args W fun e w' => ∃ v r, e = .returned v ∧ LeD r (.t (.c (.v (.bool true)))) ∧ RelD (RelF w' (resN W N .no)) r v ∧ Below W.heap.size W w') : Calls P f args W fun e w' => e = .returned (.bool true) ∧ Below W.heap.size W w' := by
 refine g.mono ?_
 rintro e w' ⟨v, r, rfl, g1, g2, g3⟩
 have g4 := g1 _ _ _ g2
 exact ⟨by rw [show v = .bool true from g4.1], g3⟩
def mkInt (g : Nat → Int) : Int := g 0
def intsC (l : List Int) : Nat → Nat → CV := fun i _ => .v (.int .i64 (l.getD i 0))
theorem leL_int {n : Nat} {c : Nat → Nat → CV} (hp : numsP 1 n c) : LeD (.t (.c (.sl 1 n c))) (.t (.c (.sl 1 (listC n mkInt c).length (intsC (listC n mkInt c))))) := by
 refine leL hp fun i j hi hj => ?_
 have h : (listC n mkInt c).getD i 0 = mkInt fun j => cvInt (c i j) := listC_get hi
 unfold intsC
 rw [h, show j = 0 by omega]; rfl
theorem numsP_gen (l : List Int) : numsP 1 l.length (genC (l.map fun n => [.v (.int .i64 n)])) := by
 intro i j hi hj
 have h : genC (l.map fun n => [CV.v (.int .i64 n)]) i j = .v (.int .i64 l[i]) := by
  unfold genC
  rw [show j = 0 by omega]
  simp [List.getD, hi]
 rw [h]; rfl
end Go.Proofs.YtlapeoboekchpaaGreatDoor.Ev
set_option linter.unusedVariables false
set_option linter.unusedSimpArgs false
namespace Go.Proofs.YtlapeoboekchpaaGreatDoor.Ev
open Go.RowKit
variable {w0 : World} {N0 : Nat → Prop} {Z : Pins} {P : Program} {T : Tab} {S : Sum} {M : Map} {a : Act} {w : World}
def Fr (l : List Oper) (a a' : Act) : Prop := (∀ i, (∀ o ∈ l, o.dst ≠ some i) → a'.tmps[i]? = a.tmps[i]?) ∧ a'.defers = a.defers
theorem Fr.refl (l : List Oper) (a : Act) : Fr l a a := ⟨fun _ _ => rfl, rfl⟩
theorem Fr.trans {l : List Oper} {a b c : Act} (h : Fr l a b) (g : Fr l b c) : Fr l a c := ⟨fun i hi => (g.1 i hi).trans (h.1 i hi), g.2.trans h.2⟩
theorem Fr.put {l : List Oper} {a : Act} {o : Oper} (ho : o ∈ l) (v : Value) : Fr l a (a.put o.dst v) := ⟨fun i hi => by
 rw [put_get, if_neg (fun h => hi o ho h.1)], put_defs _ _ _⟩
def ndef (o : Oper) : Bool := match o.op with
 | .defer _ => false
 | _ => true
theorem ndef_ok {o : Oper} (h : ndef o = true) : ∀ c, o.op ≠ .defer c := by
 intro c hc; unfold ndef at h; rw [hc] at h; cases h
inductive Wl (P : Program) (o : Oper) (a : Act) (w : World) (K : Act → World → Prop) : Prop where
 | value (v : Value) (w' : World) (h : (execOp a.eval o).run P w = .ok (.value v) w') (hk : K (a.put o.dst v) w')
 | skip (w' : World) (h : (execOp a.eval o).run P w = .ok .skip w') (hk : K (a.put o.dst undef) w')
 | call (f : FuncId) (args : Array Value) (w' : World) (h : (execOp a.eval o).run P w = .ok (.enter f args) w') (hc : Calls P f args w' fun e w'' => ∃ v, e = .returned v ∧ K (a.put o.dst v) w'')
theorem Wl.wp {o : Oper} (hnd : ∀ c, o.op ≠ .defer c) {K : Act → World → Prop} (h : Wl P o a w K) {Q : Exit → Act → World → Prop} : o.wpIn Fence.wide 0 P a w K Q := by
 unfold Oper.wpIn
 refine ⟨fun f _ => trivial, ?_⟩
 rw [Oper.semAt_eq _ _ _ hnd]
 cases h with
 | value v w' h hk => rw [h]; exact hk
 | skip w' h hk => rw [h]; exact hk
 | call f args w' h hc =>
  rw [h]
  refine ⟨(fun h => by cases h), callsIn_wide.2 (Calls.mono hc ?_)⟩
  rintro e w'' ⟨v, rfl, hk⟩
  exact hk
theorem Well.wl {o : Oper} {st' : DS} (h : Well P w0 N0 Z o a w st') : Wl P o a w fun a' w' => (∃ M', Abs w0 N0 Z M' st' a' w') ∧ ∃ v, a' = a.put o.dst v := by
 cases h with
 | value v M' w' h ha => exact .value v w' h ⟨⟨M', ha⟩, v, rfl⟩
 | skip M' w' h ha => exact .skip w' h ⟨⟨M', ha⟩, undef, rfl⟩
 | call f args w' h hc => exact .call f args w' h (Calls.mono hc fun e w'' ⟨v, e1, M', ha⟩ => ⟨v, e1, ⟨M', ha⟩, v, rfl⟩)
theorem want_ok {ops : Array Oper} {st : DS} {o : Oper} (ha : Abs w0 N0 Z M st a w) {b : Bool} (hb : wantE ops.toList st o = some b) : Region.wanted o (yielded ops a.tmps) = b := by
 unfold wantE at hb
 unfold Region.wanted
 split at hb
 ·rename_i hg; cases hb; rw [hg]
 ·rename_i j want hg
  rw [hg]
  simp only
  unfold yielded
  simp only [Array.getElem?_toList] at hb
  split at hb
  ·rename_i hd; cases hb; rw [hd]; rfl
  ·rename_i g hd
   rw [hd]
   simp only [Option.bind_some]
   split at hb
   ·rename_i c hc
    cases hb
    obtain ⟨v, h1, h2⟩ := ha.tmp g _ hc
    rw [h1, show v = .bool c from h2.1]
    cases c <;> cases want <;> rfl
   ·rename_i hc
    cases hb
    obtain ⟨v, h1, vs, h2, h3⟩ := ha.tmp g _ hc
    rw [h1, h2]; rfl
   ·cases hb
theorem step_fr (hT : TabOK P T) (hS : Valid P S) {ops : Array Oper} {forb : Nat → Bool} {o : Oper} {st st' : DS} {p : Prop} (ha : Abs w0 N0 Z M st a w) (h : step P T S ops.toList forb o st = some (p, st')) (hp : p) {l : List Oper} (ho : o ∈ l) {K : Act → World → Prop} {Q : Exit → Act → World → Prop} (hK : ∀ M' a' w', Abs w0 N0 Z M' st' a' w' → Fr l a a' → K a' w') :
  if Region.wanted o (yielded ops a.tmps) then o.wpIn Fence.wide 0 P a w K Q else (∀ f, o.about P w a.eval = some f → Fence.wide.fn f) ∧ K (a.put o.dst undef) w := by
 unfold step at h
 split at h
 ·rename_i hb
  rw [want_ok ha hb]
  simp only [Option.map_eq_some_iff, Prod.mk.injEq] at h
  obtain ⟨e, h1, rfl, rfl⟩ := h
  simp only [if_true]
  refine Oper.wpIn_mono ?_ ((exec_sound hT hS ha h1 hp).wl.wp (exec_nd h1))
  rintro a' w' ⟨⟨M', ha'⟩, v, rfl⟩
  exact hK M' _ _ ha' (Fr.put ho v)
 ·rename_i hb
  rw [want_ok ha hb]
  cases h
  simp only [Bool.false_eq_true, if_false]
  refine ⟨fun f _ => trivial, hK M _ _ (ha.put (Below.refl _ _) o.dst fun dv e => ?_) (Fr.put ho _)⟩
  cases e
  exact ⟨[], rfl, trivial⟩
 ·cases h
def findK (i : Nat) : List (Nat × DV) → Option DV
 | [] => none
 | (j, d) :: l => bif Nat.beq i j then some d else findK i l
def rebT (keep : List (Nat × DV)) : Nat → List (Option DV) → List (Option DV)
 | _, [] => []
 | i, x :: l => (match findK i keep with
  | some d => some d
  | none => match x with
   | some d => bif flatD d then some d else none
   | none => none) :: rebT keep (i + 1) l
def rebS (keep : List (Nat × DV)) (st : DS) : DS := ⟨rebT keep 0 st.t, List.replicate st.h.length none⟩
def isYld : DV → Option Nat
 | .t (.c (.v (.func (.yield l) ⟨[]⟩ ⟨[]⟩))) => some l
 | _ => none
def yldC (st : DS) (o : Oper) : Option (Call × Nat) := match o.op with
 | .call c => match c.callee with
  | .value f => match opv st f with
   | some d => (isYld d).map fun l => (c, l)
   | none => none
  | _ => none
 | _ => none
def flatY : TV → Bool
 | .fn _ _ => false
 | .fb _ _ => false
 | x => flatT x
def flatYs : List TV → Bool
 | [] => true
 | x :: l => flatY x && flatYs l
def tts : List DV → Option (List TV)
 | [] => some []
 | .t x :: l => (tts l).map (x :: ·)
 | _ :: _ => none
def yldE (l0 : Nat) (n : Nat) (y : Nat → List TV) (keep : List (Nat × DV)) (o : Oper) (c : Call) (l' : Nat) (st : DS) (g : Option Nat) (k : Option Nat → DS → Prop) : Prop := match g, (opvs st c.args.toList).bind tts with
 | some i, some l => bif !flatYs l then False else (l' = l0 ∧ i < n ∧ l = y i) ∧ (k (some (i + 1)) ((rebS keep st).putO o.dst (some (.t (.c (.v (.bool true)))))) ∧ k none ((rebS [] st).putO o.dst (some (.t (.c (.v (.bool false)))))))
 | _, _ => False
def evOpsY (P : Program) (T : Tab) (S : Sum) (l0 n : Nat) (y : Nat → List TV) (keep : List (Nat × DV)) (ops : List Oper) : List Oper → DS → Option Nat → (Option Nat → DS → Prop) → Prop
 | [], st, g, k => k g st
 | o :: l, st, g, k => match yldC st o, wantE ops st o with
  | some (c, l'), some true => yldE l0 n y keep o c l' st g fun g' st' => evOpsY P T S l0 n y keep ops l st' g' k
  | _, _ => evOp P T S ops noForb o st fun st' => evOpsY P T S l0 n y keep ops l st' g k
def againY (J : Inv) (b : Nat) (hd : Hd) (bx : List Bx) (F : List Nat) (g : Option Nat) (s : DS) : Prop := match g, tidyB hd bx s with
 | some c, some s => J b (c :: F) s
 | _, _ => False
def evY (P : Program) (T : Tab) (S : Sum) (ann : Ann) (J : Inv) (l0 n : Nat) (y : Nat → List TV) (keep : List (Nat × DV)) : Code → Nat → List Nat → (Option Nat → DS → Prop) → (Nat → Option Nat → DS → Prop) → (Option Nat → DS → Prop) → Option Nat → DS → Prop
 | .skip, _, _, kn, _, _, g, st => kn g st
 | .region id ops draw, _, _, kn, _, _, g, st => bif draw then (match ann.reg id with
   | some (_, fs) => evItems P T S ops.toList (items 0 ops.toList (fs.map fb)) st (kn g)
   | none => False) else evOpsY P T S l0 n y keep ops.toList ops.toList st g kn
 | .seq x z, b, F, kn, ke, kr, g, st => evY P T S ann J l0 n y keep x b F (fun g s => evY P T S ann J l0 n y keep z b F kn ke kr g s) ke kr g st
 | .cond c x z, b, F, kn, ke, kr, g, st => match opv st c with
  | some (.t (.c (.v (.bool t)))) => cond t (evY P T S ann J l0 n y keep x b F kn ke kr g st) (evY P T S ann J l0 n y keep z b F kn ke kr g st)
  | _ => False
 | .block id x, _, F, kn, ke, kr, g, st => evY P T S ann J l0 n y keep x id F kn (fun j g s => bif Nat.beq j id then kn g s else ke j g s) kr g st
 | .loop x, b, F, kn, ke, kr, g, st => match ann.lp b, g with
  | some (none, some hd), some c => match tidyB hd (ann.bx b) st with
   | some s => ∃ m, J b (c :: m :: F) s
   | none => False
  | _, _ => False
 | .exit id, _, _, _, ke, _, g, st => ke id g st
 | .ret, _, _, _, _, kr, g, st => kr g st
 | _, _, _, _, _, _, _, _ => False
def loopsY (P : Program) (T : Tab) (S : Sum) (ann : Ann) (J : Inv) (l0 n : Nat) (y : Nat → List TV) (keep : List (Nat × DV)) : Code → Nat → (List Nat → Option Nat → DS → Prop) → (List Nat → Nat → Option Nat → DS → Prop) → (List Nat → Option Nat → DS → Prop) → List (Nat × (Nat → List Nat → DS → Prop))
 | .seq x z, b, kn, ke, kr => loopsY P T S ann J l0 n y keep x b (fun F g s => evY P T S ann J l0 n y keep z b F (kn F) (ke F) (kr F) g s) ke kr ++ loopsY P T S ann J l0 n y keep z b kn ke kr
 | .cond _ x z, b, kn, ke, kr => loopsY P T S ann J l0 n y keep x b kn ke kr ++ loopsY P T S ann J l0 n y keep z b kn ke kr
 | .block id x, _, kn, ke, kr => loopsY P T S ann J l0 n y keep x id kn (fun F j g s => bif Nat.beq j id then kn F g s else ke F j g s) kr
 | .loop x, b, kn, ke, kr => match ann.lp b with
  | some (none, some hd) => (b, fun c F s => evY P T S ann J l0 n y keep x b F (againY J b hd (ann.bx b) F) (ke F.tail) (kr F.tail) (some c) s) :: loopsY P T S ann J l0 n y keep x b (fun F g s => againY J b hd (ann.bx b) F g s) (fun F => ke F.tail) (fun F => kr F.tail)
  | _ => []
 | _, _, _, _, _ => []
def AllY (J : Inv) : List (Nat × (Nat → List Nat → DS → Prop)) → Prop
 | [] => True
 | (b, G) :: l => ((∀ c F s, ¬ J b (c :: 0 :: F) s) ∧ ∀ c m F s, J b (c :: (m + 1) :: F) s → G c (m :: F) s) ∧ AllY J l
theorem AllY_append {J : Inv} : ∀ {l m : List (Nat × (Nat → List Nat → DS → Prop))}, AllY J (l ++ m) ↔ AllY J l ∧ AllY J m
 | [], m => by simp [AllY]
 | (b, G) :: l, m => by simp only [List.cons_append, AllY, AllY_append, and_assoc]
def okKeep (keep : List (Nat × DV)) (o : Oper) : Bool := ndef o && (match o.dst with
 | some d => (findK d keep).isNone
 | none => true)
def okY (ann : Ann) (keep : List (Nat × DV)) : Code → Nat → Bool
 | .region id ops draw, _ => ops.toList.all (okKeep keep) && !draw
 | .seq x z, b => okY ann keep x b && okY ann keep z b
 | .cond _ x z, b => okY ann keep x b && okY ann keep z b
 | .block id x, _ => okY ann keep x id
 | .loop x, b => (match ann.lp b with
  | some (none, some _) => true
  | _ => false) && okY ann keep x b
 | _, _ => true
end Go.Proofs.YtlapeoboekchpaaGreatDoor.Ev
set_option linter.unusedVariables false
set_option linter.unusedSimpArgs false
namespace Go.Proofs.YtlapeoboekchpaaGreatDoor.Ev
open Go.RowKit
variable {P : Program} {T : Tab} {S : Sum} {ann : Ann} {J : Inv} {l0 n : Nat} {y : Nat → List TV} {keep : List (Nat × DV)} {wc W : World} {N : Nat → Prop} {J0 : Nat → World → Prop} {Jx : Unit → World → Prop} {ov : Nat → Value}
def YA (keep : List (Nat × DV)) (wc W : World) (N : Nat → Prop) (J0 : Nat → World → Prop) (Jx : Unit → World → Prop) (ov : Nat → Value) (st : DS) (a : Act) (w : World) (g : Option Nat) : Prop :=
 a.defers = [] ∧ (∀ i d, findK i keep = some d → a.tmps[i]? = some (ov i)) ∧ ∃ w0 N0 M, Abs w0 N0 noPins M st a w ∧ (match g with
  | some i => J0 i w0 ∧ W.heap.size ≤ w0.heap.size ∧ ∀ b, b < wc.heap.size → N b → w0.heap[b]? = W.heap[b]?
  | none => Jx () w0)
structure YC (P : Program) (l0 n : Nat) (y : Nat → List TV) (keep : List (Nat × DV)) (wc W : World) (N : Nat → Prop) (J0 : Nat → World → Prop) (Jx : Unit → World → Prop) (ov : Nat → Value) : Prop where
 hb : Below wc.heap.size wc W
 hJ : AbidesFrom W.heap.size J0
 hgJ : ∀ i W, J0 i W → Gd W
 hgX : ∀ W, Jx () W → Gd W
 hY : ∀ i W1, i < n → J0 i W1 → YieldAt Fence.wide 0 P l0 ((y i).map tvVal).toArray W1 fun e W' => (e = .returned (.bool true) ∧ J0 (i + 1) W' ∧ W1.heap.size ≤ W'.heap.size ∧ ∀ b, b < wc.heap.size → N b → W'.heap[b]? = W1.heap[b]?) ∨ (e = .returned (.bool false) ∧ Jx () W')
 hk : ∀ i d, findK i keep = some d → RelD (RelF wc N) d (ov i)
theorem below_grown {w w' : World} (h : Below w.heap.size w w') : w.grownBy w' none := ⟨h.os, h.tape, h.output, h.size, fun k hk _ => h.block k hk⟩
theorem flatT_val {w : World} {N : Nat → Prop} {M : Map} : ∀ {x : TV} {v : Value}, flatY x = true → RelT (RelC w N M) x v → v = tvVal x
 | .c (.v x), v, _, g => g.1
 | .c (.sl ..), _, h, _ | .c (.px ..), _, h, _ | .c (.os _), _, h, _ | .c (.p ..), _, h, _ | .c (.pe ..), _, h, _ | .c (.ob ..), _, h, _ | .c (.er _), _, h, _ | .c .any, _, h, _ => by cases h
 | .a l, v, h, g => by
  obtain ⟨vs, rfl, g⟩ := g
  have : ∀ {l : List CV} {vs : List Value}, flatCs l = true → All2 (RelC w N M) l vs → vs = l.map cvVal := by
   intro l
   induction l with
   | nil => intro vs _ g; cases vs with
    | nil => rfl
    | cons _ _ => exact g.elim
   | cons x l ih =>
    intro vs h g
    cases vs with
    | nil => exact g.elim
    | cons v vs =>
     simp only [flatCs, Bool.and_eq_true] at h
     have e : v = cvVal x := by
      cases x with
      | v z => exact g.1.1
      | _ => simp [flatC] at h
     rw [e, ih h.2 g.2]; rfl
  rw [this h g]; rfl
 | .fn f l, v, h, g => by cases h
 | .fb f l, v, h, g => by cases h
theorem flatTs_val {w : World} {N : Nat → Prop} {M : Map} : ∀ {l : List TV} {vs : List Value}, flatYs l = true → All2 (RelT (RelC w N M)) l vs → vs = l.map tvVal
 | [], [], _, _ => rfl
 | x :: l, v :: vs, h, g => by
  simp only [flatYs, Bool.and_eq_true] at h
  rw [flatT_val h.1 g.1, flatTs_val h.2 g.2]; rfl
 | [], _ :: _, _, g => g.elim
 | _ :: _, [], _, g => g.elim
theorem tts_rel {R : CV → Value → Prop} : ∀ {ds : List DV} {l : List TV} {vs : List Value}, tts ds = some l → All2 (RelD R) ds vs → All2 (RelT R) l vs
 | [], l, [], h, _ => by cases h; trivial
 | .t x :: ds, l, v :: vs, h, g => by
  simp only [tts, Option.map_eq_some_iff] at h
  obtain ⟨l', h1, rfl⟩ := h
  exact ⟨g.1, tts_rel h1 g.2⟩
 | .tu _ :: _, l, _ :: _, h, _ => by simp [tts] at h
 | [], _, _ :: _, _, g => g.elim
 | _ :: _, _, [], _, g => g.elim
theorem rebT_get (keep : List (Nat × DV)) : ∀ (l : List (Option DV)) (k i : Nat), ((rebT keep k l)[i]?).join = if i < l.length then (match findK (k + i) keep with | some d => some d | none => match (l[i]?).join with | some d => bif flatD d then some d else none | none => none) else none
 | [], k, i => by simp [rebT]
 | x :: l, k, 0 => by
  simp only [rebT, List.getElem?_cons_zero, Nat.add_zero, List.length_cons, Nat.zero_lt_succ, if_true]
  cases findK k keep with
  | some d => rfl
  | none => cases x with
   | none => rfl
   | some d => rfl
 | x :: l, k, i + 1 => by
  simp only [rebT, List.getElem?_cons_succ, rebT_get keep l (k + 1) i, List.length_cons, Nat.add_lt_add_iff_right]
  rw [show k + 1 + i = k + (i + 1) by omega]
theorem rebT_len (keep : List (Nat × DV)) : ∀ (l : List (Option DV)) (k : Nat), (rebT keep k l).length = l.length
 | [], k => rfl
 | x :: l, k => by simp [rebT, rebT_len keep l]
theorem flat_cv {w w' : World} {N N' : Nat → Prop} {M M' : Map} {x : CV} {v : Value} (h : flatC x = true) (g : RelC w N M x v) : RelC w' N' M' x v := by
 cases x with
 | v y => exact g
 | _ => cases h
theorem flat_cvs {w w' : World} {N N' : Nat → Prop} {M M' : Map} : ∀ {l : List CV} {vs : List Value}, flatCs l = true → All2 (RelC w N M) l vs → All2 (RelC w' N' M') l vs
 | [], [], _, _ => trivial
 | x :: l, v :: vs, h, g => by
  simp only [flatCs, Bool.and_eq_true] at h
  exact ⟨flat_cv h.1 g.1, flat_cvs h.2 g.2⟩
 | [], _ :: _, _, g => g.elim
 | _ :: _, [], _, g => g.elim
theorem flat_tv {w w' : World} {N N' : Nat → Prop} {M M' : Map} {x : TV} {v : Value} (h : flatT x = true) (g : RelT (RelC w N M) x v) : RelT (RelC w' N' M') x v := by
 cases x with
 | c x => exact flat_cv h g
 | a l => obtain ⟨vs, e, g⟩ := g; exact ⟨vs, e, flat_cvs h g⟩
 | fn f l => obtain ⟨vs, e, g⟩ := g; exact ⟨vs, e, flat_cvs h g⟩
 | fb f l => obtain ⟨vs, e, g⟩ := g; exact ⟨vs, e, flat_cvs h g⟩
theorem flat_tvs {w w' : World} {N N' : Nat → Prop} {M M' : Map} : ∀ {l : List TV} {vs : List Value}, flatTs l = true → All2 (RelT (RelC w N M)) l vs → All2 (RelT (RelC w' N' M')) l vs
 | [], [], _, _ => trivial
 | x :: l, v :: vs, h, g => by
  simp only [flatTs, Bool.and_eq_true] at h
  exact ⟨flat_tv h.1 g.1, flat_tvs h.2 g.2⟩
 | [], _ :: _, _, g => g.elim
 | _ :: _, [], _, g => g.elim
theorem flat_up {w w' : World} {N N' : Nat → Prop} {M M' : Map} {x : DV} {v : Value} (h : flatD x = true) (g : RelD (RelC w N M) x v) : RelD (RelC w' N' M') x v := by
 cases x with
 | t x => exact flat_tv h g
 | tu l => obtain ⟨vs, e, g⟩ := g; exact ⟨vs, e, flat_tvs h g⟩
theorem Abs.reb {w0 : World} {N0 : Nat → Prop} {M : Map} {st : DS} {a : Act} {w w' : World} (ha : Abs w0 N0 noPins M st a w) (hd : a.defers = []) (hG : Gd w') (hk : ∀ i d, findK i keep = some d → a.tmps[i]? = some (ov i) ∧ RelD (RelF w' N) d (ov i)) : Abs w' N noPins (fun _ => none) (rebS keep st) a w' := by
 refine ⟨Below.refl _ _, by simp [rebS, rebT_len, ha.fits], by rw [hd]; exact Marks.nil hG, fun i dv h => ?_, fun k r h => ?_, fun _ _ => rfl, (fun k l b h _ => by cases h), (fun k k' r r' l l' b _ _ _ _ h _ _ _ => by cases h), (fun _ _ h => h.elim), (fun _ h => h.elim), (fun _ _ h => by cases h), (fun _ _ _ _ => Nat.zero_le _)⟩
 ·unfold DS.tm rebS at h
  simp only at h
  rw [rebT_get] at h
  split at h
  ·rename_i hlt
   simp only [Nat.zero_add] at h
   cases e : findK i keep with
   | some d =>
    obtain ⟨h1, h2⟩ := hk i d e
    rw [e] at h
    cases h
    exact ⟨_, h1, RelD.mono (fun x v g => RelC.ofF (RelF.mono (Nat.le_refl _) (fun _ _ _ _ => rfl) (fun b hb _ => ⟨fun _ => hb, fun _ _ h => by cases h⟩) x g)) h2⟩
   | none =>
    rw [e] at h
    simp only at h
    cases e2 : (st.t[i]?).join with
    | none => rw [e2] at h; cases h
    | some d =>
     rw [e2] at h
     simp only at h
     cases e3 : flatD d with
     | false => rw [e3] at h; cases h
     | true =>
      obtain ⟨v, h1, h2⟩ := ha.tmp i d e2
      rw [e3] at h
      cases h
      exact ⟨v, h1, flat_up e3 h2⟩
  ·cases h
 ·unfold DS.at rebS at h
  simp only [List.getElem?_replicate] at h
  split at h <;> cases h
theorem run_yldC {a : Act} {w : World} {o : Oper} {c : Call} (ho : o.op = .call c) {f : Operand} (hc : c.callee = .value f) {l : Nat} (hg : a.eval f = .func (.yield l) #[] #[]) {args : List Value} (hargs : c.args.toList.map a.eval = args) {X : Result Next} (hX : (Instr.yield l args.toArray).run P w = X) : (execOp a.eval o).run P w = X := by
 have : c.args.map a.eval = args.toArray := by
  apply Array.toList_inj.1; simpa using hargs
 unfold execOp
 simp only [ho, resolve, hc, hg, Deferred.ofValue, Sem.run_bind, Sem.run_pure, Result.andThen_ok, invoke, Array.empty_append, this]
 simpa using hX
theorem evOpsY_sound (hT : TabOK P T) (hS : Valid P S) (C : YC P l0 n y keep wc W N J0 Jx ov) {ops : Array Oper} {Q : Exit → Act → World → Prop} {k : Option Nat → DS → Prop} (hQ : ∀ g st' a' w', k g st' → YA keep wc W N J0 Jx ov st' a' w' g → Q .normal a' w') : ∀ (l : List Oper), (∀ o ∈ l, okKeep keep o = true) → ∀ {st : DS} {a : Act} {w : World} {g : Option Nat}, YA keep wc W N J0 Jx ov st a w g → evOpsY P T S l0 n y keep ops.toList l st g k → wpListIn Fence.wide 0 P ops Q l a w
  | [], _, st, a, w, g, ha, h => hQ _ _ _ _ h ha
  | o :: l, hk, st, a, w, g, ha, h => by
    have hko := hk o (by simp)
    have hrest : ∀ o' ∈ l, okKeep keep o' = true := fun o' ho' => hk o' (by simp [ho'])
    have hdst : ∀ i d, findK i keep = some d → o.dst ≠ some i := by
      intro i d hf e
      unfold okKeep at hko
      rw [e] at hko
      simp [hf] at hko
    have hnd : ∀ c, o.op ≠ .defer c := by
      unfold okKeep at hko
      simp only [Bool.and_eq_true] at hko
      exact ndef_ok hko.1
    have normal : evOp P T S ops.toList noForb o st (fun st' => evOpsY P T S l0 n y keep ops.toList l st' g k) → wpListIn Fence.wide 0 P ops Q (o :: l) a w := by
      intro h
      rw [evOp_iff] at h
      obtain ⟨p, st', h1, h2, h3⟩ := h
      obtain ⟨hd, hov, w0, N0, M, hA, hg⟩ := ha
      have := step_fr hT hS hA h1 h2 (l := [o]) (by simp) (K := fun a' w' => wpListIn Fence.wide 0 P ops Q l a' w') (Q := Q) (fun M' a' w' hA' hfr => evOpsY_sound hT hS C hQ l hrest ⟨hfr.2.trans hd, fun i d hf => (hfr.1 i (by simpa using hdst i d hf)).trans (hov i d hf), w0, N0, M', hA', hg⟩ h3)
      exact this
    simp only [evOpsY] at h
    split at h
    · rename_i c l' hy hw
      obtain ⟨hd, hov, w0, N0, M, hA, hg⟩ := ha
      have hwant := want_ok hA hw
      unfold yldE at h
      split at h
      · rename_i i ls hds
        cases hfl : flatYs ls with
        | false => rw [hfl] at h; exact h.elim
        | true =>
        rw [hfl] at h
        simp only [Bool.not_true, cond_false] at h
        obtain ⟨⟨hl0, hi, hls⟩, hT', hF'⟩ := h
        simp only [Option.bind_eq_some_iff] at hds
        obtain ⟨ds, hds1, hds2⟩ := hds
        unfold yldC at hy
        split at hy
        case h_2 => cases hy
        rename_i c' hop
        split at hy
        case h_2 => cases hy
        rename_i f hcal
        split at hy
        case h_2 => cases hy
        rename_i d hf
        simp only [Option.map_eq_some_iff, Prod.mk.injEq] at hy
        obtain ⟨l2, hl2, rfl, rfl⟩ := hy
        have hgv : a.eval f = .func (.yield l0) #[] #[] := by
          have g1 := opv_rel hA hf
          rw [← hl0]
          unfold isYld at hl2
          split at hl2
          · cases hl2; exact g1.1
          · cases hl2
        have hvals := flatTs_val hfl (tts_rel hds2 (opvs_rel hA hds1))
        have hJw : J0 i w := C.hJ i w0 w none hg.1 (below_grown hA.below) (fun r e => by cases e)
        obtain ⟨fn, tmps, assign, body, hrun, hround⟩ := C.hY i w hi hJw
        rw [← hls] at hrun
        have hx := run_yldC (P := P) hop hcal hgv hvals hrun
        show if _ then _ else _
        rw [hwant, if_pos rfl]
        unfold Oper.wpIn
        refine ⟨fun f _ => trivial, ?_⟩
        rw [Oper.semAt_eq _ _ _ hnd, hx]
        refine ⟨(fun h => by cases h), hround.mono ?_⟩
        have hsz := hg.2.1
        have hsw : wc.heap.size ≤ w0.heap.size := Nat.le_trans C.hb.size hsz
        have hsA := hA.below.size
        have hov' : ∀ (v : Value) i d, findK i keep = some d → (a.put o.dst v).tmps[i]? = some (ov i) := fun v i d hf => by
          rw [put_get, if_neg (fun h => hdst i d hf h.1)]; exact hov i d hf
        rintro e w' (⟨rfl, hj, hs2, hkp⟩ | ⟨rfl, hj⟩)
        · have hkn : ∀ b, b < wc.heap.size → N b → w'.heap[b]? = W.heap[b]? := fun b hb hN => by
            rw [hkp b hb hN, hA.below.block b (by omega)]; exact hg.2.2 b hb hN
          have hreb := hA.reb (keep := keep) (ov := ov) (w' := w') (N := fun b => b < wc.heap.size ∧ N b) hd (C.hgJ _ _ hj) fun i d hf => ⟨hov i d hf, RelD.mono (fun x v g => RelF.mono (w := wc) (N := N) (by omega) (fun b hN hb off => by
                have e1 : w'.heap[b]? = wc.heap[b]? := (hkn b hb hN).trans (C.hb.block b hb)
                exact World.cell?_of_block (w := wc) (a := ⟨b, off, none⟩) e1) (fun b hN hb => ⟨hb, hN⟩) x g) (C.hk i d hf)⟩
          refine evOpsY_sound hT hS C hQ l hrest (g := some (i + 1)) ⟨by rw [put_defs]; exact hd, hov' _, w', _, _, hreb.putV o.dst (x := .t (.c (.v (.bool true)))) ⟨rfl, rfl⟩, hj, by omega, hkn⟩ hT'
        · have hreb := hA.reb (keep := []) (ov := ov) (w' := w') (N := fun _ => True) hd (C.hgX _ hj) fun i d hf => by cases hf
          refine evOpsY_sound hT hS C hQ l hrest (g := none) ⟨by rw [put_defs]; exact hd, hov' _, w', _, _, hreb.putV o.dst (x := .t (.c (.v (.bool false)))) ⟨rfl, rfl⟩, hj⟩ hF'
      · exact h.elim
    · exact normal h
theorem YA.tidyB {st st' : DS} {a : Act} {w : World} {g : Option Nat} (ha : YA keep wc W N J0 Jx ov st a w g) {hd : Hd} {bx : List Bx} (h : tidyB hd bx st = some st') : YA keep wc W N J0 Jx ov st' a w g := by
 obtain ⟨hd', hov, w0, N0, M, hA, hg⟩ := ha
 obtain ⟨M', hA'⟩ := hA.tidyB (by intro k l h; cases h) h
 exact ⟨hd', hov, w0, N0, M', hA', hg⟩
theorem YA.eval {st : DS} {a : Act} {w : World} {g : Option Nat} (ha : YA keep wc W N J0 Jx ov st a w g) {c : Operand} {t : Bool} (h : opv st c = some (.t (.c (.v (.bool t))))) : a.eval c = .bool t := by
 obtain ⟨hd', hov, w0, N0, M, hA, hg⟩ := ha
 exact (opv_rel hA h).1
theorem evY_sound (hT : TabOK P T) (hS : Valid P S) (C : YC P l0 n y keep wc W N J0 Jx ov) : ∀ (c : Code) {b : Nat} {F : List Nat} {kn : Option Nat → DS → Prop} {ke : Nat → Option Nat → DS → Prop} {kr : Option Nat → DS → Prop} {Kn : List Nat → Option Nat → DS → Prop} {Ke : List Nat → Nat → Option Nat → DS → Prop} {Kr : List Nat → Option Nat → DS → Prop} {Q : Exit → Act → World → Prop} {st : DS} {a : Act} {w : World} {g : Option Nat},
  okY ann keep c b = true → AllY J (loopsY P T S ann J l0 n y keep c b Kn Ke Kr) → Kn F = kn → Ke F = ke → Kr F = kr → YA keep wc W N J0 Jx ov st a w g →
  (∀ g st' a' w', kn g st' → YA keep wc W N J0 Jx ov st' a' w' g → Q .normal a' w') → (∀ i g st' a' w', ke i g st' → YA keep wc W N J0 Jx ov st' a' w' g → Q (.exit i) a' w') → (∀ g st' a' w', kr g st' → YA keep wc W N J0 Jx ov st' a' w' g → Q .ret a' w') →
  evY P T S ann J l0 n y keep c b F kn ke kr g st → c.wpIn Fence.wide 0 P Q a w
 | .skip, b, F, kn, ke, kr, Kn, Ke, Kr, Q, st, a, w, g, hok, hL, e1, e2, e3, ha, hn, he, hr, h => wpIn_skip (hn _ _ _ _ h ha)
 | .exit i, b, F, kn, ke, kr, Kn, Ke, Kr, Q, st, a, w, g, hok, hL, e1, e2, e3, ha, hn, he, hr, h => wpIn_exit (he i _ _ _ _ h ha)
 | .ret, b, F, kn, ke, kr, Kn, Ke, Kr, Q, st, a, w, g, hok, hL, e1, e2, e3, ha, hn, he, hr, h => wpIn_ret (hr _ _ _ _ h ha)
 | .region id ops draw, b, F, kn, ke, kr, Kn, Ke, Kr, Q, st, a, w, g, hok, hL, e1, e2, e3, ha, hn, he, hr, h => by
  simp only [okY, Bool.and_eq_true, Bool.not_eq_true'] at hok
  obtain ⟨hk, rfl⟩ := hok
  exact wpIn_region_list (evOpsY_sound hT hS C hn ops.toList (fun o ho => List.all_eq_true.1 hk o ho) ha h)
 | .seq x z, b, F, kn, ke, kr, Kn, Ke, Kr, Q, st, a, w, g, hok, hL, e1, e2, e3, ha, hn, he, hr, h => by
  simp only [okY, Bool.and_eq_true] at hok
  simp only [loopsY, AllY_append] at hL
  refine wpIn_seq (evY_sound hT hS C x (b := b) (F := F) hok.1 hL.1 (by rw [e1, e2, e3]) e2 e3 ha (fun g st' a' w' h' ha' => ?_) (fun i g st' a' w' h' ha' => he i _ _ _ _ h' ha') (fun g st' a' w' h' ha' => hr _ _ _ _ h' ha') h)
  exact evY_sound hT hS C z hok.2 hL.2 e1 e2 e3 ha' hn he hr h'
 | .cond c x z, b, F, kn, ke, kr, Kn, Ke, Kr, Q, st, a, w, g, hok, hL, e1, e2, e3, ha, hn, he, hr, h => by
  simp only [okY, Bool.and_eq_true] at hok
  simp only [loopsY, AllY_append] at hL
  simp only [evY] at h
  split at h
  ·rename_i t hc
   have hv := ha.eval hc
   cases t with
   | true => exact wpIn_cond_true hv (evY_sound hT hS C x hok.1 hL.1 e1 e2 e3 ha hn he hr h)
   | false => exact wpIn_cond_false hv (evY_sound hT hS C z hok.2 hL.2 e1 e2 e3 ha hn he hr h)
  ·exact h.elim
 | .block id x, b, F, kn, ke, kr, Kn, Ke, Kr, Q, st, a, w, g, hok, hL, e1, e2, e3, ha, hn, he, hr, h => by
  simp only [okY] at hok
  simp only [evY] at h
  simp only [loopsY] at hL
  refine wpIn_block (evY_sound hT hS C x (b := id) (F := F) hok hL e1 (by rw [e1, e2]) e3 ha (fun g st' a' w' h' ha' => hn _ _ _ _ h' ha') (fun i g st' a' w' h' ha' => ?_) (fun g st' a' w' h' ha' => hr _ _ _ _ h' ha') h)
  simp only [Exit.inBlock]
  cases e : Nat.beq i id with
  | true =>
   rw [e] at h'
   rw [if_pos (Nat.eq_of_beq_eq_true e)]
   exact hn _ _ _ _ h' ha'
  | false =>
   rw [e] at h'
   rw [if_neg (fun h2 => by rw [h2, Nat.beq_refl] at e; cases e)]
   exact he i _ _ _ _ h' ha'
 | .loop x, b, F, kn, ke, kr, Kn, Ke, Kr, Q, st, a, w, g, hok, hL, e1, e2, e3, ha, hn, he, hr, h => by
  simp only [okY, Bool.and_eq_true] at hok
  simp only [evY] at h
  split at h
  ·rename_i hd c hl
   simp only [loopsY, hl, AllY] at hL
   obtain ⟨⟨hz, hs⟩, hin⟩ := hL
   split at h
   ·rename_i s hts
    obtain ⟨m, hJ⟩ := h
    have key : ∀ (m : Nat) {c : Nat} {st : DS} {a : Act} {w : World}, YA keep wc W N J0 Jx ov st a w (some c) → J b (c :: m :: F) st → Code.roundsIn Fence.wide 0 P x Q m a w := by
     intro m
     induction m with
     | zero => intro c st a w ha h; exact (hz c F st h).elim
     | succ m ih =>
      intro c st a w ha h
      have h1 := hs c m F st h
      simp only [List.tail_cons] at h1
      rw [roundsIn_succ]
      rw [e2, e3] at h1
      refine evY_sound hT hS C x (F := m :: F) hok.2 hin rfl (by simpa using e2) (by simpa using e3) ha (fun g st' a' w' h' ha' => ?_) (fun i g st' a' w' h' ha' => he i _ _ _ _ h' ha') (fun g st' a' w' h' ha' => hr _ _ _ _ h' ha') h1
      unfold againY at h'
      split at h'
      ·rename_i c' s2 hs2
       exact ih (ha'.tidyB hs2) h'
      ·exact h'.elim
    exact wpIn_loop_rounds m (key m (ha.tidyB hts) hJ)
   ·exact h.elim
  ·exact h.elim
 | .rangeFunc .., _, _, _, _, _, _, _, _, _, _, _, _, _, _, _, _, _, _, _, _, _, _, h | .scope _, _, _, _, _, _, _, _, _, _, _, _, _, _, _, _, _, _, _, _, _, _, _, h | .label _, _, _, _, _, _, _, _, _, _, _, _, _, _, _, _, _, _, _, _, _, _, _, h
 | .goto _, _, _, _, _, _, _, _, _, _, _, _, _, _, _, _, _, _, _, _, _, _, _, h | .refuse _, _, _, _, _, _, _, _, _, _, _, _, _, _, _, _, _, _, _, _, _, _, _, h => h.elim
def endY (n : Nat) (g : Option Nat) (_ : DS) : Prop := match g with
 | some i => i = n
 | none => True
def evIt (P : Program) (T : Tab) (S : Sum) (ann : Ann) (J : Inv) (l0 n : Nat) (y : Nat → List TV) (keep : List (Nat × DV)) (fn : Func) (caps : List DV) : Prop := match fn.body with
 | some c => evY P T S ann J l0 n y keep c 0 [] (endY n) (fun _ _ _ => False) (endY n) (some 0) (start (.t (.c (.v (.func (.yield l0) #[] #[]))) :: caps) fn.ntmps)
 | none => False
def loopsIt (P : Program) (T : Tab) (S : Sum) (ann : Ann) (J : Inv) (l0 n : Nat) (y : Nat → List TV) (keep : List (Nat × DV)) (fn : Func) : List (Nat × (Nat → List Nat → DS → Prop)) := match fn.body with
 | some c => loopsY P T S ann J l0 n y keep c 0 (fun _ => endY n) (fun _ _ _ _ => False) (fun _ => endY n)
 | none => []
def okIt (ann : Ann) (keep : List (Nat × DV)) (fn : Func) : Bool := fn.results.toList.isEmpty && (match fn.body with
 | some c => okY ann keep c 0
 | none => false)
end Go.Proofs.YtlapeoboekchpaaGreatDoor.Ev
set_option linter.unusedVariables false
set_option linter.unusedSimpArgs false
namespace Go.Proofs.YtlapeoboekchpaaGreatDoor.Ev
open Go.RowKit
def keepOf : Nat → List CV → List (Nat × DV)
 | _, [] => []
 | i, x :: l => (i, .t (.c x)) :: keepOf (i + 1) l
theorem keepOf_get : ∀ {l : List CV} {k i : Nat} {d : DV}, findK i (keepOf k l) = some d → ∃ x, k ≤ i ∧ l[i - k]? = some x ∧ d = .t (.c x)
 | [], k, i, d, h => by cases h
 | x :: l, k, i, d, h => by
  simp only [keepOf, findK] at h
  cases e : Nat.beq i k with
  | true =>
   rw [e] at h
   cases h
   have := Nat.eq_of_beq_eq_true e
   subst this
   exact ⟨x, Nat.le_refl _, by simp, rfl⟩
  | false =>
   rw [e] at h
   obtain ⟨z, h1, h2, h3⟩ := keepOf_get (l := l) h
   refine ⟨z, by omega, ?_, h3⟩
   rw [show i - k = (i - (k + 1)) + 1 by omega]
   simpa using h2
theorem all2_caps {w : World} {N : Nat → Prop} : ∀ {l : List CV} {vs : List Value}, All2 (RelF w N) l vs → All2 (RelD (RelF w N)) (l.map fun x => DV.t (.c x)) vs
 | [], [], _ => trivial
 | x :: l, v :: vs, h => ⟨h.1, all2_caps h.2⟩
 | [], _ :: _, h => h.elim
 | _ :: _, [], h => h.elim
theorem it_sound {P : Program} {T : Tab} {S : Sum} (hT : TabOK P T) (hS : Valid P S) {ann : Ann} {f : FuncId} {fn : Func} (hf : P.funcs[f]? = some fn) {n : Nat} {y : Nat → List TV} {l : List CV} (hok : okIt ann (keepOf 1 l) fn = true) (hlen : l.length + 1 ≤ fn.ntmps)
  (h : ∀ l0, ∃ J : Inv, evIt P T S ann J l0 n y (keepOf 1 l) fn (l.map fun x => .t (.c x)) ∧ AllY J (loopsIt P T S ann J l0 n y (keepOf 1 l) fn))
  (w : World) (N : Nat → Prop) (vs : List Value) (hargs : All2 (RelF w N) l vs) : SeqIt P f #[] vs.toArray n (fun i => ((y i).map tvVal).toArray) (fun A B => A.heap.size ≤ B.heap.size ∧ ∀ b, b < w.heap.size → N b → B.heap[b]? = A.heap[b]?) w := by
 intro l0 J0 Jx W hb hJ hJx hgJ hgX hY h0
 obtain ⟨J, h, hL⟩ := h l0
 have hvl := hargs.length
 have hW := hb.size
 unfold okIt at hok
 unfold evIt at h
 unfold loopsIt at hL
 simp only [Bool.and_eq_true] at hok
 obtain ⟨hres, hok⟩ := hok
 cases hbd : fn.body with
 | none => rw [hbd] at h; exact h.elim
 | some c =>
 rw [hbd] at h hL hok
 simp only at h hL hok
 let ov : Nat → Value := fun i => (vs[i - 1]?).getD undef
 have hC : YC P l0 n y (keepOf 1 l) w W N J0 Jx ov := by
  refine ⟨hb, hJ, hgJ, hgX, hY, fun i d hd => ?_⟩
  obtain ⟨x, h1, h2, rfl⟩ := keepOf_get hd
  obtain ⟨v, e1, e2⟩ := hargs.get h2
  show RelF w N x ((vs[i - 1]?).getD undef)
  rw [e1]; exact e2
 have hargs2 : All2 (RelD (RelF W fun b => b < w.heap.size ∧ N b)) (.t (.c (.v (.func (.yield l0) #[] #[]))) :: l.map fun x => DV.t (.c x)) (.func (.yield l0) #[] #[] :: vs) :=
  ⟨⟨rfl, rfl⟩, all2_caps (hargs.mono fun x v g => RelF.mono (w := w) (N := N) hW (fun b _ hlt off => World.cell?_of_block (w := w) (a := ⟨b, off, none⟩) (hb.block b hlt)) (fun b hN hlt => ⟨hlt, hN⟩) x g)⟩
 obtain ⟨aL, has⟩ : ∃ aL : List DV, aL = .t (.c (.v (.func (.yield l0) #[] #[]))) :: l.map fun x => DV.t (.c x) := ⟨_, rfl⟩
 obtain ⟨us, hus⟩ : ∃ us : List Value, us = .func (.yield l0) #[] #[] :: vs := ⟨_, rfl⟩
 rw [← has, ← hus] at hargs2
 rw [← has] at h
 have hvl2 := hargs2.length
 have hla : aL.length = l.length + 1 := by rw [has]; simp
 have hstart : Abs W (fun b => b < w.heap.size ∧ N b) noPins (fun _ => none) (start aL fn.ntmps) { tmps := us.toArray ++ Array.replicate (fn.ntmps - us.toArray.size) undef, defers := [] } W := by
  refine ⟨Below.refl _ _, by simp [start, hvl2], Marks.nil (hgJ 0 W h0), fun i dv hi => ?_, fun k r hr => ?_, fun _ _ => rfl, (fun k l b h1 _ => by cases h1), (fun k k' r r' l l' b _ _ _ _ h1 _ _ _ => by cases h1), (fun _ _ h => h.elim), (fun _ h => h.elim), (fun _ _ h => by cases h), (fun _ _ _ _ => Nat.zero_le _)⟩
  ·unfold DS.tm start at hi
   simp only at hi
   by_cases hlt : i < aL.length
   ·rw [List.getElem?_append_left (by simpa using hlt), List.getElem?_map] at hi
    have e1 : aL[i]? = some dv := by
     cases e : aL[i]? with
     | none => rw [e] at hi; cases hi
     | some x => rw [e] at hi; simpa using hi
    obtain ⟨v, e2, e3⟩ := hargs2.get e1
    refine ⟨v, ?_, RelD.mono (fun x u g => RelC.ofF (RelF.mono (Nat.le_refl _) (fun _ _ _ _ => rfl) (fun b hb hl => ⟨fun _ => hb, fun k l h => by cases h⟩) x g)) e3⟩
    rw [Array.getElem?_append_left (by simp; omega)]
    simpa using e2
   ·rw [List.getElem?_append_right (by simpa using hlt), List.getElem?_replicate] at hi
    split at hi
    ·rename_i h2
     simp only [Option.join_some, Option.some.injEq] at hi
     subst hi
     simp only [List.length_map] at h2
     refine ⟨undef, ?_, [], rfl, trivial⟩
     rw [Array.getElem?_append_right (by simp; omega), Array.getElem?_replicate, if_pos (by simp; omega)]
    ·cases hi
  ·unfold DS.at start at hr
   simp only [List.getElem?_replicate] at hr
   split at hr <;> cases hr
 have hYA : YA (keepOf 1 l) w W N J0 Jx ov (start aL fn.ntmps) { tmps := us.toArray ++ Array.replicate (fn.ntmps - us.toArray.size) undef, defers := [] } W (some 0) := by
  refine ⟨rfl, fun i d hd => ?_, W, _, _, hstart, h0, Nat.le_refl _, fun _ _ _ => rfl⟩
  obtain ⟨x, h1, h2, rfl⟩ := keepOf_get hd
  obtain ⟨v, e1, e2⟩ := hargs.get h2
  have hlt : i - 1 < vs.length := (List.getElem?_eq_some_iff.1 e1).1
  show _ = some ((vs[i - 1]?).getD undef)
  rw [e1, Array.getElem?_append_left (by rw [hus]; simp; omega), hus]
  obtain ⟨j, rfl⟩ : ∃ j, i = j + 1 := ⟨i - 1, by omega⟩
  simpa using e1
 have hfin : ∀ (g : Option Nat) (st' : DS) (a' : Act) (w' : World), endY n g st' → YA (keepOf 1 l) w W N J0 Jx ov st' a' w' g → LeavesInM Fence.wide 0 P fn a'.tmps (fun e W' => (∃ v, e = .returned v) ∧ (J0 n W' ∨ Jx () W')) a'.defers .returning w' := by
  rintro g st' a' w' hg ⟨hd, _, w1, N1, M1, hA, hgg⟩
  rw [hd]
  have hr : (results fn a'.tmps).run P w' = .ok (.tuple #[]) w' := by
   have h1 : results fn a'.tmps = (do
    let vs ← fn.results.mapM (resS a'.tmps)
    pure (if h : vs.size = 1 then vs[0] else .tuple vs)) := rfl
   have h2 : fn.results = #[] := by
    apply Array.toList_inj.1
    simpa using hres
   rw [h1, h2]
   simp
  refine ⟨_, hr, ⟨_, rfl⟩, ?_⟩
  cases g with
  | none => exact Or.inr (hJx () w1 w' none hgg (below_grown hA.below) (fun r e => by cases e))
  | some i =>
   have : i = n := hg
   subst this
   exact Or.inl (hJ i w1 w' none hgg.1 (below_grown hA.below) (fun r e => by cases e))
 have hcalls : CallsIn Fence.wide 0 P f us.toArray W fun e W' => (∃ v, e = .returned v) ∧ (J0 n W' ∨ Jx () W') := by
  refine callsIn_of_wp_marks hf hbd trivial ?_
  refine evY_sound hT hS hC c hok hL rfl rfl rfl hYA (fun g st' a' w' hk ha' => ?_) (fun i g st' a' w' hk _ => hk.elim) (fun g st' a' w' hk ha' => ?_) h
  ·exact hfin g st' a' w' hk ha'
  ·exact hfin g st' a' w' hk ha'
 have e : us.toArray = #[] ++ #[.func (.yield l0) #[] #[]] ++ vs.toArray := by rw [hus]; simp
 rw [← e]
 exact hcalls
def LeC (al bs : List CV) : Prop := ∀ w N vs, All2 (RelF w N) al vs → All2 (RelF w N) bs vs
theorem LeC.refl (al : List CV) : LeC al al := fun _ _ _ h => h
def okB1 : CV → Bool
 | .v x => x.oneCell'
 | _ => false
def okBs : List CV → Bool
 | [] => true
 | x :: l => okB1 x && okBs l
def okBT : TV → Bool
 | .c x => okB1 x
 | .a l => okBs l
 | .fn _ _ => false
 | .fb _ _ => false
def okBTs : List TV → Bool
 | [] => true
 | x :: l => okBT x && okBTs l
theorem okB1_rel {w : World} {N : Nat → Prop} {x : CV} (h : okB1 x = true) : RelF w N x (cvVal x) := by
 cases x with
 | v y => exact ⟨rfl, h⟩
 | _ => cases h
theorem okBs_rel {w : World} {N : Nat → Prop} : ∀ {l : List CV}, okBs l = true → All2 (RelF w N) l (l.map cvVal)
 | [], _ => trivial
 | x :: l, h => by
  simp only [okBs, Bool.and_eq_true] at h
  exact ⟨okB1_rel h.1, okBs_rel h.2⟩
theorem okBT_rel {w : World} {N : Nat → Prop} {x : TV} (h : okBT x = true) : RelT (RelF w N) x (tvVal x) := by
 cases x with
 | c y => exact okB1_rel h
 | a l => exact ⟨_, rfl, okBs_rel h⟩
 | fn f l => cases h
 | fb f l => cases h
theorem okBTs_rel {w : World} {N : Nat → Prop} : ∀ {l : List TV}, okBTs l = true → All2 (RelT (RelF w N)) l (l.map tvVal)
 | [], _ => trivial
 | x :: l, h => by
  simp only [okBTs, Bool.and_eq_true] at h
  exact ⟨okBT_rel h.1, okBTs_rel h.2⟩
@[reducible] def ItC := List CV → Option ItR
def OkIt (P : Program) (f : FuncId) (F : ItC) : Prop := ∀ l R, F l = some R → okP R.pre → Enters P f ∧ (∀ i, i < R.n → (R.y i).length = R.m ∧ okBTs (R.y i) = true) ∧
 ∀ (w : World) (N : Nat → Prop) (vs : List Value), All2 (RelF w N) l vs → SeqIt P f (fbA R.bd vs) (lbA R.bd vs) R.n (fun i => ((R.y i).map tvVal).toArray) (KpI w N R.ty) w
def addI (it : It) (f : FuncId) (F : ItC) : It := fun g l => bif Nat.beq g f then (F l).map (fun R => { R with mu := none }) else it g l
theorem ItOk.eq {P : Program} {F G : List CV → Option ItR} {gf : FuncId} {l : List CV} {R : ItR} (h : ItOk P F gf l R) (e : F = G) : ItOk P G gf l R := e ▸ h
theorem ValidIt.add {P : Program} {it : It} {f : FuncId} {F : ItC} (h : ValidIt P it) (hF : OkIt P f F) : ValidIt P (addI it f F) := by
 intro g l R h1 h2
 cases e : Nat.beq g f with
 | true =>
  have h1 : (F l).map (fun R => { R with mu := none }) = some R := by unfold addI at h1; rw [e] at h1; exact h1
  rw [Nat.eq_of_beq_eq_true e]
  simp only [Option.map_eq_some_iff] at h1
  obtain ⟨R0, h3, rfl⟩ := h1
  obtain ⟨g1, g2, g3⟩ := hF l R0 h3 h2
  exact ⟨g1, fun i hi => ⟨(g2 i hi).1, fun w N => okBTs_rel (g2 i hi).2⟩, g3⟩
 | false =>
  have e2 : it g = addI it f F g := by funext l; unfold addI; rw [e]; rfl
  obtain ⟨g1, g2⟩ := h g l R (by rw [e2]; exact h1) h2
  exact ⟨g1, g2.eq e2⟩
def OkItM (P : Program) (f : FuncId) (F : ItC) : Prop := ∀ l R, F l = some R → okP R.pre → Enters P f ∧ ∃ U, R.mu = some U ∧ ∀ x c l', c.length = U.pos → l = c ++ .px 1 0 (fun _ => .v x) :: l' → MuOk P F f c l' R.m U.ty x
def addM (it : It) (f : FuncId) (F : ItC) : It := fun g l => bif Nat.beq g f then F l else it g l
theorem ValidIt.addM {P : Program} {it : It} {f : FuncId} {F : ItC} (h : ValidIt P it) (hF : OkItM P f F) : ValidIt P (addM it f F) := by
 intro g l R h1 h2
 cases e : Nat.beq g f with
 | true =>
  have e2 : F = Ev.addM it f F g := by funext l; unfold Ev.addM; rw [e]; rfl
  obtain ⟨g1, U, g2, g3⟩ := hF l R (by rw [e2]; exact h1) h2
  rw [Nat.eq_of_beq_eq_true e] at e2 ⊢
  refine ⟨g1, ?_⟩
  unfold ItOk
  rw [g2, ← e2]
  exact g3
 | false =>
  have e2 : it g = Ev.addM it f F g := by funext l; unfold Ev.addM; rw [e]; rfl
  obtain ⟨g1, g2⟩ := h g l R (by rw [e2]; exact h1) h2
  exact ⟨g1, g2.eq e2⟩
theorem OkIt.it {P : Program} {T : Tab} {S : Sum} (hT : TabOK P T) (hS : Valid P S) {ann : Ann} {f : FuncId} {fn : Func} (hf : P.funcs[f]? = some fn) (hn : (fn.name == "runtime.NumGoroutine") = false) {F : ItC}
  (h : ∀ l R, F l = some R → okP R.pre → ∃ al, R.bd = false ∧ LeC l al ∧ okIt ann (keepOf 1 al) fn = true ∧ al.length + 1 ≤ fn.ntmps ∧ (∀ i, (R.y i).length = R.m ∧ okBTs (R.y i) = true) ∧ ∀ l0, ∃ J : Inv, evIt P T S ann J l0 R.n R.y (keepOf 1 al) fn (al.map fun x => .t (.c x)) ∧ AllY J (loopsIt P T S ann J l0 R.n R.y (keepOf 1 al) fn)) : OkIt P f F := by
 intro l R h1 h2
 obtain ⟨al, g0, g1, g2, g3, g4, g5⟩ := h l R h1 h2
 have hb : fn.body.isNone = false := by
  unfold okIt at g2
  simp only [Bool.and_eq_true] at g2
  cases e : fn.body with
  | none => rw [e] at g2; cases g2.2
  | some c => rfl
 exact ⟨Enters.of hf hn hb, fun i _ => g4 i, fun w N vs hv => by rw [g0]; exact (it_sound hT hS hf g2 g3 g5 w N vs (g1 w N vs hv)).weak fun A B h => h.1⟩
theorem RelF.px_eq {w : World} {N : Nat → Prop} {n off : Nat} {c c' : Nat → CV} {v : Value} (hc : ∀ j, j < n → c j = c' j) (h : RelF w N (.px n off c) v) : RelF w N (.px n off c') v := by
 obtain ⟨b, o, g1, g2, g3, g4⟩ := h
 refine ⟨b, o, g1, g2, g3, fun j hj => ?_⟩
 obtain ⟨x, e1, e2⟩ := g4 j hj
 exact ⟨x, e1, by rw [← hc j hj]; exact e2⟩
@[reducible] def pxL (n : Nat) (c : Nat → CV) : List CV := (List.range n).map fun j => .v (.int .i64 (cvInt (c j)))
theorem leC_cons {a b : CV} {al bs : List CV} (h : ∀ w N v, RelF w N a v → RelF w N b v) (h2 : LeC al bs) : LeC (a :: al) (b :: bs) := by
 intro w N vs g
 match vs, g with
 | v :: vs, g => exact ⟨h w N v g.1, h2 w N vs g.2⟩
 | [], g => exact g.elim
end Go.Proofs.YtlapeoboekchpaaGreatDoor.Ev
set_option linter.unusedVariables false
set_option linter.unusedSimpArgs false
namespace Go.Proofs.YtlapeoboekchpaaGreatDoor.Ev
open Go.RowKit
def cvLen : CV → Nat
 | .sl _ n _ => n
 | _ => 0
def cvCells : CV → Nat → Nat → CV
 | .sl _ _ c => c
 | _ => fun _ _ => .v (.bool false)
def slP (sz : Nat) (x : CV) : Prop := x = .sl sz (cvLen x) (cvCells x)
def LeC1 (a b : CV) : Prop := ∀ w N v, RelF w N a v → RelF w N b v
def LeCs : List CV → List CV → Prop
 | [], [] => True
 | a :: l, b :: m => LeC1 a b ∧ LeCs l m
 | _, _ => False
theorem LeCs.all {w : World} {N : Nat → Prop} : ∀ {l m : List CV} {vs : List Value}, LeCs l m → All2 (RelF w N) l vs → All2 (RelF w N) m vs
 | [], [], _, _, h => h
 | _ :: _, _ :: _, v :: vs, g, h => ⟨g.1 w N v h.1, LeCs.all g.2 h.2⟩
 | [], _ :: _, _, g, _ => g.elim
 | _ :: _, [], _, g, _ => g.elim
 | _ :: _, _ :: _, [], _, h => h.elim
theorem LeCs.nil : LeCs [] [] := trivial
theorem LeCs.cons {a b : CV} {l m : List CV} (h : LeC1 a b) (g : LeCs l m) : LeCs (a :: l) (b :: m) := ⟨h, g⟩
theorem LeC1.refl (a : CV) : LeC1 a a := fun _ _ _ h => h
theorem leT_a {l m : List CV} (h : LeCs l m) : LeD (.t (.a l)) (.t (.a m)) := by
 rintro w N v ⟨vs, e, g⟩
 exact ⟨vs, e, h.all g⟩
theorem leT_f {f : FuncId} {l m : List CV} (h : LeCs l m) : LeD (.t (.fn f l)) (.t (.fn f m)) := by
 rintro w N v ⟨vs, e, g⟩
 exact ⟨vs, e, h.all g⟩
theorem leT_c {a b : CV} (h : LeC1 a b) : LeD (.t (.c a)) (.t (.c b)) := fun w N v g => h w N v g
theorem leC_i {a : CV} (h : a = .v (.int .i64 (cvInt a))) : LeC1 a (.v (.int .i64 (cvInt a))) := by rw [← h]; exact LeC1.refl a
theorem leC_s {sz : Nat} {a b : CV} (h : slP sz a) (g : LeD (.t (.c (.sl sz (cvLen a) (cvCells a)))) (.t (.c b))) : LeC1 a b := by
 intro w N v k
 refine g w N v ?_
 rw [h] at k
 exact k
theorem LeCs.get : ∀ {l m : List CV} {j : Nat} {a : CV}, LeCs l m → l[j]? = some a → ∃ b, m[j]? = some b ∧ LeC1 a b
 | a :: l, b :: m, 0, x, h, e => by
  simp at e; subst e; exact ⟨b, by simp, h.1⟩
 | a :: l, b :: m, j + 1, x, h, e => by
  simp at e
  obtain ⟨y, h1, h2⟩ := LeCs.get h.2 e
  exact ⟨y, by simpa using h1, h2⟩
 | [], [], _, _, _, e => by simp at e
 | [], _ :: _, _, _, h, _ => h.elim
 | _ :: _, [], _, _, h, _ => h.elim
theorem leC_p {n : Nat} {c : Nat → CV} {l : List CV} (h : LeCs (fwd c 0 n) l) : LeC1 (.px n 0 c) (.px n 0 (boxC l)) := by
 rintro w N v ⟨b, o, g1, g2, g3, g4⟩
 refine ⟨b, o, g1, g2, g3, fun j hj => ?_⟩
 obtain ⟨x, e1, e2⟩ := g4 j hj
 refine ⟨x, e1, ?_⟩
 have e3 : (fwd c 0 n)[j]? = some (c j) := by rw [fwd_get, if_pos hj, Nat.zero_add]
 obtain ⟨y, k1, k2⟩ := h.get e3
 have e4 : boxC l j = y := by simp [boxC, List.getD, k1]
 rw [e4]
 exact k2 w N x e2
def intsB : List Nat → (Nat → CV) → Bool
 | [], _ => true
 | j :: l, c => (match c j with
  | .v (.int .i64 _) => true
  | _ => false) && intsB l c
theorem intsB_get : ∀ {l : List Nat} {c : Nat → CV}, intsB l c = true → ∀ j ∈ l, c j = .v (.int .i64 (cvInt (c j)))
 | k :: l, c, h, j, hj => by
  simp only [intsB, Bool.and_eq_true] at h
  rcases List.mem_cons.1 hj with e | e
  ·subst e
   have h1 := h.1
   split at h1
   ·rename_i x hx
    rw [hx]; rfl
   ·cases h1
  ·exact intsB_get h.2 j e
def addF (S : Sum) (f : FuncId) (F : Con) : Sum := fun g args => bif Nat.beq g f then (match F args with
 | some r => some r
 | none => S g args) else S g args
theorem Valid.addF {P : Program} {S : Sum} {f : FuncId} {F : Con} (h : Valid P S) (hF : Ok P f F) : Valid P (Ev.addF S f F) := by
 intro g args r pre fresh h1 h2
 unfold Ev.addF at h1
 cases e : Nat.beq g f with
 | true =>
  rw [e] at h1
  simp only [cond_true] at h1
  split at h1
  ·rename_i x hx
   cases h1
   rw [Nat.eq_of_beq_eq_true e]
   exact hF args r pre fresh hx h2
  ·exact h g args r pre fresh h1 h2
 | false => rw [e] at h1; exact h g args r pre fresh h1 h2
theorem leSl {sz n : Nat} {c c' : Nat → Nat → CV} (h : ∀ i j, i < n → j < sz → c i j = c' i j) : LeD (.t (.c (.sl sz n c))) (.t (.c (.sl sz n c'))) := fun w N v g => RelF.sl g h
end Go.Proofs.YtlapeoboekchpaaGreatDoor.Ev
set_option linter.unusedVariables false
set_option linter.unusedSimpArgs false
namespace Go.Proofs.YtlapeoboekchpaaGreatDoor.Ev
open Go.RowKit
variable {w0 : World} {N0 : Nat → Prop} {Z : Pins} {P : Program} {T : Tab} {S : Sum} {M : Map} {a : Act} {w : World}
end Go.Proofs.YtlapeoboekchpaaGreatDoor.Ev
set_option linter.unusedVariables false
set_option linter.unusedSimpArgs false
namespace Go.Proofs.YtlapeoboekchpaaGreatDoor
open Go.RowKit
section
variable {P : Program} {ops : Array Oper} {md : Region.Mode} {C : World → Prop}
def simpleOp (o : Oper) : Bool :=
 match o.op with
 | .move _ | .assign _ | .pick .. | .binOp .. | .unOp .. | .slice .. | .indexAddr .. | .fieldAddr .. | .extract .. | .field .. | .index .. | .build .. => true
 | _ => false
theorem value_of_bind {P : Program} {w w1 : World} {n : Next} (s : Sem Value) (h : ((do let x ← s; pure (.value x) : Sem Next)).run P w = .ok n w1) : ∃ v, n = .value v := by
 rw [Sem.run_bind] at h
 cases hs : s.run P w with
 | ok x w2 => rw [hs] at h; simp only [Result.andThen_ok, Sem.run_pure] at h; cases h; exact ⟨_, rfl⟩
 | halt x w2 => rw [hs] at h; cases h
theorem value_of_bind' {P : Program} {α : Type} {w w1 : World} {n : Next} (s : Sem α) (f : α → Value) (h : ((do let x ← s; pure (.value (f x)) : Sem Next)).run P w = .ok n w1) : ∃ v, n = .value v := by
 rw [Sem.run_bind] at h
 cases hs : s.run P w with
 | ok x w2 => rw [hs] at h; simp only [Result.andThen_ok, Sem.run_pure] at h; cases h; exact ⟨_, rfl⟩
 | halt x w2 => rw [hs] at h; cases h
theorem simpleOp_value {o : Oper} (h : simpleOp o = true) {ρ : Operand → Value} {w w1 : World} {n : Next} (hr : (execOp ρ o).run P w = .ok n w1) : ∃ v, n = .value v := by
 unfold simpleOp at h
 unfold execOp at hr
 split at h
 all_goals first
  | (rename_i e; rw [e] at hr; simp only [Sem.run_pure] at hr; cases hr; exact ⟨_, rfl⟩)
  | (rename_i e; rw [e] at hr; exact value_of_bind _ hr)
  | (rename_i e; rw [e] at hr; exact value_of_bind' _ _ hr)
  | cases h
theorem yields_of_quiet {i : Nat} {o : Oper} {a : Act} {K : Act → Prop} (hi : ops[i]? = some o) (hs : simpleOp o = true) (h : qOp P ops (fun _ => True) i K a) : ∃ v, Yields P ops o v a ∧ K (a.put o.dst v) := by
 obtain ⟨v, hy, hK⟩ := yieldsIn_of_qOp hi h
 refine ⟨v, ?_, hK⟩
 rcases hy with ⟨hw, hy⟩ | ⟨hw, rfl⟩
 ·refine Or.inl ⟨hw, fun w => ?_⟩
  have h1 := hy w trivial
  unfold Oper.quietAt at h1
  generalize hr : (execOp a.eval o).run P w = r at h1
  cases r with
  | ok n w' =>
   obtain ⟨u, rfl⟩ := simpleOp_value hs hr
   simp only [Oper.quietUpon] at h1
   rw [h1.1, h1.2]
  | halt x w' => simp only [Oper.quietUpon] at h1
 ·exact Or.inr ⟨hw, rfl⟩
structure MidInv (md : Region.Mode) (ops : Array Oper) (n : Nat) (l0 listed : Array Bool) : Prop where
 size : listed.size = ops.size
 closed : ∀ j oj, ops[j]? = some oj → listed.getD j false = true → ∀ e ∈ oj.after, Region.binds md e = true → listed.getD e.on false = true
 tail : ∀ t, n ≤ t → t < ops.size → listed.getD t true = false
 start : ∀ j, l0.getD j false = true → listed.getD j false = true
theorem MidInv.set {n i : Nat} {l0 listed : Array Bool} (inv : MidInv md ops n l0 listed) (hi : i ∈ Region.ready md ops listed) (hin : i < n) : MidInv md ops n l0 (listed.setIfInBounds i true) := by
 obtain ⟨hun, oi, hoi, hall⟩ := mem_ready.1 hi
 refine ⟨by simp [inv.size], fun j oj hj hl e he hb => ?_, fun t ht ht' => ?_, fun j hj => getD_set_true (inv.start j hj)⟩
 ·by_cases hij : i = j
  ·subst hij
   have : oj = oi := Option.some.inj (hj.symm.trans hoi)
   subst this
   exact getD_set_true (hall e he hb)
  ·rw [getD_set_ne false hij] at hl
   exact getD_set_true (inv.closed j oj hj hl e he hb)
 ·rw [getD_set_ne true (by omega)]; exact inv.tail t ht ht'
def pick (l : List Oper) : List Nat → List Oper
 | [] => []
 | i :: p => (l.drop i).head?.toList ++ pick l p
theorem pick_cons {l : List Oper} {i : Nat} {p : List Nat} {o : Oper} (h : l[i]? = some o) : pick l (i :: p) = o :: pick l p := by
 simp [pick, List.head?_drop, h]
def noPan (Q : Exit → Act → World → Prop) : Exit → Act → World → Prop
 | .panic _, _, _ => False
 | e, a, w => Q e a w
end
theorem quiet_simple {P : Program} {o : Oper} {a : Act} {C : World → Prop} {K : Act → Prop} (hs : simpleOp o = true) (h : o.quiet P a (fun _ => True) K) : o.quiet P a C K := by
 obtain ⟨v, hv, hK⟩ := h
 refine ⟨v, fun w _ => ?_, hK⟩
 have h1 := hv w trivial
 unfold Oper.quietAt at *
 generalize hr : (execOp a.eval o).run P w = r at h1
 cases r with
 | ok n w' =>
  obtain ⟨u, rfl⟩ := simpleOp_value hs hr
  exact h1
 | halt x w' => exact h1
theorem quiet_val {P : Program} {o : Oper} {a : Act} {C : World → Prop} {K : Act → Prop} (v : Value) (h : ∀ w, C w → (execOp a.eval o).run P w = .ok (.value v) w) (hK : K (a.put o.dst v)) : o.quiet P a C K :=
 ⟨v, fun w hw => by unfold Oper.quietAt; rw [h w hw]; exact ⟨rfl, rfl⟩, hK⟩
def Elem (P : Program) (t e : TypeId) (sz bytes : Nat) : Prop := ∃ i z, P.underlying t = some (.slice e) ∧ P.info? e = some i ∧ i.zero = some z ∧ i.size = sz ∧ i.bytes = bytes ∧ z.cells.size = sz ∧ 0 < sz
theorem Elem.mk {P : Program} {t e : TypeId} {z : Value} {sz bytes : Nat} (ht : P.underlying t = some (.slice e)) (hi : (P.info? e).map (fun i => (i.zero, i.size, i.bytes)) = some (some z, sz, bytes)) (hz : z.cells.size = sz) (hs : 0 < sz) : Elem P t e sz bytes := by
 obtain ⟨i, h1, h2, h3, h4⟩ := info_parts hi
 exact ⟨i, z, ht, h1, h2, h3, h4, hz, hs⟩
structure Pushed (base : Nat) (w w' : World) (v v' : Value) : Prop where
 below : Below base w w'
 other : ∀ k, k < w.heap.size → some k ≠ v.ownBlock → w'.heap[k]? = w.heap[k]?
 lies : v'.ownBlock = v.ownBlock ∨ v'.ownBlock = some w.heap.size
end Go.Proofs.YtlapeoboekchpaaGreatDoor
set_option linter.unusedVariables false
set_option linter.unusedSimpArgs false
namespace Go.Proofs.YtlapeoboekchpaaGreatDoor
open Go.RowKit
section
variable {P : Program} {md : Region.Mode}
end
end Go.Proofs.YtlapeoboekchpaaGreatDoor
set_option linter.unusedVariables false
set_option linter.unusedSimpArgs false
namespace Go.Proofs.YtlapeoboekchpaaGreatDoor
open Go.RowKit
section
variable {P : Program} {md : Region.Mode}
inductive Stp where
 | q (ks : List Nat)
 | f (ks : List Nat)
 | p (i j : Nat)
def contF (K : Act → World → Prop) : Exit → Act → World → Prop
 | .normal, a, w => K a w
 | _, _, _ => False
theorem wp_F {ops : Array Oper} {Q : Exit → Act → World → Prop} {X K : Act → World → Prop} {o : Oper} {a : Act} {w : World} (hh : o.wp P a w K (contF X)) : o.wp P a w K Q := by
 unfold Oper.wp at *
 generalize (execOp a.eval o).run P w = r at *
 cases r with
 | ok n w' =>
  cases n <;> simp only [Oper.upon] at hh ⊢ <;>
   first
    | exact hh
    | exact Calls.mono hh (fun e w'' he => by
      cases e with
      | returned v => exact he
      | panicked c => exact (he : False).elim
      | outgrown => obtain ⟨a, w, h⟩ := he; exact (h : False).elim)
 | halt x w' => cases x <;> simp only [Oper.upon] at hh ⊢ <;> first | exact hh | exact (hh : False).elim
theorem wpOp_F {ops : Array Oper} {Q : Exit → Act → World → Prop} {X K : Act → World → Prop} {i : Nat} {a : Act} {w : World} (hh : wpOp P ops (contF X) i K a w) : wpOp P ops Q i K a w := by
 unfold wpOp at *
 split
 ·simpa [*] using hh
 ·rename_i o ho
  simp only [ho] at hh
  split
  ·rename_i hw
   simp only [hw, if_true] at hh
   rcases hh with h | ⟨_, a, w, h⟩
   ·exact Or.inl (wp_F (ops := ops) h)
   ·exact (h : False).elim
  ·rename_i hw; simp only [hw] at hh; exact hh
def runSet (L : Array Bool) (ks : List Nat) : Array Bool := ks.foldl (fun L k => L.setIfInBounds k true) L
def qB (md : Region.Mode) (ops : Array Oper) : List Nat → Array Bool → Bool
 | [], _ => true
 | k :: p, L => ((ops[k]?).map simpleOp).getD false && (Region.ready md ops L).contains k && Region.free md ops L k && qB md ops p (L.setIfInBounds k true)
def fB (md : Region.Mode) (ops : Array Oper) : List Nat → Array Bool → Bool
 | [], _ => true
 | k :: p, L => decide (Region.ready md ops L = [k]) && (ops[k]?).isSome && fB md ops p (L.setIfInBounds k true)
def mixB (md : Region.Mode) (ops : Array Oper) : List Stp → Array Bool → Bool
 | [], L => (Region.ready md ops L).isEmpty
 | .q ks :: s, L => qB md ops ks L && mixB md ops s (runSet L ks)
 | .f ks :: s, L => fB md ops ks L && mixB md ops s (runSet L ks)
 | .p i j :: s, L => decide (Region.ready md ops L = [i, j]) && fB md ops [j] (runSet L [i]) && fB md ops [i] (runSet L [j]) && (ops[i]?).isSome && (ops[j]?).isSome && (runSet L [j, i] == runSet L [i, j]) && mixB md ops s (runSet L [i, j])
def lenS : List Stp → Nat
 | [] => 0
 | .q ks :: s => ks.length + lenS s
 | .f ks :: s => ks.length + lenS s
 | .p _ _ :: s => 2 + lenS s
def wpMix (P : Program) (l : List Oper) (Q : Exit → Act → World → Prop) : List Stp → Act → World → Prop
 | [], a, w => Q .normal a w
 | .q ks :: s, a, w => wpQuiet P l.toArray (fun _ => True) (fun a' => wpMix P l Q s a' w) (pick l ks) a
 | .f ks :: s, a, w => wpList P l.toArray (contF (wpMix P l Q s)) (pick l ks) a w
 | .p i j :: s, a, w => wpList P l.toArray (contF (wpMix P l Q s)) (pick l [i, j]) a w ∧ wpList P l.toArray (contF (wpMix P l Q s)) (pick l [j, i]) a w
theorem wpAny_q {l : List Oper} {Q : Exit → Act → World → Prop} (hQ : ∀ c a a' w, Q (.panic c) a w → Q (.panic c) a' w) (hsel : Region.noSelect l.toArray = true) {X : Act → World → Prop} {n : Nat} :
  ∀ (p : List Nat) (L : Array Bool) (a : Act) (w : World), qB md l.toArray p L = true → (∀ a', X a' w → wpAny P md l.toArray Q n (runSet L p) a' w) → wpQuiet P l.toArray (fun _ => True) (fun a' => X a' w) (pick l p) a →
   wpAny P md l.toArray Q (p.length + n) L a w := by
 intro p
 induction p with
 | nil => intro L a w hB h hx; rw [List.length_nil, Nat.zero_add]; exact h a hx
 | cons i p ih =>
  intro L a w hB h hx
  simp only [qB, Bool.and_eq_true] at hB
  obtain ⟨⟨⟨ho, hr⟩, hf⟩, hB'⟩ := hB
  cases ho2 : l.toArray[i]? with
  | none => rw [ho2] at ho; cases ho
  | some o =>
   rw [ho2] at ho
   have hs1 : simpleOp o = true := by simpa using ho
   have ho' : l[i]? = some o := by simpa using ho2
   rw [pick_cons ho'] at hx
   have hr' : i ∈ Region.ready md l.toArray L := by simpa using hr
   have hq : qOp P l.toArray (fun _ => True) i (wpQuiet P l.toArray (fun _ => True) (fun a' => X a' w) (pick l p)) a := by unfold qOp; simp only [ho2]; exact hx
   obtain ⟨v, hy, hK⟩ := yields_of_quiet ho2 hs1 hq
   rw [List.length_cons, show p.length + 1 + n = (p.length + n) + 1 from by omega]
   exact wpAny_first ho2 (Region.noSelect_spec hsel) (fun c a w h => hQ c _ _ w h) _ L a w (Region.free_spec ho2 hf) hr' hy (ih _ _ _ hB' h hK)
theorem wpAny_f {l : List Oper} {Q : Exit → Act → World → Prop} {X : Act → World → Prop} {n : Nat} :
  ∀ (p : List Nat) (L : Array Bool) (a : Act) (w : World), fB md l.toArray p L = true → (∀ a' w', X a' w' → wpAny P md l.toArray Q n (runSet L p) a' w') → wpList P l.toArray (contF X) (pick l p) a w →
   wpAny P md l.toArray Q (p.length + n) L a w := by
 intro p
 induction p with
 | nil => intro L a w hB h hx; rw [List.length_nil, Nat.zero_add]; exact h a w hx
 | cons k p ih =>
  intro L a w hB h hx
  simp only [fB, Bool.and_eq_true, decide_eq_true_eq] at hB
  obtain ⟨⟨hr, ho⟩, hB'⟩ := hB
  obtain ⟨o, ho⟩ := Option.isSome_iff_exists.1 ho
  have ho' : l[k]? = some o := by simpa using ho
  rw [pick_cons ho'] at hx
  rw [List.length_cons, show p.length + 1 + n = (p.length + n) + 1 from by omega]
  refine ⟨fun h1 => (by rw [hr] at h1; cases h1), fun i hi => ?_⟩
  rw [hr] at hi
  have hik : i = k := by simpa using hi
  subst hik
  have hw : wpOp P l.toArray (contF X) i (wpList P l.toArray (contF X) (pick l p)) a w := by unfold wpOp; simp only [ho]; exact hx
  exact wpOp_mono (fun a' w' h' => ih _ _ _ hB' h h') (wpOp_F hw)
theorem wpAny_mix {l : List Oper} {Q : Exit → Act → World → Prop} (hQ : ∀ c a a' w, Q (.panic c) a w → Q (.panic c) a' w) (hsel : Region.noSelect l.toArray = true) :
  ∀ (s : List Stp) (L : Array Bool) (a : Act) (w : World), mixB md l.toArray s L = true → wpMix P l Q s a w → wpAny P md l.toArray Q (lenS s) L a w := by
 intro s
 induction s with
 | nil => intro L a w hB h; exact ⟨by simpa [mixB] using hB, h⟩
 | cons st s ih =>
  intro L a w hB h
  cases st with
  | q ks =>
   simp only [mixB, Bool.and_eq_true] at hB
   exact wpAny_q hQ hsel (X := wpMix P l Q s) ks L a w hB.1 (fun a' h' => ih _ _ _ hB.2 h') h
  | f ks =>
   simp only [mixB, Bool.and_eq_true] at hB
   exact wpAny_f ks L a w hB.1 (fun a' w' h' => ih _ _ _ hB.2 h') h
  | p i j =>
   simp only [mixB, Bool.and_eq_true, decide_eq_true_eq, beq_iff_eq] at hB
   obtain ⟨⟨⟨⟨⟨⟨hr, h1⟩, h2⟩, hi⟩, hj⟩, he⟩, hB'⟩ := hB
   obtain ⟨ha, hb⟩ := h
   show wpAny P md l.toArray Q (2 + lenS s) L a w
   rw [show 2 + lenS s = (1 + lenS s) + 1 from by omega]
   refine ⟨fun h1 => (by rw [hr] at h1; cases h1), fun k hk => ?_⟩
   rw [hr] at hk
   rcases (by simpa using hk : k = i ∨ k = j) with rfl | rfl
   ·obtain ⟨o, ho⟩ := Option.isSome_iff_exists.1 hi
    have ho' : l[k]? = some o := by simpa using ho
    rw [pick_cons ho'] at ha
    have hw : wpOp P l.toArray (contF (wpMix P l Q s)) k (wpList P l.toArray (contF (wpMix P l Q s)) (pick l [j])) a w := by unfold wpOp; simp only [ho]; exact ha
    exact wpOp_mono (fun a' w' h' => wpAny_f [j] _ a' w' h1 (fun a'' w'' h'' => ih _ _ _ hB' h'') h') (wpOp_F hw)
   ·obtain ⟨o, ho⟩ := Option.isSome_iff_exists.1 hj
    have ho' : l[k]? = some o := by simpa using ho
    rw [pick_cons ho'] at hb
    have hw : wpOp P l.toArray (contF (wpMix P l Q s)) k (wpList P l.toArray (contF (wpMix P l Q s)) (pick l [i])) a w := by unfold wpOp; simp only [ho]; exact hb
    refine wpOp_mono (fun a' w' h' => wpAny_f [i] _ a' w' h2 (fun a'' w'' h'' => ?_) h') (wpOp_F hw)
    have := ih _ _ _ hB' h''
    rw [← he] at this
    exact this
end
end Go.Proofs.YtlapeoboekchpaaGreatDoor
set_option linter.unusedVariables false
set_option linter.unusedSimpArgs false
namespace Go.Proofs.YtlapeoboekchpaaGreatDoor
open Go.RowKit
section
variable {P : Program} {md : Region.Mode} {ops : Array Oper} {Q : Exit → Act → World → Prop} {C : World → Prop}
def stillB : Callee → Bool
 | .builtin .len | .builtin .max | .builtin .min | .builtin .cap => true
 | _ => false
def stillOp (o : Oper) : Bool := simpleOp o || (match o.op with | .load .. => true | .call c => stillB c.callee | _ => false)
theorem stillOp_value {o : Oper} (h : stillOp o = true) {ρ : Operand → Value} {w w1 : World} {n : Next} (hr : (execOp ρ o).run P w = .ok n w1) : ∃ v, n = .value v := by
 unfold stillOp at h
 rw [Bool.or_eq_true] at h
 rcases h with h | h
 ·exact simpleOp_value h hr
 ·split at h
  ·rename_i e
   unfold execOp at hr
   rw [e] at hr
   exact value_of_bind _ hr
  ·rename_i c e
   unfold execOp at hr
   rw [e] at hr
   unfold stillB at h
   split at h
   all_goals first
    | (rename_i e2; simp only [resolve, e2, Sem.run_bind, Sem.run_pure, Result.andThen_ok, invoke, builtin] at hr; exact value_of_bind _ (by simpa only [Sem.run_bind, Sem.run_pure] using hr))
    | cases h
  ·cases h
def YieldsX (P : Program) (ops : Array Oper) (C : World → Prop) (o : Oper) (v : Value) (a : Act) : Prop :=
 (Region.wanted o (yielded ops a.tmps) = true ∧ ∀ w, C w → (execOp a.eval o).run P w = .ok (.value v) w) ∨ (Region.wanted o (yielded ops a.tmps) = false ∧ v = undef)
theorem yieldsX_of_quiet {i : Nat} {o : Oper} {a : Act} {K : Act → Prop} (hi : ops[i]? = some o) (hs : stillOp o = true) (h : qOp P ops C i K a) : ∃ v, YieldsX P ops C o v a ∧ K (a.put o.dst v) := by
 obtain ⟨v, hy, hK⟩ := yieldsIn_of_qOp hi h
 refine ⟨v, ?_, hK⟩
 rcases hy with ⟨hw, hy⟩ | ⟨hw, rfl⟩
 ·refine Or.inl ⟨hw, fun w hC => ?_⟩
  have h1 := hy w hC
  unfold Oper.quietAt at h1
  generalize hr : (execOp a.eval o).run P w = r at h1
  cases r with
  | ok n w' =>
   obtain ⟨u, rfl⟩ := stillOp_value hs hr
   simp only [Oper.quietUpon] at h1
   rw [h1.1, h1.2]
  | halt x w' => simp only [Oper.quietUpon] at h1
 ·exact Or.inr ⟨hw, rfl⟩
theorem YieldsX.wpOp {i : Nat} {o : Oper} {v : Value} {a : Act} (hi : ops[i]? = some o) (hy : YieldsX P ops C o v a) {K : Act → World → Prop} {w : World} (hC : C w) (h : K (a.put o.dst v) w) : wpOp P ops Q i K a w := by
 unfold Go.wpOp
 simp only [hi]
 rcases hy with ⟨hw, hv⟩ | ⟨hw, rfl⟩
 ·simp only [hw, if_true, Oper.wp, hv w hC, Oper.upon]; exact .inl h
 ·simp only [hw, Bool.false_eq_true, if_false]; exact h
theorem YieldsX.of_same {o : Oper} {v : Value} {a a' : Act} (hy : YieldsX P ops C o v a) (he : execOp a'.eval o = execOp a.eval o)
  (hw : Region.wanted o (yielded ops a'.tmps) = Region.wanted o (yielded ops a.tmps)) : YieldsX P ops C o v a' := by
 unfold YieldsX at *
 rw [he, hw]
 exact hy
theorem wpOp_putX {j : Nat} {oi oj : Oper} {v : Value} (hj : ops[j]? = some oj) (hap : oi.apart ops oj = true)
  (hsi : ∀ cs b, oi.op ≠ .select cs b) (hsj : ∀ cs b, oj.op ≠ .select cs b)
  (hQ : ∀ c a w, Q (.panic c) (a.put oi.dst v) w → Q (.panic c) a w) {K : Act → World → Prop} {a : Act} {w : World}
  (hy : YieldsX P ops C oi v a) (h : wpOp P ops Q j K (a.put oi.dst v) w) :
  wpOp P ops Q j (fun a' w' => YieldsX P ops C oi v a' ∧ K (a'.put oi.dst v) w') a w := by
 obtain ⟨h1, h2, h3⟩ := Oper.apart_spec hap
 have keep : ∀ (a : Act), YieldsX P ops C oi v a → ∀ u, YieldsX P ops C oi v (a.put oj.dst u) := fun a hy u =>
  hy.of_same (execOp_put oi hsi a oj.dst u h3) (wanted_put oi a oj.dst u h3)
 have keepD : ∀ d, YieldsX P ops C oi v { a with defers := d :: a.defers } := fun d => hy.of_same rfl rfl
 unfold wpOp at *
 simp only [hj] at *
 rw [wanted_put oj a oi.dst v h1] at h
 split
 ·rename_i hw
  simp only [hw, if_true] at h
  rcases h with h | ⟨hasks, hlets⟩
  case inr => exact .inr ⟨by unfold Oper.asks at *; rw [execOp_put oj hsj a oi.dst v h1] at hasks; exact hasks, hlets⟩
  refine .inl ?_
  unfold Oper.wp at *
  rw [execOp_put oj hsj a oi.dst v h1] at h
  generalize (execOp a.eval oj).run P w = r at *
  cases r with
  | ok n w' =>
   cases n <;> simp only [Oper.upon] at h ⊢
   case value u => exact ⟨keep a hy u, by rw [← Act.put_comm a v u h2]; exact h⟩
   case skip => exact ⟨keep a hy _, by rw [← Act.put_comm a v undef h2]; exact h⟩
   case defer d =>
    refine ⟨keep _ (keepD d) _, ?_⟩
    rw [← Act.put_comm _ v undef h2, ← Act.put_defers]
    exact h
   case enter f args =>
    refine Calls.mono h fun e w'' he => ?_
    cases e with
    | returned u => exact ⟨keep a hy u, by rw [← Act.put_comm a v u h2]; exact he⟩
    | panicked c => exact hQ _ _ _ he
    | outgrown => exact he
   case row row args => exact Rows.mono h fun u w'' he => ⟨keep a hy u, by rw [← Act.put_comm a v u h2]; exact he⟩
  | halt x w' =>
   cases x <;> simp only [Oper.upon] at h ⊢
   case panic u => exact hQ _ _ _ h
 ·rename_i hw
  simp only [hw] at h
  exact ⟨keep a hy _, by rw [← Act.put_comm a v undef h2]; exact h⟩
def wpAnyC (P : Program) (md : Region.Mode) (ops : Array Oper) (C : World → Prop) (Q : Exit → Act → World → Prop) (n1 m : Nat) : Nat → Array Bool → Act → World → Prop
 | 0, listed, a, w => (∀ j, j < n1 → listed.getD j true = true) ∧ wpAny P md ops Q m listed a w
 | fuel + 1, listed, a, w => Region.ready md ops listed ≠ [] ∧ ∀ i ∈ Region.ready md ops listed, wpOp P ops Q i (fun a' w' => C w' ∧ wpAnyC P md ops C Q n1 m fuel (listed.setIfInBounds i true) a' w') a w
theorem wpAny_of_C {n1 m : Nat} : ∀ (f : Nat) (listed : Array Bool) (a : Act) (w : World), wpAnyC P md ops C Q n1 m f listed a w → wpAny P md ops Q (f + m) listed a w := by
 intro f
 induction f with
 | zero => intro listed a w h; rw [Nat.zero_add]; exact h.2
 | succ f ih =>
  intro listed a w h
  rw [show f + 1 + m = (f + m) + 1 by omega]
  exact ⟨fun h0 => absurd h0 h.1, fun i hi => wpOp_mono (fun _ _ h' => ih _ _ _ h'.2) (h.2 i hi)⟩
def phaseB (md : Region.Mode) (ops : Array Oper) (n1 : Nat) : Bool :=
 (List.range ops.size).all fun j => decide (j < n1) || (List.range n1).all fun i => Region.waitsFor md ops j i
theorem phase_ready {n1 i j : Nat} {listed : Array Bool} (hp : phaseB md ops n1 = true) (hi : i < n1) (hun : listed.getD i true = false) (hj : j ∈ Region.ready md ops listed) : j < n1 := by
 obtain ⟨_, oj, hoj, hall⟩ := mem_ready.1 hj
 have hlt : j < ops.size := (Array.getElem?_eq_some_iff.1 hoj).1
 have h1 := List.all_eq_true.1 hp j (List.mem_range.2 hlt)
 simp only [Bool.or_eq_true, decide_eq_true_eq] at h1
 rcases h1 with h1 | h1
 ·exact h1
 ·obtain ⟨o', ho', e, he, hb, hon⟩ := Region.waitsFor_spec (List.all_eq_true.1 h1 i (List.mem_range.2 hi))
  have : o' = oj := Option.some.inj (ho'.symm.trans hoj)
  subst this
  have h2 := hall e he hb
  rw [hon, getD_both hun] at h2
  cases h2
theorem wpAnyC_first {n1 m i : Nat} {oi : Oper} {v : Value} (hp : phaseB md ops n1 = true) (hin : i < n1) (hi : ops[i]? = some oi) (hsel : ∀ (j : Nat) (o : Oper) cs b, ops[j]? = some o → o.op ≠ .select cs b)
  (hQ : ∀ c a w, Q (.panic c) (a.put oi.dst v) w → Q (.panic c) a w) :
  ∀ (fuel : Nat) (listed : Array Bool) (a : Act) (w : World), C w →
   (∀ j oj, ops[j]? = some oj → j ≠ i → listed.getD j true = false → (∀ e ∈ oj.after, Region.binds md e = true → e.on ≠ i) → oi.apart ops oj = true) →
   i ∈ Region.ready md ops listed → YieldsX P ops C oi v a →
   wpAnyC P md ops C Q n1 m fuel (listed.setIfInBounds i true) (a.put oi.dst v) w → wpAnyC P md ops C Q n1 m (fuel + 1) listed a w := by
 intro fuel
 induction fuel with
 | zero =>
  intro listed a w hC _ hr hy H
  refine ⟨fun h => (by rw [h] at hr; cases hr), fun j hj => ?_⟩
  by_cases hji : j = i
  ·subst hji; exact hy.wpOp hi hC ⟨hC, H⟩
  ·have hjn := phase_ready hp hin (mem_ready.1 hr).1 hj
   have h1 := H.1 j hjn
   rw [getD_set_ne true (Ne.symm hji), (mem_ready.1 hj).1] at h1
   cases h1
 | succ fuel ih =>
  intro listed a w hC hfree hr hy H
  refine ⟨fun h => (by rw [h] at hr; cases hr), fun j hj => ?_⟩
  by_cases hji : j = i
  ·subst hji; exact hy.wpOp hi hC ⟨hC, H⟩
  ·have h1 := H.2 j (ready_mono hj hji)
   obtain ⟨hjun, oj, hoj, hall⟩ := mem_ready.1 hj
   have hnot : ∀ e ∈ oj.after, Region.binds md e = true → e.on ≠ i := fun e he hb heq => by
    have h1 := hall e he hb
    have h0 := (mem_ready.1 hr).1
    rw [heq] at h1
    rcases Nat.lt_or_ge i listed.size with h' | h'
    ·simp [h'] at h0 h1; rw [h0] at h1; cases h1
    ·simp [Array.getElem?_eq_none h'] at h1
   have h2 := wpOp_putX hoj (hfree j oj hoj hji hjun hnot) (fun cs b => hsel i oi cs b hi) (fun cs b => hsel j oj cs b hoj) hQ hy h1
   have hfree' : ∀ k ok, ops[k]? = some ok → k ≠ i → (listed.setIfInBounds j true).getD k true = false →
     (∀ e ∈ ok.after, Region.binds md e = true → e.on ≠ i) → oi.apart ops ok = true := fun k ok hk hki hun hno => by
    refine hfree k ok hk hki ?_ hno
    by_cases hjk : j = k
    ·subst hjk; exact hjun
    ·rw [getD_set_ne true hjk] at hun; exact hun
   refine wpOp_mono (fun a' w' h3 => ⟨h3.2.1, ih (listed.setIfInBounds j true) a' w' h3.2.1 hfree' (ready_mono hr (Ne.symm hji)) h3.1 ?_⟩) h2
   rw [Array.setIfInBounds_comm _ _ hji]
   exact h3.2.2
def qcB (md : Region.Mode) (ops : Array Oper) (n1 : Nat) : List Nat → Array Bool → Bool
 | [], _ => true
 | k :: p, L => decide (k < n1) && ((ops[k]?).map stillOp).getD false && (Region.ready md ops L).contains k && Region.free md ops L k && qcB md ops n1 p (L.setIfInBounds k true)
def mixcB (md : Region.Mode) (ops : Array Oper) (n1 : Nat) (s2 : List Stp) : List Stp → Array Bool → Bool
 | [], L => (List.range n1).all (fun j => L.getD j true) && mixB md ops s2 L
 | .q ks :: s, L => qcB md ops n1 ks L && mixcB md ops n1 s2 s (runSet L ks)
 | .f ks :: s, L => fB md ops ks L && mixcB md ops n1 s2 s (runSet L ks)
 | .p i j :: s, L => decide (Region.ready md ops L = [i, j]) && fB md ops [j] (runSet L [i]) && fB md ops [i] (runSet L [j]) && (ops[i]?).isSome && (ops[j]?).isSome && (runSet L [j, i] == runSet L [i, j]) && mixcB md ops n1 s2 s (runSet L [i, j])
def wpSteps (P : Program) (ops : Array Oper) (C : World → Prop) (X : Act → World → Prop) : List Oper → Act → World → Prop
 | [], a, w => X a w
 | o :: rest, a, w => wpList P ops (contF fun a' w' => C w' ∧ wpSteps P ops C X rest a' w') [o] a w
def wpMixC (P : Program) (l : List Oper) (C : World → Prop) (Q : Exit → Act → World → Prop) (s2 : List Stp) : List Stp → Act → World → Prop
 | [], a, w => wpMix P l Q s2 a w
 | .q ks :: s, a, w => wpQuiet P l.toArray C (fun a' => wpMixC P l C Q s2 s a' w) (pick l ks) a
 | .f ks :: s, a, w => wpSteps P l.toArray C (wpMixC P l C Q s2 s) (pick l ks) a w
 | .p i j :: s, a, w => wpSteps P l.toArray C (wpMixC P l C Q s2 s) (pick l [i, j]) a w ∧ wpSteps P l.toArray C (wpMixC P l C Q s2 s) (pick l [j, i]) a w
theorem wpAnyC_q {l : List Oper} {Q : Exit → Act → World → Prop} {n1 m : Nat} (hp : phaseB md l.toArray n1 = true) (hQ : ∀ c a a' w, Q (.panic c) a w → Q (.panic c) a' w) (hsel : Region.noSelect l.toArray = true) {X : Act → World → Prop} {n : Nat} :
  ∀ (p : List Nat) (L : Array Bool) (a : Act) (w : World), C w → qcB md l.toArray n1 p L = true → (∀ a', X a' w → wpAnyC P md l.toArray C Q n1 m n (runSet L p) a' w) → wpQuiet P l.toArray C (fun a' => X a' w) (pick l p) a →
   wpAnyC P md l.toArray C Q n1 m (p.length + n) L a w := by
 intro p
 induction p with
 | nil => intro L a w hC hB h hx; rw [List.length_nil, Nat.zero_add]; exact h a hx
 | cons i p ih =>
  intro L a w hC hB h hx
  simp only [qcB, Bool.and_eq_true, decide_eq_true_eq] at hB
  obtain ⟨⟨⟨⟨hin, ho⟩, hr⟩, hf⟩, hB'⟩ := hB
  cases ho2 : l.toArray[i]? with
  | none => rw [ho2] at ho; cases ho
  | some o =>
   rw [ho2] at ho
   have hs1 : stillOp o = true := by simpa using ho
   have ho' : l[i]? = some o := by simpa using ho2
   rw [pick_cons ho'] at hx
   have hr' : i ∈ Region.ready md l.toArray L := by simpa using hr
   have hq : qOp P l.toArray C i (wpQuiet P l.toArray C (fun a' => X a' w) (pick l p)) a := by unfold qOp; simp only [ho2]; exact hx
   obtain ⟨v, hy, hK⟩ := yieldsX_of_quiet ho2 hs1 hq
   rw [List.length_cons, show p.length + 1 + n = (p.length + n) + 1 from by omega]
   exact wpAnyC_first hp hin ho2 (Region.noSelect_spec hsel) (fun c a w h => hQ c _ _ w h) _ L a w hC (Region.free_spec ho2 hf) hr' hy (ih _ _ _ hC hB' h hK)
theorem wpAnyC_f {l : List Oper} {Q : Exit → Act → World → Prop} {X : Act → World → Prop} {n n1 m : Nat} :
  ∀ (p : List Nat) (L : Array Bool) (a : Act) (w : World), C w → fB md l.toArray p L = true → (∀ a' w', C w' → X a' w' → wpAnyC P md l.toArray C Q n1 m n (runSet L p) a' w') → wpSteps P l.toArray C X (pick l p) a w →
   wpAnyC P md l.toArray C Q n1 m (p.length + n) L a w := by
 intro p
 induction p with
 | nil => intro L a w hC hB h hx; rw [List.length_nil, Nat.zero_add]; exact h a w hC hx
 | cons k p ih =>
  intro L a w hC hB h hx
  simp only [fB, Bool.and_eq_true, decide_eq_true_eq] at hB
  obtain ⟨⟨hr, ho⟩, hB'⟩ := hB
  obtain ⟨o, ho⟩ := Option.isSome_iff_exists.1 ho
  have ho' : l[k]? = some o := by simpa using ho
  rw [pick_cons ho'] at hx
  rw [List.length_cons, show p.length + 1 + n = (p.length + n) + 1 from by omega]
  refine ⟨fun h1 => (by rw [hr] at h1; cases h1), fun i hi => ?_⟩
  rw [hr] at hi
  have hik : i = k := by simpa using hi
  subst hik
  rw [wpSteps] at hx
  have hw : wpOp P l.toArray (contF fun a' w' => C w' ∧ wpSteps P l.toArray C X (pick l p) a' w') i (fun a' w' => C w' ∧ wpSteps P l.toArray C X (pick l p) a' w') a w := by
   unfold wpOp; simp only [ho]; exact hx
  exact wpOp_mono (fun a' w' h' => ⟨h'.1, ih _ _ _ h'.1 hB' h h'.2⟩) (wpOp_F hw)
theorem wpAnyC_mix {l : List Oper} {Q : Exit → Act → World → Prop} {n1 : Nat} {s2 : List Stp} (hp : phaseB md l.toArray n1 = true) (hQ : ∀ c a a' w, Q (.panic c) a w → Q (.panic c) a' w) (hsel : Region.noSelect l.toArray = true) :
  ∀ (s : List Stp) (L : Array Bool) (a : Act) (w : World), C w → mixcB md l.toArray n1 s2 s L = true → wpMixC P l C Q s2 s a w → wpAnyC P md l.toArray C Q n1 (lenS s2) (lenS s) L a w := by
 intro s
 induction s with
 | nil =>
  intro L a w hC hB h
  simp only [mixcB, Bool.and_eq_true] at hB
  exact ⟨fun j hj => List.all_eq_true.1 hB.1 j (List.mem_range.2 hj), wpAny_mix hQ hsel s2 L a w hB.2 h⟩
 | cons st s ih =>
  intro L a w hC hB h
  cases st with
  | q ks =>
   simp only [mixcB, Bool.and_eq_true] at hB
   exact wpAnyC_q hp hQ hsel (X := wpMixC P l C Q s2 s) ks L a w hC hB.1 (fun a' h' => ih _ _ _ hC hB.2 h') h
  | f ks =>
   simp only [mixcB, Bool.and_eq_true] at hB
   exact wpAnyC_f ks L a w hC hB.1 (fun a' w' hC' h' => ih _ _ _ hC' hB.2 h') h
  | p i j =>
   simp only [mixcB, Bool.and_eq_true, decide_eq_true_eq, beq_iff_eq] at hB
   obtain ⟨⟨⟨⟨⟨⟨hr, h1⟩, h2⟩, hi⟩, hj⟩, he⟩, hB'⟩ := hB
   obtain ⟨ha, hb⟩ := h
   show wpAnyC P md l.toArray C Q n1 (lenS s2) (2 + lenS s) L a w
   rw [show 2 + lenS s = (1 + lenS s) + 1 from by omega]
   refine ⟨fun h1 => (by rw [hr] at h1; cases h1), fun k hk => ?_⟩
   rw [hr] at hk
   rcases (by simpa using hk : k = i ∨ k = j) with rfl | rfl
   ·obtain ⟨o, ho⟩ := Option.isSome_iff_exists.1 hi
    have ho' : l[k]? = some o := by simpa using ho
    rw [pick_cons ho', wpSteps] at ha
    have hw : wpOp P l.toArray (contF fun a' w' => C w' ∧ wpSteps P l.toArray C (wpMixC P l C Q s2 s) (pick l [j]) a' w') k (fun a' w' => C w' ∧ wpSteps P l.toArray C (wpMixC P l C Q s2 s) (pick l [j]) a' w') a w := by
     unfold wpOp; simp only [ho]; exact ha
    exact wpOp_mono (fun a' w' h' => ⟨h'.1, wpAnyC_f [j] _ a' w' h'.1 h1 (fun a'' w'' hC'' h'' => ih _ _ _ hC'' hB' h'') h'.2⟩) (wpOp_F hw)
   ·obtain ⟨o, ho⟩ := Option.isSome_iff_exists.1 hj
    have ho' : l[k]? = some o := by simpa using ho
    rw [pick_cons ho', wpSteps] at hb
    have hw : wpOp P l.toArray (contF fun a' w' => C w' ∧ wpSteps P l.toArray C (wpMixC P l C Q s2 s) (pick l [i]) a' w') k (fun a' w' => C w' ∧ wpSteps P l.toArray C (wpMixC P l C Q s2 s) (pick l [i]) a' w') a w := by
     unfold wpOp; simp only [ho]; exact hb
    refine wpOp_mono (fun a' w' h' => ⟨h'.1, wpAnyC_f [i] _ a' w' h'.1 h2 (fun a'' w'' hC'' h'' => ?_) h'.2⟩) (wpOp_F hw)
    have := ih _ _ _ hC'' hB' h''
    rw [← he] at this
    exact this
def mixcAllB (l : List Oper) (n1 : Nat) (s s2 : List Stp) : Bool :=
 Region.noSelect l.toArray && phaseB .any l.toArray n1 && decide (lenS s + lenS s2 = l.length) && mixcB .any l.toArray n1 s2 s (Array.replicate l.length false)
theorem wp_mixC (C : World → Prop) {id : Nat} {a : Act} {w : World} {l : List Oper} (n1 : Nat) (s s2 : List Stp) (hm : P.follows .mixedOrders = true) (hB : mixcAllB l n1 s s2 = true) (hC : C w.drew)
  (h : ∀ Q' : Exit → Act → World → Prop, (∀ a w, Q .normal a w → Q' .normal a w) → wpMixC P l C Q' s2 s a w.drew) :
  (Code.region id l.toArray true).wp P Q a w := by
 simp only [mixcAllB, Bool.and_eq_true, decide_eq_true_eq] at hB
 obtain ⟨⟨⟨hsel, hp⟩, hlen⟩, hB⟩ := hB
 refine Code.wp_mono (Q := noPan Q) (fun e a w hq => by cases e <;> first | exact hq | exact (hq : False).elim) ?_
 refine wp_region_any hm ?_
 have := wpAny_of_C (C := C) _ _ _ _ (wpAnyC_mix (md := .any) (Q := noPan Q) hp (fun c a a' w hq => hq) hsel s (Array.replicate l.length false) a w.drew hC hB (h (noPan Q) fun _ _ h => h))
 rw [show lenS s + lenS s2 = l.toArray.size from by simp; omega] at this
 simpa using this
end
theorem run_load_cell {P : Program} {o : Oper} {a : Act} {w : World} {ty : TypeId} {x : Operand} {p : Addr} {v : Value} (ho : o.op = .load ty x) (hx : a.eval x = .pointer (some p)) (hd : ∀ w, (isAgg ty).run P w = .ok false w) (hc : w.cell? p = some v) :
  (execOp a.eval o).run P w = .ok (.value v) w := by
 unfold execOp
 simp only [ho, hx]
 simp [go_sem, hc, hd]
def aggB (P : Program) (ty : TypeId) : Bool := match P.underlying ty with | some (.struct _) | some (.array _ _) | none => true | _ => false
theorem isAgg_no {P : Program} {ty : TypeId} (h : aggB P ty = false) (w : World) : (isAgg ty).run P w = .ok false w := by
 unfold aggB at h
 cases e : P.underlying ty with
 | none => rw [e] at h; cases h
 | some d =>
  rw [e] at h
  simp only [isAgg, Sem.run_bind, run_underlying e, Result.andThen_ok]
  split
  ·cases h
  ·cases h
  ·rfl
theorem quiet_cellB {P : Program} {o : Oper} {a : Act} {B : Nat} {w0 : World} {K : Act → Prop} {ty : TypeId} {x : Operand} {b off : Nat} {v : Value} (ho : o.op = .load ty x) (hx : a.eval x = .pointer (some ⟨b, off, none⟩)) (hd : aggB P ty = false)
  (hc : w0.cell? ⟨b, off, none⟩ = some v) (hb : b < B) (hK : K (a.put o.dst v)) : o.quiet P a (fun w' => Below B w0 w') K :=
 quiet_val v (fun w hw => run_load_cell ho hx (isAgg_no hd) ((hw.cell (p := ⟨b, off, none⟩) hb).trans hc)) hK
end Go.Proofs.YtlapeoboekchpaaGreatDoor
set_option linter.unusedVariables false
set_option linter.unusedSimpArgs false
namespace Go.Proofs.YtlapeoboekchpaaGreatDoor
open Go.RowKit
theorem add_plain' (g i j : Nat) : (⟨g, i, none⟩ : Addr).add j = ⟨g, i + j, none⟩ := by unfold Addr.add; split <;> simp_all
def flat (n sz : Nat) (c : Nat → Nat → Value) : List Value := (List.range (n * sz)).map fun q => c (q / sz) (q % sz)
theorem flat_at {n sz : Nat} {c : Nat → Nat → Value} {q : Nat} {u : Value} (h : (flat n sz c)[q]? = some u) : q < n * sz ∧ u = c (q / sz) (q % sz) := by
 have hq : q < n * sz := by have := (List.getElem?_eq_some_iff.1 h).1; simpa [flat] using this
 refine ⟨hq, ?_⟩
 simp [flat, hq] at h
 exact h.symm
theorem flat_ints (l : List Int) : flat l.length 1 (fun i _ => .int .i64 (nth l i)) = l.map (Value.int .i64) := by
 apply List.ext_getElem (by simp [flat])
 intro i h1 h2
 have h3 : i < l.length := by simpa using h2
 simp [flat, nth, List.getD, h3]
theorem SlAt.src {w : World} {v : Value} {n sz : Nat} {c : Nat → Nat → Value} (h : SlAt w v n sz c) : ∃ ao cap, v = .slice ao n cap ∧ n ≤ cap ∧ cap ≤ maxLen ∧
  ∀ W : World, Below w.heap.size w W → ((ao = none ∧ n = 0 ∧ cap = 0) ∨ ∃ ad, ao = some ad ∧ ∀ q u, (flat n sz c)[q]? = some u → W.cell? (ad.add q) = some u) := by
 obtain ⟨ao, cap, rfl, h1, h2, h3, h4⟩ := h
 refine ⟨ao, cap, rfl, h1, h2, fun W hW => ?_⟩
 by_cases hn : 0 < n
 ·obtain ⟨b, off, e, hlt, hc⟩ := h3 hn
  refine Or.inr ⟨_, e, fun q u hq => ?_⟩
  obtain ⟨hq1, rfl⟩ := flat_at hq
  have hs : 0 < sz := Nat.pos_of_ne_zero (by rintro rfl; simp at hq1)
  have hi : q / sz < n := Nat.div_lt_of_lt_mul (by rwa [Nat.mul_comm])
  rw [add_plain', ← hc (q / sz) (q % sz) hi (Nat.mod_lt _ hs), show off + q / sz * sz + q % sz = off + q from by rw [Nat.add_assoc, Nat.mul_comm, Nat.div_add_mod]]
  exact hW.cell (p := ⟨b, off + q, none⟩) hlt
 ·have hn0 : n = 0 := by omega
  subst hn0
  cases ao with
  | none => exact Or.inl ⟨rfl, rfl, h4 rfl⟩
  | some ad => exact Or.inr ⟨ad, rfl, fun q u hq => absurd (flat_at hq).1 (by omega)⟩
theorem IntsAt.src {w : World} {v : Value} {l : List Int} (h : IntsAt w v l) : ∃ ao cap, v = .slice ao l.length cap ∧ l.length ≤ cap ∧ cap ≤ maxLen ∧
  ∀ W : World, Below w.heap.size w W → ((ao = none ∧ l.length = 0 ∧ cap = 0) ∨ ∃ ad, ao = some ad ∧ ∀ q u, (l.map (Value.int .i64))[q]? = some u → W.cell? (ad.add q) = some u) := by
 have := SlAt.src h
 rwa [show flat l.length 1 (fun i _ => Value.int .i64 (l.getD i 0)) = l.map (Value.int .i64) from flat_ints l] at this
def SlIn (w : World) (v : Value) (n sz : Nat) (c : Nat → Nat → Value) (N : Nat → Prop) : Prop :=
 ∃ ao cap, v = .slice ao n cap ∧ n ≤ cap ∧ cap ≤ maxLen ∧
  (0 < n → ∃ b off, ao = some ⟨b, off, none⟩ ∧ b < w.heap.size ∧ N b ∧ ∀ i j, i < n → j < sz → w.cell? ⟨b, off + i * sz + j, none⟩ = some (c i j)) ∧ (ao = none → cap = 0)
theorem SlIn.sl {w : World} {v : Value} {n sz : Nat} {c : Nat → Nat → Value} {N : Nat → Prop} (h : SlIn w v n sz c N) : SlAt w v n sz c := by
 obtain ⟨ao, cap, rfl, h1, h2, h3, h4⟩ := h
 refine ⟨ao, cap, rfl, h1, h2, fun h0 => ?_, h4⟩
 obtain ⟨b, off, e, hlt, _, hc⟩ := h3 h0
 exact ⟨b, off, e, hlt, hc⟩
theorem cell_of_heap {w w' : World} {b o : Nat} (h : w'.heap[b]? = w.heap[b]?) : w'.cell? ⟨b, o, none⟩ = w.cell? ⟨b, o, none⟩ := by
 simp only [World.cell?, h]
theorem SlIn.keep {w w' : World} {v : Value} {n sz : Nat} {c : Nat → Nat → Value} {N N' : Nat → Prop} (h : SlIn w v n sz c N) (hs : w.heap.size ≤ w'.heap.size) (hk : ∀ b, b < w.heap.size → N b → w'.heap[b]? = w.heap[b]? ∧ N' b) : SlIn w' v n sz c N' := by
 obtain ⟨ao, cap, rfl, h1, h2, h3, h4⟩ := h
 refine ⟨ao, cap, rfl, h1, h2, fun h0 => ?_, h4⟩
 obtain ⟨b, off, e, hlt, hN, hc⟩ := h3 h0
 obtain ⟨h5, h6⟩ := hk b hlt hN
 exact ⟨b, off, e, Nat.lt_of_lt_of_le hlt hs, h6, fun i j hi hj => (cell_of_heap h5).trans (hc i j hi hj)⟩
def Pair2 (w : World) (b : Nat) (x y : Value) : Prop := b < w.heap.size ∧ w.cell? ⟨b, 0, none⟩ = some x ∧ w.cell? ⟨b, 1, none⟩ = some y
theorem Pair2.below {w w' : World} {b : Nat} {x y : Value} (h : Pair2 w b x y) (hb : Below w.heap.size w w') : Pair2 w' b x y :=
 ⟨Nat.lt_of_lt_of_le h.1 hb.size, (hb.cell (p := ⟨b, 0, none⟩) h.1).trans h.2.1, (hb.cell (p := ⟨b, 1, none⟩) h.1).trans h.2.2⟩
def Quad (w : World) (b : Nat) (x y z u : Value) : Prop := b < w.heap.size ∧ w.cell? ⟨b, 0, none⟩ = some x ∧ w.cell? ⟨b, 1, none⟩ = some y ∧ w.cell? ⟨b, 2, none⟩ = some z ∧ w.cell? ⟨b, 3, none⟩ = some u
theorem Quad.below {w w' : World} {b : Nat} {x y z u : Value} (h : Quad w b x y z u) (hb : Below w.heap.size w w') : Quad w' b x y z u :=
 ⟨Nat.lt_of_lt_of_le h.1 hb.size, (hb.cell (p := ⟨b, 0, none⟩) h.1).trans h.2.1, (hb.cell (p := ⟨b, 1, none⟩) h.1).trans h.2.2.1, (hb.cell (p := ⟨b, 2, none⟩) h.1).trans h.2.2.2.1, (hb.cell (p := ⟨b, 3, none⟩) h.1).trans h.2.2.2.2⟩
def scan (f : Nat → Int) (n : Nat) : Int := firstNZ ((List.range n).map f)
theorem scan_end {f : Nat → Int} {n : Nat} (h : ∀ j, j < n → f j = 0) : scan f n = 0 := by
 unfold scan
 rw [firstNZ_zero]
 intro x hx
 obtain ⟨j, hj, rfl⟩ := List.mem_map.1 hx
 exact h j (List.mem_range.1 hj)
theorem scan_zero {f : Nat → Int} {n : Nat} (h : scan f n = 0) : ∀ j, j < n → f j = 0 := by
 unfold scan at h
 rw [firstNZ_zero] at h
 exact fun j hj => h _ (List.mem_map.2 ⟨j, List.mem_range.2 hj, rfl⟩)
theorem scan_at {f : Nat → Int} {n k : Nat} (h : ∀ j, j < k → f j = 0) (hk : k < n) (hne : f k ≠ 0) : scan f n = f k := by
 unfold scan
 obtain ⟨m, rfl⟩ : ∃ m, n = k + (m + 1) := ⟨n - k - 1, by omega⟩
 rw [List.range_add, List.map_append, firstNZ_append_zero]
 ·rw [List.range_succ_eq_map]
  simp [firstNZ, hne]
 ·intro x hx
  obtain ⟨j, hj, rfl⟩ := List.mem_map.1 hx
  exact h j (List.mem_range.1 hj)
def scanI (f : Nat → Int) (n : Nat) : Int := (((List.range n).find? (fun i => f i != 0)).getD 0 : Nat)
theorem scanI_end {f : Nat → Int} {n : Nat} (h : ∀ j, j < n → f j = 0) : scanI f n = 0 := by
 unfold scanI
 rw [List.find?_eq_none.2]
 ·rfl
 ·intro x hx; rw [h x (List.mem_range.1 hx)]; simp
theorem scanI_at {f : Nat → Int} {n k : Nat} (h : ∀ j, j < k → f j = 0) (hk : k < n) (hne : f k ≠ 0) : scanI f n = k := by
 unfold scanI
 obtain ⟨m, rfl⟩ : ∃ m, n = k + (m + 1) := ⟨n - k - 1, by omega⟩
 rw [List.range_add, List.find?_append, List.find?_eq_none.2, List.range_succ_eq_map]
 ·simp [hne]
 ·intro x hx; rw [h x (List.mem_range.1 hx)]; simp
theorem infoInt : (Tryz.prog.info? 3).map (fun i => (i.zero, i.size, i.bytes)) = some (some (.int .i64 0), 1, 8) := by kernel_rfl
end Go.Proofs.YtlapeoboekchpaaGreatDoor
set_option linter.unusedVariables false
set_option linter.unusedSimpArgs false
namespace Go.Proofs.YtlapeoboekchpaaGreatDoor
theorem mul_sz {x y : Int} {A B : Nat} (hx : x.natAbs ≤ A) (hy : y.natAbs ≤ B) : (x * y).natAbs ≤ A * B := by rw [Int.natAbs_mul]; exact Nat.mul_le_mul hx hy
theorem mul_rg {x y A B C : Int} (hx : -A ≤ x ∧ x ≤ A) (hy : -B ≤ y ∧ y ≤ B) (hC : A * B ≤ C) : -C ≤ x * y ∧ x * y ≤ C := by
 have h := mul_sz (x := x) (y := y) (A := A.natAbs) (B := B.natAbs) (by omega) (by omega)
 have e : ((A.natAbs * B.natAbs : Nat) : Int) = A * B := by push_cast; congr 1 <;> omega
 omega
def slackI (drift n : Int) : Int := -((-((n.natAbs : Int) * drift)) / 1000000)
structure Cab where
 (drift skew : Int)
structure Png where
 (sent arr ans back : Int)
def Cab.ok (c : Cab) : Prop := 0 ≤ c.drift ∧ c.drift ≤ 1000 ∧ 0 ≤ c.skew
def Cab.ov (c : Cab) (p : Png) : Int := p.back - p.sent - (p.ans - p.arr)
def Cab.sl (c : Cab) (p : Png) : Int := slackI c.drift (p.ans - p.arr)
def Cab.can (c : Cab) (p : Png) : Prop := 0 ≤ c.ov p + c.sl p
def Cab.dlo (c : Cab) (p : Png) : Int := max 0 ((c.ov p - c.sl p - c.skew) / 2)
def Cab.dhi (c : Cab) (p : Png) : Int := min (c.ov p + c.sl p) (-((-(c.ov p + c.sl p + c.skew)) / 2))
def Cab.blo (c : Cab) (p : Png) (n : Int) : Int := p.sent + c.dlo p + (n - p.arr) - slackI c.drift (n - p.arr)
def Cab.bhi (c : Cab) (p : Png) (n : Int) : Int := p.sent + c.dhi p + (n - p.arr) + slackI c.drift (n - p.arr)
structure Tru where
 (start slow down up : Int)
def Tru.tick (x : Tru) (n : Int) : Int := x.start + n + n * x.slow / 1000000
def Tru.ping (x : Tru) (arr ans : Int) : Png := ⟨x.tick arr - x.down, arr, ans, x.tick ans + x.up⟩
theorem halving {f : Int → Bool} {lo hi : Int} (h : ∀ a b, a ≤ b → f a = true → f b = true) (h1 : ∀ k, k < lo → f k = false) (h2 : f hi = true) (k : Int) (e : lo = hi) : f k = decide (lo ≤ k) := by
 by_cases hk : lo ≤ k
 ·rw [decide_eq_true hk]; exact h hi k (by omega) h2
 ·rw [decide_eq_false hk]; exact h1 k (by omega)
end Go.Proofs.YtlapeoboekchpaaGreatDoor
set_option linter.unusedVariables false
set_option linter.unusedSimpArgs false
namespace Go.Proofs.YtlapeoboekchpaaGreatDoor
structure Lp where
 (tick step : Int)
def lpAll : List Lp → Int
 | [] => 0
 | x :: l => x.step + lpAll l
end Go.Proofs.YtlapeoboekchpaaGreatDoor
set_option linter.unusedVariables false
set_option linter.unusedSimpArgs false
namespace Go.Proofs.YtlapeoboekchpaaGreatDoor
open Go.RowKit
structure Rg where
 (lo hi : Int)
theorem unl_0 {b : Bool} {n : Int} (h : n ≠ 0) : unl b n = 0 ↔ b = true := by cases b <;> simp [unl, h]
theorem fn2' {a b : Int} : firstNZ [a, b] = 0 ↔ a = 0 ∧ b = 0 := by
 simp only [firstNZ]
 by_cases h1 : a = 0 <;> by_cases h2 : b = 0 <;> simp_all
theorem fn2 {a b : Int} (h : firstNZ [a, b] = 0) : a = 0 ∧ b = 0 := fn2'.1 h
theorem fn3 {a b c : Int} (h : firstNZ [a, b, c] = 0) : a = 0 ∧ b = 0 ∧ c = 0 := by
 simp only [firstNZ] at h
 by_cases h1 : a = 0 <;> by_cases h2 : b = 0 <;> by_cases h3 : c = 0 <;> simp_all
def rgAt (l : List Rg) (i : Nat) : Rg := l.getD i ⟨0, 0⟩
def meetR (a b : Rg) : Rg := ⟨max a.lo b.lo, min a.hi b.hi⟩
def idxP {α : Type} (p : α → Bool) (l : List α) : Int := if l.findIdx p < l.length then l.findIdx p else -1
theorem idxP_at {α : Type} {p : α → Bool} {l : List α} {d : α} {k : Nat} (hk : k < l.length) (hz : ∀ j, j < k → p (l.getD j d) = false) (h : p (l.getD k d) = true) : idxP p l = k := by
 have e : l.findIdx p = k := by
  rw [List.findIdx_eq hk]
  refine ⟨by simpa [List.getD, hk] using h, fun j hj => ?_⟩
  have := hz j hj
  simpa [List.getD, show j < l.length by omega] using this
 unfold idxP
 rw [e, if_pos hk]
theorem idxP_none {α : Type} {p : α → Bool} {l : List α} {d : α} (hz : ∀ j, j < l.length → p (l.getD j d) = false) : idxP p l = -1 := by
 have e : l.findIdx p = l.length := by
  rw [List.findIdx_eq_length]
  intro x hx
  obtain ⟨j, hj, rfl⟩ := List.getElem_of_mem hx
  have := hz j hj
  simpa [List.getD, hj] using this
 unfold idxP
 rw [e, if_neg (Nat.lt_irrefl _)]
theorem idxP_or {α : Type} (p : α → Bool) (l : List α) (d : α) : (idxP p l = -1 ∧ ∀ j, j < l.length → p (l.getD j d) = false) ∨ ∃ k : Nat, k < l.length ∧ idxP p l = k ∧ p (l.getD k d) = true ∧ ∀ j, j < k → p (l.getD j d) = false := by
 by_cases h : l.findIdx p < l.length
 ·refine Or.inr ⟨l.findIdx p, h, if_pos h, ?_, fun j hj => ?_⟩
  ·have := List.findIdx_getElem (w := h); simpa [List.getD, h] using this
  ·have := List.not_of_lt_findIdx hj; simpa [List.getD, show j < l.length by omega] using this
 ·refine Or.inl ⟨if_neg h, fun j hj => ?_⟩
  have := List.not_of_lt_findIdx (show j < l.findIdx p by omega)
  simpa [List.getD, hj] using this
theorem idxP_any {α : Type} {p : α → Bool} {l : List α} : l.any p = decide (idxP p l ≥ 0) := by
 unfold idxP
 split
 ·rename_i h
  rw [decide_eq_true (by omega), List.any_eq_true]
  exact ⟨_, List.getElem_mem h, List.findIdx_getElem (w := h)⟩
 ·rename_i h
  rw [decide_eq_false (by omega), Bool.eq_false_iff]
  intro q
  rw [List.any_eq_true] at q
  obtain ⟨x, h1, h2⟩ := q
  exact h (List.findIdx_lt_length_of_exists ⟨x, h1, h2⟩)
def tkB (n : Int) : Bool := inB n 0 1000000000000
theorem tkB_iff {n : Int} : tkB n = true ↔ 0 ≤ n ∧ n ≤ 1000000000000 := inB_true
def pngE (p : Png) : Int := firstNZ [unl (tkB p.sent && tkB p.arr && tkB p.ans && tkB p.back) 2, unl (decide (p.ans ≥ p.arr) && decide (p.back ≥ p.sent)) 9]
def pngOk (p : Png) : Prop := (0 ≤ p.sent ∧ p.sent ≤ p.back ∧ p.back ≤ 1000000000000) ∧ 0 ≤ p.arr ∧ p.arr ≤ p.ans ∧ p.ans ≤ 1000000000000
theorem pngE_0 {p : Png} : pngE p = 0 ↔ pngOk p := by
 unfold pngE pngOk
 rw [fn2', unl_0 (by decide), unl_0 (by decide)]
 simp only [Bool.and_eq_true, tkB_iff, decide_eq_true_eq]
 omega
def cabE (c : Cab) : Int := unl (inB c.drift 0 1000 && inB c.skew 0 1000000) 2
def cabOk (c : Cab) : Prop := (0 ≤ c.drift ∧ c.drift ≤ 1000) ∧ 0 ≤ c.skew ∧ c.skew ≤ 1000000
theorem cabE_0 {c : Cab} : cabE c = 0 ↔ cabOk c := by
 unfold cabE cabOk
 rw [unl_0 (by decide), Bool.and_eq_true, inB_true, inB_true]
theorem cabOk.ok {c : Cab} (h : cabOk c) : c.ok := ⟨h.1.1, h.1.2, h.2.1⟩
theorem slack_rg {d n : Int} (hd : 0 ≤ d ∧ d ≤ 1000) (hn : -4000000000000 ≤ n ∧ n ≤ 4000000000000) : 0 ≤ slackI d n ∧ slackI d n ≤ 4000000000 ∧ (0 ≤ (n.natAbs : Int) * d ∧ (n.natAbs : Int) * d ≤ 4000000000000000) := by
 have h1 := mul_rg (x := (n.natAbs : Int)) (y := d) (A := 4000000000000) (B := 1000) (C := 4000000000000000) (by omega) (by omega) (by decide)
 have h2 := Int.mul_nonneg (show (0 : Int) ≤ (n.natAbs : Int) by omega) hd.1
 unfold slackI
 omega
def canB (c : Cab) (p : Png) : Bool := decide (c.ov p + c.sl p ≥ 0)
def dlR (c : Cab) (p : Png) : Rg := ⟨c.dlo p, c.dhi p⟩
def tmR (c : Cab) (p : Png) : Rg := ⟨p.sent + c.dlo p, p.sent + c.dhi p⟩
def delOk (c : Cab) (p : Png) : Prop := cabOk c ∧ pngOk p
theorem del_rg {c : Cab} {p : Png} (h : delOk c p) : (0 ≤ c.sl p ∧ c.sl p ≤ 4000000000) ∧ (-1000000000000 ≤ c.ov p ∧ c.ov p ≤ 1000000000000) ∧ (0 ≤ c.dlo p ∧ c.dlo p ≤ 1000000000000) ∧ (-1000000000000 ≤ c.dhi p ∧ c.dhi p ≤ 1004000000000) := by
 obtain ⟨⟨h1, h2⟩, h3, h4⟩ := h
 have s := slack_rg (d := c.drift) (n := p.ans - p.arr) h1 (by omega)
 unfold Cab.dlo Cab.dhi Cab.ov Cab.sl
 omega
def Png.zero : Png := ⟨0, 0, 0, 0⟩
def pngAt (l : List Png) (i : Nat) : Png := l.getD i Png.zero
def stpE (l : List Png) (i : Nat) : Int := firstNZ [pngE (pngAt l i), unl (decide ((i : Int) = 0) || (decide ((pngAt l i).sent ≥ (pngAt l (i - 1)).back) && decide ((pngAt l i).arr ≥ (pngAt l (i - 1)).ans))) 9]
def hdE (c : Cab) (l : List Png) : Int := firstNZ [cabE c, unl (decide ((l.length : Int) > 0)) 10, unl (decide ((l.length : Int) ≤ 12)) 8]
def trE (c : Cab) (l : List Png) : Int := if hdE c l = 0 then scan (stpE l) l.length else hdE c l
def trI (c : Cab) (l : List Png) : Int := if hdE c l = 0 then scanI (stpE l) l.length else 0
def trOk (c : Cab) (l : List Png) : Prop := cabOk c ∧ (0 < l.length ∧ l.length ≤ 12) ∧ (∀ i, i < l.length → pngOk (pngAt l i)) ∧ ∀ i, i + 1 < l.length → (pngAt l i).back ≤ (pngAt l (i + 1)).sent ∧ (pngAt l i).ans ≤ (pngAt l (i + 1)).arr
theorem hdE_0 {c : Cab} {l : List Png} : hdE c l = 0 ↔ cabOk c ∧ 0 < l.length ∧ l.length ≤ 12 := by
 unfold hdE
 constructor
 ·intro h
  obtain ⟨h1, h2, h3⟩ := fn3 h
  rw [unl_0 (by decide)] at h2 h3
  have h2 := of_decide_eq_true h2
  have h3 := of_decide_eq_true h3
  exact ⟨cabE_0.1 h1, by omega, by omega⟩
 ·rintro ⟨h1, h2, h3⟩
  rw [cabE_0.2 h1, decide_eq_true (by omega), decide_eq_true (by omega)]
  rfl
theorem trE_0 {c : Cab} {l : List Png} : trE c l = 0 ↔ trOk c l := by
 unfold trE trOk
 constructor
 ·intro h
  split at h
  ·rename_i q
   obtain ⟨q1, q2⟩ := hdE_0.1 q
   have z := scan_zero h
   refine ⟨q1, q2, fun i hi => pngE_0.1 (fn2 (z i hi)).1, fun i hi => ?_⟩
   have := (fn2 (z (i + 1) hi)).2
   rw [unl_0 (by decide), decide_eq_false (by omega), Bool.false_or, Bool.and_eq_true, decide_eq_true_eq, decide_eq_true_eq] at this
   exact this
  ·rename_i q; exact (q h).elim
 ·rintro ⟨q1, q2, q3, q4⟩
  rw [if_pos (hdE_0.2 ⟨q1, q2⟩)]
  refine scan_end fun j hj => ?_
  unfold stpE
  rw [fn2', pngE_0, unl_0 (by decide)]
  refine ⟨q3 j hj, ?_⟩
  cases j with
  | zero => rfl
  | succ i =>
   have := q4 i hj
   rw [show i + 1 - 1 = i by omega, decide_eq_true this.1, decide_eq_true this.2]
   simp
theorem trOk.del {c : Cab} {l : List Png} (h : trOk c l) {i : Nat} (hi : i < l.length) : delOk c (pngAt l i) := ⟨h.1, h.2.2.1 i hi⟩
def badI (c : Cab) (l : List Png) : Int := idxP (fun p => !canB c p) l
def opB (c : Cab) (l : List Png) : Int := if trE c l = 0 then badI c l else -1
def opT (c : Cab) (l : List Png) : List Rg := if trE c l = 0 then (l.takeWhile (canB c)).map (tmR c) else []
def allT (c : Cab) (l : List Png) : List Rg := l.map (tmR c)
theorem allT_len (c : Cab) (l : List Png) : (allT c l).length = l.length := by simp [allT]
theorem allT_at {c : Cab} {l : List Png} {i : Nat} (h : i < l.length) : rgAt (allT c l) i = tmR c (pngAt l i) := by simp [rgAt, allT, pngAt, List.getD, h]
theorem takeWhile_at {c : Cab} {l : List Png} {k : Nat} (hk : k ≤ l.length) (h : ∀ i, i < k → canB c (pngAt l i) = true) (hn : k < l.length → canB c (pngAt l k) = false) : l.takeWhile (canB c) = l.take k := by
 induction l generalizing k with
 | nil => simp
 | cons x l ih =>
  cases k with
  | zero =>
   have := hn (by simp)
   rw [List.takeWhile_cons_of_neg (by simpa [pngAt] using this)]; rfl
  | succ k =>
   have h0 := h 0 (by omega)
   rw [List.takeWhile_cons_of_pos (by simpa [pngAt] using h0), List.take_succ_cons, ih (by simpa using hk) (fun i hi => by have := h (i + 1) (by omega); simpa [pngAt] using this) (fun hl => by have := hn (by simpa using hl); simpa [pngAt] using this)]
theorem bad_none {c : Cab} {l : List Png} (h : badI c l < 0) : (∀ i, i < l.length → canB c (pngAt l i) = true) ∧ l.takeWhile (canB c) = l := by
 unfold badI at h
 rcases idxP_or (fun p => !canB c p) l Png.zero with ⟨_, g⟩ | ⟨k, h1, h2, _⟩
 ·have g2 : ∀ i, i < l.length → canB c (pngAt l i) = true := fun i hi => by have := g i hi; simpa [pngAt] using this
  exact ⟨g2, by rw [takeWhile_at (Nat.le_refl _) g2 (fun h => absurd h (Nat.lt_irrefl _)), List.take_length]⟩
 ·omega
def byR (c : Cab) (p : Png) (n : Int) : Rg := ⟨c.blo p n, c.bhi p n⟩
theorem by_rg {c : Cab} {p : Png} {n : Int} (h : delOk c p) (hn : 0 ≤ n ∧ n ≤ 1000000000001) : (-2000000000000 ≤ n - p.arr ∧ n - p.arr ≤ 2000000000000) ∧ (0 ≤ slackI c.drift (n - p.arr) ∧ slackI c.drift (n - p.arr) ≤ 4000000000) ∧ (-9000000000000 ≤ c.blo p n ∧ c.blo p n ≤ 9000000000000) ∧ (-9000000000000 ≤ c.bhi p n ∧ c.bhi p n ≤ 9000000000000) := by
 have d := del_rg h
 obtain ⟨⟨h1, h2⟩, h3, h4⟩ := h
 have s := slack_rg (d := c.drift) (n := n - p.arr) h1 (by omega)
 unfold Cab.blo Cab.bhi
 omega
def atK (c : Cab) (l : List Png) (n : Int) (k : Nat) : Rg := ((l.drop 1).take k).foldl (fun r q => meetR r (byR c q n)) (byR c (pngAt l 0) n)
def atR (c : Cab) (l : List Png) (n : Int) : Rg := atK c l n (l.length - 1)
theorem atK_succ {c : Cab} {l : List Png} {n : Int} {k : Nat} (hk : k + 1 < l.length) : atK c l n (k + 1) = meetR (atK c l n k) (byR c (pngAt l (k + 1)) n) := by
 have h : k < (l.drop 1).length := by rw [List.length_drop]; omega
 unfold atK
 rw [List.take_succ_eq_append_getElem h, List.foldl_append]
 simp [pngAt, List.getD, hk, Nat.add_comm 1 k]
theorem meet_self (r : Rg) : meetR r r = r := by unfold meetR; rw [Int.max_self, Int.min_self]
theorem atK_rg {c : Cab} {l : List Png} (h : trOk c l) {n : Int} (hn : 0 ≤ n ∧ n ≤ 1000000000001) : ∀ k, k < l.length → (-9000000000000 ≤ (atK c l n k).lo ∧ (atK c l n k).lo ≤ 9000000000000) ∧ (-9000000000000 ≤ (atK c l n k).hi ∧ (atK c l n k).hi ≤ 9000000000000) := by
 intro k
 induction k with
 | zero => intro h0; exact (by_rg (h.del h0) hn).2.2
 | succ k ih =>
  intro h0
  have a := ih (by omega)
  have b := (by_rg (h.del h0) hn).2.2
  rw [atK_succ h0]
  unfold meetR byR
  simp only
  omega
theorem atR_rg {c : Cab} {l : List Png} (h : trOk c l) {n : Int} (hn : 0 ≤ n ∧ n ≤ 1000000000001) : (-9000000000000 ≤ (atR c l n).lo ∧ (atR c l n).lo ≤ 9000000000000) ∧ (-9000000000000 ≤ (atR c l n).hi ∧ (atR c l n).hi ≤ 9000000000000) := atK_rg h hn _ (by have := h.2.1.1; omega)
def apB (c : Cab) (p q : Png) : Bool := decide (max (tmR c q).lo (c.blo p q.arr) > min (tmR c q).hi (c.bhi p q.arr))
def pB (c : Cab) (l : List Png) (j : Nat) : Bool := decide (j / l.length < j % l.length) && apB c (pngAt l (j / l.length)) (pngAt l (j % l.length))
def prL (c : Cab) (l : List Png) : List Int := ((List.range (l.length * l.length)).find? (pB c l)).elim [] fun j => [((j / l.length : Nat) : Int), ((j % l.length : Nat) : Int)]
theorem pr_lt {n i k : Nat} (hi : i < n) (hk : k < n) : i * n + k < n * n := by
 have := Nat.mul_le_mul_right n (show i + 1 ≤ n by omega)
 rw [Nat.add_mul, Nat.one_mul] at this
 omega
theorem pr_dm {n i k : Nat} (hk : k < n) : (i * n + k) / n = i ∧ (i * n + k) % n = k := by
 rw [Nat.mul_comm, Nat.mul_add_div (by omega), Nat.mul_add_mod, Nat.div_eq_of_lt hk, Nat.mod_eq_of_lt hk]
 exact ⟨rfl, rfl⟩
theorem prL_none {c : Cab} {l : List Png} (h : ∀ j, j < l.length * l.length → pB c l j = false) : prL c l = [] := by
 unfold prL
 rw [List.find?_eq_none.2 fun j hj => by rw [h j (List.mem_range.1 hj)]; simp]
 rfl
theorem prL_at {c : Cab} {l : List Png} {i k : Nat} (hi : i < k) (hk : k < l.length) (h : apB c (pngAt l i) (pngAt l k) = true) (hz : ∀ j, j < i * l.length + k → pB c l j = false) : prL c l = [(i : Int), (k : Int)] := by
 obtain ⟨d, m⟩ := pr_dm (n := l.length) (i := i) hk
 have e : (List.range (l.length * l.length)).find? (pB c l) = some (i * l.length + k) := by
  rw [List.find?_range_eq_some]
  refine ⟨?_, ?_, fun j hj => by rw [hz j hj]; rfl⟩
  ·unfold pB; rw [d, m, h, decide_eq_true hi]; rfl
  ·exact List.mem_range.2 (pr_lt (by omega) hk)
 unfold prL
 rw [e]
 show [((((i * l.length + k) / l.length : Nat)) : Int), (((i * l.length + k) % l.length : Nat) : Int)] = _
 rw [d, m]
def clB (c : Cab) (l : List Png) : Bool := decide (badI c l < 0) && decide (((prL c l).length : Int) = 0)
def obE (c : Cab) (l : List Png) (n : Int) : Int := firstNZ [trE c l, unl (tkB n) 2, unl (clB c l) 13]
def taV (c : Cab) (l : List Png) (n : Int) : Rg := if obE c l n = 0 then atR c l n else ⟨0, 0⟩
def maV (c : Cab) (l : List Png) (n : Int) : Int := if obE c l n = 0 then ((atR c l n).lo + (atR c l n).hi) / 2 else 0
def urT (l : List Int) : Nat → Int
 | 0 => 0
 | k + 1 => urT l k + if 0 < k ∧ l.getD k 0 < l.getD (k - 1) 0 then 1 else 0
def urK (l : List Int) (p : Int) (k : Nat) : List Int := (List.range k).map fun i => urT l (i + 1) * p + l.getD i 0
def urV (l : List Int) (p : Int) : List Int := urK l p l.length
def urE (l : List Int) (p : Int) : Int := if inB p 1 1000000000000 = true then firstNZ [unl (decide ((l.length : Int) ≤ 40)) 8, unl (l.all fun n => inB n 0 (p - 1)) 2] else 2
theorem urT_rg (l : List Int) : ∀ k, 0 ≤ urT l k ∧ urT l k ≤ k := by
 intro k
 induction k with
 | zero => exact ⟨Int.le_refl _, Int.le_refl _⟩
 | succ k ih => unfold urT; split <;> omega
theorem urK_succ (l : List Int) (p : Int) (k : Nat) : urK l p (k + 1) = urK l p k ++ [urT l (k + 1) * p + l.getD k 0] := by
 unfold urK; rw [List.range_succ, List.map_append]; rfl
def lppAt (l : List Lp) (i : Nat) : Lp := l.getD i ⟨0, 0⟩
def lpS1 (l : List Lp) (i : Nat) : Int := firstNZ [unl (tkB (lppAt l i).tick && inB (lppAt l i).step (-1000000) 1000000) 2, unl (decide ((lppAt l i).step ≠ 0)) 11, unl (decide ((i : Int) = 0) || decide ((lppAt l i).tick > (lppAt l (i - 1)).tick)) 9]
def lpE (l : List Lp) : Int := if ((l.length : Int) > 10) then 8 else scan (lpS1 l) l.length
def erF (l : List Lp) (i : Nat) : Int := if i = 0 then 0 else (lppAt l (i - 1)).tick
def erT (l : List Lp) (i : Nat) : Int := if i < l.length then (lppAt l i).tick - 1 else 1000000000000
def erS (l : List Lp) (i : Nat) : Int := lpAll (l.take i)
def erB (l : List Lp) (t : Int) (i : Nat) : Bool := inB t (erF l i) (erT l i)
def tfE (l : List Lp) (n : Int) : Int := firstNZ [lpE l, unl (inB n (-2000000000000) 2000000000000) 2]
def tfK (l : List Lp) (n : Int) (k : Nat) : List Int := ((List.range k).filter fun i => erB l (n - erS l i) i).map fun i => n - erS l i
def tfV (l : List Lp) (n : Int) : List Int := if tfE l n = 0 then tfK l n (l.length + 1) else []
def smE (l : List Int) : Int := firstNZ [unl (decide ((l.length : Int) > 0)) 10, unl (decide ((l.length : Int) ≤ 24)) 8, unl (l.all fun n => inB n (-10000) 10000) 2]
def sqK (s p : List Int) (k : Nat) : Nat → Int
 | 0 => 0
 | i + 1 => sqK s p k i + (s.getD (k + i) 0 - p.getD i 0) * (s.getD (k + i) 0 - p.getD i 0)
def arK (s p : List Int) : Nat → Int × Int
 | 0 => (0, -1)
 | k + 1 => if (arK s p k).2 < 0 ∨ sqK s p k p.length < (arK s p k).2 then (k, sqK s p k p.length) else arK s p k
def avE (s p : List Int) : Int := firstNZ [smE s, smE p, unl (decide ((p.length : Int) ≤ s.length)) 12]
def avV (s p : List Int) : Int := if avE s p = 0 then (arK s p (s.length - p.length + 1)).1 else 0
end Go.Proofs.YtlapeoboekchpaaGreatDoor
set_option linter.unusedVariables false
set_option linter.unusedSimpArgs false
namespace Go.Proofs.YtlapeoboekchpaaGreatDoor
open Go.RowKit Ev
def pngsC (l : List Png) : Nat → Nat → CV := fun i j => match j with
 | 0 => .v (.int .i64 (pngAt l i).sent)
 | 1 => .v (.int .i64 (pngAt l i).arr)
 | 2 => .v (.int .i64 (pngAt l i).ans)
 | _ => .v (.int .i64 (pngAt l i).back)
def mkPng (g : Nat → Int) : Png := ⟨g 0, g 1, g 2, g 3⟩
def pngCv (x : Png) : List CV := [.v (.int .i64 x.sent), .v (.int .i64 x.arr), .v (.int .i64 x.ans), .v (.int .i64 x.back)]
theorem pngAt_C {n : Nat} {c : Nat → Nat → CV} {i : Nat} (hi : i < n) : pngAt (listC n mkPng c) i = mkPng fun j => cvInt (c i j) := listC_get hi
theorem leL_Png {n : Nat} {c : Nat → Nat → CV} (hp : numsP 4 n c) : LeD (.t (.c (.sl 4 n c))) (.t (.c (.sl 4 (listC n mkPng c).length (pngsC (listC n mkPng c))))) := by
 refine leL hp fun i j hi hj => ?_
 unfold pngsC
 rw [pngAt_C hi]
 rcases (by omega : j = 0 ∨ j = 1 ∨ j = 2 ∨ j = 3) with rfl | rfl | rfl | rfl <;> rfl
theorem numsP_pngs (l : List Png) : numsP 4 l.length (pngsC l) := by
 intro i j hi hj
 rcases (by omega : j = 0 ∨ j = 1 ∨ j = 2 ∨ j = 3) with rfl | rfl | rfl | rfl <;> rfl
theorem pngs_listC (l : List Png) : listC l.length mkPng (pngsC l) = l := listC_id Png.zero fun i hi => rfl
theorem plain_Png (l : List Png) (i j : Nat) : ∃ y, pngsC l i j = .v y := by unfold pngsC; split <;> exact ⟨_, rfl⟩
theorem le_pngs (l : List Png) : LeD (.t (.c (.sl 4 (l.map pngCv).length (genC (l.map pngCv))))) (.t (.c (.sl 4 l.length (pngsC l)))) := by
 rw [List.length_map]
 refine leSl fun i j hi hj => ?_
 unfold genC pngsC pngAt
 simp only [List.getD_eq_getElem?_getD, List.getElem?_map, List.getElem?_eq_getElem hi, Option.map_some, Option.getD_some]
 rcases (by omega : j = 0 ∨ j = 1 ∨ j = 2 ∨ j = 3) with rfl | rfl | rfl | rfl <;> rfl
theorem pngAt_take {l : List Png} {k : Nat} (h : k < l.length) : l.take (k + 1) = l.take k ++ [pngAt l k] := by
 rw [List.take_succ_eq_append_getElem h]; simp [pngAt, List.getD, h]
theorem png_ext {a b : Png} : a = b ↔ a.sent = b.sent ∧ a.arr = b.arr ∧ a.ans = b.ans ∧ a.back = b.back := by
 obtain ⟨_, _, _, _⟩ := a
 obtain ⟨_, _, _, _⟩ := b
 simp [and_assoc]
instance : DecidableEq Png := fun a b => decidable_of_iff _ png_ext.symm
theorem pngs_fwd (l : List Png) : ((List.range l.length).map fun i => fwd ((pngsC l) i) 0 4) = l.map pngCv := by
 apply List.ext_getElem?
 intro i
 by_cases hi : i < l.length
 ·simp only [List.getElem?_map, List.getElem?_range hi, List.getElem?_eq_getElem hi, Option.map_some]
  have e : pngAt l i = l[i] := by simp [pngAt, List.getD, hi]
  rw [← e]; rfl
 ·rw [List.getElem?_eq_none (by simpa using hi), List.getElem?_eq_none (by simpa using hi)]
def rgsC (l : List Rg) : Nat → Nat → CV := fun i j => match j with
 | 0 => .v (.int .i64 (rgAt l i).lo)
 | _ => .v (.int .i64 (rgAt l i).hi)
def mkRg (g : Nat → Int) : Rg := ⟨g 0, g 1⟩
def rgCv (x : Rg) : List CV := [.v (.int .i64 x.lo), .v (.int .i64 x.hi)]
theorem rgAt_C {n : Nat} {c : Nat → Nat → CV} {i : Nat} (hi : i < n) : rgAt (listC n mkRg c) i = mkRg fun j => cvInt (c i j) := listC_get hi
theorem leL_Rg {n : Nat} {c : Nat → Nat → CV} (hp : numsP 2 n c) : LeD (.t (.c (.sl 2 n c))) (.t (.c (.sl 2 (listC n mkRg c).length (rgsC (listC n mkRg c))))) := by
 refine leL hp fun i j hi hj => ?_
 unfold rgsC
 rw [rgAt_C hi]
 rcases (by omega : j = 0 ∨ j = 1) with rfl | rfl <;> rfl
theorem numsP_rgs (l : List Rg) : numsP 2 l.length (rgsC l) := by
 intro i j hi hj
 rcases (by omega : j = 0 ∨ j = 1) with rfl | rfl <;> rfl
theorem rgs_listC (l : List Rg) : listC l.length mkRg (rgsC l) = l := listC_id ⟨0, 0⟩ fun i hi => rfl
theorem le_rgs (l : List Rg) : LeD (.t (.c (.sl 2 (l.map rgCv).length (genC (l.map rgCv))))) (.t (.c (.sl 2 l.length (rgsC l)))) := by
 rw [List.length_map]
 refine leSl fun i j hi hj => ?_
 unfold genC rgsC rgAt
 simp only [List.getD_eq_getElem?_getD, List.getElem?_map, List.getElem?_eq_getElem hi, Option.map_some, Option.getD_some]
 rcases (by omega : j = 0 ∨ j = 1) with rfl | rfl <;> rfl
theorem rg_ext {a b : Rg} : a = b ↔ a.lo = b.lo ∧ a.hi = b.hi := by
 obtain ⟨_, _⟩ := a
 obtain ⟨_, _⟩ := b
 simp [and_assoc]
instance : DecidableEq Rg := fun a b => decidable_of_iff _ rg_ext.symm
def lppsC (l : List Lp) : Nat → Nat → CV := fun i j => match j with
 | 0 => .v (.int .i64 (lppAt l i).tick)
 | _ => .v (.int .i64 (lppAt l i).step)
def mkLpp (g : Nat → Int) : Lp := ⟨g 0, g 1⟩
theorem lppAt_C {n : Nat} {c : Nat → Nat → CV} {i : Nat} (hi : i < n) : lppAt (listC n mkLpp c) i = mkLpp fun j => cvInt (c i j) := listC_get hi
theorem leL_Lp {n : Nat} {c : Nat → Nat → CV} (hp : numsP 2 n c) : LeD (.t (.c (.sl 2 n c))) (.t (.c (.sl 2 (listC n mkLpp c).length (lppsC (listC n mkLpp c))))) := by
 refine leL hp fun i j hi hj => ?_
 unfold lppsC
 rw [lppAt_C hi]
 rcases (by omega : j = 0 ∨ j = 1) with rfl | rfl <;> rfl
theorem numsP_lpps (l : List Lp) : numsP 2 l.length (lppsC l) := by
 intro i j hi hj
 rcases (by omega : j = 0 ∨ j = 1) with rfl | rfl <;> rfl
theorem lpps_listC (l : List Lp) : listC l.length mkLpp (lppsC l) = l := listC_id ⟨0, 0⟩ fun i hi => rfl
theorem lppAt_take {l : List Lp} {k : Nat} (h : k < l.length) : l.take (k + 1) = l.take k ++ [lppAt l k] := by
 rw [List.take_succ_eq_append_getElem h]; simp [lppAt, List.getD, h]
theorem lpp_ext {a b : Lp} : a = b ↔ a.tick = b.tick ∧ a.step = b.step := by
 obtain ⟨_, _⟩ := a
 obtain ⟨_, _⟩ := b
 simp [and_assoc]
instance : DecidableEq Lp := fun a b => decidable_of_iff _ lpp_ext.symm
theorem leC_k {a b : CV} (h : a = b) : LeC1 a b := by rw [h]; exact LeC1.refl b
theorem leSlC {sz n : Nat} {c c' : Nat → Nat → CV} (h : ∀ i j, i < n → j < sz → LeC1 (c i j) (c' i j)) : LeC1 (.sl sz n c) (.sl sz n c') := by
 rintro w N v ⟨ao, cap, h1, h2, h3, h4, h5⟩
 refine ⟨ao, cap, h1, h2, h3, h4, fun h0 => ?_⟩
 obtain ⟨b, off, g1, g2, g3, g4⟩ := h5 h0
 refine ⟨b, off, g1, g2, g3, fun i j hi hj => ?_⟩
 obtain ⟨x, e1, e2⟩ := g4 i j hi hj
 exact ⟨x, e1, h i j hi hj _ _ _ e2⟩
theorem numsP_ints (l : List Int) : numsP 1 l.length (intsC l) := fun i j hi hj => rfl
theorem ints_listC (l : List Int) : listC l.length mkInt (intsC l) = l := listC_id 0 fun i hi => rfl
theorem leI {a b : Int} (h : a = b) : LeD (.t (.c (.v (.int .i64 a)))) (.t (.c (.v (.int .i64 b)))) := LeD.of (by rw [h])
theorem leB {a b : Bool} (h : a = b) : LeD (.t (.c (.v (.bool a)))) (.t (.c (.v (.bool b)))) := LeD.of (by rw [h])
theorem le2 {a b c d : Int} (h1 : a = c) (h2 : b = d) : LeD (.tu [.c (.v (.int .i64 a)), .c (.v (.int .i64 b))]) (.tu [.c (.v (.int .i64 c)), .c (.v (.int .i64 d))]) := LeD.of (by rw [h1, h2])
theorem le_tu {a a' b b' : TV} (h1 : LeD (.t a) (.t a')) (h2 : LeD (.t b) (.t b')) : LeD (.tu [a, b]) (.tu [a', b']) := by
 rintro w N v ⟨vs, e, g⟩
 match vs, g with
 | [x, y], g => exact ⟨[x, y], e, h1 w N x g.1, h2 w N y g.2.1, trivial⟩
 | [], g => exact g.elim
 | [_], g => exact g.2.elim
 | _ :: _ :: _ :: _, g => exact g.2.2.elim
theorem leC_nil {sz : Nat} {c : Nat → Nat → CV} : LeC1 (.v (.slice none 0 0)) (.sl sz 0 c) := by
 intro w N v h
 exact ⟨none, 0, h.1, Nat.le_refl _, by unfold maxLen; omega, fun _ => rfl, fun h => by omega⟩
theorem le_nil {sz : Nat} {c : Nat → Nat → CV} : LeD (.t (.c (.v (.slice none 0 0)))) (.t (.c (.sl sz 0 c))) := leT_c leC_nil
theorem mx_if (a b : Int) : (if b > a then b else a) = max a b := by split <;> omega
theorem mn_if (a b : Int) : (if b < a then b else a) = min a b := by split <;> omega
theorem wi {n : Int} (h : -9000000000000000000 ≤ n ∧ n ≤ 9000000000000000000) : IntKind.i64.wrap n = n := IntWalk.i64_in _ (by omega)
end Go.Proofs.YtlapeoboekchpaaGreatDoor