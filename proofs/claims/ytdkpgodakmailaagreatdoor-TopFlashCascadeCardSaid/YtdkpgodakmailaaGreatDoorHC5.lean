/- Texts of this claim, together. -/
import Derived.Test.YtdkpgodakmailaaGreatDoorHC4
import Derived.StillTail
import Derived.Deep.AppendLies
import Derived.Laws.AppendOwnNone
import Derived.Laws.CopyOwn
import Derived.Laws.NewBlocks

set_option linter.unusedVariables false
set_option linter.unusedSimpArgs false
namespace Go.Proofs.YtdkpgodakmailaaGreatDoor.Ev
open Go.RowKit
def okCV : CV → Option Value
 | .v x => bif x.oneCell' then some x else none
 | _ => none
def cvsV : List CV → Option (List Value)
 | [] => some []
 | x :: l => match okCV x, cvsV l with
  | some v, some vs => some (v :: vs)
  | _, _ => none
def tvV : TV → Option Value
 | .c x => okCV x
 | .a l => (cvsV l).map fun vs => .agg vs.toArray
 | _ => none
def tvsV : List TV → Option (List Value)
 | [] => some []
 | x :: l => match tvV x, tvsV l with
  | some v, some vs => some (v :: vs)
  | _, _ => none
def dvV : DV → Option Value
 | .t x => tvV x
 | .tu l => (tvsV l).map fun vs => .tuple vs.toArray
theorem okCV_rel {w : World} {N : Nat → Prop} {x : CV} {v : Value} (h : okCV x = some v) : RelF w N x v := by
 cases x with
 | v y =>
  simp only [okCV] at h
  cases e : y.oneCell' with
  | true => rw [e] at h; cases h; exact ⟨rfl, e⟩
  | false => rw [e] at h; cases h
 | _ => cases h
theorem cvsV_rel {w : World} {N : Nat → Prop} : ∀ {l : List CV} {vs : List Value}, cvsV l = some vs → All2 (RelF w N) l vs
 | [], vs, h => by cases h; trivial
 | x :: l, vs, h => by
  simp only [cvsV] at h
  split at h
  ·rename_i v us h1 h2
   cases h
   exact ⟨okCV_rel h1, cvsV_rel h2⟩
  ·cases h
theorem tvV_rel {w : World} {N : Nat → Prop} {x : TV} {v : Value} (h : tvV x = some v) : RelT (RelF w N) x v := by
 cases x with
 | c y => exact okCV_rel h
 | a l =>
  simp only [tvV, Option.map_eq_some_iff] at h
  obtain ⟨vs, h1, rfl⟩ := h
  exact ⟨vs, rfl, cvsV_rel h1⟩
 | fn f l => cases h
 | fb f l => cases h
theorem tvsV_rel {w : World} {N : Nat → Prop} : ∀ {l : List TV} {vs : List Value}, tvsV l = some vs → All2 (RelT (RelF w N)) l vs
 | [], vs, h => by cases h; trivial
 | x :: l, vs, h => by
  simp only [tvsV] at h
  split at h
  ·rename_i v us h1 h2
   cases h
   exact ⟨tvV_rel h1, tvsV_rel h2⟩
  ·cases h
theorem dvV_rel {w : World} {N : Nat → Prop} {d : DV} {v : Value} (h : dvV d = some v) : RelD (RelF w N) d v := by
 cases d with
 | t x => exact tvV_rel h
 | tu l =>
  simp only [dvV, Option.map_eq_some_iff] at h
  obtain ⟨vs, h1, rfl⟩ := h
  exact ⟨vs, rfl, tvsV_rel h1⟩
theorem All2.cons_inv {α β : Type} {R : α → β → Prop} {a : α} {l : List α} {m : List β} (h : All2 R (a :: l) m) : ∃ b bs, m = b :: bs ∧ R a b ∧ All2 R l bs := by
 cases m with
 | nil => exact h.elim
 | cons b bs => exact ⟨b, bs, rfl, h.1, h.2⟩
theorem All2.nil_inv {α β : Type} {R : α → β → Prop} {m : List β} (h : All2 R ([] : List α) m) : m = [] := by
 cases m with
 | nil => rfl
 | cons b bs => exact h.elim
theorem Ok.oldGd {P : Program} {f : FuncId} (hen : Enters P f) {F : Con} (h : ∀ args r pre fresh, F args = some (r, pre, fresh) → okP pre → fresh = .no ∧ ∃ v, dvV r = some v ∧ ∀ W N vs, Gd W → All2 (RelD (RelF W N)) args vs → Calls P f vs.toArray W fun e w' => e = .returned v ∧ Below W.heap.size W w') : Ok P f F := by
 intro args r pre fresh h1 h2
 obtain ⟨rfl, v, g1, g2⟩ := h args r pre fresh h1 h2
 exact ⟨hen, fun W N us hG hu => Calls.mono (g2 W N us hG hu) fun e w' ⟨e1, e2⟩ => ⟨v, e1, dvV_rel g1, e2⟩⟩
theorem Ok.over {P : Program} {f : FuncId} {F F' : Con} (h : Ok P f F) (hF : ∀ args r' pre' fresh, F' args = some (r', pre', fresh) → okP pre' → ∃ r pre, F args = some (r, pre, fresh) ∧ okP pre ∧ r = r') : Ok P f F' := by
 intro args r' pre' fresh h1 h2
 obtain ⟨r, pre, g1, g2, rfl⟩ := hF args r' pre' fresh h1 h2
 exact h args r pre fresh g1 g2
theorem law_end {P : Program} {f : FuncId} {args : Array Value} {W : World} {N : Nat → Prop} (g : Calls P f args W fun e w' => ∃ v r, e = .returned v ∧ LeD r (.t (.c (.v (.bool true)))) ∧ RelD (RelF w' (resN W N .no)) r v ∧ Below W.heap.size W w') : Calls P f args W fun e w' => e = .returned (.bool true) ∧ Below W.heap.size W w' := by
 refine g.mono ?_
 rintro e w' ⟨v, r, rfl, g1, g2, g3⟩
 have g4 := g1 _ _ _ g2
 exact ⟨by rw [show v = .bool true from g4.1], g3⟩
def mkInt (g : Nat → Int) : Int := g 0
def intsC (l : List Int) : Nat → Nat → CV := fun i _ => .v (.int .i64 (l.getD i 0))
theorem leL_int {n : Nat} {c : Nat → Nat → CV} (hp : numsP 1 n c) : LeD (.t (.c (.sl 1 n c))) (.t (.c (.sl 1 (listC n mkInt c).length (intsC (listC n mkInt c))))) := by
 refine leL hp fun i j hi hj => ?_
 have h : (listC n mkInt c).getD i 0 = mkInt fun j => cvInt (c i j) := listC_get hi
 unfold intsC
 rw [h, show j = 0 by omega]; rfl
theorem numsP_gen (l : List Int) : numsP 1 l.length (genC (l.map fun n => [.v (.int .i64 n)])) := by
 intro i j hi hj
 have h : genC (l.map fun n => [CV.v (.int .i64 n)]) i j = .v (.int .i64 l[i]) := by
  unfold genC
  rw [show j = 0 by omega]
  simp [List.getD, hi]
 rw [h]; rfl
end Go.Proofs.YtdkpgodakmailaaGreatDoor.Ev
set_option linter.unusedVariables false
set_option linter.unusedSimpArgs false
namespace Go.Proofs.YtdkpgodakmailaaGreatDoor.Ev
open Go.RowKit
variable {w0 : World} {N0 : Nat → Prop} {Z : Pins} {P : Program} {T : Tab} {S : Sum} {M : Map} {a : Act} {w : World}
def Fr (l : List Oper) (a a' : Act) : Prop := (∀ i, (∀ o ∈ l, o.dst ≠ some i) → a'.tmps[i]? = a.tmps[i]?) ∧ a'.defers = a.defers
theorem Fr.refl (l : List Oper) (a : Act) : Fr l a a := ⟨fun _ _ => rfl, rfl⟩
theorem Fr.trans {l : List Oper} {a b c : Act} (h : Fr l a b) (g : Fr l b c) : Fr l a c := ⟨fun i hi => (g.1 i hi).trans (h.1 i hi), g.2.trans h.2⟩
theorem Fr.put {l : List Oper} {a : Act} {o : Oper} (ho : o ∈ l) (v : Value) : Fr l a (a.put o.dst v) := ⟨fun i hi => by
 rw [put_get, if_neg (fun h => hi o ho h.1)], put_defs _ _ _⟩
def ndef (o : Oper) : Bool := match o.op with
 | .defer _ => false
 | _ => true
theorem ndef_ok {o : Oper} (h : ndef o = true) : ∀ c, o.op ≠ .defer c := by
 intro c hc; unfold ndef at h; rw [hc] at h; cases h
inductive Wl (P : Program) (o : Oper) (a : Act) (w : World) (K : Act → World → Prop) : Prop where
 | value (v : Value) (w' : World) (h : (execOp a.eval o).run P w = .ok (.value v) w') (hk : K (a.put o.dst v) w')
 | skip (w' : World) (h : (execOp a.eval o).run P w = .ok .skip w') (hk : K (a.put o.dst undef) w')
 | call (f : FuncId) (args : Array Value) (w' : World) (h : (execOp a.eval o).run P w = .ok (.enter f args) w') (hc : Calls P f args w' fun e w'' => ∃ v, e = .returned v ∧ K (a.put o.dst v) w'')
theorem Wl.wp {o : Oper} (hnd : ∀ c, o.op ≠ .defer c) {K : Act → World → Prop} (h : Wl P o a w K) {Q : Exit → Act → World → Prop} : o.wpIn Fence.wide 0 P a w K Q := by
 unfold Oper.wpIn
 refine ⟨fun f _ => trivial, ?_⟩
 rw [Oper.semAt_eq _ _ _ hnd]
 cases h with
 | value v w' h hk => rw [h]; exact hk
 | skip w' h hk => rw [h]; exact hk
 | call f args w' h hc =>
  rw [h]
  refine ⟨(fun h => by cases h), callsIn_wide.2 (Calls.mono hc ?_)⟩
  rintro e w'' ⟨v, rfl, hk⟩
  exact hk
theorem Well.wl {o : Oper} {st' : DS} (h : Well P w0 N0 Z o a w st') : Wl P o a w fun a' w' => (∃ M', Abs w0 N0 Z M' st' a' w') ∧ ∃ v, a' = a.put o.dst v := by
 cases h with
 | value v M' w' h ha => exact .value v w' h ⟨⟨M', ha⟩, v, rfl⟩
 | skip M' w' h ha => exact .skip w' h ⟨⟨M', ha⟩, undef, rfl⟩
 | call f args w' h hc => exact .call f args w' h (Calls.mono hc fun e w'' ⟨v, e1, M', ha⟩ => ⟨v, e1, ⟨M', ha⟩, v, rfl⟩)
theorem want_ok {ops : Array Oper} {st : DS} {o : Oper} (ha : Abs w0 N0 Z M st a w) {b : Bool} (hb : wantE ops.toList st o = some b) : Region.wanted o (yielded ops a.tmps) = b := by
 unfold wantE at hb
 unfold Region.wanted
 split at hb
 ·rename_i hg; cases hb; rw [hg]
 ·rename_i j want hg
  rw [hg]
  simp only
  unfold yielded
  simp only [Array.getElem?_toList] at hb
  split at hb
  ·rename_i hd; cases hb; rw [hd]; rfl
  ·rename_i g hd
   rw [hd]
   simp only [Option.bind_some]
   split at hb
   ·rename_i c hc
    cases hb
    obtain ⟨v, h1, h2⟩ := ha.tmp g _ hc
    rw [h1, show v = .bool c from h2.1]
    cases c <;> cases want <;> rfl
   ·rename_i hc
    cases hb
    obtain ⟨v, h1, vs, h2, h3⟩ := ha.tmp g _ hc
    rw [h1, h2]; rfl
   ·cases hb
theorem step_fr (hT : TabOK P T) (hS : Valid P S) {ops : Array Oper} {forb : Nat → Bool} {o : Oper} {st st' : DS} {p : Prop} (ha : Abs w0 N0 Z M st a w) (h : step P T S ops.toList forb o st = some (p, st')) (hp : p) {l : List Oper} (ho : o ∈ l) {K : Act → World → Prop} {Q : Exit → Act → World → Prop} (hK : ∀ M' a' w', Abs w0 N0 Z M' st' a' w' → Fr l a a' → K a' w') :
  if Region.wanted o (yielded ops a.tmps) then o.wpIn Fence.wide 0 P a w K Q else (∀ f, o.about P w a.eval = some f → Fence.wide.fn f) ∧ K (a.put o.dst undef) w := by
 unfold step at h
 split at h
 ·rename_i hb
  rw [want_ok ha hb]
  simp only [Option.map_eq_some_iff, Prod.mk.injEq] at h
  obtain ⟨e, h1, rfl, rfl⟩ := h
  simp only [if_true]
  refine Oper.wpIn_mono ?_ ((exec_sound hT hS ha h1 hp).wl.wp (exec_nd h1))
  rintro a' w' ⟨⟨M', ha'⟩, v, rfl⟩
  exact hK M' _ _ ha' (Fr.put ho v)
 ·rename_i hb
  rw [want_ok ha hb]
  cases h
  simp only [Bool.false_eq_true, if_false]
  refine ⟨fun f _ => trivial, hK M _ _ (ha.put (Below.refl _ _) o.dst fun dv e => ?_) (Fr.put ho _)⟩
  cases e
  exact ⟨[], rfl, trivial⟩
 ·cases h
def findK (i : Nat) : List (Nat × DV) → Option DV
 | [] => none
 | (j, d) :: l => bif Nat.beq i j then some d else findK i l
def rebT (keep : List (Nat × DV)) : Nat → List (Option DV) → List (Option DV)
 | _, [] => []
 | i, x :: l => (match findK i keep with
  | some d => some d
  | none => match x with
   | some d => bif flatD d then some d else none
   | none => none) :: rebT keep (i + 1) l
def rebS (keep : List (Nat × DV)) (st : DS) : DS := ⟨rebT keep 0 st.t, List.replicate st.h.length none⟩
def isYld : DV → Option Nat
 | .t (.c (.v (.func (.yield l) ⟨[]⟩ ⟨[]⟩))) => some l
 | _ => none
def yldC (st : DS) (o : Oper) : Option (Call × Nat) := match o.op with
 | .call c => match c.callee with
  | .value f => match opv st f with
   | some d => (isYld d).map fun l => (c, l)
   | none => none
  | _ => none
 | _ => none
def flatY : TV → Bool
 | .fn _ _ => false
 | .fb _ _ => false
 | x => flatT x
def flatYs : List TV → Bool
 | [] => true
 | x :: l => flatY x && flatYs l
def tts : List DV → Option (List TV)
 | [] => some []
 | .t x :: l => (tts l).map (x :: ·)
 | _ :: _ => none
def yldE (l0 : Nat) (n : Nat) (y : Nat → List TV) (keep : List (Nat × DV)) (o : Oper) (c : Call) (l' : Nat) (st : DS) (g : Option Nat) (k : Option Nat → DS → Prop) : Prop := match g, (opvs st c.args.toList).bind tts with
 | some i, some l => bif !flatYs l then False else (l' = l0 ∧ i < n ∧ l = y i) ∧ (k (some (i + 1)) ((rebS keep st).putO o.dst (some (.t (.c (.v (.bool true)))))) ∧ k none ((rebS [] st).putO o.dst (some (.t (.c (.v (.bool false)))))))
 | _, _ => False
def evOpsY (P : Program) (T : Tab) (S : Sum) (l0 n : Nat) (y : Nat → List TV) (keep : List (Nat × DV)) (ops : List Oper) : List Oper → DS → Option Nat → (Option Nat → DS → Prop) → Prop
 | [], st, g, k => k g st
 | o :: l, st, g, k => match yldC st o, wantE ops st o with
  | some (c, l'), some true => yldE l0 n y keep o c l' st g fun g' st' => evOpsY P T S l0 n y keep ops l st' g' k
  | _, _ => evOp P T S ops noForb o st fun st' => evOpsY P T S l0 n y keep ops l st' g k
def againY (J : Inv) (b : Nat) (hd : Hd) (bx : List Bx) (F : List Nat) (g : Option Nat) (s : DS) : Prop := match g, tidyB hd bx s with
 | some c, some s => J b (c :: F) s
 | _, _ => False
def evY (P : Program) (T : Tab) (S : Sum) (ann : Ann) (J : Inv) (l0 n : Nat) (y : Nat → List TV) (keep : List (Nat × DV)) : Code → Nat → List Nat → (Option Nat → DS → Prop) → (Nat → Option Nat → DS → Prop) → (Option Nat → DS → Prop) → Option Nat → DS → Prop
 | .skip, _, _, kn, _, _, g, st => kn g st
 | .region id ops draw, _, _, kn, _, _, g, st => bif draw then (match ann.reg id with
   | some (_, fs) => evItems P T S ops.toList (items 0 ops.toList (fs.map fb)) st (kn g)
   | none => False) else evOpsY P T S l0 n y keep ops.toList ops.toList st g kn
 | .seq x z, b, F, kn, ke, kr, g, st => evY P T S ann J l0 n y keep x b F (fun g s => evY P T S ann J l0 n y keep z b F kn ke kr g s) ke kr g st
 | .cond c x z, b, F, kn, ke, kr, g, st => match opv st c with
  | some (.t (.c (.v (.bool t)))) => cond t (evY P T S ann J l0 n y keep x b F kn ke kr g st) (evY P T S ann J l0 n y keep z b F kn ke kr g st)
  | _ => False
 | .block id x, _, F, kn, ke, kr, g, st => evY P T S ann J l0 n y keep x id F kn (fun j g s => bif Nat.beq j id then kn g s else ke j g s) kr g st
 | .loop x, b, F, kn, ke, kr, g, st => match ann.lp b, g with
  | some (none, some hd), some c => match tidyB hd (ann.bx b) st with
   | some s => ∃ m, J b (c :: m :: F) s
   | none => False
  | _, _ => False
 | .exit id, _, _, _, ke, _, g, st => ke id g st
 | .ret, _, _, _, _, kr, g, st => kr g st
 | _, _, _, _, _, _, _, _ => False
def loopsY (P : Program) (T : Tab) (S : Sum) (ann : Ann) (J : Inv) (l0 n : Nat) (y : Nat → List TV) (keep : List (Nat × DV)) : Code → Nat → (List Nat → Option Nat → DS → Prop) → (List Nat → Nat → Option Nat → DS → Prop) → (List Nat → Option Nat → DS → Prop) → List (Nat × (Nat → List Nat → DS → Prop))
 | .seq x z, b, kn, ke, kr => loopsY P T S ann J l0 n y keep x b (fun F g s => evY P T S ann J l0 n y keep z b F (kn F) (ke F) (kr F) g s) ke kr ++ loopsY P T S ann J l0 n y keep z b kn ke kr
 | .cond _ x z, b, kn, ke, kr => loopsY P T S ann J l0 n y keep x b kn ke kr ++ loopsY P T S ann J l0 n y keep z b kn ke kr
 | .block id x, _, kn, ke, kr => loopsY P T S ann J l0 n y keep x id kn (fun F j g s => bif Nat.beq j id then kn F g s else ke F j g s) kr
 | .loop x, b, kn, ke, kr => match ann.lp b with
  | some (none, some hd) => (b, fun c F s => evY P T S ann J l0 n y keep x b F (againY J b hd (ann.bx b) F) (ke F.tail) (kr F.tail) (some c) s) :: loopsY P T S ann J l0 n y keep x b (fun F g s => againY J b hd (ann.bx b) F g s) (fun F => ke F.tail) (fun F => kr F.tail)
  | _ => []
 | _, _, _, _, _ => []
def AllY (J : Inv) : List (Nat × (Nat → List Nat → DS → Prop)) → Prop
 | [] => True
 | (b, G) :: l => ((∀ c F s, ¬ J b (c :: 0 :: F) s) ∧ ∀ c m F s, J b (c :: (m + 1) :: F) s → G c (m :: F) s) ∧ AllY J l
theorem AllY_append {J : Inv} : ∀ {l m : List (Nat × (Nat → List Nat → DS → Prop))}, AllY J (l ++ m) ↔ AllY J l ∧ AllY J m
 | [], m => by simp [AllY]
 | (b, G) :: l, m => by simp only [List.cons_append, AllY, AllY_append, and_assoc]
def okKeep (keep : List (Nat × DV)) (o : Oper) : Bool := ndef o && (match o.dst with
 | some d => (findK d keep).isNone
 | none => true)
def okY (ann : Ann) (keep : List (Nat × DV)) : Code → Nat → Bool
 | .region id ops draw, _ => ops.toList.all (okKeep keep) && !draw
 | .seq x z, b => okY ann keep x b && okY ann keep z b
 | .cond _ x z, b => okY ann keep x b && okY ann keep z b
 | .block id x, _ => okY ann keep x id
 | .loop x, b => (match ann.lp b with
  | some (none, some _) => true
  | _ => false) && okY ann keep x b
 | _, _ => true
end Go.Proofs.YtdkpgodakmailaaGreatDoor.Ev
set_option linter.unusedVariables false
set_option linter.unusedSimpArgs false
namespace Go.Proofs.YtdkpgodakmailaaGreatDoor.Ev
open Go.RowKit
variable {P : Program} {T : Tab} {S : Sum} {ann : Ann} {J : Inv} {l0 n : Nat} {y : Nat → List TV} {keep : List (Nat × DV)} {wc W : World} {N : Nat → Prop} {J0 : Nat → World → Prop} {Jx : Unit → World → Prop} {ov : Nat → Value}
def YA (keep : List (Nat × DV)) (wc W : World) (N : Nat → Prop) (J0 : Nat → World → Prop) (Jx : Unit → World → Prop) (ov : Nat → Value) (st : DS) (a : Act) (w : World) (g : Option Nat) : Prop :=
 a.defers = [] ∧ (∀ i d, findK i keep = some d → a.tmps[i]? = some (ov i)) ∧ ∃ w0 N0 M, Abs w0 N0 noPins M st a w ∧ (match g with
  | some i => J0 i w0 ∧ W.heap.size ≤ w0.heap.size ∧ ∀ b, b < wc.heap.size → N b → w0.heap[b]? = W.heap[b]?
  | none => Jx () w0)
structure YC (P : Program) (l0 n : Nat) (y : Nat → List TV) (keep : List (Nat × DV)) (wc W : World) (N : Nat → Prop) (J0 : Nat → World → Prop) (Jx : Unit → World → Prop) (ov : Nat → Value) : Prop where
 hb : Below wc.heap.size wc W
 hJ : AbidesFrom W.heap.size J0
 hgJ : ∀ i W, J0 i W → Gd W
 hgX : ∀ W, Jx () W → Gd W
 hY : ∀ i W1, i < n → J0 i W1 → YieldAt Fence.wide 0 P l0 ((y i).map tvVal).toArray W1 fun e W' => (e = .returned (.bool true) ∧ J0 (i + 1) W' ∧ W1.heap.size ≤ W'.heap.size ∧ ∀ b, b < wc.heap.size → N b → W'.heap[b]? = W1.heap[b]?) ∨ (e = .returned (.bool false) ∧ Jx () W')
 hk : ∀ i d, findK i keep = some d → RelD (RelF wc N) d (ov i)
theorem below_grown {w w' : World} (h : Below w.heap.size w w') : w.grownBy w' none := ⟨h.os, h.tape, h.output, h.size, fun k hk _ => h.block k hk⟩
theorem flatT_val {w : World} {N : Nat → Prop} {M : Map} : ∀ {x : TV} {v : Value}, flatY x = true → RelT (RelC w N M) x v → v = tvVal x
 | .c (.v x), v, _, g => g.1
 | .c (.sl ..), _, h, _ | .c (.px ..), _, h, _ | .c (.os _), _, h, _ | .c (.p ..), _, h, _ | .c (.pe ..), _, h, _ | .c (.ob ..), _, h, _ | .c (.er _), _, h, _ | .c .any, _, h, _ => by cases h
 | .a l, v, h, g => by
  obtain ⟨vs, rfl, g⟩ := g
  have : ∀ {l : List CV} {vs : List Value}, flatCs l = true → All2 (RelC w N M) l vs → vs = l.map cvVal := by
   intro l
   induction l with
   | nil => intro vs _ g; cases vs with
    | nil => rfl
    | cons _ _ => exact g.elim
   | cons x l ih =>
    intro vs h g
    cases vs with
    | nil => exact g.elim
    | cons v vs =>
     simp only [flatCs, Bool.and_eq_true] at h
     have e : v = cvVal x := by
      cases x with
      | v z => exact g.1.1
      | _ => simp [flatC] at h
     rw [e, ih h.2 g.2]; rfl
  rw [this h g]; rfl
 | .fn f l, v, h, g => by cases h
 | .fb f l, v, h, g => by cases h
theorem flatTs_val {w : World} {N : Nat → Prop} {M : Map} : ∀ {l : List TV} {vs : List Value}, flatYs l = true → All2 (RelT (RelC w N M)) l vs → vs = l.map tvVal
 | [], [], _, _ => rfl
 | x :: l, v :: vs, h, g => by
  simp only [flatYs, Bool.and_eq_true] at h
  rw [flatT_val h.1 g.1, flatTs_val h.2 g.2]; rfl
 | [], _ :: _, _, g => g.elim
 | _ :: _, [], _, g => g.elim
theorem tts_rel {R : CV → Value → Prop} : ∀ {ds : List DV} {l : List TV} {vs : List Value}, tts ds = some l → All2 (RelD R) ds vs → All2 (RelT R) l vs
 | [], l, [], h, _ => by cases h; trivial
 | .t x :: ds, l, v :: vs, h, g => by
  simp only [tts, Option.map_eq_some_iff] at h
  obtain ⟨l', h1, rfl⟩ := h
  exact ⟨g.1, tts_rel h1 g.2⟩
 | .tu _ :: _, l, _ :: _, h, _ => by simp [tts] at h
 | [], _, _ :: _, _, g => g.elim
 | _ :: _, _, [], _, g => g.elim
theorem rebT_get (keep : List (Nat × DV)) : ∀ (l : List (Option DV)) (k i : Nat), ((rebT keep k l)[i]?).join = if i < l.length then (match findK (k + i) keep with | some d => some d | none => match (l[i]?).join with | some d => bif flatD d then some d else none | none => none) else none
 | [], k, i => by simp [rebT]
 | x :: l, k, 0 => by
  simp only [rebT, List.getElem?_cons_zero, Nat.add_zero, List.length_cons, Nat.zero_lt_succ, if_true]
  cases findK k keep with
  | some d => rfl
  | none => cases x with
   | none => rfl
   | some d => rfl
 | x :: l, k, i + 1 => by
  simp only [rebT, List.getElem?_cons_succ, rebT_get keep l (k + 1) i, List.length_cons, Nat.add_lt_add_iff_right]
  rw [show k + 1 + i = k + (i + 1) by omega]
theorem rebT_len (keep : List (Nat × DV)) : ∀ (l : List (Option DV)) (k : Nat), (rebT keep k l).length = l.length
 | [], k => rfl
 | x :: l, k => by simp [rebT, rebT_len keep l]
theorem flat_cv {w w' : World} {N N' : Nat → Prop} {M M' : Map} {x : CV} {v : Value} (h : flatC x = true) (g : RelC w N M x v) : RelC w' N' M' x v := by
 cases x with
 | v y => exact g
 | _ => cases h
theorem flat_cvs {w w' : World} {N N' : Nat → Prop} {M M' : Map} : ∀ {l : List CV} {vs : List Value}, flatCs l = true → All2 (RelC w N M) l vs → All2 (RelC w' N' M') l vs
 | [], [], _, _ => trivial
 | x :: l, v :: vs, h, g => by
  simp only [flatCs, Bool.and_eq_true] at h
  exact ⟨flat_cv h.1 g.1, flat_cvs h.2 g.2⟩
 | [], _ :: _, _, g => g.elim
 | _ :: _, [], _, g => g.elim
theorem flat_tv {w w' : World} {N N' : Nat → Prop} {M M' : Map} {x : TV} {v : Value} (h : flatT x = true) (g : RelT (RelC w N M) x v) : RelT (RelC w' N' M') x v := by
 cases x with
 | c x => exact flat_cv h g
 | a l => obtain ⟨vs, e, g⟩ := g; exact ⟨vs, e, flat_cvs h g⟩
 | fn f l => obtain ⟨vs, e, g⟩ := g; exact ⟨vs, e, flat_cvs h g⟩
 | fb f l => obtain ⟨vs, e, g⟩ := g; exact ⟨vs, e, flat_cvs h g⟩
theorem flat_tvs {w w' : World} {N N' : Nat → Prop} {M M' : Map} : ∀ {l : List TV} {vs : List Value}, flatTs l = true → All2 (RelT (RelC w N M)) l vs → All2 (RelT (RelC w' N' M')) l vs
 | [], [], _, _ => trivial
 | x :: l, v :: vs, h, g => by
  simp only [flatTs, Bool.and_eq_true] at h
  exact ⟨flat_tv h.1 g.1, flat_tvs h.2 g.2⟩
 | [], _ :: _, _, g => g.elim
 | _ :: _, [], _, g => g.elim
theorem flat_up {w w' : World} {N N' : Nat → Prop} {M M' : Map} {x : DV} {v : Value} (h : flatD x = true) (g : RelD (RelC w N M) x v) : RelD (RelC w' N' M') x v := by
 cases x with
 | t x => exact flat_tv h g
 | tu l => obtain ⟨vs, e, g⟩ := g; exact ⟨vs, e, flat_tvs h g⟩
theorem Abs.reb {w0 : World} {N0 : Nat → Prop} {M : Map} {st : DS} {a : Act} {w w' : World} (ha : Abs w0 N0 noPins M st a w) (hd : a.defers = []) (hG : Gd w') (hk : ∀ i d, findK i keep = some d → a.tmps[i]? = some (ov i) ∧ RelD (RelF w' N) d (ov i)) : Abs w' N noPins (fun _ => none) (rebS keep st) a w' := by
 refine ⟨Below.refl _ _, by simp [rebS, rebT_len, ha.fits], by rw [hd]; exact Marks.nil hG, fun i dv h => ?_, fun k r h => ?_, fun _ _ => rfl, (fun k l b h _ => by cases h), (fun k k' r r' l l' b _ _ _ _ h _ _ _ => by cases h), (fun _ _ h => h.elim), (fun _ h => h.elim), (fun _ _ h => by cases h), (fun _ _ _ _ => Nat.zero_le _)⟩
 ·unfold DS.tm rebS at h
  simp only at h
  rw [rebT_get] at h
  split at h
  ·rename_i hlt
   simp only [Nat.zero_add] at h
   cases e : findK i keep with
   | some d =>
    obtain ⟨h1, h2⟩ := hk i d e
    rw [e] at h
    cases h
    exact ⟨_, h1, RelD.mono (fun x v g => RelC.ofF (RelF.mono (Nat.le_refl _) (fun _ _ _ _ => rfl) (fun b hb _ => ⟨fun _ => hb, fun _ _ h => by cases h⟩) x g)) h2⟩
   | none =>
    rw [e] at h
    simp only at h
    cases e2 : (st.t[i]?).join with
    | none => rw [e2] at h; cases h
    | some d =>
     rw [e2] at h
     simp only at h
     cases e3 : flatD d with
     | false => rw [e3] at h; cases h
     | true =>
      obtain ⟨v, h1, h2⟩ := ha.tmp i d e2
      rw [e3] at h
      cases h
      exact ⟨v, h1, flat_up e3 h2⟩
  ·cases h
 ·unfold DS.at rebS at h
  simp only [List.getElem?_replicate] at h
  split at h <;> cases h
theorem run_yldC {a : Act} {w : World} {o : Oper} {c : Call} (ho : o.op = .call c) {f : Operand} (hc : c.callee = .value f) {l : Nat} (hg : a.eval f = .func (.yield l) #[] #[]) {args : List Value} (hargs : c.args.toList.map a.eval = args) {X : Result Next} (hX : (Instr.yield l args.toArray).run P w = X) : (execOp a.eval o).run P w = X := by
 have : c.args.map a.eval = args.toArray := by
  apply Array.toList_inj.1; simpa using hargs
 unfold execOp
 simp only [ho, resolve, hc, hg, Deferred.ofValue, Sem.run_bind, Sem.run_pure, Result.andThen_ok, invoke, Array.empty_append, this]
 simpa using hX
theorem evOpsY_sound (hT : TabOK P T) (hS : Valid P S) (C : YC P l0 n y keep wc W N J0 Jx ov) {ops : Array Oper} {Q : Exit → Act → World → Prop} {k : Option Nat → DS → Prop} (hQ : ∀ g st' a' w', k g st' → YA keep wc W N J0 Jx ov st' a' w' g → Q .normal a' w') : ∀ (l : List Oper), (∀ o ∈ l, okKeep keep o = true) → ∀ {st : DS} {a : Act} {w : World} {g : Option Nat}, YA keep wc W N J0 Jx ov st a w g → evOpsY P T S l0 n y keep ops.toList l st g k → wpListIn Fence.wide 0 P ops Q l a w
  | [], _, st, a, w, g, ha, h => hQ _ _ _ _ h ha
  | o :: l, hk, st, a, w, g, ha, h => by
    have hko := hk o (by simp)
    have hrest : ∀ o' ∈ l, okKeep keep o' = true := fun o' ho' => hk o' (by simp [ho'])
    have hdst : ∀ i d, findK i keep = some d → o.dst ≠ some i := by
      intro i d hf e
      unfold okKeep at hko
      rw [e] at hko
      simp [hf] at hko
    have hnd : ∀ c, o.op ≠ .defer c := by
      unfold okKeep at hko
      simp only [Bool.and_eq_true] at hko
      exact ndef_ok hko.1
    have normal : evOp P T S ops.toList noForb o st (fun st' => evOpsY P T S l0 n y keep ops.toList l st' g k) → wpListIn Fence.wide 0 P ops Q (o :: l) a w := by
      intro h
      rw [evOp_iff] at h
      obtain ⟨p, st', h1, h2, h3⟩ := h
      obtain ⟨hd, hov, w0, N0, M, hA, hg⟩ := ha
      have := step_fr hT hS hA h1 h2 (l := [o]) (by simp) (K := fun a' w' => wpListIn Fence.wide 0 P ops Q l a' w') (Q := Q) (fun M' a' w' hA' hfr => evOpsY_sound hT hS C hQ l hrest ⟨hfr.2.trans hd, fun i d hf => (hfr.1 i (by simpa using hdst i d hf)).trans (hov i d hf), w0, N0, M', hA', hg⟩ h3)
      exact this
    simp only [evOpsY] at h
    split at h
    · rename_i c l' hy hw
      obtain ⟨hd, hov, w0, N0, M, hA, hg⟩ := ha
      have hwant := want_ok hA hw
      unfold yldE at h
      split at h
      · rename_i i ls hds
        cases hfl : flatYs ls with
        | false => rw [hfl] at h; exact h.elim
        | true =>
        rw [hfl] at h
        simp only [Bool.not_true, cond_false] at h
        obtain ⟨⟨hl0, hi, hls⟩, hT', hF'⟩ := h
        simp only [Option.bind_eq_some_iff] at hds
        obtain ⟨ds, hds1, hds2⟩ := hds
        unfold yldC at hy
        split at hy
        case h_2 => cases hy
        rename_i c' hop
        split at hy
        case h_2 => cases hy
        rename_i f hcal
        split at hy
        case h_2 => cases hy
        rename_i d hf
        simp only [Option.map_eq_some_iff, Prod.mk.injEq] at hy
        obtain ⟨l2, hl2, rfl, rfl⟩ := hy
        have hgv : a.eval f = .func (.yield l0) #[] #[] := by
          have g1 := opv_rel hA hf
          rw [← hl0]
          unfold isYld at hl2
          split at hl2
          · cases hl2; exact g1.1
          · cases hl2
        have hvals := flatTs_val hfl (tts_rel hds2 (opvs_rel hA hds1))
        have hJw : J0 i w := C.hJ i w0 w none hg.1 (below_grown hA.below) (fun r e => by cases e)
        obtain ⟨fn, tmps, assign, body, hrun, hround⟩ := C.hY i w hi hJw
        rw [← hls] at hrun
        have hx := run_yldC (P := P) hop hcal hgv hvals hrun
        show if _ then _ else _
        rw [hwant, if_pos rfl]
        unfold Oper.wpIn
        refine ⟨fun f _ => trivial, ?_⟩
        rw [Oper.semAt_eq _ _ _ hnd, hx]
        refine ⟨(fun h => by cases h), hround.mono ?_⟩
        have hsz := hg.2.1
        have hsw : wc.heap.size ≤ w0.heap.size := Nat.le_trans C.hb.size hsz
        have hsA := hA.below.size
        have hov' : ∀ (v : Value) i d, findK i keep = some d → (a.put o.dst v).tmps[i]? = some (ov i) := fun v i d hf => by
          rw [put_get, if_neg (fun h => hdst i d hf h.1)]; exact hov i d hf
        rintro e w' (⟨rfl, hj, hs2, hkp⟩ | ⟨rfl, hj⟩)
        · have hkn : ∀ b, b < wc.heap.size → N b → w'.heap[b]? = W.heap[b]? := fun b hb hN => by
            rw [hkp b hb hN, hA.below.block b (by omega)]; exact hg.2.2 b hb hN
          have hreb := hA.reb (keep := keep) (ov := ov) (w' := w') (N := fun b => b < wc.heap.size ∧ N b) hd (C.hgJ _ _ hj) fun i d hf => ⟨hov i d hf, RelD.mono (fun x v g => RelF.mono (w := wc) (N := N) (by omega) (fun b hN hb off => by
                have e1 : w'.heap[b]? = wc.heap[b]? := (hkn b hb hN).trans (C.hb.block b hb)
                exact World.cell?_of_block (w := wc) (a := ⟨b, off, none⟩) e1) (fun b hN hb => ⟨hb, hN⟩) x g) (C.hk i d hf)⟩
          refine evOpsY_sound hT hS C hQ l hrest (g := some (i + 1)) ⟨by rw [put_defs]; exact hd, hov' _, w', _, _, hreb.putV o.dst (x := .t (.c (.v (.bool true)))) ⟨rfl, rfl⟩, hj, by omega, hkn⟩ hT'
        · have hreb := hA.reb (keep := []) (ov := ov) (w' := w') (N := fun _ => True) hd (C.hgX _ hj) fun i d hf => by cases hf
          refine evOpsY_sound hT hS C hQ l hrest (g := none) ⟨by rw [put_defs]; exact hd, hov' _, w', _, _, hreb.putV o.dst (x := .t (.c (.v (.bool false)))) ⟨rfl, rfl⟩, hj⟩ hF'
      · exact h.elim
    · exact normal h
theorem YA.tidyB {st st' : DS} {a : Act} {w : World} {g : Option Nat} (ha : YA keep wc W N J0 Jx ov st a w g) {hd : Hd} {bx : List Bx} (h : tidyB hd bx st = some st') : YA keep wc W N J0 Jx ov st' a w g := by
 obtain ⟨hd', hov, w0, N0, M, hA, hg⟩ := ha
 obtain ⟨M', hA'⟩ := hA.tidyB (by intro k l h; cases h) h
 exact ⟨hd', hov, w0, N0, M', hA', hg⟩
theorem YA.eval {st : DS} {a : Act} {w : World} {g : Option Nat} (ha : YA keep wc W N J0 Jx ov st a w g) {c : Operand} {t : Bool} (h : opv st c = some (.t (.c (.v (.bool t))))) : a.eval c = .bool t := by
 obtain ⟨hd', hov, w0, N0, M, hA, hg⟩ := ha
 exact (opv_rel hA h).1
theorem evY_sound (hT : TabOK P T) (hS : Valid P S) (C : YC P l0 n y keep wc W N J0 Jx ov) : ∀ (c : Code) {b : Nat} {F : List Nat} {kn : Option Nat → DS → Prop} {ke : Nat → Option Nat → DS → Prop} {kr : Option Nat → DS → Prop} {Kn : List Nat → Option Nat → DS → Prop} {Ke : List Nat → Nat → Option Nat → DS → Prop} {Kr : List Nat → Option Nat → DS → Prop} {Q : Exit → Act → World → Prop} {st : DS} {a : Act} {w : World} {g : Option Nat},
  okY ann keep c b = true → AllY J (loopsY P T S ann J l0 n y keep c b Kn Ke Kr) → Kn F = kn → Ke F = ke → Kr F = kr → YA keep wc W N J0 Jx ov st a w g →
  (∀ g st' a' w', kn g st' → YA keep wc W N J0 Jx ov st' a' w' g → Q .normal a' w') → (∀ i g st' a' w', ke i g st' → YA keep wc W N J0 Jx ov st' a' w' g → Q (.exit i) a' w') → (∀ g st' a' w', kr g st' → YA keep wc W N J0 Jx ov st' a' w' g → Q .ret a' w') →
  evY P T S ann J l0 n y keep c b F kn ke kr g st → c.wpIn Fence.wide 0 P Q a w
 | .skip, b, F, kn, ke, kr, Kn, Ke, Kr, Q, st, a, w, g, hok, hL, e1, e2, e3, ha, hn, he, hr, h => wpIn_skip (hn _ _ _ _ h ha)
 | .exit i, b, F, kn, ke, kr, Kn, Ke, Kr, Q, st, a, w, g, hok, hL, e1, e2, e3, ha, hn, he, hr, h => wpIn_exit (he i _ _ _ _ h ha)
 | .ret, b, F, kn, ke, kr, Kn, Ke, Kr, Q, st, a, w, g, hok, hL, e1, e2, e3, ha, hn, he, hr, h => wpIn_ret (hr _ _ _ _ h ha)
 | .region id ops draw, b, F, kn, ke, kr, Kn, Ke, Kr, Q, st, a, w, g, hok, hL, e1, e2, e3, ha, hn, he, hr, h => by
  simp only [okY, Bool.and_eq_true, Bool.not_eq_true'] at hok
  obtain ⟨hk, rfl⟩ := hok
  exact wpIn_region_list (evOpsY_sound hT hS C hn ops.toList (fun o ho => List.all_eq_true.1 hk o ho) ha h)
 | .seq x z, b, F, kn, ke, kr, Kn, Ke, Kr, Q, st, a, w, g, hok, hL, e1, e2, e3, ha, hn, he, hr, h => by
  simp only [okY, Bool.and_eq_true] at hok
  simp only [loopsY, AllY_append] at hL
  refine wpIn_seq (evY_sound hT hS C x (b := b) (F := F) hok.1 hL.1 (by rw [e1, e2, e3]) e2 e3 ha (fun g st' a' w' h' ha' => ?_) (fun i g st' a' w' h' ha' => he i _ _ _ _ h' ha') (fun g st' a' w' h' ha' => hr _ _ _ _ h' ha') h)
  exact evY_sound hT hS C z hok.2 hL.2 e1 e2 e3 ha' hn he hr h'
 | .cond c x z, b, F, kn, ke, kr, Kn, Ke, Kr, Q, st, a, w, g, hok, hL, e1, e2, e3, ha, hn, he, hr, h => by
  simp only [okY, Bool.and_eq_true] at hok
  simp only [loopsY, AllY_append] at hL
  simp only [evY] at h
  split at h
  ·rename_i t hc
   have hv := ha.eval hc
   cases t with
   | true => exact wpIn_cond_true hv (evY_sound hT hS C x hok.1 hL.1 e1 e2 e3 ha hn he hr h)
   | false => exact wpIn_cond_false hv (evY_sound hT hS C z hok.2 hL.2 e1 e2 e3 ha hn he hr h)
  ·exact h.elim
 | .block id x, b, F, kn, ke, kr, Kn, Ke, Kr, Q, st, a, w, g, hok, hL, e1, e2, e3, ha, hn, he, hr, h => by
  simp only [okY] at hok
  simp only [evY] at h
  simp only [loopsY] at hL
  refine wpIn_block (evY_sound hT hS C x (b := id) (F := F) hok hL e1 (by rw [e1, e2]) e3 ha (fun g st' a' w' h' ha' => hn _ _ _ _ h' ha') (fun i g st' a' w' h' ha' => ?_) (fun g st' a' w' h' ha' => hr _ _ _ _ h' ha') h)
  simp only [Exit.inBlock]
  cases e : Nat.beq i id with
  | true =>
   rw [e] at h'
   rw [if_pos (Nat.eq_of_beq_eq_true e)]
   exact hn _ _ _ _ h' ha'
  | false =>
   rw [e] at h'
   rw [if_neg (fun h2 => by rw [h2, Nat.beq_refl] at e; cases e)]
   exact he i _ _ _ _ h' ha'
 | .loop x, b, F, kn, ke, kr, Kn, Ke, Kr, Q, st, a, w, g, hok, hL, e1, e2, e3, ha, hn, he, hr, h => by
  simp only [okY, Bool.and_eq_true] at hok
  simp only [evY] at h
  split at h
  ·rename_i hd c hl
   simp only [loopsY, hl, AllY] at hL
   obtain ⟨⟨hz, hs⟩, hin⟩ := hL
   split at h
   ·rename_i s hts
    obtain ⟨m, hJ⟩ := h
    have key : ∀ (m : Nat) {c : Nat} {st : DS} {a : Act} {w : World}, YA keep wc W N J0 Jx ov st a w (some c) → J b (c :: m :: F) st → Code.roundsIn Fence.wide 0 P x Q m a w := by
     intro m
     induction m with
     | zero => intro c st a w ha h; exact (hz c F st h).elim
     | succ m ih =>
      intro c st a w ha h
      have h1 := hs c m F st h
      simp only [List.tail_cons] at h1
      rw [roundsIn_succ]
      rw [e2, e3] at h1
      refine evY_sound hT hS C x (F := m :: F) hok.2 hin rfl (by simpa using e2) (by simpa using e3) ha (fun g st' a' w' h' ha' => ?_) (fun i g st' a' w' h' ha' => he i _ _ _ _ h' ha') (fun g st' a' w' h' ha' => hr _ _ _ _ h' ha') h1
      unfold againY at h'
      split at h'
      ·rename_i c' s2 hs2
       exact ih (ha'.tidyB hs2) h'
      ·exact h'.elim
    exact wpIn_loop_rounds m (key m (ha.tidyB hts) hJ)
   ·exact h.elim
  ·exact h.elim
 | .rangeFunc .., _, _, _, _, _, _, _, _, _, _, _, _, _, _, _, _, _, _, _, _, _, _, h | .scope _, _, _, _, _, _, _, _, _, _, _, _, _, _, _, _, _, _, _, _, _, _, _, h | .label _, _, _, _, _, _, _, _, _, _, _, _, _, _, _, _, _, _, _, _, _, _, _, h
 | .goto _, _, _, _, _, _, _, _, _, _, _, _, _, _, _, _, _, _, _, _, _, _, _, h | .refuse _, _, _, _, _, _, _, _, _, _, _, _, _, _, _, _, _, _, _, _, _, _, _, h => h.elim
def endY (n : Nat) (g : Option Nat) (_ : DS) : Prop := match g with
 | some i => i = n
 | none => True
def evIt (P : Program) (T : Tab) (S : Sum) (ann : Ann) (J : Inv) (l0 n : Nat) (y : Nat → List TV) (keep : List (Nat × DV)) (fn : Func) (caps : List DV) : Prop := match fn.body with
 | some c => evY P T S ann J l0 n y keep c 0 [] (endY n) (fun _ _ _ => False) (endY n) (some 0) (start (.t (.c (.v (.func (.yield l0) #[] #[]))) :: caps) fn.ntmps)
 | none => False
def loopsIt (P : Program) (T : Tab) (S : Sum) (ann : Ann) (J : Inv) (l0 n : Nat) (y : Nat → List TV) (keep : List (Nat × DV)) (fn : Func) : List (Nat × (Nat → List Nat → DS → Prop)) := match fn.body with
 | some c => loopsY P T S ann J l0 n y keep c 0 (fun _ => endY n) (fun _ _ _ _ => False) (fun _ => endY n)
 | none => []
def okIt (ann : Ann) (keep : List (Nat × DV)) (fn : Func) : Bool := fn.results.toList.isEmpty && (match fn.body with
 | some c => okY ann keep c 0
 | none => false)
end Go.Proofs.YtdkpgodakmailaaGreatDoor.Ev
set_option linter.unusedVariables false
set_option linter.unusedSimpArgs false
namespace Go.Proofs.YtdkpgodakmailaaGreatDoor.Ev
open Go.RowKit
def keepOf : Nat → List CV → List (Nat × DV)
 | _, [] => []
 | i, x :: l => (i, .t (.c x)) :: keepOf (i + 1) l
theorem keepOf_get : ∀ {l : List CV} {k i : Nat} {d : DV}, findK i (keepOf k l) = some d → ∃ x, k ≤ i ∧ l[i - k]? = some x ∧ d = .t (.c x)
 | [], k, i, d, h => by cases h
 | x :: l, k, i, d, h => by
  simp only [keepOf, findK] at h
  cases e : Nat.beq i k with
  | true =>
   rw [e] at h
   cases h
   have := Nat.eq_of_beq_eq_true e
   subst this
   exact ⟨x, Nat.le_refl _, by simp, rfl⟩
  | false =>
   rw [e] at h
   obtain ⟨z, h1, h2, h3⟩ := keepOf_get (l := l) h
   refine ⟨z, by omega, ?_, h3⟩
   rw [show i - k = (i - (k + 1)) + 1 by omega]
   simpa using h2
theorem all2_caps {w : World} {N : Nat → Prop} : ∀ {l : List CV} {vs : List Value}, All2 (RelF w N) l vs → All2 (RelD (RelF w N)) (l.map fun x => DV.t (.c x)) vs
 | [], [], _ => trivial
 | x :: l, v :: vs, h => ⟨h.1, all2_caps h.2⟩
 | [], _ :: _, h => h.elim
 | _ :: _, [], h => h.elim
theorem it_sound {P : Program} {T : Tab} {S : Sum} (hT : TabOK P T) (hS : Valid P S) {ann : Ann} {f : FuncId} {fn : Func} (hf : P.funcs[f]? = some fn) {n : Nat} {y : Nat → List TV} {l : List CV} (hok : okIt ann (keepOf 1 l) fn = true) (hlen : l.length + 1 ≤ fn.ntmps)
  (h : ∀ l0, ∃ J : Inv, evIt P T S ann J l0 n y (keepOf 1 l) fn (l.map fun x => .t (.c x)) ∧ AllY J (loopsIt P T S ann J l0 n y (keepOf 1 l) fn))
  (w : World) (N : Nat → Prop) (vs : List Value) (hargs : All2 (RelF w N) l vs) : SeqIt P f #[] vs.toArray n (fun i => ((y i).map tvVal).toArray) (fun A B => A.heap.size ≤ B.heap.size ∧ ∀ b, b < w.heap.size → N b → B.heap[b]? = A.heap[b]?) w := by
 intro l0 J0 Jx W hb hJ hJx hgJ hgX hY h0
 obtain ⟨J, h, hL⟩ := h l0
 have hvl := hargs.length
 have hW := hb.size
 unfold okIt at hok
 unfold evIt at h
 unfold loopsIt at hL
 simp only [Bool.and_eq_true] at hok
 obtain ⟨hres, hok⟩ := hok
 cases hbd : fn.body with
 | none => rw [hbd] at h; exact h.elim
 | some c =>
 rw [hbd] at h hL hok
 simp only at h hL hok
 let ov : Nat → Value := fun i => (vs[i - 1]?).getD undef
 have hC : YC P l0 n y (keepOf 1 l) w W N J0 Jx ov := by
  refine ⟨hb, hJ, hgJ, hgX, hY, fun i d hd => ?_⟩
  obtain ⟨x, h1, h2, rfl⟩ := keepOf_get hd
  obtain ⟨v, e1, e2⟩ := hargs.get h2
  show RelF w N x ((vs[i - 1]?).getD undef)
  rw [e1]; exact e2
 have hargs2 : All2 (RelD (RelF W fun b => b < w.heap.size ∧ N b)) (.t (.c (.v (.func (.yield l0) #[] #[]))) :: l.map fun x => DV.t (.c x)) (.func (.yield l0) #[] #[] :: vs) :=
  ⟨⟨rfl, rfl⟩, all2_caps (hargs.mono fun x v g => RelF.mono (w := w) (N := N) hW (fun b _ hlt off => World.cell?_of_block (w := w) (a := ⟨b, off, none⟩) (hb.block b hlt)) (fun b hN hlt => ⟨hlt, hN⟩) x g)⟩
 obtain ⟨aL, has⟩ : ∃ aL : List DV, aL = .t (.c (.v (.func (.yield l0) #[] #[]))) :: l.map fun x => DV.t (.c x) := ⟨_, rfl⟩
 obtain ⟨us, hus⟩ : ∃ us : List Value, us = .func (.yield l0) #[] #[] :: vs := ⟨_, rfl⟩
 rw [← has, ← hus] at hargs2
 rw [← has] at h
 have hvl2 := hargs2.length
 have hla : aL.length = l.length + 1 := by rw [has]; simp
 have hstart : Abs W (fun b => b < w.heap.size ∧ N b) noPins (fun _ => none) (start aL fn.ntmps) { tmps := us.toArray ++ Array.replicate (fn.ntmps - us.toArray.size) undef, defers := [] } W := by
  refine ⟨Below.refl _ _, by simp [start, hvl2], Marks.nil (hgJ 0 W h0), fun i dv hi => ?_, fun k r hr => ?_, fun _ _ => rfl, (fun k l b h1 _ => by cases h1), (fun k k' r r' l l' b _ _ _ _ h1 _ _ _ => by cases h1), (fun _ _ h => h.elim), (fun _ h => h.elim), (fun _ _ h => by cases h), (fun _ _ _ _ => Nat.zero_le _)⟩
  ·unfold DS.tm start at hi
   simp only at hi
   by_cases hlt : i < aL.length
   ·rw [List.getElem?_append_left (by simpa using hlt), List.getElem?_map] at hi
    have e1 : aL[i]? = some dv := by
     cases e : aL[i]? with
     | none => rw [e] at hi; cases hi
     | some x => rw [e] at hi; simpa using hi
    obtain ⟨v, e2, e3⟩ := hargs2.get e1
    refine ⟨v, ?_, RelD.mono (fun x u g => RelC.ofF (RelF.mono (Nat.le_refl _) (fun _ _ _ _ => rfl) (fun b hb hl => ⟨fun _ => hb, fun k l h => by cases h⟩) x g)) e3⟩
    rw [Array.getElem?_append_left (by simp; omega)]
    simpa using e2
   ·rw [List.getElem?_append_right (by simpa using hlt), List.getElem?_replicate] at hi
    split at hi
    ·rename_i h2
     simp only [Option.join_some, Option.some.injEq] at hi
     subst hi
     simp only [List.length_map] at h2
     refine ⟨undef, ?_, [], rfl, trivial⟩
     rw [Array.getElem?_append_right (by simp; omega), Array.getElem?_replicate, if_pos (by simp; omega)]
    ·cases hi
  ·unfold DS.at start at hr
   simp only [List.getElem?_replicate] at hr
   split at hr <;> cases hr
 have hYA : YA (keepOf 1 l) w W N J0 Jx ov (start aL fn.ntmps) { tmps := us.toArray ++ Array.replicate (fn.ntmps - us.toArray.size) undef, defers := [] } W (some 0) := by
  refine ⟨rfl, fun i d hd => ?_, W, _, _, hstart, h0, Nat.le_refl _, fun _ _ _ => rfl⟩
  obtain ⟨x, h1, h2, rfl⟩ := keepOf_get hd
  obtain ⟨v, e1, e2⟩ := hargs.get h2
  have hlt : i - 1 < vs.length := (List.getElem?_eq_some_iff.1 e1).1
  show _ = some ((vs[i - 1]?).getD undef)
  rw [e1, Array.getElem?_append_left (by rw [hus]; simp; omega), hus]
  obtain ⟨j, rfl⟩ : ∃ j, i = j + 1 := ⟨i - 1, by omega⟩
  simpa using e1
 have hfin : ∀ (g : Option Nat) (st' : DS) (a' : Act) (w' : World), endY n g st' → YA (keepOf 1 l) w W N J0 Jx ov st' a' w' g → LeavesInM Fence.wide 0 P fn a'.tmps (fun e W' => (∃ v, e = .returned v) ∧ (J0 n W' ∨ Jx () W')) a'.defers .returning w' := by
  rintro g st' a' w' hg ⟨hd, _, w1, N1, M1, hA, hgg⟩
  rw [hd]
  have hr : (results fn a'.tmps).run P w' = .ok (.tuple #[]) w' := by
   have h1 : results fn a'.tmps = (do
    let vs ← fn.results.mapM (resS a'.tmps)
    pure (if h : vs.size = 1 then vs[0] else .tuple vs)) := rfl
   have h2 : fn.results = #[] := by
    apply Array.toList_inj.1
    simpa using hres
   rw [h1, h2]
   simp
  refine ⟨_, hr, ⟨_, rfl⟩, ?_⟩
  cases g with
  | none => exact Or.inr (hJx () w1 w' none hgg (below_grown hA.below) (fun r e => by cases e))
  | some i =>
   have : i = n := hg
   subst this
   exact Or.inl (hJ i w1 w' none hgg.1 (below_grown hA.below) (fun r e => by cases e))
 have hcalls : CallsIn Fence.wide 0 P f us.toArray W fun e W' => (∃ v, e = .returned v) ∧ (J0 n W' ∨ Jx () W') := by
  refine callsIn_of_wp_marks hf hbd trivial ?_
  refine evY_sound hT hS hC c hok hL rfl rfl rfl hYA (fun g st' a' w' hk ha' => ?_) (fun i g st' a' w' hk _ => hk.elim) (fun g st' a' w' hk ha' => ?_) h
  ·exact hfin g st' a' w' hk ha'
  ·exact hfin g st' a' w' hk ha'
 have e : us.toArray = #[] ++ #[.func (.yield l0) #[] #[]] ++ vs.toArray := by rw [hus]; simp
 rw [← e]
 exact hcalls
def LeC (al bs : List CV) : Prop := ∀ w N vs, All2 (RelF w N) al vs → All2 (RelF w N) bs vs
theorem LeC.refl (al : List CV) : LeC al al := fun _ _ _ h => h
def okB1 : CV → Bool
 | .v x => x.oneCell'
 | _ => false
def okBs : List CV → Bool
 | [] => true
 | x :: l => okB1 x && okBs l
def okBT : TV → Bool
 | .c x => okB1 x
 | .a l => okBs l
 | .fn _ _ => false
 | .fb _ _ => false
def okBTs : List TV → Bool
 | [] => true
 | x :: l => okBT x && okBTs l
theorem okB1_rel {w : World} {N : Nat → Prop} {x : CV} (h : okB1 x = true) : RelF w N x (cvVal x) := by
 cases x with
 | v y => exact ⟨rfl, h⟩
 | _ => cases h
theorem okBs_rel {w : World} {N : Nat → Prop} : ∀ {l : List CV}, okBs l = true → All2 (RelF w N) l (l.map cvVal)
 | [], _ => trivial
 | x :: l, h => by
  simp only [okBs, Bool.and_eq_true] at h
  exact ⟨okB1_rel h.1, okBs_rel h.2⟩
theorem okBT_rel {w : World} {N : Nat → Prop} {x : TV} (h : okBT x = true) : RelT (RelF w N) x (tvVal x) := by
 cases x with
 | c y => exact okB1_rel h
 | a l => exact ⟨_, rfl, okBs_rel h⟩
 | fn f l => cases h
 | fb f l => cases h
theorem okBTs_rel {w : World} {N : Nat → Prop} : ∀ {l : List TV}, okBTs l = true → All2 (RelT (RelF w N)) l (l.map tvVal)
 | [], _ => trivial
 | x :: l, h => by
  simp only [okBTs, Bool.and_eq_true] at h
  exact ⟨okBT_rel h.1, okBTs_rel h.2⟩
@[reducible] def ItC := List CV → Option ItR
def OkIt (P : Program) (f : FuncId) (F : ItC) : Prop := ∀ l R, F l = some R → okP R.pre → Enters P f ∧ (∀ i, i < R.n → (R.y i).length = R.m ∧ okBTs (R.y i) = true) ∧
 ∀ (w : World) (N : Nat → Prop) (vs : List Value), All2 (RelF w N) l vs → SeqIt P f (fbA R.bd vs) (lbA R.bd vs) R.n (fun i => ((R.y i).map tvVal).toArray) (KpI w N R.ty) w
def addI (it : It) (f : FuncId) (F : ItC) : It := fun g l => bif Nat.beq g f then (F l).map (fun R => { R with mu := none }) else it g l
theorem ItOk.eq {P : Program} {F G : List CV → Option ItR} {gf : FuncId} {l : List CV} {R : ItR} (h : ItOk P F gf l R) (e : F = G) : ItOk P G gf l R := e ▸ h
theorem ValidIt.add {P : Program} {it : It} {f : FuncId} {F : ItC} (h : ValidIt P it) (hF : OkIt P f F) : ValidIt P (addI it f F) := by
 intro g l R h1 h2
 cases e : Nat.beq g f with
 | true =>
  have h1 : (F l).map (fun R => { R with mu := none }) = some R := by unfold addI at h1; rw [e] at h1; exact h1
  rw [Nat.eq_of_beq_eq_true e]
  simp only [Option.map_eq_some_iff] at h1
  obtain ⟨R0, h3, rfl⟩ := h1
  obtain ⟨g1, g2, g3⟩ := hF l R0 h3 h2
  exact ⟨g1, fun i hi => ⟨(g2 i hi).1, fun w N => okBTs_rel (g2 i hi).2⟩, g3⟩
 | false =>
  have e2 : it g = addI it f F g := by funext l; unfold addI; rw [e]; rfl
  obtain ⟨g1, g2⟩ := h g l R (by rw [e2]; exact h1) h2
  exact ⟨g1, g2.eq e2⟩
def OkItM (P : Program) (f : FuncId) (F : ItC) : Prop := ∀ l R, F l = some R → okP R.pre → Enters P f ∧ ∃ U, R.mu = some U ∧ ∀ x c l', c.length = U.pos → l = c ++ .px 1 0 (fun _ => .v x) :: l' → MuOk P F f c l' R.m U.ty x
def addM (it : It) (f : FuncId) (F : ItC) : It := fun g l => bif Nat.beq g f then F l else it g l
theorem ValidIt.addM {P : Program} {it : It} {f : FuncId} {F : ItC} (h : ValidIt P it) (hF : OkItM P f F) : ValidIt P (addM it f F) := by
 intro g l R h1 h2
 cases e : Nat.beq g f with
 | true =>
  have e2 : F = Ev.addM it f F g := by funext l; unfold Ev.addM; rw [e]; rfl
  obtain ⟨g1, U, g2, g3⟩ := hF l R (by rw [e2]; exact h1) h2
  rw [Nat.eq_of_beq_eq_true e] at e2 ⊢
  refine ⟨g1, ?_⟩
  unfold ItOk
  rw [g2, ← e2]
  exact g3
 | false =>
  have e2 : it g = Ev.addM it f F g := by funext l; unfold Ev.addM; rw [e]; rfl
  obtain ⟨g1, g2⟩ := h g l R (by rw [e2]; exact h1) h2
  exact ⟨g1, g2.eq e2⟩
theorem OkIt.it {P : Program} {T : Tab} {S : Sum} (hT : TabOK P T) (hS : Valid P S) {ann : Ann} {f : FuncId} {fn : Func} (hf : P.funcs[f]? = some fn) (hn : (fn.name == "runtime.NumGoroutine") = false) {F : ItC}
  (h : ∀ l R, F l = some R → okP R.pre → ∃ al, R.bd = false ∧ LeC l al ∧ okIt ann (keepOf 1 al) fn = true ∧ al.length + 1 ≤ fn.ntmps ∧ (∀ i, (R.y i).length = R.m ∧ okBTs (R.y i) = true) ∧ ∀ l0, ∃ J : Inv, evIt P T S ann J l0 R.n R.y (keepOf 1 al) fn (al.map fun x => .t (.c x)) ∧ AllY J (loopsIt P T S ann J l0 R.n R.y (keepOf 1 al) fn)) : OkIt P f F := by
 intro l R h1 h2
 obtain ⟨al, g0, g1, g2, g3, g4, g5⟩ := h l R h1 h2
 have hb : fn.body.isNone = false := by
  unfold okIt at g2
  simp only [Bool.and_eq_true] at g2
  cases e : fn.body with
  | none => rw [e] at g2; cases g2.2
  | some c => rfl
 exact ⟨Enters.of hf hn hb, fun i _ => g4 i, fun w N vs hv => by rw [g0]; exact (it_sound hT hS hf g2 g3 g5 w N vs (g1 w N vs hv)).weak fun A B h => h.1⟩
theorem RelF.px_eq {w : World} {N : Nat → Prop} {n off : Nat} {c c' : Nat → CV} {v : Value} (hc : ∀ j, j < n → c j = c' j) (h : RelF w N (.px n off c) v) : RelF w N (.px n off c') v := by
 obtain ⟨b, o, g1, g2, g3, g4⟩ := h
 refine ⟨b, o, g1, g2, g3, fun j hj => ?_⟩
 obtain ⟨x, e1, e2⟩ := g4 j hj
 exact ⟨x, e1, by rw [← hc j hj]; exact e2⟩
@[reducible] def pxL (n : Nat) (c : Nat → CV) : List CV := (List.range n).map fun j => .v (.int .i64 (cvInt (c j)))
end Go.Proofs.YtdkpgodakmailaaGreatDoor.Ev
set_option linter.unusedVariables false
set_option linter.unusedSimpArgs false
namespace Go.Proofs.YtdkpgodakmailaaGreatDoor.Ev
open Go.RowKit
def cvLen : CV → Nat
 | .sl _ n _ => n
 | _ => 0
def cvCells : CV → Nat → Nat → CV
 | .sl _ _ c => c
 | _ => fun _ _ => .v (.bool false)
def slP (sz : Nat) (x : CV) : Prop := x = .sl sz (cvLen x) (cvCells x)
def LeC1 (a b : CV) : Prop := ∀ w N v, RelF w N a v → RelF w N b v
def LeCs : List CV → List CV → Prop
 | [], [] => True
 | a :: l, b :: m => LeC1 a b ∧ LeCs l m
 | _, _ => False
theorem LeCs.all {w : World} {N : Nat → Prop} : ∀ {l m : List CV} {vs : List Value}, LeCs l m → All2 (RelF w N) l vs → All2 (RelF w N) m vs
 | [], [], _, _, h => h
 | _ :: _, _ :: _, v :: vs, g, h => ⟨g.1 w N v h.1, LeCs.all g.2 h.2⟩
 | [], _ :: _, _, g, _ => g.elim
 | _ :: _, [], _, g, _ => g.elim
 | _ :: _, _ :: _, [], _, h => h.elim
theorem LeCs.nil : LeCs [] [] := trivial
theorem LeCs.cons {a b : CV} {l m : List CV} (h : LeC1 a b) (g : LeCs l m) : LeCs (a :: l) (b :: m) := ⟨h, g⟩
theorem LeC1.refl (a : CV) : LeC1 a a := fun _ _ _ h => h
theorem leT_a {l m : List CV} (h : LeCs l m) : LeD (.t (.a l)) (.t (.a m)) := by
 rintro w N v ⟨vs, e, g⟩
 exact ⟨vs, e, h.all g⟩
theorem leT_f {f : FuncId} {l m : List CV} (h : LeCs l m) : LeD (.t (.fn f l)) (.t (.fn f m)) := by
 rintro w N v ⟨vs, e, g⟩
 exact ⟨vs, e, h.all g⟩
theorem leT_c {a b : CV} (h : LeC1 a b) : LeD (.t (.c a)) (.t (.c b)) := fun w N v g => h w N v g
theorem leC_i {a : CV} (h : a = .v (.int .i64 (cvInt a))) : LeC1 a (.v (.int .i64 (cvInt a))) := by rw [← h]; exact LeC1.refl a
theorem leC_s {sz : Nat} {a b : CV} (h : slP sz a) (g : LeD (.t (.c (.sl sz (cvLen a) (cvCells a)))) (.t (.c b))) : LeC1 a b := by
 intro w N v k
 refine g w N v ?_
 rw [h] at k
 exact k
theorem LeCs.get : ∀ {l m : List CV} {j : Nat} {a : CV}, LeCs l m → l[j]? = some a → ∃ b, m[j]? = some b ∧ LeC1 a b
 | a :: l, b :: m, 0, x, h, e => by
  simp at e; subst e; exact ⟨b, by simp, h.1⟩
 | a :: l, b :: m, j + 1, x, h, e => by
  simp at e
  obtain ⟨y, h1, h2⟩ := LeCs.get h.2 e
  exact ⟨y, by simpa using h1, h2⟩
 | [], [], _, _, _, e => by simp at e
 | [], _ :: _, _, _, h, _ => h.elim
 | _ :: _, [], _, _, h, _ => h.elim
theorem leC_p {n : Nat} {c : Nat → CV} {l : List CV} (h : LeCs (fwd c 0 n) l) : LeC1 (.px n 0 c) (.px n 0 (boxC l)) := by
 rintro w N v ⟨b, o, g1, g2, g3, g4⟩
 refine ⟨b, o, g1, g2, g3, fun j hj => ?_⟩
 obtain ⟨x, e1, e2⟩ := g4 j hj
 refine ⟨x, e1, ?_⟩
 have e3 : (fwd c 0 n)[j]? = some (c j) := by rw [fwd_get, if_pos hj, Nat.zero_add]
 obtain ⟨y, k1, k2⟩ := h.get e3
 have e4 : boxC l j = y := by simp [boxC, List.getD, k1]
 rw [e4]
 exact k2 w N x e2
def intsB : List Nat → (Nat → CV) → Bool
 | [], _ => true
 | j :: l, c => (match c j with
  | .v (.int .i64 _) => true
  | _ => false) && intsB l c
theorem intsB_get : ∀ {l : List Nat} {c : Nat → CV}, intsB l c = true → ∀ j ∈ l, c j = .v (.int .i64 (cvInt (c j)))
 | k :: l, c, h, j, hj => by
  simp only [intsB, Bool.and_eq_true] at h
  rcases List.mem_cons.1 hj with e | e
  ·subst e
   have h1 := h.1
   split at h1
   ·rename_i x hx
    rw [hx]; rfl
   ·cases h1
  ·exact intsB_get h.2 j e
def addF (S : Sum) (f : FuncId) (F : Con) : Sum := fun g args => bif Nat.beq g f then (match F args with
 | some r => some r
 | none => S g args) else S g args
theorem Valid.addF {P : Program} {S : Sum} {f : FuncId} {F : Con} (h : Valid P S) (hF : Ok P f F) : Valid P (Ev.addF S f F) := by
 intro g args r pre fresh h1 h2
 unfold Ev.addF at h1
 cases e : Nat.beq g f with
 | true =>
  rw [e] at h1
  simp only [cond_true] at h1
  split at h1
  ·rename_i x hx
   cases h1
   rw [Nat.eq_of_beq_eq_true e]
   exact hF args r pre fresh hx h2
  ·exact h g args r pre fresh h1 h2
 | false => rw [e] at h1; exact h g args r pre fresh h1 h2
theorem leSl {sz n : Nat} {c c' : Nat → Nat → CV} (h : ∀ i j, i < n → j < sz → c i j = c' i j) : LeD (.t (.c (.sl sz n c))) (.t (.c (.sl sz n c'))) := fun w N v g => RelF.sl g h
end Go.Proofs.YtdkpgodakmailaaGreatDoor.Ev
set_option linter.unusedVariables false
set_option linter.unusedSimpArgs false
namespace Go.Proofs.YtdkpgodakmailaaGreatDoor.Ev
open Go.RowKit
variable {w0 : World} {N0 : Nat → Prop} {Z : Pins} {P : Program} {T : Tab} {S : Sum} {M : Map} {a : Act} {w : World}
theorem fn_core (hm : P.follows .mixedOrders = true) (hT : TabOK P T) (hS : Valid P S) {ann : Ann} (hI : ValidIt P ann.it) {J : Inv} {f : FuncId} {fn : Func} (hf : P.funcs[f]? = some fn) {c : Code} (hb : fn.body = some c) (hok : okCode ann c = true ∧ flatB ann false false c 0 = true) {args : List DV} {K : DS → Prop} (h : ev P T S ann J c 0 [] K (fun _ _ => False) K (start args fn.ntmps)) (hL : AllG J (loops P T S ann J c 0 (fun _ => K) (fun _ _ _ => False) (fun _ => K))) (hlen : args.length ≤ fn.ntmps)
  (W : World) (N : Nat → Prop) (vs : List Value) (hG : Gd W) (hargs : All2 (RelD (RelF W N)) args vs) {R : Ending → World → Prop}
  (hret : ∀ M' st' a' w', K st' → Abs W N noPins M' st' a' w' → ∃ v, (results fn a'.tmps).run P w' = .ok v w' ∧ R (.returned v) w') : Calls P f vs.toArray W R := by
 have hvl := hargs.length
 have hstart : Abs W N noPins (fun _ => none) (start args fn.ntmps) { tmps := vs.toArray ++ Array.replicate (fn.ntmps - vs.toArray.size) undef, defers := [] } W := by
  refine ⟨Below.refl _ _, by simp [start, hvl], Marks.nil hG, fun i dv hi => ?_, fun k r hr => ?_, fun _ _ => rfl, (fun k l b h1 _ => by cases h1), (fun k k' r r' l l' b _ _ _ _ h1 _ _ _ => by cases h1), (fun _ _ h => h.elim), (fun _ h => h.elim), (fun _ _ h => by cases h), (fun _ _ _ _ => Nat.zero_le _)⟩
  ·unfold DS.tm start at hi
   simp only at hi
   by_cases hlt : i < args.length
   ·rw [List.getElem?_append_left (by simpa using hlt), List.getElem?_map] at hi
    have e1 : args[i]? = some dv := by
     cases e : args[i]? with
     | none => rw [e] at hi; cases hi
     | some x => rw [e] at hi; simpa using hi
    obtain ⟨v, e2, e3⟩ := hargs.get e1
    refine ⟨v, ?_, RelD.mono (fun x u g => RelC.ofF (RelF.mono (Nat.le_refl _) (fun _ _ _ _ => rfl) (fun b hb hl => ⟨fun _ => hb, fun k l h => by cases h⟩) x g)) e3⟩
    rw [Array.getElem?_append_left (by simp; omega)]
    simpa using e2
   ·rw [List.getElem?_append_right (by simpa using hlt), List.getElem?_replicate] at hi
    split at hi
    ·rename_i h2
     simp only [Option.join_some, Option.some.injEq] at hi
     subst hi
     simp only [List.length_map] at h2
     refine ⟨undef, ?_, [], rfl, trivial⟩
     rw [Array.getElem?_append_right (by simp; omega), Array.getElem?_replicate, if_pos (by simp; omega)]
    ·cases hi
  ·unfold DS.at start at hr
   simp only [List.getElem?_replicate] at hr
   split at hr <;> cases hr
 have hleave : ∀ (ds : List Deferred) (M' : Map) (st' : DS) (a' : Act) (w' : World), a'.defers = ds → K st' → Abs W N noPins M' st' a' w' → LeavesInM Fence.wide 0 P fn a'.tmps R ds .returning w' := by
  intro ds
  induction ds with
  | nil =>
   intro M' st' a' w' _ hk ha'
   exact hret M' st' a' w' hk ha'
  | cons d ds ih =>
   intro M' st' a' w' hd hk ha'
   obtain ⟨D, h1, h2, h3, h4⟩ := ha'.defs.1 d (by rw [hd]; simp)
   refine ⟨by simp, Or.inl ⟨D, _, by rw [h1], run_takeDeferred h3, ?_⟩⟩
   have hm2 := ha'.defs
   rw [hd] at hm2
   have ha2 : Abs W N noPins M' st' { a' with defers := ds } w' := ⟨ha'.below, ha'.fits, ⟨fun d' hd' => hm2.1 d' (by simp [hd']), (List.pairwise_cons.1 hm2.2.1).2, hm2.2.2⟩, ha'.tmp, ha'.row, ha'.dom, ha'.own, ha'.apart, ha'.pinB, ha'.pinN, ha'.pinK, fun _ _ _ _ => Nat.zero_le _⟩
   refine ih M' st' { a' with defers := ds } _ rfl hk (ha2.grownN (grownBy_putObj' w' D _) fun r e => ?_)
   cases e
   exact ⟨h2, ⟨_, h3, rfl⟩, fun _ h => h.elim, fun d' hd' e => (List.pairwise_cons.1 hm2.2.1).1 d' hd' (by rw [e, h1])⟩
 refine (callsIn_wide (n := 0)).1 (callsIn_of_wp_marks hf hb trivial ?_)
 refine ev_sound hm hT hS hI c (ro := none) (q := false) (fun _ => ⟨rfl, rfl⟩) hok.1 hok.2 (Or.inr ⟨hL, rfl, rfl, rfl⟩) hstart (fun M' st' a' w' hk ha' => ?_) (fun i M' st' a' w' hk _ => hk.elim) (fun M' st' a' w' hk ha' => ?_) h
 ·exact hleave _ M' st' a' w' rfl hk ha'
 ·exact hleave _ M' st' a' w' rfl hk ha'
def ownRow (st : DS) (k : Nat) (r : DV) : Option (DV × Row) := match st.at k with
 | some (.gen ty sz l) => some (r, .gen ty sz l)
 | some (.num ty kd l) => some (r, .num ty kd l)
 | _ => none
def ownOf (st : DS) : DV → Option (DV × Row)
 | .t (.c (.os k)) => ownRow st k (.t (.c (.os 0)))
 | .tu (.c (.os k) :: l) => bif flatTs l then ownRow st k (.tu (.c (.os 0) :: l)) else none
 | _ => none
def plainR : Row → Prop
 | .gen _ _ l => ∀ e ∈ l, ∀ x ∈ e, ∃ y, x = .v y
 | .num _ _ _ => True
 | _ => False
def retKO (T : Tab) (fn : Func) (post : DV → Row → Prop) (st : DS) : Prop := match resE T st fn.results.toList with
 | some (d, p) => match ownOf st d with
  | some (r, R) => (match p with
   | none => post r R
   | some p => p ∧ post r R)
  | none => False
 | none => False
def evFnO (P : Program) (T : Tab) (S : Sum) (ann : Ann) (J : Inv) (fn : Func) (args : List DV) (post : DV → Row → Prop) : Prop := match fn.body with
 | some c => ev P T S ann J c 0 [] (retKO T fn post) (fun _ _ => False) (retKO T fn post) (start args fn.ntmps)
 | none => False
def loopsFnO (P : Program) (T : Tab) (S : Sum) (ann : Ann) (J : Inv) (fn : Func) (post : DV → Row → Prop) : List Ent := match fn.body with
 | some c => loops P T S ann J c 0 (fun _ => retKO T fn post) (fun _ _ _ => False) (fun _ => retKO T fn post)
 | none => []
def roundO (P : Program) (T : Tab) (S : Sum) (ann : Ann) (J : Inv) (fn : Func) (post : DV → Row → Prop) (i : Nat) (F : List Nat) (s : DS) : Prop := match (loopsFnO P T S ann J fn post)[i]? with
 | some (.lp _ G) => G F s
 | some (.rf _ G) => (match F with
  | [i] => G i s
  | _ => True)
 | none => True
theorem all2_plain {N N' : Nat → Prop} : ∀ {l : List CV} {vs : List Value}, (∀ x ∈ l, ∃ y, x = .v y) → All2 (RelF w N) l vs → All2 (RelF w N') l vs
 | [], [], _, _ => trivial
 | x :: l, v :: vs, h, g => by
  obtain ⟨y, rfl⟩ := h x (by simp)
  exact ⟨g.1, all2_plain (fun z hz => h z (by simp [hz])) g.2⟩
 | [], _ :: _, _, g => g.elim
 | _ :: _, [], _, g => g.elim
theorem ownOf_rel {st : DS} (ha : Abs w0 N0 Z M st a w) {d r : DV} {R : Row} (h : ownOf st d = some (r, R)) (hp : plainR R) {v : Value} (hr : RelD (RelC w (fgn w0 N0 M) M) d v) : ∃ u, RelD (RelC w (fun _ => False) (own1 u)) r v ∧ RelR w w0.heap.size (fun _ => False) (own1 u) 0 R := by
 have row : ∀ {k : Nat} {r r' : DV} {R : Row}, ownRow st k r = some (r', R) → plainR R → r = r' ∧ ∃ u, M k = some (.row u) ∧ RelR w w0.heap.size (fun _ => False) (own1 u) 0 R := by
  intro k r r' R h hp
  unfold ownRow at h
  split at h
  ·rename_i ty sz l hrow
   cases h
   obtain ⟨v', xs, g1, g2, g3, g4⟩ := ha.row k _ hrow
   refine ⟨rfl, v', g1, v', xs, by simp [own1], g2, g3, all2_plain (fun x hx => ?_) g4⟩
   obtain ⟨e, he, hx⟩ := List.mem_flatten.1 hx
   exact hp e he x hx
  ·rename_i ty kd l hrow
   cases h
   obtain ⟨v', g1, g2⟩ := ha.row k _ hrow
   exact ⟨rfl, v', g1, v', by simp [own1], g2⟩
  ·cases h
 unfold ownOf at h
 split at h
 ·rename_i k
  obtain ⟨rfl, u, hM, hR⟩ := row h hp
  have hr1 : M k = some (.row v) := hr.1
  rw [hM] at hr1; cases hr1
  exact ⟨_, ⟨by simp [own1], hr.2⟩, hR⟩
 ·rename_i k l
  cases hq : flatTs l with
  | false => rw [hq] at h; cases h
  | true =>
   rw [hq] at h
   obtain ⟨rfl, u, hM, hR⟩ := row h hp
   obtain ⟨vs, e, g⟩ := hr
   match vs, g with
   | x :: vs, g =>
    have hr1 : M k = some (.row x) := g.1.1
    rw [hM] at hr1; cases hr1
    exact ⟨_, ⟨_ :: vs, e, ⟨by simp [own1], g.1.2⟩, flatTs_any hq g.2⟩, hR⟩
   | [], g => exact g.elim
 ·cases h
theorem RelC_none {w : World} {N' : Nat → Prop} {M : Map} : ∀ {x : CV} {v : Value}, RelC w (fun _ => False) M x v → RelC w N' M x v
 | .v _, _, g => g
 | .sl .., _, g => RelF.all (x := .sl ..) g fun _ h => h.elim
 | .px .., _, g => RelF.all (x := .px ..) g fun _ h => h.elim
 | .er _, _, g => g
 | .any, _, g => g
 | .os _, _, g | .p _ _, _, g | .pe _ _ _ _, _, g | .ob _ _ _ _, _, g => g
theorem Ok.fnO {P : Program} {T : Tab} {S : Sum} (hm : P.follows .mixedOrders = true) (hT : TabOK P T) (hS : Valid P S) {ann : Ann} (hI : ValidIt P ann.it) {f : FuncId} {fn : Func} (hf : P.funcs[f]? = some fn) (hn : (fn.name == "runtime.NumGoroutine") = false) (hok : okFn ann fn = true) {F : Con}
  (h : ∀ args r pre fresh, F args = some (r, pre, fresh) → okP pre → ∃ R, fresh = .own R ∧ plainR R ∧ ∃ (J : Inv) (al : List DV), LeA args al ∧ al.length ≤ fn.ntmps ∧ evFnO P T S ann J fn al (fun r' R' => r' = r ∧ R' = R) ∧ AllG J (loopsFnO P T S ann J fn (fun r' R' => r' = r ∧ R' = R))) : Ok P f F := by
 intro args r pre fresh h1 h2
 obtain ⟨R, rfl, hpl, J, al, g1, g2, g3, g4⟩ := h args r pre fresh h1 h2
 unfold okFn at hok
 unfold evFnO at g3
 unfold loopsFnO at g4
 cases hb : fn.body with
 | none => rw [hb] at g3; exact g3.elim
 | some c =>
 rw [hb] at g3 g4 hok
 simp only at g3 g4
 simp only [Bool.and_eq_true] at hok
 refine ⟨Enters.of hf hn (by rw [hb]; rfl), fun W N vs hG hv => ?_⟩
 refine fn_core hm hT hS hI hf hb hok g3 g4 g2 W N vs hG (g1 W N vs hv) fun M' st' a' w' hk ha' => ?_
 unfold retKO at hk
 split at hk
 ·rename_i d p hres
  split at hk
  ·rename_i r' R' hown
   have hk' : okP p ∧ r' = r ∧ R' = R := by
    cases p with
    | none => exact ⟨trivial, hk⟩
    | some p => exact hk
   obtain ⟨hp, rfl, rfl⟩ := hk'
   obtain ⟨v, e1, e2⟩ := resE_run hT ha' hres hp
   exact ⟨v, e1, v, rfl, by obtain ⟨u, k1, k2⟩ := ownOf_rel ha' hown hpl e2; exact ⟨u, RelD.mono (fun x y g => RelC_none g) k1, k2⟩, ha'.below⟩
  ·exact hk.elim
 ·exact hk.elim
end Go.Proofs.YtdkpgodakmailaaGreatDoor.Ev
set_option linter.unusedVariables false
set_option linter.unusedSimpArgs false
namespace Go.Proofs.YtdkpgodakmailaaGreatDoor
open Go.RowKit
section
variable {P : Program} {ops : Array Oper} {md : Region.Mode} {C : World → Prop}
structure MidInv (md : Region.Mode) (ops : Array Oper) (n : Nat) (l0 listed : Array Bool) : Prop where
 size : listed.size = ops.size
 closed : ∀ j oj, ops[j]? = some oj → listed.getD j false = true → ∀ e ∈ oj.after, Region.binds md e = true → listed.getD e.on false = true
 tail : ∀ t, n ≤ t → t < ops.size → listed.getD t true = false
 start : ∀ j, l0.getD j false = true → listed.getD j false = true
theorem MidInv.set {n i : Nat} {l0 listed : Array Bool} (inv : MidInv md ops n l0 listed) (hi : i ∈ Region.ready md ops listed) (hin : i < n) : MidInv md ops n l0 (listed.setIfInBounds i true) := by
 obtain ⟨hun, oi, hoi, hall⟩ := mem_ready.1 hi
 refine ⟨by simp [inv.size], fun j oj hj hl e he hb => ?_, fun t ht ht' => ?_, fun j hj => getD_set_true (inv.start j hj)⟩
 ·by_cases hij : i = j
  ·subst hij
   have : oj = oi := Option.some.inj (hj.symm.trans hoi)
   subst this
   exact getD_set_true (hall e he hb)
  ·rw [getD_set_ne false hij] at hl
   exact getD_set_true (inv.closed j oj hj hl e he hb)
 ·rw [getD_set_ne true (by omega)]; exact inv.tail t ht ht'
def pick (l : List Oper) : List Nat → List Oper
 | [] => []
 | i :: p => (l.drop i).head?.toList ++ pick l p
end
def Elem (P : Program) (t e : TypeId) (sz bytes : Nat) : Prop := ∃ i z, P.underlying t = some (.slice e) ∧ P.info? e = some i ∧ i.zero = some z ∧ i.size = sz ∧ i.bytes = bytes ∧ z.cells.size = sz ∧ 0 < sz
theorem Elem.mk {P : Program} {t e : TypeId} {z : Value} {sz bytes : Nat} (ht : P.underlying t = some (.slice e)) (hi : (P.info? e).map (fun i => (i.zero, i.size, i.bytes)) = some (some z, sz, bytes)) (hz : z.cells.size = sz) (hs : 0 < sz) : Elem P t e sz bytes := by
 obtain ⟨i, h1, h2, h3, h4⟩ := info_parts hi
 exact ⟨i, z, ht, h1, h2, h3, h4, hz, hs⟩
structure Pushed (base : Nat) (w w' : World) (v v' : Value) : Prop where
 below : Below base w w'
 other : ∀ k, k < w.heap.size → some k ≠ v.ownBlock → w'.heap[k]? = w.heap[k]?
 lies : v'.ownBlock = v.ownBlock ∨ v'.ownBlock = some w.heap.size
end Go.Proofs.YtdkpgodakmailaaGreatDoor
set_option linter.unusedVariables false
set_option linter.unusedSimpArgs false
namespace Go.Proofs.YtdkpgodakmailaaGreatDoor
open Go.RowKit
section
variable {P : Program} {md : Region.Mode}
end
end Go.Proofs.YtdkpgodakmailaaGreatDoor
set_option linter.unusedVariables false
set_option linter.unusedSimpArgs false
namespace Go.Proofs.YtdkpgodakmailaaGreatDoor
open Go.RowKit
section
variable {P : Program} {md : Region.Mode}
inductive Stp where
 | q (ks : List Nat)
 | f (ks : List Nat)
 | p (i j : Nat)
end
end Go.Proofs.YtdkpgodakmailaaGreatDoor
set_option linter.unusedVariables false
set_option linter.unusedSimpArgs false
namespace Go.Proofs.YtdkpgodakmailaaGreatDoor
open Go.RowKit
section
variable {P : Program} {md : Region.Mode} {ops : Array Oper} {Q : Exit → Act → World → Prop} {C : World → Prop}
end
end Go.Proofs.YtdkpgodakmailaaGreatDoor
set_option linter.unusedVariables false
set_option linter.unusedSimpArgs false
namespace Go.Proofs.YtdkpgodakmailaaGreatDoor
open Go.RowKit
theorem add_plain' (g i j : Nat) : (⟨g, i, none⟩ : Addr).add j = ⟨g, i + j, none⟩ := by unfold Addr.add; split <;> simp_all
def flat (n sz : Nat) (c : Nat → Nat → Value) : List Value := (List.range (n * sz)).map fun q => c (q / sz) (q % sz)
theorem flat_at {n sz : Nat} {c : Nat → Nat → Value} {q : Nat} {u : Value} (h : (flat n sz c)[q]? = some u) : q < n * sz ∧ u = c (q / sz) (q % sz) := by
 have hq : q < n * sz := by have := (List.getElem?_eq_some_iff.1 h).1; simpa [flat] using this
 refine ⟨hq, ?_⟩
 simp [flat, hq] at h
 exact h.symm
theorem flat_ints (l : List Int) : flat l.length 1 (fun i _ => .int .i64 (nth l i)) = l.map (Value.int .i64) := by
 apply List.ext_getElem (by simp [flat])
 intro i h1 h2
 have h3 : i < l.length := by simpa using h2
 simp [flat, nth, List.getD, h3]
theorem SlAt.src {w : World} {v : Value} {n sz : Nat} {c : Nat → Nat → Value} (h : SlAt w v n sz c) : ∃ ao cap, v = .slice ao n cap ∧ n ≤ cap ∧ cap ≤ maxLen ∧
  ∀ W : World, Below w.heap.size w W → ((ao = none ∧ n = 0 ∧ cap = 0) ∨ ∃ ad, ao = some ad ∧ ∀ q u, (flat n sz c)[q]? = some u → W.cell? (ad.add q) = some u) := by
 obtain ⟨ao, cap, rfl, h1, h2, h3, h4⟩ := h
 refine ⟨ao, cap, rfl, h1, h2, fun W hW => ?_⟩
 by_cases hn : 0 < n
 ·obtain ⟨b, off, e, hlt, hc⟩ := h3 hn
  refine Or.inr ⟨_, e, fun q u hq => ?_⟩
  obtain ⟨hq1, rfl⟩ := flat_at hq
  have hs : 0 < sz := Nat.pos_of_ne_zero (by rintro rfl; simp at hq1)
  have hi : q / sz < n := Nat.div_lt_of_lt_mul (by rwa [Nat.mul_comm])
  rw [add_plain', ← hc (q / sz) (q % sz) hi (Nat.mod_lt _ hs), show off + q / sz * sz + q % sz = off + q from by rw [Nat.add_assoc, Nat.mul_comm, Nat.div_add_mod]]
  exact hW.cell (p := ⟨b, off + q, none⟩) hlt
 ·have hn0 : n = 0 := by omega
  subst hn0
  cases ao with
  | none => exact Or.inl ⟨rfl, rfl, h4 rfl⟩
  | some ad => exact Or.inr ⟨ad, rfl, fun q u hq => absurd (flat_at hq).1 (by omega)⟩
theorem IntsAt.src {w : World} {v : Value} {l : List Int} (h : IntsAt w v l) : ∃ ao cap, v = .slice ao l.length cap ∧ l.length ≤ cap ∧ cap ≤ maxLen ∧
  ∀ W : World, Below w.heap.size w W → ((ao = none ∧ l.length = 0 ∧ cap = 0) ∨ ∃ ad, ao = some ad ∧ ∀ q u, (l.map (Value.int .i64))[q]? = some u → W.cell? (ad.add q) = some u) := by
 have := SlAt.src h
 rwa [show flat l.length 1 (fun i _ => Value.int .i64 (l.getD i 0)) = l.map (Value.int .i64) from flat_ints l] at this
def SlIn (w : World) (v : Value) (n sz : Nat) (c : Nat → Nat → Value) (N : Nat → Prop) : Prop :=
 ∃ ao cap, v = .slice ao n cap ∧ n ≤ cap ∧ cap ≤ maxLen ∧
  (0 < n → ∃ b off, ao = some ⟨b, off, none⟩ ∧ b < w.heap.size ∧ N b ∧ ∀ i j, i < n → j < sz → w.cell? ⟨b, off + i * sz + j, none⟩ = some (c i j)) ∧ (ao = none → cap = 0)
theorem SlIn.sl {w : World} {v : Value} {n sz : Nat} {c : Nat → Nat → Value} {N : Nat → Prop} (h : SlIn w v n sz c N) : SlAt w v n sz c := by
 obtain ⟨ao, cap, rfl, h1, h2, h3, h4⟩ := h
 refine ⟨ao, cap, rfl, h1, h2, fun h0 => ?_, h4⟩
 obtain ⟨b, off, e, hlt, _, hc⟩ := h3 h0
 exact ⟨b, off, e, hlt, hc⟩
theorem cell_of_heap {w w' : World} {b o : Nat} (h : w'.heap[b]? = w.heap[b]?) : w'.cell? ⟨b, o, none⟩ = w.cell? ⟨b, o, none⟩ := by
 simp only [World.cell?, h]
theorem SlIn.keep {w w' : World} {v : Value} {n sz : Nat} {c : Nat → Nat → Value} {N N' : Nat → Prop} (h : SlIn w v n sz c N) (hs : w.heap.size ≤ w'.heap.size) (hk : ∀ b, b < w.heap.size → N b → w'.heap[b]? = w.heap[b]? ∧ N' b) : SlIn w' v n sz c N' := by
 obtain ⟨ao, cap, rfl, h1, h2, h3, h4⟩ := h
 refine ⟨ao, cap, rfl, h1, h2, fun h0 => ?_, h4⟩
 obtain ⟨b, off, e, hlt, hN, hc⟩ := h3 h0
 obtain ⟨h5, h6⟩ := hk b hlt hN
 exact ⟨b, off, e, Nat.lt_of_lt_of_le hlt hs, h6, fun i j hi hj => (cell_of_heap h5).trans (hc i j hi hj)⟩
def Pair2 (w : World) (b : Nat) (x y : Value) : Prop := b < w.heap.size ∧ w.cell? ⟨b, 0, none⟩ = some x ∧ w.cell? ⟨b, 1, none⟩ = some y
theorem Pair2.below {w w' : World} {b : Nat} {x y : Value} (h : Pair2 w b x y) (hb : Below w.heap.size w w') : Pair2 w' b x y :=
 ⟨Nat.lt_of_lt_of_le h.1 hb.size, (hb.cell (p := ⟨b, 0, none⟩) h.1).trans h.2.1, (hb.cell (p := ⟨b, 1, none⟩) h.1).trans h.2.2⟩
def Quad (w : World) (b : Nat) (x y z u : Value) : Prop := b < w.heap.size ∧ w.cell? ⟨b, 0, none⟩ = some x ∧ w.cell? ⟨b, 1, none⟩ = some y ∧ w.cell? ⟨b, 2, none⟩ = some z ∧ w.cell? ⟨b, 3, none⟩ = some u
theorem Quad.below {w w' : World} {b : Nat} {x y z u : Value} (h : Quad w b x y z u) (hb : Below w.heap.size w w') : Quad w' b x y z u :=
 ⟨Nat.lt_of_lt_of_le h.1 hb.size, (hb.cell (p := ⟨b, 0, none⟩) h.1).trans h.2.1, (hb.cell (p := ⟨b, 1, none⟩) h.1).trans h.2.2.1, (hb.cell (p := ⟨b, 2, none⟩) h.1).trans h.2.2.2.1, (hb.cell (p := ⟨b, 3, none⟩) h.1).trans h.2.2.2.2⟩
def scan (f : Nat → Int) (n : Nat) : Int := firstNZ ((List.range n).map f)
theorem scan_end {f : Nat → Int} {n : Nat} (h : ∀ j, j < n → f j = 0) : scan f n = 0 := by
 unfold scan
 rw [firstNZ_zero]
 intro x hx
 obtain ⟨j, hj, rfl⟩ := List.mem_map.1 hx
 exact h j (List.mem_range.1 hj)
theorem scan_zero {f : Nat → Int} {n : Nat} (h : scan f n = 0) : ∀ j, j < n → f j = 0 := by
 unfold scan at h
 rw [firstNZ_zero] at h
 exact fun j hj => h _ (List.mem_map.2 ⟨j, List.mem_range.2 hj, rfl⟩)
theorem scan_at {f : Nat → Int} {n k : Nat} (h : ∀ j, j < k → f j = 0) (hk : k < n) (hne : f k ≠ 0) : scan f n = f k := by
 unfold scan
 obtain ⟨m, rfl⟩ : ∃ m, n = k + (m + 1) := ⟨n - k - 1, by omega⟩
 rw [List.range_add, List.map_append, firstNZ_append_zero]
 ·rw [List.range_succ_eq_map]
  simp [firstNZ, hne]
 ·intro x hx
  obtain ⟨j, hj, rfl⟩ := List.mem_map.1 hx
  exact h j (List.mem_range.1 hj)
def scanI (f : Nat → Int) (n : Nat) : Int := (((List.range n).find? (fun i => f i != 0)).getD 0 : Nat)
theorem scanI_end {f : Nat → Int} {n : Nat} (h : ∀ j, j < n → f j = 0) : scanI f n = 0 := by
 unfold scanI
 rw [List.find?_eq_none.2]
 ·rfl
 ·intro x hx; rw [h x (List.mem_range.1 hx)]; simp
theorem scanI_at {f : Nat → Int} {n k : Nat} (h : ∀ j, j < k → f j = 0) (hk : k < n) (hne : f k ≠ 0) : scanI f n = k := by
 unfold scanI
 obtain ⟨m, rfl⟩ : ∃ m, n = k + (m + 1) := ⟨n - k - 1, by omega⟩
 rw [List.range_add, List.find?_append, List.find?_eq_none.2, List.range_succ_eq_map]
 ·simp [hne]
 ·intro x hx; rw [h x (List.mem_range.1 hx)]; simp
end Go.Proofs.YtdkpgodakmailaaGreatDoor
set_option linter.unusedVariables false
set_option linter.unusedSimpArgs false
namespace Go.Proofs.YtdkpgodakmailaaGreatDoor
open Go.RowKit
structure P3 where
 (x y z : Int)
structure Rg where
 (lo hi : Int)
structure FHit where
 (p : P3) (t c : Rg)
structure Lat where
 (o : P3) (st n : Int)
structure Muon where
 (s : List Int) (w : Int)
structure Knot where
 (d y : Int)
def P3.bd (p : P3) (K : Int) : Prop := (-K ≤ p.x ∧ p.x ≤ K) ∧ (-K ≤ p.y ∧ p.y ≤ K) ∧ -K ≤ p.z ∧ p.z ≤ K
def posE (p : P3) : Int := unl (inB p.x (-10000) 10000 && inB p.y (-10000) 10000 && inB p.z (-10000) 10000) 2
theorem unl_0 {b : Bool} {n : Int} (h : n ≠ 0) : unl b n = 0 ↔ b = true := by cases b <;> simp [unl, h]
theorem posE_0 {p : P3} : posE p = 0 ↔ p.bd 10000 := by
 unfold posE
 rw [unl_0 (by decide)]
 simp only [Bool.and_eq_true, inB_true, P3.bd]
 constructor
 ·rintro ⟨⟨h1, h2⟩, h3⟩; exact ⟨h1, h2, h3⟩
 ·rintro ⟨h1, h2, h3⟩; exact ⟨⟨h1, h2⟩, h3⟩
theorem P3.bd.mono {p : P3} {A B : Int} (h : p.bd A) (hAB : A ≤ B) : p.bd B := by unfold P3.bd at *; omega
def sqD (a b : P3) : Int := (a.x - b.x) * (a.x - b.x) + (a.y - b.y) * (a.y - b.y) + (a.z - b.z) * (a.z - b.z)
def rtGo : Nat → Int → Int → Int → Int
 | 0, _, lo, _ => lo
 | k + 1, n, lo, hi => if lo < hi then (if (lo + hi + 1) / 2 * ((lo + hi + 1) / 2) ≤ n then rtGo k n ((lo + hi + 1) / 2) hi else rtGo k n lo ((lo + hi + 1) / 2 - 1)) else lo
def rt (n : Int) : Int := rtGo 21 n 0 1048576
theorem rtGo_spec : ∀ (k : Nat) (n lo hi : Int), 0 ≤ lo → lo ≤ hi → hi - lo < 2 ^ k → lo * lo ≤ n → n < (hi + 1) * (hi + 1) → 0 ≤ rtGo k n lo hi ∧ rtGo k n lo hi ≤ hi ∧ rtGo k n lo hi * rtGo k n lo hi ≤ n ∧ n < (rtGo k n lo hi + 1) * (rtGo k n lo hi + 1)
 | 0, n, lo, hi, h0, h1, h2, h3, h4 => by
  have : hi = lo := by simp at h2; omega
  subst this
  exact ⟨h0, Int.le_refl _, h3, h4⟩
 | k + 1, n, lo, hi, h0, h1, h2, h3, h4 => by
  have e : (2 : Int) ^ (k + 1) = 2 ^ k * 2 := rfl
  rw [e] at h2
  unfold rtGo
  split
  ·rename_i h
   split
   ·rename_i g
    exact rtGo_spec k n _ hi (by omega) (by omega) (by generalize (2 : Int) ^ k = K at *; omega) g h4
   ·rename_i g
    have := rtGo_spec k n lo ((lo + hi + 1) / 2 - 1) h0 (by omega) (by generalize (2 : Int) ^ k = K at *; omega) h3 (by rw [show (lo + hi + 1) / 2 - 1 + 1 = (lo + hi + 1) / 2 by omega]; omega)
    exact ⟨this.1, by omega, this.2.2⟩
  ·rename_i h
   have : hi = lo := by omega
   subst this
   exact ⟨h0, Int.le_refl _, h3, h4⟩
theorem rt_spec {n : Int} (h0 : 0 ≤ n) (h1 : n < 1099511627776) : 0 ≤ rt n ∧ rt n ≤ 1048576 ∧ rt n * rt n ≤ n ∧ n < (rt n + 1) * (rt n + 1) := rtGo_spec 21 n 0 1048576 (by omega) (by omega) (by decide) (by omega) (by omega)
theorem root_unique {n a b : Int} (ha : 0 ≤ a) (hb : 0 ≤ b) (h1 : a * a ≤ n) (h2 : n < (a + 1) * (a + 1)) (h3 : b * b ≤ n) (h4 : n < (b + 1) * (b + 1)) : a = b := by
 rcases Int.lt_trichotomy a b with h | h | h
 ·have := Int.mul_le_mul (show a + 1 ≤ b by omega) (show a + 1 ≤ b by omega) (by omega) hb; omega
 ·exact h
 ·have := Int.mul_le_mul (show b + 1 ≤ a by omega) (show b + 1 ≤ a by omega) (by omega) ha; omega
theorem rt_of {n r : Int} (h0 : 0 ≤ r) (h1 : r * r ≤ n) (h2 : n < (r + 1) * (r + 1)) (hn : n < 1099511627776) : r = rt n := by
 have h3 := Int.mul_nonneg h0 h0
 obtain ⟨g1, _, g3, g4⟩ := rt_spec (n := n) (by omega) hn
 exact root_unique h0 g1 h1 h2 g3 g4
def dly (a b : P3) : Int := rt (sqD a b * 9 / 4)
theorem sq_rg {d K : Int} (h : -K ≤ d ∧ d ≤ K) : 0 ≤ d * d ∧ d * d ≤ K * K := by
 rcases Int.le_total 0 d with h1 | h1
 ·exact ⟨Int.mul_nonneg h1 h1, Int.mul_le_mul h.2 h.2 h1 (by omega)⟩
 ·have := Int.mul_le_mul (show -d ≤ K by omega) (show -d ≤ K by omega) (by omega) (by omega)
  have := Int.mul_nonneg (show 0 ≤ -d by omega) (show 0 ≤ -d by omega)
  rw [Int.neg_mul_neg] at *
  omega
theorem sqD_rg {a b : P3} (ha : a.bd 15000) (hb : b.bd 15000) : 0 ≤ sqD a b ∧ sqD a b ≤ 2700000000 := by
 obtain ⟨a1, a2, a3⟩ := ha
 obtain ⟨b1, b2, b3⟩ := hb
 have h1 := sq_rg (d := a.x - b.x) (K := 30000) (by omega)
 have h2 := sq_rg (d := a.y - b.y) (K := 30000) (by omega)
 have h3 := sq_rg (d := a.z - b.z) (K := 30000) (by omega)
 unfold sqD
 omega
theorem dly_rg {a b : P3} (ha : a.bd 15000) (hb : b.bd 15000) : 0 ≤ dly a b ∧ dly a b ≤ 100000 := by
 have h := sqD_rg ha hb
 obtain ⟨g1, g2, g3, g4⟩ := rt_spec (n := sqD a b * 9 / 4) (by omega) (by omega)
 refine ⟨g1, ?_⟩
 unfold dly
 rcases Int.le_total (rt (sqD a b * 9 / 4)) 100000 with h1 | h1
 ·exact h1
 ·have := Int.mul_le_mul h1 h1 (by decide) (by omega); omega
def rgIn (r : Rg) (m : Int) : Bool := inB r.lo 0 m && inB r.hi 0 m
def rgE (r : Rg) : Int := unl (decide (r.lo ≤ r.hi)) 9
def FHit.err (h : FHit) : Int := firstNZ [posE h.p, unl (rgIn h.t 1000000000 && rgIn h.c 1000000) 2, rgE h.t, rgE h.c]
def cntE (n : Nat) (m : Int) : Int := firstNZ [unl (decide ((n : Int) > 0)) 10, unl (decide ((n : Int) ≤ m)) 8]
def FHit.zero : FHit := ⟨⟨0, 0, 0⟩, ⟨0, 0⟩, ⟨0, 0⟩⟩
def hitAt (l : List FHit) (i : Nat) : FHit := l.getD i FHit.zero
def hitsE (l : List FHit) : Int := if cntE l.length 8 = 0 then scan (fun i => (hitAt l i).err) l.length else cntE l.length 8
def hitsI (l : List FHit) : Int := if cntE l.length 8 = 0 then scanI (fun i => (hitAt l i).err) l.length else 0
def latE (x : Lat) : Int := firstNZ [posE x.o, unl (inB x.st 1 1000 && inB x.n 1 6) 2]
def bothE (l : List FHit) (x : Lat) : Int := firstNZ [hitsE l, latE x]
def posAt (x : Lat) (k : Int) : P3 := ⟨x.o.x + x.st * (k / x.n / x.n), x.o.y + x.st * (k / x.n % x.n), x.o.z + x.st * (k % x.n)⟩
def Lat.sz (x : Lat) : Int := x.n * x.n * x.n
def allP (x : Lat) : List P3 := (List.range x.sz.toNat).map fun k : Nat => posAt x k
theorem fn2' {a b : Int} : firstNZ [a, b] = 0 ↔ a = 0 ∧ b = 0 := by
 simp only [firstNZ]
 by_cases h1 : a = 0 <;> by_cases h2 : b = 0 <;> simp_all
theorem lat_ok {x : Lat} (h : latE x = 0) : x.o.bd 10000 ∧ (1 ≤ x.st ∧ x.st ≤ 1000) ∧ 1 ≤ x.n ∧ x.n ≤ 6 := by
 unfold latE at h
 obtain ⟨h1, h2⟩ := fn2'.1 h
 rw [unl_0 (by decide), Bool.and_eq_true, inB_true, inB_true] at h2
 exact ⟨posE_0.1 h1, h2⟩
theorem sz_rg {x : Lat} (h : latE x = 0) : 1 ≤ x.sz ∧ x.sz ≤ 216 := by
 obtain ⟨_, _, h1, h2⟩ := lat_ok h
 unfold Lat.sz
 rcases (by omega : x.n = 1 ∨ x.n = 2 ∨ x.n = 3 ∨ x.n = 4 ∨ x.n = 5 ∨ x.n = 6) with e | e | e | e | e | e <;> rw [e] <;> decide
theorem digits {n k : Int} (h1 : 1 ≤ n) (hk : 0 ≤ k) (hk2 : k < n * n * n) : (0 ≤ k / n / n ∧ k / n / n < n) ∧ (0 ≤ k / n % n ∧ k / n % n < n) ∧ 0 ≤ k % n ∧ k % n < n := by
 have e1 : 0 ≤ k / n := Int.ediv_nonneg hk (by omega)
 have e2 : k / n < n * n := by rw [Int.ediv_lt_iff_lt_mul (by omega)]; exact hk2
 have e3 : k / n / n < n := by rw [Int.ediv_lt_iff_lt_mul (by omega)]; exact e2
 exact ⟨⟨Int.ediv_nonneg e1 (by omega), e3⟩, ⟨Int.emod_nonneg _ (by omega), Int.emod_lt_of_pos _ (by omega)⟩, Int.emod_nonneg _ (by omega), Int.emod_lt_of_pos _ (by omega)⟩
theorem step_rg {st n j : Int} (hs : 1 ≤ st ∧ st ≤ 1000) (hn : n ≤ 6) (hj : 0 ≤ j ∧ j < n) : 0 ≤ st * j ∧ st * j ≤ 5000 := by
 refine ⟨Int.mul_nonneg (by omega) hj.1, ?_⟩
 have := Int.mul_le_mul hs.2 (show j ≤ 5 by omega) hj.1 (by decide)
 omega
theorem posAt_bd {x : Lat} {k : Int} (h : latE x = 0) (hk : 0 ≤ k) (hk2 : k < x.sz) : (posAt x k).bd 15000 := by
 obtain ⟨⟨a1, a2, a3⟩, hs, h1, h2⟩ := lat_ok h
 obtain ⟨d1, d2, d3⟩ := digits h1 hk hk2
 have e1 := step_rg hs h2 d1
 have e2 := step_rg hs h2 d2
 have e3 := step_rg hs h2 d3
 unfold posAt P3.bd
 simp only
 omega
theorem allP_len {x : Lat} : (allP x).length = x.sz.toNat := by simp [allP]
theorem hitsE_ok {l : List FHit} (h : hitsE l = 0) : (0 < l.length ∧ l.length ≤ 8) ∧ ∀ i, i < l.length → (hitAt l i).err = 0 := by
 unfold hitsE at h
 by_cases hc : cntE l.length 8 = 0
 ·rw [if_pos hc] at h
  obtain ⟨h1, h2⟩ := fn2'.1 hc
  rw [unl_0 (by decide)] at h1 h2
  have h1 := of_decide_eq_true h1
  have h2 := of_decide_eq_true h2
  exact ⟨by omega, scan_zero h⟩
 ·rw [if_neg hc] at h; exact (hc h).elim
theorem hit_ok {h : FHit} (e : h.err = 0) : h.p.bd 10000 ∧ (0 ≤ h.t.lo ∧ h.t.lo ≤ h.t.hi ∧ h.t.hi ≤ 1000000000) ∧ 0 ≤ h.c.lo ∧ h.c.lo ≤ h.c.hi ∧ h.c.hi ≤ 1000000 := by
 unfold FHit.err at e
 rw [firstNZ_zero] at e
 have e1 := e _ (List.mem_cons_self ..)
 have e2 := e _ (List.mem_cons_of_mem _ (List.mem_cons_self ..))
 have e3 := e _ (List.mem_cons_of_mem _ (List.mem_cons_of_mem _ (List.mem_cons_self ..)))
 have e4 := e _ (List.mem_cons_of_mem _ (List.mem_cons_of_mem _ (List.mem_cons_of_mem _ (List.mem_cons_self ..))))
 unfold rgE at e3 e4
 rw [unl_0 (by decide)] at e2 e3 e4
 have e3 := of_decide_eq_true e3
 have e4 := of_decide_eq_true e4
 unfold rgIn at e2
 simp only [Bool.and_eq_true, inB_true] at e2
 exact ⟨posE_0.1 e1, by omega, by omega⟩
def stR (p : P3) (h : FHit) : Rg := ⟨h.t.lo - dly p h.p, h.t.hi - dly p h.p⟩
def sts (l : List FHit) (p : P3) : List Rg := l.map (stR p)
def meetR (a b : Rg) : Rg := ⟨max a.lo b.lo, min a.hi b.hi⟩
def rgAt (l : List Rg) (i : Nat) : Rg := l.getD i ⟨0, 0⟩
def comm (l : List Rg) : Rg := (l.drop 1).foldl meetR (rgAt l 0)
def tms (l : List FHit) (p : P3) : Rg := comm (sts l p)
def tmsE (l : List FHit) (p : P3) : Int := if firstNZ [hitsE l, posE p] = 0 then unl (decide ((tms l p).lo ≤ (tms l p).hi)) 12 else firstNZ [hitsE l, posE p]
def tmsV (l : List FHit) (p : P3) : Rg := if tmsE l p = 0 then tms l p else ⟨0, 0⟩
def opnS (l : List FHit) (x : Lat) : List (List Rg) := if bothE l x = 0 then (allP x).map (sts l) else []
def opnH (l : List FHit) (x : Lat) : List FHit := if bothE l x = 0 then l else []
def Lat.zero : Lat := ⟨⟨0, 0, 0⟩, 0, 0⟩
def opnX (l : List FHit) (x : Lat) : Lat := if bothE l x = 0 then x else Lat.zero
def exB (p : P3) (t : Int) (h : FHit) : Bool := inB t (stR p h).lo (stR p h).hi
theorem sts_len {l : List FHit} {p : P3} : (sts l p).length = l.length := by simp [sts]
theorem sts_at {l : List FHit} {p : P3} {i : Nat} (hi : i < l.length) : rgAt (sts l p) i = stR p (hitAt l i) := by
 simp [rgAt, sts, hitAt, List.getD, hi]
def cntB (f : Nat → Bool) (n : Nat) : Int := (((List.range n).filter f).length : Int)
theorem cntB_succ {f : Nat → Bool} {k : Nat} : cntB f (k + 1) = cntB f k + if f k = true then 1 else 0 := by
 unfold cntB
 rw [List.range_succ, List.filter_append, List.length_append, List.filter_cons]
 split <;> simp
theorem cntB_rg (f : Nat → Bool) (k : Nat) : 0 ≤ cntB f k ∧ cntB f k ≤ k := by
 unfold cntB
 have := List.length_filter_le f (List.range k)
 rw [List.length_range] at this
 omega
def badB (f g : Nat → Bool) (i : Nat) : Int := if (f i || g i) = true then 0 else 19
def jdE (f g : Nat → Bool) (n : Nat) : Int := if scan (badB f g) n ≠ 0 then scan (badB f g) n else if cntB f n = 0 ∨ cntB g n = 0 then 3 else 0
def jdV (f g : Nat → Bool) (n : Nat) : Int := if scan (badB f g) n ≠ 0 then scanI (badB f g) n else if cntB f n = 0 ∨ cntB g n = 0 then 0 else cntB f n
def exF (l : List FHit) (x : Lat) (q s : Int) (i : Nat) : Bool := exB (posAt x q) s (hitAt l i)
def cpF (x : Lat) (a b s t : Int) : Int := firstNZ [unl (inB a 0 (x.sz - 1) && inB b 0 (x.sz - 1)) 6, unl (decide (a ≤ b)) 9, unl (inB s (-2000000000) 2000000000 && inB t (-2000000000) 2000000000) 2]
def cpE (l : List FHit) (x : Lat) (a b s t : Int) : Int := if bothE l x ≠ 0 then bothE l x else if cpF x a b s t ≠ 0 then cpF x a b s t else jdE (exF l x a s) (exF l x b t) l.length
def cpV (l : List FHit) (x : Lat) (a b s t : Int) : Int := if bothE l x ≠ 0 then 0 else if cpF x a b s t ≠ 0 then 0 else jdV (exF l x a s) (exF l x b t) l.length
def muAt (l : List Muon) (i : Nat) : Muon := l.getD i ⟨[], 0⟩
def senB (n : Int) : Bool := inB n 0 7
def Muon.err (m : Muon) : Int := firstNZ [unl (inB m.w 1 100) 2, unl (decide ((m.s.length : Int) ≤ 8)) 8, unl (m.s.all senB) 6]
def musE (l : List Muon) : Int := if cntE l.length 40 = 0 then scan (fun i => (muAt l i).err) l.length else cntE l.length 40
def musI (l : List Muon) : Int := if cntE l.length 40 = 0 then scanI (fun i => (muAt l i).err) l.length else 0
def sen1 (i a b : Int) : Int := firstNZ [unl (senB b) 6, unl (decide (i = 0) || decide (b > a)) 9]
def senE (l : List Int) (i : Nat) : Int := sen1 i (l.getD (i - 1) 0) (l.getD i 0)
def vetE (f : Int) (s : List Int) : Int := firstNZ [unl (inB f 0 8) 2, unl (decide ((s.length : Int) ≤ 8)) 8, scan (senE s) s.length]
def passB (f : Int) (v : List Int) (m : Muon) : Bool := (m.s.take f.toNat).all fun s => !v.contains s
def sumW : List Muon → Int
 | [] => 0
 | m :: l => m.w + sumW l
def sumQ : List Muon → Int
 | [] => 0
 | m :: l => m.w * m.w + sumQ l
theorem sumW_app : ∀ (a b : List Muon), sumW (a ++ b) = sumW a + sumW b
 | [], b => by simp [sumW]
 | m :: a, b => by simp only [List.cons_append, sumW, sumW_app a b]; omega
theorem sumQ_app : ∀ (a b : List Muon), sumQ (a ++ b) = sumQ a + sumQ b
 | [], b => by simp [sumQ]
 | m :: a, b => by simp only [List.cons_append, sumQ, sumQ_app a b]; omega
theorem sums_rg : ∀ (l : List Muon), (∀ m ∈ l, 1 ≤ m.w ∧ m.w ≤ 100) → ((l.length : Int) ≤ sumW l ∧ sumW l ≤ 100 * l.length) ∧ (0 ≤ sumQ l ∧ sumQ l ≤ 10000 * l.length)
 | [], _ => by simp [sumW, sumQ]
 | m :: l, h => by
  have h1 := h m (List.mem_cons_self ..)
  have h2 := sums_rg l fun x hx => h x (List.mem_cons_of_mem _ hx)
  have h3 := sq_rg (d := m.w) (K := 100) (by omega)
  simp only [sumW, sumQ, List.length_cons]
  push_cast
  omega
def passL (f : Int) (v : List Int) (l : List Muon) : List Muon := l.filter (passB f v)
theorem mus_ok {l : List Muon} (h : musE l = 0) : (0 < l.length ∧ l.length ≤ 40) ∧ ∀ i, i < l.length → (muAt l i).err = 0 := by
 unfold musE at h
 by_cases hc : cntE l.length 40 = 0
 ·rw [if_pos hc] at h
  obtain ⟨h1, h2⟩ := fn2'.1 hc
  rw [unl_0 (by decide)] at h1 h2
  have h1 := of_decide_eq_true h1
  have h2 := of_decide_eq_true h2
  exact ⟨by omega, scan_zero h⟩
 ·rw [if_neg hc] at h; exact (hc h).elim
theorem fn3 {a b c : Int} (h : firstNZ [a, b, c] = 0) : a = 0 ∧ b = 0 ∧ c = 0 := by
 simp only [firstNZ] at h
 by_cases h1 : a = 0 <;> by_cases h2 : b = 0 <;> by_cases h3 : c = 0 <;> simp_all
theorem mu_ok {m : Muon} (h : m.err = 0) : (1 ≤ m.w ∧ m.w ≤ 100) ∧ m.s.length ≤ 8 ∧ ∀ n ∈ m.s, 0 ≤ n ∧ n ≤ 7 := by
 unfold Muon.err at h
 obtain ⟨h1, h2, h3⟩ := fn3 h
 rw [unl_0 (by decide)] at h1 h2 h3
 have h2 := of_decide_eq_true h2
 rw [List.all_eq_true] at h3
 exact ⟨inB_true.1 h1, by omega, fun n hn => inB_true.1 (h3 n hn)⟩
theorem mus_mem {l : List Muon} (h : musE l = 0) : ∀ m ∈ l, (1 ≤ m.w ∧ m.w ≤ 100) ∧ m.s.length ≤ 8 ∧ ∀ n ∈ m.s, 0 ≤ n ∧ n ≤ 7 := by
 intro m hm
 obtain ⟨i, hi, e⟩ := List.getElem_of_mem hm
 have := mu_ok ((mus_ok h).2 i hi)
 rwa [show muAt l i = m by simp [muAt, List.getD, hi, e]] at this
theorem vet_ok {f : Int} {v : List Int} (h : vetE f v = 0) : (0 ≤ f ∧ f ≤ 8) ∧ v.length ≤ 8 ∧ ∀ i, i < v.length → senE v i = 0 := by
 unfold vetE at h
 obtain ⟨h1, h2, h3⟩ := fn3 h
 rw [unl_0 (by decide)] at h1 h2
 have h2 := of_decide_eq_true h2
 exact ⟨inB_true.1 h1, by omega, scan_zero h3⟩
theorem pass_rg {l : List Muon} (h : musE l = 0) (f : Int) (v : List Int) : ((l.length : Int) ≤ sumW l ∧ sumW l ≤ 4000) ∧ (0 ≤ sumW (passL f v l) ∧ sumW (passL f v l) ≤ 4000) ∧ 0 ≤ sumQ (passL f v l) ∧ sumQ (passL f v l) ≤ 400000 := by
 have h0 := (mus_ok h).1
 have h1 := sums_rg l fun m hm => (mus_mem h m hm).1
 have h2 := sums_rg (passL f v l) fun m hm => (mus_mem h m (List.mem_filter.1 hm).1).1
 have h3 := List.length_filter_le (passB f v) l
 unfold passL at *
 omega
def gcd2 (a b : Int) : Int := (Int.gcd a b : Int)
theorem gcd2_step (a b : Int) : gcd2 b (Int.tmod a b) = gcd2 a b := by
 unfold gcd2 Int.gcd
 rw [Int.natAbs_tmod, Nat.gcd_comm b.natAbs, ← Nat.gcd_rec, Nat.gcd_comm]
theorem gcd2_pos {a b : Int} (h : b ≠ 0) : 0 < gcd2 a b := by
 unfold gcd2
 have : 0 < Int.gcd a b := Nat.pos_of_ne_zero fun e => h (Int.gcd_eq_zero_iff.1 e).2
 omega
def lowN (a b : Int) : Int := a / gcd2 a b
def lowD (a b : Int) : Int := b / gcd2 a b
def vvE (l : List Muon) (f : Int) (v : List Int) : Int := firstNZ [musE l, vetE f v]
def prtN (l : List Muon) (f : Int) (v : List Int) : Int := if vvE l f v = 0 then lowN (sumW (passL f v l)) (sumW l) else 0
def prtD (l : List Muon) (f : Int) (v : List Int) : Int := if vvE l f v = 0 then lowD (sumW (passL f v l)) (sumW l) else 0
def befL : List Int → List Int → Bool
 | [], [] => false
 | [], _ :: _ => true
 | _ :: _, [] => false
 | a :: l, b :: m => decide (a < b) || (decide (a = b) && befL l m)
end Go.Proofs.YtdkpgodakmailaaGreatDoor
set_option linter.unusedVariables false
set_option linter.unusedSimpArgs false
namespace Go.Proofs.YtdkpgodakmailaaGreatDoor
open Go.RowKit Ev
def plAt (l : List P3) (i : Nat) : P3 := l.getD i ⟨0, 0, 0⟩
def plsC (l : List P3) : Nat → Nat → CV := fun i j => match j with
 | 0 => .v (.int .i64 (plAt l i).x)
 | 1 => .v (.int .i64 (plAt l i).y)
 | _ => .v (.int .i64 (plAt l i).z)
def plCv (x : P3) : List CV := [.v (.int .i64 x.x), .v (.int .i64 x.y), .v (.int .i64 x.z)]
theorem plain_P3 (l : List P3) (i j : Nat) : ∃ y, plsC l i j = .v y := by unfold plsC; split <;> exact ⟨_, rfl⟩
theorem le_pls (l : List P3) : LeD (.t (.c (.sl 3 (l.map plCv).length (genC (l.map plCv))))) (.t (.c (.sl 3 l.length (plsC l)))) := by
 rw [List.length_map]
 refine leSl fun i j hi hj => ?_
 unfold genC plsC plAt
 simp only [List.getD_eq_getElem?_getD, List.getElem?_map, List.getElem?_eq_getElem hi, Option.map_some, Option.getD_some]
 rcases (by omega : j = 0 ∨ j = 1 ∨ j = 2) with rfl | rfl | rfl <;> rfl
theorem pl_ext {a b : P3} : a = b ↔ a.x = b.x ∧ a.y = b.y ∧ a.z = b.z := by
 obtain ⟨_, _, _⟩ := a
 obtain ⟨_, _, _⟩ := b
 simp [and_assoc]
instance : DecidableEq P3 := fun a b => decidable_of_iff _ pl_ext.symm
def rgsC (l : List Rg) : Nat → Nat → CV := fun i j => match j with
 | 0 => .v (.int .i64 (rgAt l i).lo)
 | _ => .v (.int .i64 (rgAt l i).hi)
def mkRg (g : Nat → Int) : Rg := ⟨g 0, g 1⟩
def rgCv (x : Rg) : List CV := [.v (.int .i64 x.lo), .v (.int .i64 x.hi)]
theorem rgAt_C {n : Nat} {c : Nat → Nat → CV} {i : Nat} (hi : i < n) : rgAt (listC n mkRg c) i = mkRg fun j => cvInt (c i j) := listC_get hi
theorem leL_Rg {n : Nat} {c : Nat → Nat → CV} (hp : numsP 2 n c) : LeD (.t (.c (.sl 2 n c))) (.t (.c (.sl 2 (listC n mkRg c).length (rgsC (listC n mkRg c))))) := by
 refine leL hp fun i j hi hj => ?_
 unfold rgsC
 rw [rgAt_C hi]
 rcases (by omega : j = 0 ∨ j = 1) with rfl | rfl <;> rfl
theorem numsP_rgs (l : List Rg) : numsP 2 l.length (rgsC l) := by
 intro i j hi hj
 rcases (by omega : j = 0 ∨ j = 1) with rfl | rfl <;> rfl
theorem rgs_listC (l : List Rg) : listC l.length mkRg (rgsC l) = l := listC_id ⟨0, 0⟩ fun i hi => rfl
theorem plain_Rg (l : List Rg) (i j : Nat) : ∃ y, rgsC l i j = .v y := by unfold rgsC; split <;> exact ⟨_, rfl⟩
theorem le_rgs (l : List Rg) : LeD (.t (.c (.sl 2 (l.map rgCv).length (genC (l.map rgCv))))) (.t (.c (.sl 2 l.length (rgsC l)))) := by
 rw [List.length_map]
 refine leSl fun i j hi hj => ?_
 unfold genC rgsC rgAt
 simp only [List.getD_eq_getElem?_getD, List.getElem?_map, List.getElem?_eq_getElem hi, Option.map_some, Option.getD_some]
 rcases (by omega : j = 0 ∨ j = 1) with rfl | rfl <;> rfl
theorem rgAt_take {l : List Rg} {k : Nat} (h : k < l.length) : l.take (k + 1) = l.take k ++ [rgAt l k] := by
 rw [List.take_succ_eq_append_getElem h]; simp [rgAt, List.getD, h]
theorem rgAt_in {l : List Rg} {k : Nat} (h : k < l.length) : rgAt l k ∈ l := by
 rw [show rgAt l k = l[k] by simp [rgAt, List.getD, h]]; exact List.getElem_mem h
theorem rg_ext {a b : Rg} : a = b ↔ a.lo = b.lo ∧ a.hi = b.hi := by
 obtain ⟨_, _⟩ := a
 obtain ⟨_, _⟩ := b
 simp [and_assoc]
instance : DecidableEq Rg := fun a b => decidable_of_iff _ rg_ext.symm
theorem numsP_rgg (l : List Rg) : numsP 2 (l.map rgCv).length (genC (l.map rgCv)) := by
 rw [List.length_map]
 intro i j hi hj
 have e : genC (l.map rgCv) i j = rgsC l i j := by
  unfold genC rgsC rgAt
  simp only [List.getD_eq_getElem?_getD, List.getElem?_map, List.getElem?_eq_getElem hi, Option.map_some, Option.getD_some]
  rcases (by omega : j = 0 ∨ j = 1) with rfl | rfl <;> rfl
 rw [e]
 exact numsP_rgs l i j hi hj
theorem rgg_listC (l : List Rg) : listC (l.map rgCv).length mkRg (genC (l.map rgCv)) = l := by
 rw [List.length_map]
 refine listC_id ⟨0, 0⟩ fun i hi => ?_
 unfold mkRg genC
 simp only [List.getD_eq_getElem?_getD, List.getElem?_map, List.getElem?_eq_getElem hi, Option.map_some, Option.getD_some]
 rfl
def hitsC (l : List FHit) : Nat → Nat → CV := fun i j => match j with
 | 0 => .v (.int .i64 (hitAt l i).p.x)
 | 1 => .v (.int .i64 (hitAt l i).p.y)
 | 2 => .v (.int .i64 (hitAt l i).p.z)
 | 3 => .v (.int .i64 (hitAt l i).t.lo)
 | 4 => .v (.int .i64 (hitAt l i).t.hi)
 | 5 => .v (.int .i64 (hitAt l i).c.lo)
 | _ => .v (.int .i64 (hitAt l i).c.hi)
def mkHit (g : Nat → Int) : FHit := ⟨⟨g 0, g 1, g 2⟩, ⟨g 3, g 4⟩, ⟨g 5, g 6⟩⟩
def hitCv (x : FHit) : List CV := [.v (.int .i64 x.p.x), .v (.int .i64 x.p.y), .v (.int .i64 x.p.z), .v (.int .i64 x.t.lo), .v (.int .i64 x.t.hi), .v (.int .i64 x.c.lo), .v (.int .i64 x.c.hi)]
theorem hitAt_C {n : Nat} {c : Nat → Nat → CV} {i : Nat} (hi : i < n) : hitAt (listC n mkHit c) i = mkHit fun j => cvInt (c i j) := listC_get hi
theorem leL_FHit {n : Nat} {c : Nat → Nat → CV} (hp : numsP 7 n c) : LeD (.t (.c (.sl 7 n c))) (.t (.c (.sl 7 (listC n mkHit c).length (hitsC (listC n mkHit c))))) := by
 refine leL hp fun i j hi hj => ?_
 unfold hitsC
 rw [hitAt_C hi]
 rcases (by omega : j = 0 ∨ j = 1 ∨ j = 2 ∨ j = 3 ∨ j = 4 ∨ j = 5 ∨ j = 6) with rfl | rfl | rfl | rfl | rfl | rfl | rfl <;> rfl
theorem numsP_hits (l : List FHit) : numsP 7 l.length (hitsC l) := by
 intro i j hi hj
 rcases (by omega : j = 0 ∨ j = 1 ∨ j = 2 ∨ j = 3 ∨ j = 4 ∨ j = 5 ∨ j = 6) with rfl | rfl | rfl | rfl | rfl | rfl | rfl <;> rfl
theorem hits_listC (l : List FHit) : listC l.length mkHit (hitsC l) = l := listC_id FHit.zero fun i hi => rfl
theorem plain_FHit (l : List FHit) (i j : Nat) : ∃ y, hitsC l i j = .v y := by unfold hitsC; split <;> exact ⟨_, rfl⟩
theorem le_hits (l : List FHit) : LeD (.t (.c (.sl 7 (l.map hitCv).length (genC (l.map hitCv))))) (.t (.c (.sl 7 l.length (hitsC l)))) := by
 rw [List.length_map]
 refine leSl fun i j hi hj => ?_
 unfold genC hitsC hitAt
 simp only [List.getD_eq_getElem?_getD, List.getElem?_map, List.getElem?_eq_getElem hi, Option.map_some, Option.getD_some]
 rcases (by omega : j = 0 ∨ j = 1 ∨ j = 2 ∨ j = 3 ∨ j = 4 ∨ j = 5 ∨ j = 6) with rfl | rfl | rfl | rfl | rfl | rfl | rfl <;> rfl
theorem hitAt_take {l : List FHit} {k : Nat} (h : k < l.length) : l.take (k + 1) = l.take k ++ [hitAt l k] := by
 rw [List.take_succ_eq_append_getElem h]; simp [hitAt, List.getD, h]
theorem hit_ext {a b : FHit} : a = b ↔ a.p.x = b.p.x ∧ a.p.y = b.p.y ∧ a.p.z = b.p.z ∧ a.t.lo = b.t.lo ∧ a.t.hi = b.t.hi ∧ a.c.lo = b.c.lo ∧ a.c.hi = b.c.hi := by
 obtain ⟨⟨_, _, _⟩, ⟨_, _⟩, ⟨_, _⟩⟩ := a
 obtain ⟨⟨_, _, _⟩, ⟨_, _⟩, ⟨_, _⟩⟩ := b
 simp [and_assoc]
instance : DecidableEq FHit := fun a b => decidable_of_iff _ hit_ext.symm
theorem hits_fwd (l : List FHit) : ((List.range l.length).map fun i => fwd ((hitsC l) i) 0 7) = l.map hitCv := by
 apply List.ext_getElem?
 intro i
 by_cases hi : i < l.length
 ·simp only [List.getElem?_map, List.getElem?_range hi, List.getElem?_eq_getElem hi, Option.map_some]
  have e : hitAt l i = l[i] := by simp [hitAt, List.getD, hi]
  rw [← e]; rfl
 ·rw [List.getElem?_eq_none (by simpa using hi), List.getElem?_eq_none (by simpa using hi)]
theorem numsP_hitg (l : List FHit) : numsP 7 (l.map hitCv).length (genC (l.map hitCv)) := by
 rw [List.length_map]
 intro i j hi hj
 have e : genC (l.map hitCv) i j = hitsC l i j := by
  unfold genC hitsC hitAt
  simp only [List.getD_eq_getElem?_getD, List.getElem?_map, List.getElem?_eq_getElem hi, Option.map_some, Option.getD_some]
  rcases (by omega : j = 0 ∨ j = 1 ∨ j = 2 ∨ j = 3 ∨ j = 4 ∨ j = 5 ∨ j = 6) with rfl | rfl | rfl | rfl | rfl | rfl | rfl <;> rfl
 rw [e]
 exact numsP_hits l i j hi hj
theorem hitg_listC (l : List FHit) : listC (l.map hitCv).length mkHit (genC (l.map hitCv)) = l := by
 rw [List.length_map]
 refine listC_id FHit.zero fun i hi => ?_
 unfold mkHit genC
 simp only [List.getD_eq_getElem?_getD, List.getElem?_map, List.getElem?_eq_getElem hi, Option.map_some, Option.getD_some]
 rfl
theorem plainR_hits (ty : TypeId) (l : List FHit) : plainR (.gen ty 7 (l.map hitCv)) := by
 intro e he x hx
 simp only [List.mem_map] at he
 obtain ⟨y, _, rfl⟩ := he
 simp only [hitCv, List.mem_cons, List.not_mem_nil, or_false] at hx
 rcases hx with rfl | rfl | rfl | rfl | rfl | rfl | rfl <;> exact ⟨_, rfl⟩
def knAt (l : List Knot) (i : Nat) : Knot := l.getD i ⟨0, 0⟩
def knsC (l : List Knot) : Nat → Nat → CV := fun i j => match j with
 | 0 => .v (.int .i64 (knAt l i).d)
 | _ => .v (.int .i64 (knAt l i).y)
def mkKn (g : Nat → Int) : Knot := ⟨g 0, g 1⟩
def knCv (x : Knot) : List CV := [.v (.int .i64 x.d), .v (.int .i64 x.y)]
theorem knAt_C {n : Nat} {c : Nat → Nat → CV} {i : Nat} (hi : i < n) : knAt (listC n mkKn c) i = mkKn fun j => cvInt (c i j) := listC_get hi
theorem leL_Knot {n : Nat} {c : Nat → Nat → CV} (hp : numsP 2 n c) : LeD (.t (.c (.sl 2 n c))) (.t (.c (.sl 2 (listC n mkKn c).length (knsC (listC n mkKn c))))) := by
 refine leL hp fun i j hi hj => ?_
 unfold knsC
 rw [knAt_C hi]
 rcases (by omega : j = 0 ∨ j = 1) with rfl | rfl <;> rfl
theorem numsP_kns (l : List Knot) : numsP 2 l.length (knsC l) := by
 intro i j hi hj
 rcases (by omega : j = 0 ∨ j = 1) with rfl | rfl <;> rfl
theorem kns_listC (l : List Knot) : listC l.length mkKn (knsC l) = l := listC_id ⟨0, 0⟩ fun i hi => rfl
theorem plain_Knot (l : List Knot) (i j : Nat) : ∃ y, knsC l i j = .v y := by unfold knsC; split <;> exact ⟨_, rfl⟩
theorem le_kns (l : List Knot) : LeD (.t (.c (.sl 2 (l.map knCv).length (genC (l.map knCv))))) (.t (.c (.sl 2 l.length (knsC l)))) := by
 rw [List.length_map]
 refine leSl fun i j hi hj => ?_
 unfold genC knsC knAt
 simp only [List.getD_eq_getElem?_getD, List.getElem?_map, List.getElem?_eq_getElem hi, Option.map_some, Option.getD_some]
 rcases (by omega : j = 0 ∨ j = 1) with rfl | rfl <;> rfl
theorem kn_ext {a b : Knot} : a = b ↔ a.d = b.d ∧ a.y = b.y := by
 obtain ⟨_, _⟩ := a
 obtain ⟨_, _⟩ := b
 simp [and_assoc]
instance : DecidableEq Knot := fun a b => decidable_of_iff _ kn_ext.symm
theorem kns_fwd (l : List Knot) : ((List.range l.length).map fun i => fwd ((knsC l) i) 0 2) = l.map knCv := by
 apply List.ext_getElem?
 intro i
 by_cases hi : i < l.length
 ·simp only [List.getElem?_map, List.getElem?_range hi, List.getElem?_eq_getElem hi, Option.map_some]
  have e : knAt l i = l[i] := by simp [knAt, List.getD, hi]
  rw [← e]; rfl
 ·rw [List.getElem?_eq_none (by simpa using hi), List.getElem?_eq_none (by simpa using hi)]
theorem leC_k {a b : CV} (h : a = b) : LeC1 a b := by rw [h]; exact LeC1.refl b
theorem leSlC {sz n : Nat} {c c' : Nat → Nat → CV} (h : ∀ i j, i < n → j < sz → LeC1 (c i j) (c' i j)) : LeC1 (.sl sz n c) (.sl sz n c') := by
 rintro w N v ⟨ao, cap, h1, h2, h3, h4, h5⟩
 refine ⟨ao, cap, h1, h2, h3, h4, fun h0 => ?_⟩
 obtain ⟨b, off, g1, g2, g3, g4⟩ := h5 h0
 refine ⟨b, off, g1, g2, g3, fun i j hi hj => ?_⟩
 obtain ⟨x, e1, e2⟩ := g4 i j hi hj
 exact ⟨x, e1, h i j hi hj _ _ _ e2⟩
def rlAt (l : List (List Rg)) (i : Nat) : List Rg := l.getD i []
def rlsC (l : List (List Rg)) : Nat → Nat → CV := fun i _ => .sl 2 (rlAt l i).length (rgsC (rlAt l i))
def rlOf (n : Nat) (c : Nat → Nat → CV) : List (List Rg) := (List.range n).map fun i => listC (cvLen (c i 0)) mkRg (cvCells (c i 0))
def rlP (n : Nat) (c : Nat → Nat → CV) : Prop := ∀ i, i < n → slP 2 (c i 0) ∧ numsP 2 (cvLen (c i 0)) (cvCells (c i 0))
theorem rlOf_len {n : Nat} {c : Nat → Nat → CV} : (rlOf n c).length = n := by simp [rlOf]
theorem rlOf_at {n : Nat} {c : Nat → Nat → CV} {i : Nat} (hi : i < n) : rlAt (rlOf n c) i = listC (cvLen (c i 0)) mkRg (cvCells (c i 0)) := by simp [rlAt, rlOf, List.getD, hi]
theorem leL_LRg {n : Nat} {c : Nat → Nat → CV} (hp : rlP n c) : LeD (.t (.c (.sl 1 n c))) (.t (.c (.sl 1 (rlOf n c).length (rlsC (rlOf n c))))) := by
 rw [rlOf_len]
 refine leT_c (leSlC fun i j hi hj => ?_)
 obtain ⟨h1, h2⟩ := hp i hi
 unfold rlsC
 rw [rlOf_at hi, show j = 0 by omega]
 exact leC_s h1 (leL_Rg h2)
theorem rlP_rls (l : List (List Rg)) : rlP l.length (rlsC l) := fun i hi => ⟨rfl, numsP_rgs _⟩
theorem rls_of (l : List (List Rg)) : rlOf l.length (rlsC l) = l := by
 apply List.ext_getElem?
 intro i
 by_cases hi : i < l.length
 ·simp only [rlOf, List.getElem?_map, List.getElem?_range hi, Option.map_some, List.getElem?_eq_getElem hi]
  congr 1
  show listC (rlAt l i).length mkRg (rgsC (rlAt l i)) = l[i]
  rw [rgs_listC]
  simp [rlAt, List.getD, hi]
 ·rw [List.getElem?_eq_none (by simpa [rlOf] using hi), List.getElem?_eq_none (by omega)]
def rlCv (x : List Rg) : List CV := [.sl 2 x.length (rgsC x)]
theorem rlCv_at {l : List (List Rg)} {i j : Nat} (hi : i < l.length) (hj : j < 1) : genC (l.map rlCv) i j = rlsC l i j := by
 unfold genC rlsC rlAt
 rw [show j = 0 by omega]
 simp [List.getD_eq_getElem?_getD, List.getElem?_map, List.getElem?_eq_getElem hi, rlCv]
theorem leC_rls (l : List (List Rg)) : LeC1 (.sl 1 (l.map rlCv).length (genC (l.map rlCv))) (.sl 1 l.length (rlsC l)) := by
 rw [List.length_map]
 exact leSlC fun i j hi hj => by rw [rlCv_at hi hj]; exact LeC1.refl _
theorem rlAt_lt {l : List (List Rg)} {k : Nat} (h : k < l.length) : rlAt l k = l[k] := by simp [rlAt, List.getD, h]
def musC (l : List Muon) : Nat → Nat → CV := fun i j => match j with
 | 0 => .sl 1 (muAt l i).s.length (intsC (muAt l i).s)
 | _ => .v (.int .i64 (muAt l i).w)
def muOf (n : Nat) (c : Nat → Nat → CV) : List Muon := (List.range n).map fun i => ⟨listC (cvLen (c i 0)) mkInt (cvCells (c i 0)), cvInt (c i 1)⟩
def muP (n : Nat) (c : Nat → Nat → CV) : Prop := ∀ i, i < n → slP 1 (c i 0) ∧ numsP 1 (cvLen (c i 0)) (cvCells (c i 0)) ∧ c i 1 = .v (.int .i64 (cvInt (c i 1)))
theorem muOf_len {n : Nat} {c : Nat → Nat → CV} : (muOf n c).length = n := by simp [muOf]
theorem muOf_at {n : Nat} {c : Nat → Nat → CV} {i : Nat} (hi : i < n) : muAt (muOf n c) i = ⟨listC (cvLen (c i 0)) mkInt (cvCells (c i 0)), cvInt (c i 1)⟩ := by simp [muAt, muOf, List.getD, hi]
theorem leL_Muon {n : Nat} {c : Nat → Nat → CV} (hp : muP n c) : LeD (.t (.c (.sl 2 n c))) (.t (.c (.sl 2 (muOf n c).length (musC (muOf n c))))) := by
 rw [muOf_len]
 refine leT_c (leSlC fun i j hi hj => ?_)
 obtain ⟨h1, h2, h3⟩ := hp i hi
 unfold musC
 rw [muOf_at hi]
 rcases (by omega : j = 0 ∨ j = 1) with rfl | rfl
 ·exact leC_s h1 (leL_int h2)
 ·exact leC_i h3
theorem numsP_ints (l : List Int) : numsP 1 l.length (intsC l) := fun i j hi hj => rfl
theorem ints_listC (l : List Int) : listC l.length mkInt (intsC l) = l := listC_id 0 fun i hi => rfl
theorem muP_mus (l : List Muon) : muP l.length (musC l) := fun i hi => ⟨rfl, numsP_ints _, rfl⟩
theorem mus_of (l : List Muon) : muOf l.length (musC l) = l := by
 apply List.ext_getElem?
 intro i
 by_cases hi : i < l.length
 ·simp only [muOf, List.getElem?_map, List.getElem?_range hi, Option.map_some, List.getElem?_eq_getElem hi]
  congr 1
  show (⟨listC (muAt l i).s.length mkInt (intsC (muAt l i).s), (muAt l i).w⟩ : Muon) = l[i]
  rw [ints_listC]
  simp [muAt, List.getD, hi]
 ·rw [List.getElem?_eq_none (by simpa [muOf] using hi), List.getElem?_eq_none (by omega)]
theorem muAt_take {l : List Muon} {k : Nat} (h : k < l.length) : l.take (k + 1) = l.take k ++ [muAt l k] := by
 rw [List.take_succ_eq_append_getElem h]; simp [muAt, List.getD, h]
theorem leI {a b : Int} (h : a = b) : LeD (.t (.c (.v (.int .i64 a)))) (.t (.c (.v (.int .i64 b)))) := LeD.of (by rw [h])
theorem leB {a b : Bool} (h : a = b) : LeD (.t (.c (.v (.bool a)))) (.t (.c (.v (.bool b)))) := LeD.of (by rw [h])
theorem le_tu {a a' b b' : TV} (h1 : LeD (.t a) (.t a')) (h2 : LeD (.t b) (.t b')) : LeD (.tu [a, b]) (.tu [a', b']) := by
 rintro w N v ⟨vs, e, g⟩
 match vs, g with
 | [x, y], g => exact ⟨[x, y], e, h1 w N x g.1, h2 w N y g.2.1, trivial⟩
 | [], g => exact g.elim
 | [_], g => exact g.2.elim
 | _ :: _ :: _ :: _, g => exact g.2.2.elim
theorem leC_nil {sz : Nat} {c : Nat → Nat → CV} : LeC1 (.v (.slice none 0 0)) (.sl sz 0 c) := by
 intro w N v h
 exact ⟨none, 0, h.1, Nat.le_refl _, by unfold maxLen; omega, fun _ => rfl, fun h => by omega⟩
theorem le_nil {sz : Nat} {c : Nat → Nat → CV} : LeD (.t (.c (.v (.slice none 0 0)))) (.t (.c (.sl sz 0 c))) := leT_c leC_nil
theorem mx_if (a b : Int) : (if b > a then b else a) = max a b := by split <;> omega
theorem mn_if (a b : Int) : (if b < a then b else a) = min a b := by split <;> omega
theorem fn2 {a b : Int} (h : firstNZ [a, b] = 0) : a = 0 ∧ b = 0 := by
 simp only [firstNZ] at h
 by_cases h1 : a = 0 <;> by_cases h2 : b = 0 <;> simp_all
theorem wi {n : Int} (h : -9000000000000000000 ≤ n ∧ n ≤ 9000000000000000000) : IntKind.i64.wrap n = n := IntWalk.i64_in _ (by omega)
theorem mul_rg {x y A B C : Int} (hx : -A ≤ x ∧ x ≤ A) (hy : -B ≤ y ∧ y ≤ B) (hC : A * B ≤ C) : -C ≤ x * y ∧ x * y ≤ C := by
 have hA : 0 ≤ A := by omega
 have hB : 0 ≤ B := by omega
 have key : ∀ a b : Int, 0 ≤ a → a ≤ A → 0 ≤ b → b ≤ B → a * b ≤ A * B := fun a b h1 h2 h3 h4 => Int.mul_le_mul h2 h4 h3 hA
 rcases Int.le_total 0 x with h1 | h1 <;> rcases Int.le_total 0 y with h2 | h2
 ·have := key x y h1 hx.2 h2 hy.2; have := Int.mul_nonneg h1 h2; omega
 ·have := key x (-y) h1 hx.2 (by omega) (by omega); have := Int.mul_nonneg h1 (show 0 ≤ -y by omega); rw [Int.mul_neg] at *; omega
 ·have := key (-x) y (by omega) (by omega) h2 hy.2; have := Int.mul_nonneg (show 0 ≤ -x by omega) h2; rw [Int.neg_mul] at *; omega
 ·have := key (-x) (-y) (by omega) (by omega) (by omega) (by omega); have := Int.mul_nonneg (show 0 ≤ -x by omega) (show 0 ≤ -y by omega); rw [Int.neg_mul_neg] at *; omega
end Go.Proofs.YtdkpgodakmailaaGreatDoor