/- Texts of this claim, together. -/
import Derived.Test.YtlmdmpjfehpjeaaQ4

/- A checker of Go code: iterators: functions that hand tuples to yield. No program in sight. -/
set_option linter.unusedVariables false
set_option linter.unusedSimpArgs false
namespace Go.Proofs.Ytlmdmpjfehpjeaa.Ev
open Go.RowKit

variable {w0 : World} {N0 : Nat → Prop} {Z : Pins} {P : Program} {T : Tab} {S : Sum} {M : Map} {a : Act} {w : World}

/-! ### what code leaves alone in a frame -/
/-- the frame's other temporaries and its deferred calls stay. -/
def Fr (l : List Oper) (a a' : Act) : Prop := (∀ i, (∀ o ∈ l, o.dst ≠ some i) → a'.tmps[i]? = a.tmps[i]?) ∧ a'.defers = a.defers
theorem Fr.refl (l : List Oper) (a : Act) : Fr l a a := ⟨fun _ _ => rfl, rfl⟩
theorem Fr.trans {l : List Oper} {a b c : Act} (h : Fr l a b) (g : Fr l b c) : Fr l a c := ⟨fun i hi => (g.1 i hi).trans (h.1 i hi), g.2.trans h.2⟩
theorem Fr.put {l : List Oper} {a : Act} {o : Oper} (ho : o ∈ l) (v : Value) : Fr l a (a.put o.dst v) := ⟨fun i hi => by
  rw [put_get, if_neg (fun h => hi o ho h.1)], put_defs _ _ _⟩
/-- this operation defers nothing. -/
def ndef (o : Oper) : Bool := match o.op with
  | .defer _ => false
  | _ => true
theorem ndef_ok {o : Oper} (h : ndef o = true) : ∀ c, o.op ≠ .defer c := by
  intro c hc; unfold ndef at h; rw [hc] at h; cases h

/-- an iterator's frame, told apart from its world: where a call of a function that is written in Go has ended well. -/
inductive Wl (P : Program) (o : Oper) (a : Act) (w : World) (K : Act → World → Prop) : Prop where
  | value (v : Value) (w' : World) (h : (execOp a.eval o).run P w = .ok (.value v) w') (hk : K (a.put o.dst v) w')
  | skip (w' : World) (h : (execOp a.eval o).run P w = .ok .skip w') (hk : K (a.put o.dst undef) w')
  | call (f : FuncId) (args : Array Value) (w' : World) (h : (execOp a.eval o).run P w = .ok (.enter f args) w') (hc : Calls P f args w' fun e w'' => ∃ v, e = .returned v ∧ K (a.put o.dst v) w'')
theorem Wl.wp {o : Oper} (hnd : ∀ c, o.op ≠ .defer c) {K : Act → World → Prop} (h : Wl P o a w K) {Q : Exit → Act → World → Prop} : o.wpIn Fence.wide 0 P a w K Q := by
  unfold Oper.wpIn
  refine ⟨fun f _ => trivial, ?_⟩
  rw [Oper.semAt_eq _ _ _ hnd]
  cases h with
  | value v w' h hk => rw [h]; exact hk
  | skip w' h hk => rw [h]; exact hk
  | call f args w' h hc =>
    rw [h]
    refine ⟨(fun h => by cases h), callsIn_wide.2 (Calls.mono hc ?_)⟩
    rintro e w'' ⟨v, rfl, hk⟩
    exact hk
theorem Well.wl {o : Oper} {st' : DS} (h : Well P w0 N0 Z o a w st') : Wl P o a w fun a' w' => (∃ M', Abs w0 N0 Z M' st' a' w') ∧ ∃ v, a' = a.put o.dst v := by
  cases h with
  | value v M' w' h ha => exact .value v w' h ⟨⟨M', ha⟩, v, rfl⟩
  | skip M' w' h ha => exact .skip w' h ⟨⟨M', ha⟩, undef, rfl⟩
  | call f args w' h hc => exact .call f args w' h (Calls.mono hc fun e w'' ⟨v, e1, M', ha⟩ => ⟨v, e1, ⟨M', ha⟩, v, rfl⟩)
theorem want_ok {ops : Array Oper} {st : DS} {o : Oper} (ha : Abs w0 N0 Z M st a w) {b : Bool} (hb : wantE ops.toList st o = some b) : Region.wanted o (yielded ops a.tmps) = b := by
  unfold wantE at hb
  unfold Region.wanted
  split at hb
  · rename_i hg; cases hb; rw [hg]
  · rename_i j want hg
    rw [hg]
    simp only
    unfold yielded
    simp only [Array.getElem?_toList] at hb
    split at hb
    · rename_i hd; cases hb; rw [hd]; rfl
    · rename_i g hd
      rw [hd]
      simp only [Option.bind_some]
      split at hb
      · rename_i c hc
        cases hb
        obtain ⟨v, h1, h2⟩ := ha.tmp g _ hc
        rw [h1, show v = .bool c from h2.1]
        cases c <;> cases want <;> rfl
      · rename_i hc
        cases hb
        obtain ⟨v, h1, vs, h2, h3⟩ := ha.tmp g _ hc
        rw [h1, h2]; rfl
      · cases hb
/-- one operation, with what it leaves alone. -/
theorem step_fr (hT : TabOK P T) (hS : Valid P S) {ops : Array Oper} {forb : Nat → Bool} {o : Oper} {st st' : DS} {p : Prop} (ha : Abs w0 N0 Z M st a w) (h : step P T S ops.toList forb o st = some (p, st')) (hp : p) {l : List Oper} (ho : o ∈ l) {K : Act → World → Prop} {Q : Exit → Act → World → Prop} (hK : ∀ M' a' w', Abs w0 N0 Z M' st' a' w' → Fr l a a' → K a' w') :
    if Region.wanted o (yielded ops a.tmps) then o.wpIn Fence.wide 0 P a w K Q else (∀ f, o.about P w a.eval = some f → Fence.wide.fn f) ∧ K (a.put o.dst undef) w := by
  unfold step at h
  split at h
  · rename_i hb
    rw [want_ok ha hb]
    simp only [Option.map_eq_some_iff, Prod.mk.injEq] at h
    obtain ⟨e, h1, rfl, rfl⟩ := h
    simp only [if_true]
    refine Oper.wpIn_mono ?_ ((exec_sound hT hS ha h1 hp).wl.wp (exec_nd h1))
    rintro a' w' ⟨⟨M', ha'⟩, v, rfl⟩
    exact hK M' _ _ ha' (Fr.put ho v)
  · rename_i hb
    rw [want_ok ha hb]
    cases h
    simp only [Bool.false_eq_true, if_false]
    refine ⟨fun f _ => trivial, hK M _ _ (ha.put (Below.refl _ _) o.dst fun dv e => ?_) (Fr.put ho _)⟩
    cases e
    exact ⟨[], rfl, trivial⟩
  · cases h

/-! ### what is to be shown of an iterator -/
/-- the values that stay in a frame while yield runs: those of the closure's own variables, and plain ones. -/
def findK (i : Nat) : List (Nat × DV) → Option DV
  | [] => none
  | (j, d) :: l => bif Nat.beq i j then some d else findK i l
def rebT (keep : List (Nat × DV)) : Nat → List (Option DV) → List (Option DV)
  | _, [] => []
  | i, x :: l => (match findK i keep with
    | some d => some d
    | none => match x with
      | some d => bif flatD d then some d else none
      | none => none) :: rebT keep (i + 1) l
def rebS (keep : List (Nat × DV)) (st : DS) : DS := ⟨rebT keep 0 st.t, List.replicate st.h.length none⟩
def isYld : DV → Option Nat
  | .t (.c (.v (.func (.yield l) ⟨[]⟩ ⟨[]⟩))) => some l
  | _ => none
def yldC (st : DS) (o : Oper) : Option (Call × Nat) := match o.op with
  | .call c => match c.callee with
    | .value f => match opv st f with
      | some d => (isYld d).map fun l => (c, l)
      | none => none
    | _ => none
  | _ => none
/-- plain, and no closure. -/
def flatY : TV → Bool
  | .fn _ _ => false
  | x => flatT x
def flatYs : List TV → Bool
  | [] => true
  | x :: l => flatY x && flatYs l
def tts : List DV → Option (List TV)
  | [] => some []
  | .t x :: l => (tts l).map (x :: ·)
  | _ :: _ => none
/-- yield's call: the next tuple; behind it the loop goes on, or has been left. -/
def yldE (l0 : Nat) (n : Nat) (y : Nat → List TV) (keep : List (Nat × DV)) (o : Oper) (c : Call) (l' : Nat) (st : DS) (g : Option Nat) (k : Option Nat → DS → Prop) : Prop := match g, (opvs st c.args.toList).bind tts with
  | some i, some l => bif !flatYs l then False else (l' = l0 ∧ i < n ∧ l = y i) ∧ (k (some (i + 1)) ((rebS keep st).putO o.dst (some (.t (.c (.v (.bool true)))))) ∧ k none ((rebS [] st).putO o.dst (some (.t (.c (.v (.bool false)))))))
  | _, _ => False
def evOpsY (P : Program) (T : Tab) (S : Sum) (l0 n : Nat) (y : Nat → List TV) (keep : List (Nat × DV)) (ops : List Oper) : List Oper → DS → Option Nat → (Option Nat → DS → Prop) → Prop
  | [], st, g, k => k g st
  | o :: l, st, g, k => match yldC st o, wantE ops st o with
    | some (c, l'), some true => yldE l0 n y keep o c l' st g fun g' st' => evOpsY P T S l0 n y keep ops l st' g' k
    | _, _ => evOp P T S ops noForb o st fun st' => evOpsY P T S l0 n y keep ops l st' g k
/-- at a loop's head again. -/
def againY (J : Inv) (b : Nat) (hd : Hd) (bx : List Bx) (F : List Nat) (g : Option Nat) (s : DS) : Prop := match g, tidyB hd bx s with
  | some c, some s => J b (c :: F) s
  | _, _ => False
def evY (P : Program) (T : Tab) (S : Sum) (ann : Ann) (J : Inv) (l0 n : Nat) (y : Nat → List TV) (keep : List (Nat × DV)) : Code → Nat → List Nat → (Option Nat → DS → Prop) → (Nat → Option Nat → DS → Prop) → (Option Nat → DS → Prop) → Option Nat → DS → Prop
  | .skip, _, _, kn, _, _, g, st => kn g st
  | .region id ops draw, _, _, kn, _, _, g, st => bif draw then (match ann.reg id with
      | some (_, fs) => evItems P T S ops.toList (items 0 ops.toList (fs.map fb)) st (kn g)
      | none => False) else evOpsY P T S l0 n y keep ops.toList ops.toList st g kn
  | .seq x z, b, F, kn, ke, kr, g, st => evY P T S ann J l0 n y keep x b F (fun g s => evY P T S ann J l0 n y keep z b F kn ke kr g s) ke kr g st
  | .cond c x z, b, F, kn, ke, kr, g, st => match opv st c with
    | some (.t (.c (.v (.bool t)))) => cond t (evY P T S ann J l0 n y keep x b F kn ke kr g st) (evY P T S ann J l0 n y keep z b F kn ke kr g st)
    | _ => False
  | .block id x, _, F, kn, ke, kr, g, st => evY P T S ann J l0 n y keep x id F kn (fun j g s => bif Nat.beq j id then kn g s else ke j g s) kr g st
  | .loop x, b, F, kn, ke, kr, g, st => match ann.lp b, g with
    | some (none, some hd), some c => match tidyB hd (ann.bx b) st with
      | some s => ∃ m, J b (c :: m :: F) s
      | none => False
    | _, _ => False
  | .exit id, _, _, _, ke, _, g, st => ke id g st
  | .ret, _, _, _, _, kr, g, st => kr g st
  | _, _, _, _, _, _, _, _ => False
def loopsY (P : Program) (T : Tab) (S : Sum) (ann : Ann) (J : Inv) (l0 n : Nat) (y : Nat → List TV) (keep : List (Nat × DV)) : Code → Nat → (List Nat → Option Nat → DS → Prop) → (List Nat → Nat → Option Nat → DS → Prop) → (List Nat → Option Nat → DS → Prop) → List (Nat × (Nat → List Nat → DS → Prop))
  | .seq x z, b, kn, ke, kr => loopsY P T S ann J l0 n y keep x b (fun F g s => evY P T S ann J l0 n y keep z b F (kn F) (ke F) (kr F) g s) ke kr ++ loopsY P T S ann J l0 n y keep z b kn ke kr
  | .cond _ x z, b, kn, ke, kr => loopsY P T S ann J l0 n y keep x b kn ke kr ++ loopsY P T S ann J l0 n y keep z b kn ke kr
  | .block id x, _, kn, ke, kr => loopsY P T S ann J l0 n y keep x id kn (fun F j g s => bif Nat.beq j id then kn F g s else ke F j g s) kr
  | .loop x, b, kn, ke, kr => match ann.lp b with
    | some (none, some hd) => (b, fun c F s => evY P T S ann J l0 n y keep x b F (againY J b hd (ann.bx b) F) (ke F.tail) (kr F.tail) (some c) s) :: loopsY P T S ann J l0 n y keep x b (fun F g s => againY J b hd (ann.bx b) F g s) (fun F => ke F.tail) (fun F => kr F.tail)
    | _ => []
  | _, _, _, _, _ => []
def AllY (J : Inv) : List (Nat × (Nat → List Nat → DS → Prop)) → Prop
  | [] => True
  | (b, G) :: l => ((∀ c F s, ¬ J b (c :: 0 :: F) s) ∧ ∀ c m F s, J b (c :: (m + 1) :: F) s → G c (m :: F) s) ∧ AllY J l
theorem AllY_append {J : Inv} : ∀ {l m : List (Nat × (Nat → List Nat → DS → Prop))}, AllY J (l ++ m) ↔ AllY J l ∧ AllY J m
  | [], m => by simp [AllY]
  | (b, G) :: l, m => by simp only [List.cons_append, AllY, AllY_append, and_assoc]
/-- no operation writes a temporary that is kept; loops that are not unrolled. -/
def okKeep (keep : List (Nat × DV)) (o : Oper) : Bool := ndef o && (match o.dst with
  | some d => (findK d keep).isNone
  | none => true)
def okY (ann : Ann) (keep : List (Nat × DV)) : Code → Nat → Bool
  | .region id ops draw, _ => ops.toList.all (okKeep keep) && !draw
  | .seq x z, b => okY ann keep x b && okY ann keep z b
  | .cond _ x z, b => okY ann keep x b && okY ann keep z b
  | .block id x, _ => okY ann keep x id
  | .loop x, b => (match ann.lp b with
    | some (none, some _) => true
    | _ => false) && okY ann keep x b
  | _, _ => true
end Go.Proofs.Ytlmdmpjfehpjeaa.Ev

/- A checker of Go code: iterators: what it says of them holds. No program in sight. -/
set_option linter.unusedVariables false
set_option linter.unusedSimpArgs false
namespace Go.Proofs.Ytlmdmpjfehpjeaa.Ev
open Go.RowKit

variable {P : Program} {T : Tab} {S : Sum} {ann : Ann} {J : Inv} {l0 n : Nat} {y : Nat → List TV} {keep : List (Nat × DV)} {wc W : World} {N : Nat → Prop} {J0 : Nat → World → Prop} {Jx : Unit → World → Prop} {ov : Nat → Value}

/-- what an iterator's state says of its frame and world. -/
def YA (keep : List (Nat × DV)) (wc W : World) (N : Nat → Prop) (J0 : Nat → World → Prop) (Jx : Unit → World → Prop) (ov : Nat → Value) (st : DS) (a : Act) (w : World) (g : Option Nat) : Prop :=
  a.defers = [] ∧ (∀ i d, findK i keep = some d → a.tmps[i]? = some (ov i)) ∧ ∃ w0 N0 M, Abs w0 N0 noPins M st a w ∧ (match g with
    | some i => J0 i w0 ∧ W.heap.size ≤ w0.heap.size ∧ ∀ b, b < wc.heap.size → N b → w0.heap[b]? = W.heap[b]?
    | none => Jx () w0)
/-- what is known where an iterator runs. -/
structure YC (P : Program) (l0 n : Nat) (y : Nat → List TV) (keep : List (Nat × DV)) (wc W : World) (N : Nat → Prop) (J0 : Nat → World → Prop) (Jx : Unit → World → Prop) (ov : Nat → Value) : Prop where
  hb : Below wc.heap.size wc W
  hJ : AbidesFrom W.heap.size J0
  hY : ∀ i W1, i < n → J0 i W1 → YieldAt Fence.wide 0 P l0 ((y i).map tvVal).toArray W1 fun e W' => (e = .returned (.bool true) ∧ J0 (i + 1) W' ∧ W1.heap.size ≤ W'.heap.size ∧ ∀ b, b < wc.heap.size → N b → W'.heap[b]? = W1.heap[b]?) ∨ (e = .returned (.bool false) ∧ Jx () W')
  hk : ∀ i d, findK i keep = some d → RelD (RelF wc N) d (ov i)
theorem below_grown {w w' : World} (h : Below w.heap.size w w') : w.grownBy w' none := ⟨h.os, h.tape, h.output, h.size, fun k hk _ => h.block k hk⟩
theorem flatT_val {w : World} {N : Nat → Prop} {M : Map} : ∀ {x : TV} {v : Value}, flatY x = true → RelT (RelC w N M) x v → v = tvVal x
  | .c (.v x), v, _, g => g.1
  | .c (.sl ..), _, h, _ | .c (.px ..), _, h, _ | .c (.os _), _, h, _ | .c (.p ..), _, h, _ | .c (.pe ..), _, h, _ | .c (.ob ..), _, h, _ => by cases h
  | .a l, v, h, g => by
    obtain ⟨vs, rfl, g⟩ := g
    have : ∀ {l : List CV} {vs : List Value}, flatCs l = true → All2 (RelC w N M) l vs → vs = l.map cvVal := by
      intro l
      induction l with
      | nil => intro vs _ g; cases vs with
        | nil => rfl
        | cons _ _ => exact g.elim
      | cons x l ih =>
        intro vs h g
        cases vs with
        | nil => exact g.elim
        | cons v vs =>
          simp only [flatCs, Bool.and_eq_true] at h
          have e : v = cvVal x := by
            cases x with
            | v z => exact g.1.1
            | _ => simp [flatC] at h
          rw [e, ih h.2 g.2]; rfl
    rw [this h g]; rfl
  | .fn f l, v, h, g => by cases h
theorem flatTs_val {w : World} {N : Nat → Prop} {M : Map} : ∀ {l : List TV} {vs : List Value}, flatYs l = true → All2 (RelT (RelC w N M)) l vs → vs = l.map tvVal
  | [], [], _, _ => rfl
  | x :: l, v :: vs, h, g => by
    simp only [flatYs, Bool.and_eq_true] at h
    rw [flatT_val h.1 g.1, flatTs_val h.2 g.2]; rfl
  | [], _ :: _, _, g => g.elim
  | _ :: _, [], _, g => g.elim
theorem tts_rel {R : CV → Value → Prop} : ∀ {ds : List DV} {l : List TV} {vs : List Value}, tts ds = some l → All2 (RelD R) ds vs → All2 (RelT R) l vs
  | [], l, [], h, _ => by cases h; trivial
  | .t x :: ds, l, v :: vs, h, g => by
    simp only [tts, Option.map_eq_some_iff] at h
    obtain ⟨l', h1, rfl⟩ := h
    exact ⟨g.1, tts_rel h1 g.2⟩
  | .tu _ :: _, l, _ :: _, h, _ => by simp [tts] at h
  | [], _, _ :: _, _, g => g.elim
  | _ :: _, _, [], _, g => g.elim
theorem rebT_get (keep : List (Nat × DV)) : ∀ (l : List (Option DV)) (k i : Nat), ((rebT keep k l)[i]?).join = if i < l.length then (match findK (k + i) keep with | some d => some d | none => match (l[i]?).join with | some d => bif flatD d then some d else none | none => none) else none
  | [], k, i => by simp [rebT]
  | x :: l, k, 0 => by
    simp only [rebT, List.getElem?_cons_zero, Nat.add_zero, List.length_cons, Nat.zero_lt_succ, if_true]
    cases findK k keep with
    | some d => rfl
    | none => cases x with
      | none => rfl
      | some d => rfl
  | x :: l, k, i + 1 => by
    simp only [rebT, List.getElem?_cons_succ, rebT_get keep l (k + 1) i, List.length_cons, Nat.add_lt_add_iff_right]
    rw [show k + 1 + i = k + (i + 1) by omega]
theorem rebT_len (keep : List (Nat × DV)) : ∀ (l : List (Option DV)) (k : Nat), (rebT keep k l).length = l.length
  | [], k => rfl
  | x :: l, k => by simp [rebT, rebT_len keep l]
theorem flat_cv {w w' : World} {N N' : Nat → Prop} {M M' : Map} {x : CV} {v : Value} (h : flatC x = true) (g : RelC w N M x v) : RelC w' N' M' x v := by
  cases x with
  | v y => exact g
  | _ => cases h
theorem flat_cvs {w w' : World} {N N' : Nat → Prop} {M M' : Map} : ∀ {l : List CV} {vs : List Value}, flatCs l = true → All2 (RelC w N M) l vs → All2 (RelC w' N' M') l vs
  | [], [], _, _ => trivial
  | x :: l, v :: vs, h, g => by
    simp only [flatCs, Bool.and_eq_true] at h
    exact ⟨flat_cv h.1 g.1, flat_cvs h.2 g.2⟩
  | [], _ :: _, _, g => g.elim
  | _ :: _, [], _, g => g.elim
theorem flat_tv {w w' : World} {N N' : Nat → Prop} {M M' : Map} {x : TV} {v : Value} (h : flatT x = true) (g : RelT (RelC w N M) x v) : RelT (RelC w' N' M') x v := by
  cases x with
  | c x => exact flat_cv h g
  | a l => obtain ⟨vs, e, g⟩ := g; exact ⟨vs, e, flat_cvs h g⟩
  | fn f l => obtain ⟨vs, e, g⟩ := g; exact ⟨vs, e, flat_cvs h g⟩
theorem flat_tvs {w w' : World} {N N' : Nat → Prop} {M M' : Map} : ∀ {l : List TV} {vs : List Value}, flatTs l = true → All2 (RelT (RelC w N M)) l vs → All2 (RelT (RelC w' N' M')) l vs
  | [], [], _, _ => trivial
  | x :: l, v :: vs, h, g => by
    simp only [flatTs, Bool.and_eq_true] at h
    exact ⟨flat_tv h.1 g.1, flat_tvs h.2 g.2⟩
  | [], _ :: _, _, g => g.elim
  | _ :: _, [], _, g => g.elim
theorem flat_up {w w' : World} {N N' : Nat → Prop} {M M' : Map} {x : DV} {v : Value} (h : flatD x = true) (g : RelD (RelC w N M) x v) : RelD (RelC w' N' M') x v := by
  cases x with
  | t x => exact flat_tv h g
  | tu l => obtain ⟨vs, e, g⟩ := g; exact ⟨vs, e, flat_tvs h g⟩
/-- a frame behind yield. -/
theorem Abs.reb {w0 : World} {N0 : Nat → Prop} {M : Map} {st : DS} {a : Act} {w w' : World} (ha : Abs w0 N0 noPins M st a w) (hd : a.defers = []) (hk : ∀ i d, findK i keep = some d → a.tmps[i]? = some (ov i) ∧ RelD (RelF w' N) d (ov i)) : Abs w' N noPins (fun _ => none) (rebS keep st) a w' := by
  refine ⟨Below.refl _ _, by simp [rebS, rebT_len, ha.fits], by rw [hd]; exact Marks.nil, fun i dv h => ?_, fun k r h => ?_, fun _ _ => rfl, (fun k l b h _ => by cases h), (fun k k' r r' l l' b _ _ _ _ h _ _ _ => by cases h), (fun _ _ h => h.elim), (fun _ h => h.elim), (fun _ _ h => by cases h)⟩
  · unfold DS.tm rebS at h
    simp only at h
    rw [rebT_get] at h
    split at h
    · rename_i hlt
      simp only [Nat.zero_add] at h
      cases e : findK i keep with
      | some d =>
        obtain ⟨h1, h2⟩ := hk i d e
        rw [e] at h
        cases h
        exact ⟨_, h1, RelD.mono (fun x v g => RelC.ofF (RelF.mono (Nat.le_refl _) (fun _ _ _ _ => rfl) (fun b hb _ => ⟨fun _ => hb, fun _ _ h => by cases h⟩) x g)) h2⟩
      | none =>
        rw [e] at h
        simp only at h
        cases e2 : (st.t[i]?).join with
        | none => rw [e2] at h; cases h
        | some d =>
          rw [e2] at h
          simp only at h
          cases e3 : flatD d with
          | false => rw [e3] at h; cases h
          | true =>
            obtain ⟨v, h1, h2⟩ := ha.tmp i d e2
            rw [e3] at h
            cases h
            exact ⟨v, h1, flat_up e3 h2⟩
    · cases h
  · unfold DS.at rebS at h
    simp only [List.getElem?_replicate] at h
    split at h <;> cases h

theorem run_yldC {a : Act} {w : World} {o : Oper} {c : Call} (ho : o.op = .call c) {f : Operand} (hc : c.callee = .value f) {l : Nat} (hg : a.eval f = .func (.yield l) #[] #[]) {args : List Value} (hargs : c.args.toList.map a.eval = args) {X : Result Next} (hX : (Instr.yield l args.toArray).run P w = X) : (execOp a.eval o).run P w = X := by
  have : c.args.map a.eval = args.toArray := by
    apply Array.toList_inj.1; simpa using hargs
  unfold execOp
  simp only [ho, resolve, hc, hg, Deferred.ofValue, Sem.run_bind, Sem.run_pure, Result.andThen_ok, invoke, Array.empty_append, this]
  simpa using hX
theorem evOpsY_sound (hT : TabOK P T) (hS : Valid P S) (C : YC P l0 n y keep wc W N J0 Jx ov) {ops : Array Oper} {Q : Exit → Act → World → Prop} {k : Option Nat → DS → Prop} (hQ : ∀ g st' a' w', k g st' → YA keep wc W N J0 Jx ov st' a' w' g → Q .normal a' w') : ∀ (l : List Oper), (∀ o ∈ l, okKeep keep o = true) → ∀ {st : DS} {a : Act} {w : World} {g : Option Nat}, YA keep wc W N J0 Jx ov st a w g → evOpsY P T S l0 n y keep ops.toList l st g k → wpListIn Fence.wide 0 P ops Q l a w
  | [], _, st, a, w, g, ha, h => hQ _ _ _ _ h ha
  | o :: l, hk, st, a, w, g, ha, h => by
    have hko := hk o (by simp)
    have hrest : ∀ o' ∈ l, okKeep keep o' = true := fun o' ho' => hk o' (by simp [ho'])
    have hdst : ∀ i d, findK i keep = some d → o.dst ≠ some i := by
      intro i d hf e
      unfold okKeep at hko
      rw [e] at hko
      simp [hf] at hko
    have hnd : ∀ c, o.op ≠ .defer c := by
      unfold okKeep at hko
      simp only [Bool.and_eq_true] at hko
      exact ndef_ok hko.1
    have normal : evOp P T S ops.toList noForb o st (fun st' => evOpsY P T S l0 n y keep ops.toList l st' g k) → wpListIn Fence.wide 0 P ops Q (o :: l) a w := by
      intro h
      rw [evOp_iff] at h
      obtain ⟨p, st', h1, h2, h3⟩ := h
      obtain ⟨hd, hov, w0, N0, M, hA, hg⟩ := ha
      have := step_fr hT hS hA h1 h2 (l := [o]) (by simp) (K := fun a' w' => wpListIn Fence.wide 0 P ops Q l a' w') (Q := Q) (fun M' a' w' hA' hfr => evOpsY_sound hT hS C hQ l hrest ⟨hfr.2.trans hd, fun i d hf => (hfr.1 i (by simpa using hdst i d hf)).trans (hov i d hf), w0, N0, M', hA', hg⟩ h3)
      exact this
    simp only [evOpsY] at h
    split at h
    · rename_i c l' hy hw
      obtain ⟨hd, hov, w0, N0, M, hA, hg⟩ := ha
      have hwant := want_ok hA hw
      unfold yldE at h
      split at h
      · rename_i i ls hds
        cases hfl : flatYs ls with
        | false => rw [hfl] at h; exact h.elim
        | true =>
        rw [hfl] at h
        simp only [Bool.not_true, cond_false] at h
        obtain ⟨⟨hl0, hi, hls⟩, hT', hF'⟩ := h
        simp only [Option.bind_eq_some_iff] at hds
        obtain ⟨ds, hds1, hds2⟩ := hds
        unfold yldC at hy
        split at hy
        case h_2 => cases hy
        rename_i c' hop
        split at hy
        case h_2 => cases hy
        rename_i f hcal
        split at hy
        case h_2 => cases hy
        rename_i d hf
        simp only [Option.map_eq_some_iff, Prod.mk.injEq] at hy
        obtain ⟨l2, hl2, rfl, rfl⟩ := hy
        have hgv : a.eval f = .func (.yield l0) #[] #[] := by
          have g1 := opv_rel hA hf
          rw [← hl0]
          unfold isYld at hl2
          split at hl2
          · cases hl2; exact g1.1
          · cases hl2
        have hvals := flatTs_val hfl (tts_rel hds2 (opvs_rel hA hds1))
        have hJw : J0 i w := C.hJ i w0 w none hg.1 (below_grown hA.below) (fun r e => by cases e)
        obtain ⟨fn, tmps, assign, body, hrun, hround⟩ := C.hY i w hi hJw
        rw [← hls] at hrun
        have hx := run_yldC (P := P) hop hcal hgv hvals hrun
        show if _ then _ else _
        rw [hwant, if_pos rfl]
        unfold Oper.wpIn
        refine ⟨fun f _ => trivial, ?_⟩
        rw [Oper.semAt_eq _ _ _ hnd, hx]
        refine ⟨(fun h => by cases h), hround.mono ?_⟩
        have hsz := hg.2.1
        have hsw : wc.heap.size ≤ w0.heap.size := Nat.le_trans C.hb.size hsz
        have hsA := hA.below.size
        have hov' : ∀ (v : Value) i d, findK i keep = some d → (a.put o.dst v).tmps[i]? = some (ov i) := fun v i d hf => by
          rw [put_get, if_neg (fun h => hdst i d hf h.1)]; exact hov i d hf
        rintro e w' (⟨rfl, hj, hs2, hkp⟩ | ⟨rfl, hj⟩)
        · have hkn : ∀ b, b < wc.heap.size → N b → w'.heap[b]? = W.heap[b]? := fun b hb hN => by
            rw [hkp b hb hN, hA.below.block b (by omega)]; exact hg.2.2 b hb hN
          have hreb := hA.reb (keep := keep) (ov := ov) (w' := w') (N := fun b => b < wc.heap.size ∧ N b) hd fun i d hf => ⟨hov i d hf, RelD.mono (fun x v g => RelF.mono (w := wc) (N := N) (by omega) (fun b hN hb off => by
                have e1 : w'.heap[b]? = wc.heap[b]? := (hkn b hb hN).trans (C.hb.block b hb)
                exact World.cell?_of_block (w := wc) (a := ⟨b, off, none⟩) e1) (fun b hN hb => ⟨hb, hN⟩) x g) (C.hk i d hf)⟩
          refine evOpsY_sound hT hS C hQ l hrest (g := some (i + 1)) ⟨by rw [put_defs]; exact hd, hov' _, w', _, _, hreb.putV o.dst (x := .t (.c (.v (.bool true)))) ⟨rfl, rfl⟩, hj, by omega, hkn⟩ hT'
        · have hreb := hA.reb (keep := []) (ov := ov) (w' := w') (N := fun _ => True) hd fun i d hf => by cases hf
          refine evOpsY_sound hT hS C hQ l hrest (g := none) ⟨by rw [put_defs]; exact hd, hov' _, w', _, _, hreb.putV o.dst (x := .t (.c (.v (.bool false)))) ⟨rfl, rfl⟩, hj⟩ hF'
      · exact h.elim
    · exact normal h
theorem YA.tidyB {st st' : DS} {a : Act} {w : World} {g : Option Nat} (ha : YA keep wc W N J0 Jx ov st a w g) {hd : Hd} {bx : List Bx} (h : tidyB hd bx st = some st') : YA keep wc W N J0 Jx ov st' a w g := by
  obtain ⟨hd', hov, w0, N0, M, hA, hg⟩ := ha
  obtain ⟨M', hA'⟩ := hA.tidyB (by intro k l h; cases h) h
  exact ⟨hd', hov, w0, N0, M', hA', hg⟩
theorem YA.eval {st : DS} {a : Act} {w : World} {g : Option Nat} (ha : YA keep wc W N J0 Jx ov st a w g) {c : Operand} {t : Bool} (h : opv st c = some (.t (.c (.v (.bool t))))) : a.eval c = .bool t := by
  obtain ⟨hd', hov, w0, N0, M, hA, hg⟩ := ha
  exact (opv_rel hA h).1
theorem evY_sound (hT : TabOK P T) (hS : Valid P S) (C : YC P l0 n y keep wc W N J0 Jx ov) : ∀ (c : Code) {b : Nat} {F : List Nat} {kn : Option Nat → DS → Prop} {ke : Nat → Option Nat → DS → Prop} {kr : Option Nat → DS → Prop} {Kn : List Nat → Option Nat → DS → Prop} {Ke : List Nat → Nat → Option Nat → DS → Prop} {Kr : List Nat → Option Nat → DS → Prop} {Q : Exit → Act → World → Prop} {st : DS} {a : Act} {w : World} {g : Option Nat},
    okY ann keep c b = true → AllY J (loopsY P T S ann J l0 n y keep c b Kn Ke Kr) → Kn F = kn → Ke F = ke → Kr F = kr → YA keep wc W N J0 Jx ov st a w g →
    (∀ g st' a' w', kn g st' → YA keep wc W N J0 Jx ov st' a' w' g → Q .normal a' w') → (∀ i g st' a' w', ke i g st' → YA keep wc W N J0 Jx ov st' a' w' g → Q (.exit i) a' w') → (∀ g st' a' w', kr g st' → YA keep wc W N J0 Jx ov st' a' w' g → Q .ret a' w') →
    evY P T S ann J l0 n y keep c b F kn ke kr g st → c.wpIn Fence.wide 0 P Q a w
  | .skip, b, F, kn, ke, kr, Kn, Ke, Kr, Q, st, a, w, g, hok, hL, e1, e2, e3, ha, hn, he, hr, h => wpIn_skip (hn _ _ _ _ h ha)
  | .exit i, b, F, kn, ke, kr, Kn, Ke, Kr, Q, st, a, w, g, hok, hL, e1, e2, e3, ha, hn, he, hr, h => wpIn_exit (he i _ _ _ _ h ha)
  | .ret, b, F, kn, ke, kr, Kn, Ke, Kr, Q, st, a, w, g, hok, hL, e1, e2, e3, ha, hn, he, hr, h => wpIn_ret (hr _ _ _ _ h ha)
  | .region id ops draw, b, F, kn, ke, kr, Kn, Ke, Kr, Q, st, a, w, g, hok, hL, e1, e2, e3, ha, hn, he, hr, h => by
    simp only [okY, Bool.and_eq_true, Bool.not_eq_true'] at hok
    obtain ⟨hk, rfl⟩ := hok
    exact wpIn_region_list (evOpsY_sound hT hS C hn ops.toList (fun o ho => List.all_eq_true.1 hk o ho) ha h)
  | .seq x z, b, F, kn, ke, kr, Kn, Ke, Kr, Q, st, a, w, g, hok, hL, e1, e2, e3, ha, hn, he, hr, h => by
    simp only [okY, Bool.and_eq_true] at hok
    simp only [loopsY, AllY_append] at hL
    refine wpIn_seq (evY_sound hT hS C x (b := b) (F := F) hok.1 hL.1 (by rw [e1, e2, e3]) e2 e3 ha (fun g st' a' w' h' ha' => ?_) (fun i g st' a' w' h' ha' => he i _ _ _ _ h' ha') (fun g st' a' w' h' ha' => hr _ _ _ _ h' ha') h)
    exact evY_sound hT hS C z hok.2 hL.2 e1 e2 e3 ha' hn he hr h'
  | .cond c x z, b, F, kn, ke, kr, Kn, Ke, Kr, Q, st, a, w, g, hok, hL, e1, e2, e3, ha, hn, he, hr, h => by
    simp only [okY, Bool.and_eq_true] at hok
    simp only [loopsY, AllY_append] at hL
    simp only [evY] at h
    split at h
    · rename_i t hc
      have hv := ha.eval hc
      cases t with
      | true => exact wpIn_cond_true hv (evY_sound hT hS C x hok.1 hL.1 e1 e2 e3 ha hn he hr h)
      | false => exact wpIn_cond_false hv (evY_sound hT hS C z hok.2 hL.2 e1 e2 e3 ha hn he hr h)
    · exact h.elim
  | .block id x, b, F, kn, ke, kr, Kn, Ke, Kr, Q, st, a, w, g, hok, hL, e1, e2, e3, ha, hn, he, hr, h => by
    simp only [okY] at hok
    simp only [evY] at h
    simp only [loopsY] at hL
    refine wpIn_block (evY_sound hT hS C x (b := id) (F := F) hok hL e1 (by rw [e1, e2]) e3 ha (fun g st' a' w' h' ha' => hn _ _ _ _ h' ha') (fun i g st' a' w' h' ha' => ?_) (fun g st' a' w' h' ha' => hr _ _ _ _ h' ha') h)
    simp only [Exit.inBlock]
    cases e : Nat.beq i id with
    | true =>
      rw [e] at h'
      rw [if_pos (Nat.eq_of_beq_eq_true e)]
      exact hn _ _ _ _ h' ha'
    | false =>
      rw [e] at h'
      rw [if_neg (fun h2 => by rw [h2, Nat.beq_refl] at e; cases e)]
      exact he i _ _ _ _ h' ha'
  | .loop x, b, F, kn, ke, kr, Kn, Ke, Kr, Q, st, a, w, g, hok, hL, e1, e2, e3, ha, hn, he, hr, h => by
    simp only [okY, Bool.and_eq_true] at hok
    simp only [evY] at h
    split at h
    · rename_i hd c hl
      simp only [loopsY, hl, AllY] at hL
      obtain ⟨⟨hz, hs⟩, hin⟩ := hL
      split at h
      · rename_i s hts
        obtain ⟨m, hJ⟩ := h
        have key : ∀ (m : Nat) {c : Nat} {st : DS} {a : Act} {w : World}, YA keep wc W N J0 Jx ov st a w (some c) → J b (c :: m :: F) st → Code.roundsIn Fence.wide 0 P x Q m a w := by
          intro m
          induction m with
          | zero => intro c st a w ha h; exact (hz c F st h).elim
          | succ m ih =>
            intro c st a w ha h
            have h1 := hs c m F st h
            simp only [List.tail_cons] at h1
            rw [roundsIn_succ]
            rw [e2, e3] at h1
            refine evY_sound hT hS C x (F := m :: F) hok.2 hin rfl (by simpa using e2) (by simpa using e3) ha (fun g st' a' w' h' ha' => ?_) (fun i g st' a' w' h' ha' => he i _ _ _ _ h' ha') (fun g st' a' w' h' ha' => hr _ _ _ _ h' ha') h1
            unfold againY at h'
            split at h'
            · rename_i c' s2 hs2
              exact ih (ha'.tidyB hs2) h'
            · exact h'.elim
        exact wpIn_loop_rounds m (key m (ha.tidyB hts) hJ)
      · exact h.elim
    · exact h.elim
  | .rangeFunc .., _, _, _, _, _, _, _, _, _, _, _, _, _, _, _, _, _, _, _, _, _, _, h | .scope _, _, _, _, _, _, _, _, _, _, _, _, _, _, _, _, _, _, _, _, _, _, _, h | .label _, _, _, _, _, _, _, _, _, _, _, _, _, _, _, _, _, _, _, _, _, _, _, h
  | .goto _, _, _, _, _, _, _, _, _, _, _, _, _, _, _, _, _, _, _, _, _, _, _, h | .refuse _, _, _, _, _, _, _, _, _, _, _, _, _, _, _, _, _, _, _, _, _, _, _, h => h.elim
/-- at the end every tuple has been handed over, or the loop was left. -/
def endY (n : Nat) (g : Option Nat) (_ : DS) : Prop := match g with
  | some i => i = n
  | none => True
def evIt (P : Program) (T : Tab) (S : Sum) (ann : Ann) (J : Inv) (l0 n : Nat) (y : Nat → List TV) (keep : List (Nat × DV)) (fn : Func) (caps : List DV) : Prop := match fn.body with
  | some c => evY P T S ann J l0 n y keep c 0 [] (endY n) (fun _ _ _ => False) (endY n) (some 0) (start (.t (.c (.v (.func (.yield l0) #[] #[]))) :: caps) fn.ntmps)
  | none => False
def loopsIt (P : Program) (T : Tab) (S : Sum) (ann : Ann) (J : Inv) (l0 n : Nat) (y : Nat → List TV) (keep : List (Nat × DV)) (fn : Func) : List (Nat × (Nat → List Nat → DS → Prop)) := match fn.body with
  | some c => loopsY P T S ann J l0 n y keep c 0 (fun _ => endY n) (fun _ _ _ _ => False) (fun _ => endY n)
  | none => []
def roundIt (P : Program) (T : Tab) (S : Sum) (ann : Ann) (J : Inv) (l0 n : Nat) (y : Nat → List TV) (keep : List (Nat × DV)) (fn : Func) (i c : Nat) (F : List Nat) (s : DS) : Prop := match (loopsIt P T S ann J l0 n y keep fn)[i]? with
  | some (_, G) => G c F s
  | none => True
def okIt (ann : Ann) (keep : List (Nat × DV)) (fn : Func) : Bool := fn.results.toList.isEmpty && (match fn.body with
  | some c => okY ann keep c 0
  | none => false)
end Go.Proofs.Ytlmdmpjfehpjeaa.Ev

/- A checker of Go code: contracts of iterators. No program in sight. -/
set_option linter.unusedVariables false
set_option linter.unusedSimpArgs false
namespace Go.Proofs.Ytlmdmpjfehpjeaa.Ev
open Go.RowKit

def keepOf : Nat → List CV → List (Nat × DV)
  | _, [] => []
  | i, x :: l => (i, .t (.c x)) :: keepOf (i + 1) l
theorem keepOf_get : ∀ {l : List CV} {k i : Nat} {d : DV}, findK i (keepOf k l) = some d → ∃ x, k ≤ i ∧ l[i - k]? = some x ∧ d = .t (.c x)
  | [], k, i, d, h => by cases h
  | x :: l, k, i, d, h => by
    simp only [keepOf, findK] at h
    cases e : Nat.beq i k with
    | true =>
      rw [e] at h
      cases h
      have := Nat.eq_of_beq_eq_true e
      subst this
      exact ⟨x, Nat.le_refl _, by simp, rfl⟩
    | false =>
      rw [e] at h
      obtain ⟨z, h1, h2, h3⟩ := keepOf_get (l := l) h
      refine ⟨z, by omega, ?_, h3⟩
      rw [show i - k = (i - (k + 1)) + 1 by omega]
      simpa using h2
theorem all2_caps {w : World} {N : Nat → Prop} : ∀ {l : List CV} {vs : List Value}, All2 (RelF w N) l vs → All2 (RelD (RelF w N)) (l.map fun x => DV.t (.c x)) vs
  | [], [], _ => trivial
  | x :: l, v :: vs, h => ⟨h.1, all2_caps h.2⟩
  | [], _ :: _, h => h.elim
  | _ :: _, [], h => h.elim
/-- what the checker says of an iterator holds. -/
theorem it_sound {P : Program} {T : Tab} {S : Sum} (hT : TabOK P T) (hS : Valid P S) {ann : Ann} {f : FuncId} {fn : Func} (hf : P.funcs[f]? = some fn) {n : Nat} {y : Nat → List TV} {l : List CV} (hok : okIt ann (keepOf 1 l) fn = true) (hlen : l.length + 1 ≤ fn.ntmps)
    (h : ∀ l0, ∃ J : Inv, evIt P T S ann J l0 n y (keepOf 1 l) fn (l.map fun x => .t (.c x)) ∧ AllY J (loopsIt P T S ann J l0 n y (keepOf 1 l) fn))
    (w : World) (N : Nat → Prop) (vs : List Value) (hargs : All2 (RelF w N) l vs) : SeqIt P f vs.toArray n (fun i => ((y i).map tvVal).toArray) (fun A B => A.heap.size ≤ B.heap.size ∧ ∀ b, b < w.heap.size → N b → B.heap[b]? = A.heap[b]?) w := by
  intro l0 J0 Jx W hb hJ hJx hY h0
  obtain ⟨J, h, hL⟩ := h l0
  have hvl := hargs.length
  have hW := hb.size
  unfold okIt at hok
  unfold evIt at h
  unfold loopsIt at hL
  simp only [Bool.and_eq_true] at hok
  obtain ⟨hres, hok⟩ := hok
  cases hbd : fn.body with
  | none => rw [hbd] at h; exact h.elim
  | some c =>
  rw [hbd] at h hL hok
  simp only at h hL hok
  let ov : Nat → Value := fun i => (vs[i - 1]?).getD undef
  have hC : YC P l0 n y (keepOf 1 l) w W N J0 Jx ov := by
    refine ⟨hb, hJ, hY, fun i d hd => ?_⟩
    obtain ⟨x, h1, h2, rfl⟩ := keepOf_get hd
    obtain ⟨v, e1, e2⟩ := hargs.get h2
    show RelF w N x ((vs[i - 1]?).getD undef)
    rw [e1]; exact e2
  have hargs2 : All2 (RelD (RelF W fun b => b < w.heap.size ∧ N b)) (.t (.c (.v (.func (.yield l0) #[] #[]))) :: l.map fun x => DV.t (.c x)) (.func (.yield l0) #[] #[] :: vs) :=
    ⟨⟨rfl, rfl⟩, all2_caps (hargs.mono fun x v g => RelF.mono (w := w) (N := N) hW (fun b _ hlt off => World.cell?_of_block (w := w) (a := ⟨b, off, none⟩) (hb.block b hlt)) (fun b hN hlt => ⟨hlt, hN⟩) x g)⟩
  obtain ⟨aL, has⟩ : ∃ aL : List DV, aL = .t (.c (.v (.func (.yield l0) #[] #[]))) :: l.map fun x => DV.t (.c x) := ⟨_, rfl⟩
  obtain ⟨us, hus⟩ : ∃ us : List Value, us = .func (.yield l0) #[] #[] :: vs := ⟨_, rfl⟩
  rw [← has, ← hus] at hargs2
  rw [← has] at h
  have hvl2 := hargs2.length
  have hla : aL.length = l.length + 1 := by rw [has]; simp
  have hstart : Abs W (fun b => b < w.heap.size ∧ N b) noPins (fun _ => none) (start aL fn.ntmps) { tmps := us.toArray ++ Array.replicate (fn.ntmps - us.toArray.size) undef, defers := [] } W := by
    refine ⟨Below.refl _ _, by simp [start, hvl2], Marks.nil, fun i dv hi => ?_, fun k r hr => ?_, fun _ _ => rfl, (fun k l b h1 _ => by cases h1), (fun k k' r r' l l' b _ _ _ _ h1 _ _ _ => by cases h1), (fun _ _ h => h.elim), (fun _ h => h.elim), (fun _ _ h => by cases h)⟩
    · unfold DS.tm start at hi
      simp only at hi
      by_cases hlt : i < aL.length
      · rw [List.getElem?_append_left (by simpa using hlt), List.getElem?_map] at hi
        have e1 : aL[i]? = some dv := by
          cases e : aL[i]? with
          | none => rw [e] at hi; cases hi
          | some x => rw [e] at hi; simpa using hi
        obtain ⟨v, e2, e3⟩ := hargs2.get e1
        refine ⟨v, ?_, RelD.mono (fun x u g => RelC.ofF (RelF.mono (Nat.le_refl _) (fun _ _ _ _ => rfl) (fun b hb hl => ⟨fun _ => hb, fun k l h => by cases h⟩) x g)) e3⟩
        rw [Array.getElem?_append_left (by simp; omega)]
        simpa using e2
      · rw [List.getElem?_append_right (by simpa using hlt), List.getElem?_replicate] at hi
        split at hi
        · rename_i h2
          simp only [Option.join_some, Option.some.injEq] at hi
          subst hi
          simp only [List.length_map] at h2
          refine ⟨undef, ?_, [], rfl, trivial⟩
          rw [Array.getElem?_append_right (by simp; omega), Array.getElem?_replicate, if_pos (by simp; omega)]
        · cases hi
    · unfold DS.at start at hr
      simp only [List.getElem?_replicate] at hr
      split at hr <;> cases hr
  have hYA : YA (keepOf 1 l) w W N J0 Jx ov (start aL fn.ntmps) { tmps := us.toArray ++ Array.replicate (fn.ntmps - us.toArray.size) undef, defers := [] } W (some 0) := by
    refine ⟨rfl, fun i d hd => ?_, W, _, _, hstart, h0, Nat.le_refl _, fun _ _ _ => rfl⟩
    obtain ⟨x, h1, h2, rfl⟩ := keepOf_get hd
    obtain ⟨v, e1, e2⟩ := hargs.get h2
    have hlt : i - 1 < vs.length := (List.getElem?_eq_some_iff.1 e1).1
    show _ = some ((vs[i - 1]?).getD undef)
    rw [e1, Array.getElem?_append_left (by rw [hus]; simp; omega), hus]
    obtain ⟨j, rfl⟩ : ∃ j, i = j + 1 := ⟨i - 1, by omega⟩
    simpa using e1
  have hfin : ∀ (g : Option Nat) (st' : DS) (a' : Act) (w' : World), endY n g st' → YA (keepOf 1 l) w W N J0 Jx ov st' a' w' g → LeavesInM Fence.wide 0 P fn a'.tmps (fun e W' => (∃ v, e = .returned v) ∧ (J0 n W' ∨ Jx () W')) a'.defers .returning w' := by
    rintro g st' a' w' hg ⟨hd, _, w1, N1, M1, hA, hgg⟩
    rw [hd]
    have hr : (results fn a'.tmps).run P w' = .ok (.tuple #[]) w' := by
      have h1 : results fn a'.tmps = (do
        let vs ← fn.results.mapM (resS a'.tmps)
        pure (if h : vs.size = 1 then vs[0] else .tuple vs)) := rfl
      have h2 : fn.results = #[] := by
        apply Array.toList_inj.1
        simpa using hres
      rw [h1, h2]
      simp
    refine ⟨_, hr, ⟨_, rfl⟩, ?_⟩
    cases g with
    | none => exact Or.inr (hJx () w1 w' none hgg (below_grown hA.below) (fun r e => by cases e))
    | some i =>
      have : i = n := hg
      subst this
      exact Or.inl (hJ i w1 w' none hgg.1 (below_grown hA.below) (fun r e => by cases e))
  have hcalls : CallsIn Fence.wide 0 P f us.toArray W fun e W' => (∃ v, e = .returned v) ∧ (J0 n W' ∨ Jx () W') := by
    refine callsIn_of_wp_marks hf hbd trivial ?_
    refine evY_sound hT hS hC c hok hL rfl rfl rfl hYA (fun g st' a' w' hk ha' => ?_) (fun i g st' a' w' hk _ => hk.elim) (fun g st' a' w' hk ha' => ?_) h
    · exact hfin g st' a' w' hk ha'
    · exact hfin g st' a' w' hk ha'
  have e : us.toArray = #[.func (.yield l0) #[] #[]] ++ vs.toArray := by rw [hus]; simp
  rw [← e]
  exact hcalls

/-! ### contracts -/
def LeC (al bs : List CV) : Prop := ∀ w N vs, All2 (RelF w N) al vs → All2 (RelF w N) bs vs
theorem LeC.refl (al : List CV) : LeC al al := fun _ _ _ h => h
def okB1 : CV → Bool
  | .v x => x.oneCell'
  | _ => false
def okBs : List CV → Bool
  | [] => true
  | x :: l => okB1 x && okBs l
def okBT : TV → Bool
  | .c x => okB1 x
  | .a l => okBs l
  | .fn _ _ => false
def okBTs : List TV → Bool
  | [] => true
  | x :: l => okBT x && okBTs l
theorem okB1_rel {w : World} {N : Nat → Prop} {x : CV} (h : okB1 x = true) : RelF w N x (cvVal x) := by
  cases x with
  | v y => exact ⟨rfl, h⟩
  | _ => cases h
theorem okBs_rel {w : World} {N : Nat → Prop} : ∀ {l : List CV}, okBs l = true → All2 (RelF w N) l (l.map cvVal)
  | [], _ => trivial
  | x :: l, h => by
    simp only [okBs, Bool.and_eq_true] at h
    exact ⟨okB1_rel h.1, okBs_rel h.2⟩
theorem okBT_rel {w : World} {N : Nat → Prop} {x : TV} (h : okBT x = true) : RelT (RelF w N) x (tvVal x) := by
  cases x with
  | c y => exact okB1_rel h
  | a l => exact ⟨_, rfl, okBs_rel h⟩
  | fn f l => cases h
theorem okBTs_rel {w : World} {N : Nat → Prop} : ∀ {l : List TV}, okBTs l = true → All2 (RelT (RelF w N)) l (l.map tvVal)
  | [], _ => trivial
  | x :: l, h => by
    simp only [okBTs, Bool.and_eq_true] at h
    exact ⟨okBT_rel h.1, okBTs_rel h.2⟩
@[reducible] def ItC := List CV → Option ItR
def OkIt (P : Program) (f : FuncId) (F : ItC) : Prop := ∀ l R, F l = some R → okP R.pre → Enters P f ∧ (∀ i, i < R.n → (R.y i).length = R.m ∧ okBTs (R.y i) = true) ∧
  ∀ (w : World) (N : Nat → Prop) (vs : List Value), All2 (RelF w N) l vs → SeqIt P f vs.toArray R.n (fun i => ((R.y i).map tvVal).toArray) (fun A B => A.heap.size ≤ B.heap.size ∧ ∀ b, b < w.heap.size → N b → B.heap[b]? = A.heap[b]?) w
def addI (it : It) (f : FuncId) (F : ItC) : It := fun g l => bif Nat.beq g f then F l else it g l
theorem ValidIt.add {P : Program} {it : It} {f : FuncId} {F : ItC} (h : ValidIt P it) (hF : OkIt P f F) : ValidIt P (addI it f F) := by
  intro g l R h1 h2
  unfold addI at h1
  cases e : Nat.beq g f with
  | true =>
    rw [e] at h1
    rw [Nat.eq_of_beq_eq_true e]
    obtain ⟨g1, g2, g3⟩ := hF l R h1 h2
    exact ⟨g1, fun i hi => ⟨(g2 i hi).1, fun w N => okBTs_rel (g2 i hi).2⟩, g3⟩
  | false => rw [e] at h1; exact h g l R h1 h2
/-- the contract of an iterator that has been checked. -/
theorem OkIt.it {P : Program} {T : Tab} {S : Sum} (hT : TabOK P T) (hS : Valid P S) {ann : Ann} {f : FuncId} {fn : Func} (hf : P.funcs[f]? = some fn) (hn : (fn.name == "runtime.NumGoroutine") = false) {F : ItC}
    (h : ∀ l R, F l = some R → okP R.pre → ∃ al, LeC l al ∧ okIt ann (keepOf 1 al) fn = true ∧ al.length + 1 ≤ fn.ntmps ∧ (∀ i, (R.y i).length = R.m ∧ okBTs (R.y i) = true) ∧ ∀ l0, ∃ J : Inv, evIt P T S ann J l0 R.n R.y (keepOf 1 al) fn (al.map fun x => .t (.c x)) ∧ AllY J (loopsIt P T S ann J l0 R.n R.y (keepOf 1 al) fn)) : OkIt P f F := by
  intro l R h1 h2
  obtain ⟨al, g1, g2, g3, g4, g5⟩ := h l R h1 h2
  have hb : fn.body.isNone = false := by
    unfold okIt at g2
    simp only [Bool.and_eq_true] at g2
    cases e : fn.body with
    | none => rw [e] at g2; cases g2.2
    | some c => rfl
  exact ⟨Enters.of hf hn hb, fun i _ => g4 i, fun w N vs hv => it_sound hT hS hf g2 g3 g5 w N vs (g1 w N vs hv)⟩
/-- cells of numbers. -/
def numsB : Nat → (Nat → CV) → Bool
  | 0, _ => true
  | n + 1, c => (match c n with
    | .v (.int .i64 _) => true
    | _ => false) && numsB n c
theorem numsB_get : ∀ {n : Nat} {c : Nat → CV}, numsB n c = true → ∀ j, j < n → c j = .v (.int .i64 (cvInt (c j)))
  | 0, _, _, j, hj => absurd hj (Nat.not_lt_zero _)
  | n + 1, c, h, j, hj => by
    simp only [numsB, Bool.and_eq_true] at h
    by_cases e : j = n
    · subst e
      have h1 := h.1
      split at h1
      · rename_i x hx
        rw [hx]; rfl
      · cases h1
    · exact numsB_get h.2 j (by omega)
theorem RelF.px_eq {w : World} {N : Nat → Prop} {n off : Nat} {c c' : Nat → CV} {v : Value} (hc : ∀ j, j < n → c j = c' j) (h : RelF w N (.px n off c) v) : RelF w N (.px n off c') v := by
  obtain ⟨b, o, g1, g2, g3, g4⟩ := h
  refine ⟨b, o, g1, g2, g3, fun j hj => ?_⟩
  obtain ⟨x, e1, e2⟩ := g4 j hj
  exact ⟨x, e1, by rw [← hc j hj]; exact e2⟩
@[reducible] def pxL (n : Nat) (c : Nat → CV) : List CV := (List.range n).map fun j => .v (.int .i64 (cvInt (c j)))
theorem leC_px {n : Nat} {c : Nat → CV} (hq : numsB n c = true) (w : World) (N : Nat → Prop) (v : Value) (h : RelF w N (.px n 0 c) v) : RelF w N (.px n 0 (boxC (pxL n c))) v := by
  refine RelF.px_eq (fun j hj => ?_) h
  rw [numsB_get hq j hj]
  simp [boxC, pxL, hj, cvInt]
theorem leC_cons {a b : CV} {al bs : List CV} (h : ∀ w N v, RelF w N a v → RelF w N b v) (h2 : LeC al bs) : LeC (a :: al) (b :: bs) := by
  intro w N vs g
  match vs, g with
  | v :: vs, g => exact ⟨h w N v g.1, h2 w N vs g.2⟩
  | [], g => exact g.elim
end Go.Proofs.Ytlmdmpjfehpjeaa.Ev
