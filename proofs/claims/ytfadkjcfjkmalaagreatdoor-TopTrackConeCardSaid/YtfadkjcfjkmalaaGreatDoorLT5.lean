/- Texts of this claim, together. -/
import Derived.Test.YtfadkjcfjkmalaaGreatDoorLT4
import Derived.LoopNIn
import Derived.Test.YtfadkjcfjkmalaaGreatDoorLT1

set_option maxRecDepth 100000
set_option linter.unusedVariables false
set_option linter.unusedSimpArgs false
namespace Go.Proofs.YtfadkjcfjkmalaaGreatDoor.Ev
open Go.RowKit
variable {w0 : World} {N0 : Nat → Prop} {Z : Pins} {P : Program} {T : Tab} {S : Sum} {M : Map} {a : Act} {w : World}
def loopE (body : (DS → Prop) → DS → Prop) (td : DS → Option DS) : Nat → DS → Prop
 | 0, _ => False
 | n + 1, st => match td st with
  | some s => q8V s (body (loopE body td n))
  | none => False
def tdOf (bx : List Bx) : Option Hd → DS → Option DS
 | none, st => some st
 | some hd, st => tidyB hd bx st
theorem tdOf_ok {bx : List Bx} {o : Option Hd} {st st' : DS} (ha : Abs w0 N0 Z M st a w) (ho : ∀ hd, o = some hd → ∀ k l, Z.key k = some l → k ∈ hd.keepH) (h : tdOf bx o st = some st') : ∃ M', Abs w0 N0 Z M' st' a w := by
 cases o with
 | none => cases h; exact ⟨M, ha⟩
 | some hd => exact ha.tidyB (ho hd rfl) h
structure MuR where
 pos : Nat
 ty : TypeId
 more : Bool
 nx : Value
structure ItR where
 n : Nat
 m : Nat
 y : Nat → List TV
 pre : Option Prop
 bd : Bool := false
 ty : Option TypeId := none
 mu : Option MuR := none
@[reducible] def It := FuncId → List CV → Option ItR
def noIt : It := fun _ _ => none
structure Ann where
 reg : Nat → Option (Clo × List (List Nat))
 lp : Nat → Option (Option Nat × Option Hd)
 bx : Nat → List Bx
 it : It
 fr : Bool
 cut : Nat → Option (Nat × List Tmp) := fun _ => none
 jn : Nat → Option (List Tmp) := fun _ => none
def qdY : CV → Value
 | .v x => x
 | _ => undef
def q1F : TV → Value
 | .c x => qdY x
 | .a l => .agg (l.map qdY).toArray
 | .fn _ _ => undef
 | .fb _ _ => undef
def fbA (b : Bool) (vs : List Value) : Array Value := bif b then #[.agg vs.toArray] else #[]
def lbA (b : Bool) (vs : List Value) : Array Value := bif b then #[] else vs.toArray
def MuOk (P : Program) (F : List CV → Option ItR) (gf : FuncId) (c l : List CV) (m : Nat) (ty : TypeId) (x : Value) : Prop :=
 ∃ (n : Nat) (D : Nat → Value) (Y : Nat → List TV), 0 < n ∧ D 0 = x ∧ (∀ i, i < n → ∃ R U, F (c ++ .px 1 0 (fun _ => .v (D i)) :: l) = some R ∧ R.mu = some U ∧ R.m = m ∧ R.bd = false ∧ (U.ty = ty ∧ U.pos = c.length) ∧ R.y 0 = Y i ∧ (Y i).length = m ∧ (∀ w N, All2 (RelT (RelF w N)) (Y i) ((Y i).map q1F)) ∧ (U.more = true → i + 1 < n ∧ U.nx = D (i + 1) ∧ (D (i + 1)).oneCell' = true) ∧ (U.more = false → i + 1 = n)) ∧
  ∀ (w : World) (N : Nat → Prop) (us vs : List Value) (B : Nat), w.heap[B]? = some (.cells #[x] ty (0, 0)) → ¬ N B → All2 (RelF w N) c us → All2 (RelF w N) l vs → SeqItM P gf #[] (us ++ .pointer (some ⟨B, 0, none⟩) :: vs).toArray B ty D n (fun i => ((Y i).map q1F).toArray) N w
def ItOk (P : Program) (F : List CV → Option ItR) (gf : FuncId) (l : List CV) (R : ItR) : Prop := match R.mu with
 | none => (∀ i, i < R.n → (R.y i).length = R.m ∧ ∀ w N, All2 (RelT (RelF w N)) (R.y i) ((R.y i).map q1F)) ∧
  ∀ (w : World) (N : Nat → Prop) (vs : List Value), All2 (RelF w N) l vs → SeqIt P gf (fbA R.bd vs) (lbA R.bd vs) R.n (fun i => ((R.y i).map q1F).toArray) (KpI w N R.ty) w
 | some U => ∀ x c l', c.length = U.pos → l = c ++ .px 1 0 (fun _ => .v x) :: l' → MuOk P F gf c l' R.m U.ty x
def ValidIt (P : Program) (it : It) : Prop := ∀ gf l R, it gf l = some R → okP R.pre → Enters P gf ∧ ItOk P (it gf) gf l R
theorem ValidIt.no {P : Program} : ValidIt P noIt := fun _ _ _ h => by cases h
def rfC (ann : Ann) (bd : Bool) (f : FuncId) (l : List CV) (m : Nat) : Option ItR := bif okCs [] l then (match ann.it f l with
  | some R => bif R.mu.isNone && (Nat.beq R.m m && (bif bd then R.bd else !R.bd)) then some R else none
  | none => none) else none
def rfE (ann : Ann) (st : DS) (g : Operand) (m : Nat) : Option ItR := match opv st g with
 | some (.t (.fn f l)) => rfC ann false f l m
 | some (.t (.fb f l)) => rfC ann true f l m
 | _ => none
theorem rfC_ok {ann : Ann} {bd : Bool} {f : FuncId} {l : List CV} {m : Nat} {R : ItR} (h : rfC ann bd f l m = some R) : okCs [] l = true ∧ ann.it f l = some R ∧ R.m = m ∧ R.bd = bd ∧ R.mu = none := by
 unfold rfC at h
 cases hcs : okCs [] l with
 | false => rw [hcs] at h; cases h
 | true =>
  rw [hcs] at h
  simp only [_root_.cond_true] at h
  split at h
  case h_2 => cases h
  rename_i R' hit
  cases hb : (R'.mu.isNone && (Nat.beq R'.m m && (bif bd then R'.bd else !R'.bd))) with
  | false => rw [hb] at h; cases h
  | true =>
   rw [hb] at h
   cases h
   rw [Bool.and_eq_true, Bool.and_eq_true] at hb
   refine ⟨rfl, hit, Nat.eq_of_beq_eq_true hb.2.1, ?_, Option.isNone_iff_eq_none.1 hb.1⟩
   have h2 := hb.2.2
   revert h2
   cases bd <;> cases R.bd <;> simp
theorem rfE_ok {w0 : World} {N0 : Nat → Prop} {Z : Pins} {M : Map} {st : DS} {a : Act} {w : World} (ha : Abs w0 N0 Z M st a w) {ann : Ann} {g : Operand} {m : Nat} {R : ItR} (h : rfE ann st g m = some R) : ∃ gf l vs, okCs [] l = true ∧ ann.it gf l = some R ∧ R.m = m ∧ R.mu = none ∧ a.eval g = .func (.func gf) (fbA R.bd vs) (lbA R.bd vs) ∧ All2 (RelC w (fgn w0 N0 M) M) l vs := by
 unfold rfE at h
 split at h
 ·rename_i f l hop
  obtain ⟨h1, h2, h3, h4, h7⟩ := rfC_ok h
  obtain ⟨vs, h5, h6⟩ := qw ha hop
  exact ⟨f, l, vs, h1, h2, h3, h7, by rw [h4]; exact h5, h6⟩
 ·rename_i f l hop
  obtain ⟨h1, h2, h3, h4, h7⟩ := rfC_ok h
  obtain ⟨vs, h5, h6⟩ := qw ha hop
  exact ⟨f, l, vs, h1, h2, h3, h7, by rw [h4]; exact h5, h6⟩
 ·cases h
theorem qjG {α β : Type} {R : α → β → Prop} : ∀ {a : List α} {x : α} {c : List α} {m : List β}, All2 R (a ++ x :: c) m → ∃ us v vs, m = us ++ v :: vs ∧ All2 R a us ∧ R x v ∧ All2 R c vs
 | [], x, c, m, h => by
  match m, h with
  | v :: vs, h => exact ⟨[], v, vs, rfl, trivial, h.1, h.2⟩
  | [], h => exact h.elim
 | y :: a, x, c, m, h => by
  match m, h with
  | u :: m, h =>
   obtain ⟨us, v, vs, rfl, h1, h2, h3⟩ := qjG (a := a) h.2
   exact ⟨u :: us, v, vs, rfl, ⟨h.1, h1⟩, h2, h3⟩
  | [], h => exact h.elim
def q7u : List CV → Option (List CV × Nat × List CV)
 | .p k 0 :: l => some ([], k, l)
 | x :: l => (q7u l).map fun q => (x :: q.1, q.2.1, q.2.2)
 | [] => none
theorem qin : ∀ {l a c : List CV} {k : Nat}, q7u l = some (a, k, c) → l = a ++ .p k 0 :: c := by
 intro l
 induction l with
 | nil => intro a c k h; simp [q7u] at h
 | cons x l ih =>
  intro a c k h
  unfold q7u at h
  split at h
  ·rename_i heq
   simp only [List.cons.injEq] at heq
   obtain ⟨rfl, rfl⟩ := heq
   cases h
   rfl
  ·rename_i heq
   simp only [List.cons.injEq] at heq
   obtain ⟨rfl, rfl⟩ := heq
   simp only [Option.map_eq_some_iff] at h
   obtain ⟨⟨a', k', c'⟩, h1, h2⟩ := h
   cases h2
   rw [ih h1]; rfl
  ·rename_i heq; cases heq
theorem okCs_p {k : Nat} {c : List CV} : ∀ {a : List CV}, okCs [] (a ++ .p k 0 :: c) = false
 | [] => by simp [okCs, okC, refC, memN]
 | x :: a => by simp only [List.cons_append, okCs, okCs_p (a := a), Bool.and_false]
def rfM (ann : Ann) (st : DS) (g : Operand) (m : Nat) : Option (Nat × ItR × MuR) := match opv st g with
 | some (.t (.fn f l)) => (match q7u l with
  | some (a, k, c) => bif okCs [] a && okCs [] c then (match st.at k with
   | some (.box ty [.v x]) => (match ann.it f (a ++ .px 1 0 (fun _ => .v x) :: c) with
    | some R => (match R.mu with
     | some U => bif Nat.beq R.m m && (Nat.beq U.ty ty && (Nat.beq U.pos a.length && !R.bd)) then some (k, R, U) else none
     | none => none)
    | none => none)
   | _ => none) else none
  | none => none)
 | _ => none
theorem rfM_ok {ann : Ann} {st : DS} {g : Operand} {m k : Nat} {R : ItR} {U : MuR} (h : rfM ann st g m = some (k, R, U)) : ∃ f l a c x, opv st g = some (.t (.fn f l)) ∧ q7u l = some (a, k, c) ∧ okCs [] a = true ∧ okCs [] c = true ∧ st.at k = some (.box U.ty [.v x]) ∧ ann.it f (a ++ .px 1 0 (fun _ => .v x) :: c) = some R ∧ R.mu = some U ∧ R.m = m ∧ R.bd = false ∧ U.pos = a.length := by
 unfold rfM at h
 split at h
 rotate_left
 ·cases h
 rename_i f l hop
 split at h
 rotate_left
 ·cases h
 rename_i a k' c hsp
 cases hcs : (okCs [] a && okCs [] c) with
 | false => rw [hcs] at h; cases h
 | true =>
 rw [hcs] at h
 rw [Bool.and_eq_true] at hcs
 simp only [_root_.cond_true] at h
 split at h
 rotate_left
 ·cases h
 rename_i ty x hat
 split at h
 rotate_left
 ·cases h
 rename_i R' hit
 split at h
 rotate_left
 ·cases h
 rename_i U' hmu
 cases hb : (Nat.beq R'.m m && (Nat.beq U'.ty ty && (Nat.beq U'.pos a.length && !R'.bd))) with
 | false => rw [hb] at h; cases h
 | true =>
 rw [hb] at h
 cases h
 rw [Bool.and_eq_true, Bool.and_eq_true, Bool.and_eq_true] at hb
 obtain rfl := Nat.eq_of_beq_eq_true hb.2.1
 exact ⟨f, l, a, c, x, hop, hsp, hcs.1, hcs.2, hat, hit, hmu, Nat.eq_of_beq_eq_true hb.1, by simpa using hb.2.2.2, Nat.eq_of_beq_eq_true hb.2.2.1⟩
theorem rfM_mk {ann : Ann} {st : DS} {g : Operand} {m k : Nat} {R : ItR} {U : MuR} {f : FuncId} {l a c : List CV} {x : Value} (h1 : opv st g = some (.t (.fn f l))) (h0 : q7u l = some (a, k, c)) (h2 : okCs [] a = true) (h8 : okCs [] c = true) (h3 : st.at k = some (.box U.ty [.v x])) (h4 : ann.it f (a ++ .px 1 0 (fun _ => .v x) :: c) = some R) (h5 : R.mu = some U) (h6 : R.m = m) (h7 : R.bd = false) (h9 : U.pos = a.length) : rfM ann st g m = some (k, R, U) := by
 unfold rfM
 rw [h1]
 simp only [h0, h2, h3, h4, h5, h6, h7, h8, h9, _root_.cond_true, Nat.beq_refl, Bool.not_false, Bool.and_self]
theorem rfE_no {ann : Ann} {st : DS} {g : Operand} {m k : Nat} {f : FuncId} {l a c : List CV} (h1 : opv st g = some (.t (.fn f l))) (h0 : q7u l = some (a, k, c)) : rfE ann st g m = none := by
 unfold rfE
 rw [h1, qin h0]
 simp only [rfC, okCs_p, _root_.cond_false]
theorem qbl {ty : TypeId} {c : List CV} : ∀ {l : List (Option Row)} {k : Nat}, qZ l = true → qZ (l.set k (some (.box ty c))) = true
 | [], _, _ => rfl
 | x :: l, 0, h => by
  have : qZ l = true := by
   cases x with
   | none => exact h
   | some y => cases y <;> first | exact h | (simp [qZ] at h; done)
  exact this
 | x :: l, k + 1, h => by
  cases x with
  | none => exact qbl (l := l) h
  | some y => cases y <;> first | exact qbl (l := l) h | (simp [qZ] at h; done)
def DS.row (s : DS) (k : Nat) (r : Row) : DS := { s with h := s.h.set k (some r) }
def endB (hd : Hd) (bx : List Bx) (t : List (Option DV)) (s2 : DS) (k : DS → Prop) : Prop := match tidyB hd bx ⟨t, s2.h⟩ with
 | some s3 => bif qZ s3.h then k s3 else False
 | none => False
@[reducible] def Inv := Nat → List Nat → DS → Prop
def q6Z (ann : Ann) (id : Nat) (ops : List Oper) (draw : Bool) : Option (List Item) := bif draw then (match ann.reg id with
  | some (_, fs) => some (items 0 ops (fs.map fb))
  | none => none) else some (ops.map fun o => (0, o, q6m))
def q7a : Code → Option Nat
 | .region id _ _ => some id
 | .seq x y => match q7a x with
  | some i => some i
  | none => q7a y
 | .cond _ x y => match q7a x with
  | some i => some i
  | none => q7a y
 | _ => none
def joinOf (ann : Ann) (x y : Code) : Option (List Tmp) := match q7a x with
 | some i => ann.jn i
 | none => match q7a y with
  | some i => ann.jn i
  | none => none
def q0h (ann : Ann) : Code → Bool
 | .skip => true
 | .region id ops draw => (ann.cut id).isNone && (match q6Z ann id ops.toList draw with
  | some l => qdX l
  | none => false)
 | .seq x y => q0h ann x && q0h ann y
 | .cond _ x y => (joinOf ann x y).isNone && (q0h ann x && q0h ann y)
 | _ => false
def q8b (ann : Ann) : Code → List Tmp
 | .region id ops draw => match q6Z ann id ops.toList draw with
  | some l => q6n l
  | none => []
 | .seq x y => q8b ann x ++ q8b ann y
 | .cond _ x y => q8b ann x ++ q8b ann y
 | _ => []
def valC (P : Program) (T : Tab) (S : Sum) (ann : Ann) : Code → DS → (DS → Option (List DV)) → Option (List DV)
 | .skip, st, k => k st
 | .region id ops draw, st, k => match q6Z ann id ops.toList draw with
  | some l => valI P T S ops.toList [] l st k
  | none => none
 | .seq x y, st, k => valC P T S ann x st fun s => valC P T S ann y s k
 | .cond c x y, st, k => match opv st c with
  | some (.t (.c (.v (.bool t)))) => mixO t (valC P T S ann x st k) (valC P T S ann y st k)
  | _ => none
 | _, _, _ => none
def ev (P : Program) (T : Tab) (S : Sum) (ann : Ann) (J : Inv) : Code → Nat → List Nat → (DS → Prop) → (Nat → DS → Prop) → (DS → Prop) → DS → Prop
 | .skip, _, _, kn, _, _, st => kn st
 | .region id ops draw, _, _, kn, _, _, st => match ann.cut id with
  | none => bif draw then (match ann.reg id with
   | some (_, fs) => q0d P T S ops.toList (items 0 ops.toList (fs.map fb)) st fun s => q8V s kn
   | none => False) else qc2 P T S ops.toList ops.toList st fun s => q8V s kn
  | some (p, ts) => match q6Z ann id ops.toList draw with
   | some l => evCut P T S ops.toList l p ts st fun s => q8V s kn
   | none => False
 | .seq x y, b, F, kn, ke, kr, st => ev P T S ann J x b F (fun s => ev P T S ann J y b F kn ke kr s) ke kr st
 | .cond c x y, b, F, kn, ke, kr, st => match opv st c with
  | some (.t (.c (.v (.bool t)))) => (match joinOf ann x y with
   | none => cond t (ev P T S ann J x b F kn ke kr st) (ev P T S ann J y b F kn ke kr st)
   | some ts => bif q0h ann x && q0h ann y then cond t (ev P T S ann J x b F (fun _ => True) (fun _ _ => False) (fun _ => False) st) (ev P T S ann J y b F (fun _ => True) (fun _ _ => False) (fun _ => False) st) ∧
     joinK (q8b ann x ++ q8b ann y) ts st (mixO t (valC P T S ann x st fun s => outs s ts) (valC P T S ann y st fun s => outs s ts)) (fun s => q8V s kn) else False)
  | _ => False
 | .block id x, _, F, kn, ke, kr, st => ev P T S ann J x id F kn (fun j s => bif Nat.beq j id then kn s else ke j s) kr st
 | .loop x, b, F, kn, ke, kr, st => match ann.lp b with
  | some (some n, o) => loopE (fun k s => ev P T S ann J x b F k ke kr s) (tdOf (ann.bx b) o) n st
  | some (none, some hd) => match tidyB hd (ann.bx b) st with
   | some s => ∃ n, J b (n :: F) s
   | none => False
  | _ => False
 | .rangeFunc g ps assign body, b, F, kn, ke, kr, st => match ann.lp b, F with
  | some (none, some hd), [] => match tidyB hd (ann.bx b) st with
   | some s => match rfE ann s g ps.size with
    | some R => bif qZ s.h then (match R.pre with
     | none => J b [0] s
     | some p => p ∧ J b [0] s) else False
    | none => (match rfM ann s g ps.size with
     | some (k, R, _) => bif qZ s.h && memN k hd.keepH then (match R.pre with
      | none => J b [0] s
      | some p => p ∧ J b [0] s) else False
     | none => False)
   | none => False
  | _, _ => False
 | .exit id, _, _, _, ke, _, st => ke id st
 | .ret, _, _, _, _, kr, st => kr st
 | _, _, _, _, _, _, _ => False
def again (J : Inv) (b : Nat) (hd : Hd) (bx : List Bx) (F : List Nat) (s : DS) : Prop := match tidyB hd bx s with
 | some s => J b F s
 | none => False
inductive Ent where
 | lp (b : Nat) (G : List Nat → DS → Prop)
 | rf (b : Nat) (G : Nat → DS → Prop)
def rfG (P : Program) (T : Tab) (S : Sum) (ann : Ann) (J : Inv) (g : Operand) (ps : Array Tmp) (assign body : Code) (b : Nat) (hd : Hd) (kn : DS → Prop) (ke : Nat → DS → Prop) (kr : DS → Prop) (i : Nat) (s : DS) : Prop := match rfE ann s g ps.size with
 | some R => (i = R.n → kn s) ∧ (i < R.n → bif noTy R.ty s.h then ev P T S ann J assign b [] (fun s1 => bif qZ s1.h then ev P T S ann J body b []
   (fun s2 => endB hd (ann.bx b) s.t s2 fun s3 => opv s3 g = opv s g ∧ J b [i + 1] s3) (fun j s2 => endB hd (ann.bx b) s.t s2 fun s3 => ke j s3) (fun s2 => endB hd (ann.bx b) s.t s2 fun s3 => kr s3) s1 else False) (fun _ _ => False) (fun _ => False) (putL ps.toList (R.y i) s) else False)
 | none => match rfM ann s g ps.size with
  | some (k, R, U) => ev P T S ann J assign b [] (fun s1 => bif qZ s1.h then ev P T S ann J body b []
   (fun s2 => endB hd (ann.bx b) s.t s2 fun s3 => opv s3 g = opv s g ∧ s3.at k = s.at k ∧ cond U.more (J b [i + 1] (s3.row k (.box U.ty [.v U.nx]))) (kn s3)) (fun j s2 => endB hd (ann.bx b) s.t s2 fun s3 => ke j s3) (fun s2 => endB hd (ann.bx b) s.t s2 fun s3 => kr s3) s1 else False) (fun _ _ => False) (fun _ => False) (putL ps.toList (R.y 0) s)
  | none => False
def loops (P : Program) (T : Tab) (S : Sum) (ann : Ann) (J : Inv) : Code → Nat → (List Nat → DS → Prop) → (List Nat → Nat → DS → Prop) → (List Nat → DS → Prop) → List Ent
 | .seq x y, b, kn, ke, kr => loops P T S ann J x b (fun F s => ev P T S ann J y b F (kn F) (ke F) (kr F) s) ke kr ++ loops P T S ann J y b kn ke kr
 | .cond _ x y, b, kn, ke, kr => loops P T S ann J x b kn ke kr ++ loops P T S ann J y b kn ke kr
 | .block id x, _, kn, ke, kr => loops P T S ann J x id kn (fun F j s => bif Nat.beq j id then kn F s else ke F j s) kr
 | .loop x, b, kn, ke, kr => match ann.lp b with
  | some (none, some hd) => .lp b (fun F s => ev P T S ann J x b F (again J b hd (ann.bx b) F) (ke F.tail) (kr F.tail) s) :: loops P T S ann J x b (fun F s => again J b hd (ann.bx b) F s) (fun F => ke F.tail) (fun F => kr F.tail)
  | _ => []
 | .rangeFunc g ps assign body, b, kn, ke, kr => match ann.lp b with
  | some (none, some hd) => [.rf b (rfG P T S ann J g ps assign body b hd (kn []) (ke []) (kr []))]
  | _ => []
 | _, _, _, _, _ => []
def pinOk : Option (List Nat) → Option Hd → Bool
 | none, _ => true
 | some _, none => true
 | some (k :: l), some hd => (k :: l).all fun k => memN k hd.keepH
 | some [], some _ => false
theorem pinOk_ok {q : Option (List Nat)} {o : Option Hd} (h : pinOk q o = true) (h1 : q = none → Z = q0w) (h2 : ∀ ks, q = some ks → ks ≠ [] → ∀ j lo, Z.key j = some lo → j ∈ ks) : ∀ hd, o = some hd → ∀ k l, Z.key k = some l → k ∈ hd.keepH := by
 rintro hd rfl k l hk
 match q, h, h1, h2 with
 | none, _, h1, _ => rw [h1 rfl] at hk; cases hk
 | some (j :: ks), h, _, h2 =>
  unfold pinOk at h
  exact q1d (List.all_eq_true.1 h k (h2 _ rfl (by simp) k l hk))
 | some [], h, _, _ => cases h
def q0V (ann : Ann) : Bool → Option (List Nat) → Code → Nat → Bool
 | u, q, .seq x y, b => q0V ann u q x b && q0V ann u q y b
 | u, q, .cond _ x y, b => q0V ann u q x b && q0V ann u q y b
 | u, q, .block id x, _ => q0V ann u q x id
 | u, q, .loop x, b => match ann.lp b with
  | some (some _, o) => pinOk q o && q0V ann true q x b
  | some (none, some _) => !u && (q.isNone && q0V ann false none x b)
  | _ => false
 | u, q, .rangeFunc _ _ x y, b => match ann.lp b with
  | some (none, some _) => !u && (q.isNone && (q0V ann true (some []) x b && q0V ann true (some []) y b))
  | _ => false
 | _, _, _, _ => true
def AllG (J : Inv) : List Ent → Prop
 | [] => True
 | .rf b G :: l => (∀ i s, J b [i] s → G i s) ∧ AllG J l
 | .lp b G :: l => ((∀ F s, ¬ J b (0 :: F) s) ∧ ∀ n F s, J b ((n + 1) :: F) s → G (n :: F) s) ∧ AllG J l
theorem q3v {J : Inv} : ∀ {l m : List Ent}, AllG J (l ++ m) ↔ AllG J l ∧ AllG J m
 | [], m => by simp [AllG]
 | .lp b G :: l, m => by simp only [List.cons_append, AllG, q3v, and_assoc]
 | .rf b G :: l, m => by simp only [List.cons_append, AllG, q3v, and_assoc]
def q0I (ann : Ann) : Code → Bool
 | .region id ops true => match ann.reg id with
  | some (clo, fs) => qb4 ops.toList clo (fs.map fb)
  | none => false
 | .seq x y => q0I ann x && q0I ann y
 | .cond _ x y => q0I ann x && q0I ann y
 | .block _ x => q0I ann x
 | .loop x => q0I ann x
 | .rangeFunc _ _ x y => q0I ann x && q0I ann y
 | _ => true
theorem Abs.mark {st : DS} {D : Nat} (ha : Abs w0 N0 Z M st a w) (h1 : w0.heap.size ≤ D) (h2 : w.heap[D]? = some (.deferred (some []))) (h3 : nown M D) (h4 : ∀ d ∈ a.defers, d ≠ { target := .collected D, args := #[] }) (h5 : Z.lim ≤ D := by exact Nat.zero_le _) : Abs w0 N0 Z M st { a with defers := { target := .collected D, args := #[] } :: a.defers } w :=
 ⟨ha.below, ha.fits, ⟨fun d hd => by
  rcases List.mem_cons.1 hd with rfl | hd
  ·exact ⟨D, rfl, h1, h2, h3⟩
  ·exact ha.defs.1 d hd, List.pairwise_cons.2 ⟨fun d hd e => h4 d hd e.symm, ha.defs.2.1⟩, ha.defs.2.2⟩, ha.tmp, ha.row, ha.dom, ha.own, ha.apart, ha.pinB, ha.pinN, ha.pinK, fun d hd D' e => by
  rcases List.mem_cons.1 hd with rfl | hd
  ·cases e; exact h5
  ·exact ha.lim d hd D' e⟩
theorem q5K {N : Nat → Prop} (hN : ∀ b, fgn w0 N0 M b → N b) : ∀ {l : List CV} {vs : List Value}, okCs [] l = true → All2 (RelC w (fgn w0 N0 M) M) l vs → All2 (RelF w N) l vs
 | [], [], _, _ => trivial
 | x :: l, v :: vs, h, g => by
  simp only [okCs, Bool.and_eq_true] at h
  refine ⟨?_, q5K hN h.2 g.2⟩
  have h1 := h.1
  have g1 := g.1
  cases x with
  | v x => exact RelF.all (x := .v x) g1 hN
  | sl sz n c => exact RelF.all (x := .sl sz n c) g1 hN
  | px n off c => exact RelF.all (x := .px n off c) g1 hN
  | er b => exact RelF.all (w := w) (x := .er b) g1 hN
  | any => exact RelF.all (w := w) (x := .any) g1 hN
  | os k => simp [okC, refC, memN] at h1
  | p k off => simp [okC, refC, memN] at h1
  | pe k i sz off => simp [okC, refC, memN] at h1
  | ob k off sz n => simp [okC, refC, memN] at h1
 | [], _ :: _, _, g => g.elim
 | _ :: _, [], _, g => g.elim
theorem q2x {ann : Ann} : ∀ {c : Code} {u : Bool} {q : Option (List Nat)} {b : Nat}, q0h ann c = true → q0V ann u q c b = true
 | .skip, _, _, _, _ => rfl
 | .region .., _, _, _, _ => rfl
 | .seq x y, _, _, _, h => by
  simp only [q0h, Bool.and_eq_true] at h
  simp only [q0V, Bool.and_eq_true]
  exact ⟨q2x h.1, q2x h.2⟩
 | .cond _ x y, _, _, _, h => by
  simp only [q0h, Bool.and_eq_true] at h
  simp only [q0V, Bool.and_eq_true]
  exact ⟨q2x h.2.1, q2x h.2.2⟩
 | .block .., _, _, _, h | .loop .., _, _, _, h | .rangeFunc .., _, _, _, h | .exit .., _, _, _, h | .ret, _, _, _, h | .scope .., _, _, _, h | .label .., _, _, _, h | .goto .., _, _, _, h | .refuse .., _, _, _, h => by simp [q0h] at h
theorem qjH {P : Program} {T : Tab} {S : Sum} {ann : Ann} {J : Inv} {id : Nat} {ops : Array Oper} {draw : Bool} {l : List Item} (hc : ann.cut id = none) (hl : q6Z ann id ops.toList draw = some l) {b : Nat} {F : List Nat} {kn : DS → Prop} {ke : Nat → DS → Prop} {kr : DS → Prop} {st : DS} :
  ev P T S ann J (.region id ops draw) b F kn ke kr st ↔ q0d P T S ops.toList l st kn := by
 simp only [ev, hc, q3P]
 unfold q6Z at hl
 cases draw with
 | false => simp only [cond_false, Option.some.injEq] at hl ⊢; subst hl; exact (q9K _).symm
 | true =>
  simp only [cond_true] at hl ⊢
  split at hl
  ·rename_i clo fs hr
   cases hl
   exact Iff.rfl
  ·cases hl
theorem q4p {P : Program} {T : Tab} {S : Sum} {ann : Ann} {J : Inv} {b : Nat} {F : List Nat} {ke : Nat → DS → Prop} {kr : DS → Prop} : ∀ {c : Code} {kn kn' : DS → Prop} {st : DS}, q0h ann c = true → (∀ s, kn s → kn' s) → ev P T S ann J c b F kn ke kr st → ev P T S ann J c b F kn' ke kr st
 | .skip, kn, kn', st, _, h, g => h _ g
 | .region id ops draw, kn, kn', st, hs, h, g => by
  simp only [q0h, Bool.and_eq_true, Option.isNone_iff_eq_none] at hs
  obtain ⟨h1, h2⟩ := hs
  split at h2
  ·rename_i l hl
   rw [qjH h1 hl] at g ⊢
   exact q3Q h l g
  ·cases h2
 | .seq x y, kn, kn', st, hs, h, g => by
  simp only [q0h, Bool.and_eq_true] at hs
  exact q4p (c := x) hs.1 (fun s hs2 => q4p (c := y) hs.2 h hs2) g
 | .cond c x y, kn, kn', st, hs, h, g => by
  simp only [q0h, Bool.and_eq_true, Option.isNone_iff_eq_none] at hs
  simp only [ev, hs.1, q3P] at g ⊢
  split at g
  ·rename_i t ht
   cases t with
   | true => exact q4p (c := x) hs.2.1 h g
   | false => exact q4p (c := y) hs.2.2 h g
  ·exact g.elim
 | .block .., _, _, _, h, _, _ | .loop .., _, _, _, h, _, _ | .rangeFunc .., _, _, _, h, _, _ | .exit .., _, _, _, h, _, _ | .ret, _, _, _, h, _, _ | .scope .., _, _, _, h, _, _ | .label .., _, _, _, h, _, _ | .goto .., _, _, _, h, _, _ | .refuse .., _, _, _, h, _, _ => by simp [q0h] at h
theorem q8o {P : Program} {T : Tab} {S : Sum} {ann : Ann} {J : Inv} {b : Nat} {F : List Nat} {ke : Nat → DS → Prop} {kr : DS → Prop} {vs : List DV} : ∀ {c : Code} {R : DS → Prop} {k : DS → Option (List DV)} {st : DS}, q0h ann c = true → valC P T S ann c st k = some vs → ev P T S ann J c b F R ke kr st → ev P T S ann J c b F (fun s => R s ∧ k s = some vs ∧ Sm (q8b ann c) st s) ke kr st
 | .skip, R, k, st, _, h, g => ⟨g, h, Sm.refl _ _⟩
 | .region id ops draw, R, k, st, hs, h, g => by
  simp only [q0h, Bool.and_eq_true, Option.isNone_iff_eq_none] at hs
  obtain ⟨h1, h2⟩ := hs
  split at h2
  ·rename_i l hl
   simp only [valC, hl] at h
   rw [qjH h1 hl] at g ⊢
   simp only [q8b, hl]
   exact qcN l h2 h g
  ·cases h2
 | .seq x y, R, k, st, hs, h, g => by
  simp only [q0h, Bool.and_eq_true] at hs
  simp only [valC] at h
  have g1 := q8o (c := x) hs.1 h g
  refine q4p (c := x) hs.1 (fun s h2 => ?_) g1
  refine q4p (c := y) hs.2 (fun s2 h3 => ⟨h3.1, h3.2.1, ?_⟩) (q8o (c := y) hs.2 h2.2.1 h2.1)
  exact Sm.trans h2.2.2 h3.2.2
 | .cond c x y, R, k, st, hs, h, g => by
  simp only [q0h, Bool.and_eq_true, Option.isNone_iff_eq_none] at hs
  simp only [ev, hs.1, q3P] at g ⊢
  split at g
  ·rename_i t ht
   simp only [valC, ht] at h
   cases t with
   | true => exact q4p (c := x) hs.2.1 (fun s h2 => ⟨h2.1, h2.2.1, h2.2.2.mono fun i hi => List.mem_append.2 (Or.inl hi)⟩) (q8o (c := x) hs.2.1 (qcM h) g)
   | false => exact q4p (c := y) hs.2.2 (fun s h2 => ⟨h2.1, h2.2.1, h2.2.2.mono fun i hi => List.mem_append.2 (Or.inr hi)⟩) (q8o (c := y) hs.2.2 (qbk h) g)
  ·exact g.elim
 | .block .., _, _, _, h, _, _ | .loop .., _, _, _, h, _, _ | .rangeFunc .., _, _, _, h, _, _ | .exit .., _, _, _, h, _, _ | .ret, _, _, _, h, _, _ | .scope .., _, _, _, h, _, _ | .label .., _, _, _, h, _, _ | .goto .., _, _, _, h, _, _ | .refuse .., _, _, _, h, _, _ => by simp [q0h] at h
theorem join_ok {P : Program} {T : Tab} {S : Sum} {ann : Ann} {J : Inv} {b : Nat} {F : List Nat} {ke : Nat → DS → Prop} {kr : DS → Prop} {c : Code} {L ts : List Tmp} {vs : List DV} {kn : DS → Prop} {st : DS} (hs : q0h ann c = true) (hv : valC P T S ann c st (fun s => outs s ts) = some vs) (hL : ∀ i ∈ q8b ann c, i ∈ L) (hk : kn (putTs ts vs (q6Y L st))) (g : ev P T S ann J c b F (fun _ => True) ke kr st) : ev P T S ann J c b F (fun s => ∃ σ, kn σ ∧ Le σ s) ke kr st :=
 q4p hs (fun s h => ⟨_, hk, (Le.of_sm (h.2.2.mono hL)).puts h.2.1⟩) (q8o hs hv g)
theorem q0m (hm : P.follows .mixedOrders = true) (hT : TabOK P T) (hS : Valid P S) {ann : Ann} (hI : ValidIt P ann.it) {J : Inv} : ∀ (c : Code) {Z : Pins} {ro : Option Nat} {u : Bool} {q : Option (List Nat)} (hq : (q = none → ro = none ∧ Z = q0w) ∧ ∀ ks, q = some ks → ks ≠ [] → ∀ j lo, Z.key j = some lo → j ∈ ks) {b : Nat} {F : List Nat} {kn : DS → Prop} {ke : Nat → DS → Prop} {kr : DS → Prop} {Kn : List Nat → DS → Prop} {Ke : List Nat → Nat → DS → Prop} {Kr : List Nat → DS → Prop} {Q : Exit → Act → World → Prop} {M : Map} {st : DS} {a : Act} {w : World},
  q0I ann c = true → q0V ann u q c b = true → (u = true ∨ (AllG J (loops P T S ann J c b Kn Ke Kr) ∧ Kn F = kn ∧ Ke F = ke ∧ Kr F = kr)) → Abs w0 N0 Z M st a w →
  (∀ M' st' a' w', kn st' → Abs w0 N0 Z M' st' a' w' → Q .normal a' w') → (∀ i M' st' a' w', ke i st' → Abs w0 N0 Z M' st' a' w' → Q (.exit i) a' w') → (∀ M' st' a' w', kr st' → Abs w0 N0 Z M' st' a' w' → Q .ret a' w') →
  ev P T S ann J c b F kn ke kr st → c.wpIn (fen ro) 0 P Q a w
 | .skip, Z, ro, u, q, hq, b, F, kn, ke, kr, Kn, Ke, Kr, Q, M, st, a, w, hok, hfl, hL, ha, hn, he, hr, h => wpIn_skip (hn _ _ _ _ h ha)
 | .exit i, Z, ro, u, q, hq, b, F, kn, ke, kr, Kn, Ke, Kr, Q, M, st, a, w, hok, hfl, hL, ha, hn, he, hr, h => wpIn_exit (he i _ _ _ _ h ha)
 | .ret, Z, ro, u, q, hq, b, F, kn, ke, kr, Kn, Ke, Kr, Q, M, st, a, w, hok, hfl, hL, ha, hn, he, hr, h => wpIn_ret (hr _ _ _ _ h ha)
 | .region id ops draw, Z, ro, u, q, hq, b, F, kn, ke, kr, Kn, Ke, Kr, Q, M, st, a, w, hok, hfl, hL, ha, hn, he, hr, h => by
  simp only [ev, q3P] at h
  have hn2 : ∀ M' st' a' w', (∃ σ, kn σ ∧ Le σ st') → Abs w0 N0 Z M' st' a' w' → Q .normal a' w' := fun M' st' a' w' hσ ha' => by
   obtain ⟨σ, h1, h2⟩ := hσ
   exact hn M' σ a' w' h1 (ha'.le h2)
  split at h
  ·cases draw with
   | false => exact qeL hT hS hn ha h
   | true =>
    simp only [cond_true] at h
    simp only [q0I] at hok
    split at h
    ·rename_i clo fs hreg
     rw [hreg] at hok
     exact qg2 hm hT hS hok hn ha h
    ·exact h.elim
  ·rename_i p ts hcut
   split at h
   ·rename_i l hl
    have h2 := qkO h
    unfold q6Z at hl
    cases draw with
    | false =>
     simp only [cond_false, Option.some.injEq] at hl
     subst hl
     exact qeL hT hS hn2 ha ((q9K _).1 h2)
    | true =>
     simp only [cond_true] at hl
     simp only [q0I] at hok
     split at hl
     ·rename_i clo fs hreg
      cases hl
      rw [hreg] at hok
      exact qg2 hm hT hS hok hn2 ha h2
     ·cases hl
   ·exact h.elim
 | .seq x y, Z, ro, u, q, hq, b, F, kn, ke, kr, Kn, Ke, Kr, Q, M, st, a, w, hok, hfl, hL, ha, hn, he, hr, h => by
  simp only [q0I, Bool.and_eq_true] at hok
  simp only [q0V, Bool.and_eq_true] at hfl
  have hLx : u = true ∨ (AllG J (loops P T S ann J x b (fun F s => ev P T S ann J y b F (Kn F) (Ke F) (Kr F) s) Ke Kr) ∧ (fun s => ev P T S ann J y b F (Kn F) (Ke F) (Kr F) s) = (fun s => ev P T S ann J y b F kn ke kr s) ∧ Ke F = ke ∧ Kr F = kr) := by
   rcases hL with h | ⟨h1, h2, h3, h4⟩
   ·exact Or.inl h
   ·simp only [loops, q3v] at h1
    exact Or.inr ⟨h1.1, by rw [h2, h3, h4], h3, h4⟩
  have hLy : u = true ∨ (AllG J (loops P T S ann J y b Kn Ke Kr) ∧ Kn F = kn ∧ Ke F = ke ∧ Kr F = kr) := by
   rcases hL with h | ⟨h1, h2⟩
   ·exact Or.inl h
   ·simp only [loops, q3v] at h1
    exact Or.inr ⟨h1.2, h2⟩
  refine wpIn_seq (q0m hm hT hS hI x hq (b := b) hok.1 hfl.1 hLx ha (fun M' st' a' w' h' ha' => ?_) (fun i M' st' a' w' h' ha' => he i _ _ _ _ h' ha') (fun M' st' a' w' h' ha' => hr _ _ _ _ h' ha') h)
  exact q0m hm hT hS hI y hq hok.2 hfl.2 hLy ha' hn he hr h'
 | .cond c x y, Z, ro, u, q, hq, b, F, kn, ke, kr, Kn, Ke, Kr, Q, M, st, a, w, hok, hfl, hL, ha, hn, he, hr, h => by
  simp only [q0I, Bool.and_eq_true] at hok
  simp only [q0V, Bool.and_eq_true] at hfl
  simp only [ev, q3P] at h
  have hLx : u = true ∨ (AllG J (loops P T S ann J x b Kn Ke Kr) ∧ Kn F = kn ∧ Ke F = ke ∧ Kr F = kr) := by
   rcases hL with h | ⟨h1, h2⟩
   ·exact Or.inl h
   ·simp only [loops, q3v] at h1
    exact Or.inr ⟨h1.1, h2⟩
  have hLy : u = true ∨ (AllG J (loops P T S ann J y b Kn Ke Kr) ∧ Kn F = kn ∧ Ke F = ke ∧ Kr F = kr) := by
   rcases hL with h | ⟨h1, h2⟩
   ·exact Or.inl h
   ·simp only [loops, q3v] at h1
    exact Or.inr ⟨h1.2, h2⟩
  have hn2 : ∀ M' st' a' w', (∃ σ, kn σ ∧ Le σ st') → Abs w0 N0 Z M' st' a' w' → Q .normal a' w' := fun M' st' a' w' hσ ha' => by
   obtain ⟨σ, h1, h2⟩ := hσ
   exact hn M' σ a' w' h1 (ha'.le h2)
  split at h
  ·rename_i t hc
   have hv : a.eval c = .bool t := (qw ha hc).1
   split at h
   ·cases t with
    | true => exact wpIn_cond_true hv (q0m hm hT hS hI x hq hok.1 hfl.1 hLx ha hn he hr h)
    | false => exact wpIn_cond_false hv (q0m hm hT hS hI y hq hok.2 hfl.2 hLy ha hn he hr h)
   ·rename_i ts hj
    cases hsx : q0h ann x && q0h ann y with
    | false => rw [hsx] at h; exact h.elim
    | true =>
    rw [hsx] at h
    simp only [cond_true] at h
    simp only [Bool.and_eq_true] at hsx
    obtain ⟨h1, h2⟩ := h
    unfold joinK at h2
    split at h2
    ·rename_i vs hvs
     cases t with
     | true => exact wpIn_cond_true hv (q0m hm hT hS hI x (u := true) (Kn := fun _ _ => True) (Ke := fun _ _ _ => True) (Kr := fun _ _ => True) hq hok.1 (q2x hsx.1) (Or.inl rfl) ha hn2 (fun _ _ _ _ _ h _ => h.elim) (fun _ _ _ _ h _ => h.elim) (join_ok hsx.1 (qcM hvs) (fun i hi => List.mem_append.2 (Or.inl hi)) h2 h1))
     | false => exact wpIn_cond_false hv (q0m hm hT hS hI y (u := true) (Kn := fun _ _ => True) (Ke := fun _ _ _ => True) (Kr := fun _ _ => True) hq hok.2 (q2x hsx.2) (Or.inl rfl) ha hn2 (fun _ _ _ _ _ h _ => h.elim) (fun _ _ _ _ h _ => h.elim) (join_ok hsx.2 (qbk hvs) (fun i hi => List.mem_append.2 (Or.inr hi)) h2 h1))
    ·exact h2.elim
  ·exact h.elim
 | .block id x, Z, ro, u, q, hq, b, F, kn, ke, kr, Kn, Ke, Kr, Q, M, st, a, w, hok, hfl, hL, ha, hn, he, hr, h => by
  simp only [q0I] at hok
  simp only [q0V] at hfl
  simp only [ev, q3P] at h
  have hLx : u = true ∨ (AllG J (loops P T S ann J x id Kn (fun F j s => bif Nat.beq j id then Kn F s else Ke F j s) Kr) ∧ Kn F = kn ∧ (fun j s => bif Nat.beq j id then Kn F s else Ke F j s) = (fun j s => bif Nat.beq j id then kn s else ke j s) ∧ Kr F = kr) := by
   rcases hL with h | ⟨h1, h2, h3, h4⟩
   ·exact Or.inl h
   ·exact Or.inr ⟨h1, h2, by rw [h2, h3], h4⟩
  refine wpIn_block (q0m hm hT hS hI x hq (b := id) hok hfl hLx ha (fun M' st' a' w' h' ha' => hn _ _ _ _ h' ha') (fun i M' st' a' w' h' ha' => ?_) (fun M' st' a' w' h' ha' => hr _ _ _ _ h' ha') h)
  simp only [Exit.inBlock]
  cases e : Nat.beq i id with
  | true =>
   rw [e] at h'
   rw [if_pos (Nat.eq_of_beq_eq_true e)]
   exact hn _ _ _ _ h' ha'
  | false =>
   rw [e] at h'
   rw [if_neg (fun h2 => by rw [h2, Nat.beq_refl] at e; cases e)]
   exact he i _ _ _ _ h' ha'
 | .loop x, Z, ro, u, q, hq, b, F, kn, ke, kr, Kn, Ke, Kr, Q, M, st, a, w, hok, hfl, hL, ha, hn, he, hr, h => by
  simp only [q0I] at hok
  simp only [q0V] at hfl
  simp only [ev] at h
  split at h
  ·rename_i n o hl
   rw [hl] at hfl
   simp only [Bool.and_eq_true] at hfl
   obtain ⟨hqo, hfl⟩ := hfl
   have hok' := pinOk_ok (Z := Z) hqo (fun e => (hq.1 e).2) hq.2
   have key : ∀ (n : Nat) {M : Map} {st : DS} {a : Act} {w : World}, Abs w0 N0 Z M st a w → loopE (fun k s => ev P T S ann J x b F k ke kr s) (tdOf (ann.bx b) o) n st → Code.roundsIn (fen ro) 0 P x Q n a w := by
    intro n
    induction n with
    | zero => intro M st a w ha h; exact h
    | succ n ih =>
     intro M st a w ha h
     simp only [loopE, q3P] at h
     rw [roundsIn_succ]
     split at h
     case h_2 => exact h.elim
     rename_i s hs
     obtain ⟨M2, ha2⟩ := tdOf_ok ha hok' hs
     exact q0m hm hT hS hI x hq (Kn := fun _ _ => True) (Ke := fun _ _ _ => True) (Kr := fun _ _ => True) hok hfl (Or.inl rfl) ha2 (fun M' st' a' w' h' ha' => ih ha' h') (fun i M' st' a' w' h' ha' => he i _ _ _ _ h' ha') (fun M' st' a' w' h' ha' => hr _ _ _ _ h' ha') h
   exact wpIn_loop_rounds n (key n ha h)
  ·rename_i hd hl
   rw [hl] at hfl
   simp only [Bool.and_eq_true, Bool.not_eq_true'] at hfl
   obtain ⟨hu, hqf, hfl⟩ := hfl
   have hqf := Option.isNone_iff_eq_none.1 hqf
   have hkey : ∀ k l, Z.key k = some l → k ∈ hd.keepH := fun k l h => by rw [(hq.1 hqf).2] at h; cases h
   rcases hL with hL | ⟨hL, h2, h3, h4⟩
   ·rw [hu] at hL; cases hL
   ·simp only [loops, hl, AllG] at hL
    obtain ⟨⟨hz, hs⟩, hin⟩ := hL
    split at h
    ·rename_i s hts
     obtain ⟨n, hJ⟩ := h
     obtain ⟨M', ha'⟩ := ha.tidyB hkey hts
     have key : ∀ (n : Nat) {M : Map} {st : DS} {a : Act} {w : World}, Abs w0 N0 Z M st a w → J b (n :: F) st → Code.roundsIn (fen ro) 0 P x Q n a w := by
      intro n
      induction n with
      | zero => intro M st a w ha h; exact (hz F st h).elim
      | succ n ih =>
       intro M st a w ha h
       have h1 := hs n F st h
       simp only [List.tail_cons] at h1
       rw [roundsIn_succ]
       rw [h3, h4] at h1
       refine q0m hm hT hS hI x (q := none) ⟨fun _ => hq.1 hqf, (fun _ h => by cases h)⟩ (F := n :: F) hok hfl (Or.inr ⟨hin, rfl, h3, h4⟩) ha (fun M' st' a' w' h' ha' => ?_) (fun i M' st' a' w' h' ha' => he i _ _ _ _ h' ha') (fun M' st' a' w' h' ha' => hr _ _ _ _ h' ha') h1
       unfold again at h'
       split at h'
       ·rename_i s2 hs2
        obtain ⟨M2, ha2⟩ := ha'.tidyB hkey hs2
        exact ih ha2 h'
       ·exact h'.elim
     exact wpIn_loop_rounds n (key n ha' hJ)
    ·exact h.elim
  ·exact h.elim
 | .rangeFunc g ps assign body, Z, ro, u, q, hq, b, F, kn, ke, kr, Kn, Ke, Kr, Q, M, st, a, w, hok, hfl, hL, ha, hn, he, hr, h => by
  simp only [q0I, Bool.and_eq_true] at hok
  simp only [q0V] at hfl
  simp only [ev] at h
  split at h
  case h_2 => exact h.elim
  rename_i hd hl
  rw [hl] at hfl
  simp only [Bool.and_eq_true, Bool.not_eq_true'] at hfl
  obtain ⟨hu, hqf, hf1, hf2⟩ := hfl
  obtain ⟨hro, hZ⟩ := hq.1 (Option.isNone_iff_eq_none.1 hqf)
  subst hro hZ
  split at h
  case h_2 => exact h.elim
  rename_i s0 hs0
  split at h
  rotate_left
  ·-- an iterator with a variable of its own
   rename_i hR0
   split at h
   case h_2 => exact h.elim
   rename_i k R U hR
   cases hnd0 : (qZ s0.h && memN k hd.keepH) with
   | false => rw [hnd0] at h; exact h.elim
   | true =>
   rw [hnd0] at h
   rw [Bool.and_eq_true] at hnd0
   obtain ⟨hnd0, hkeep⟩ := hnd0
   have hkeep := q1d hkeep
   simp only [cond_true] at h
   have hpre : okP R.pre ∧ J b [0] s0 := by
    cases e : R.pre with
    | none => rw [e] at h; exact ⟨trivial, h⟩
    | some p => rw [e] at h; exact h
   obtain ⟨M0, ha0⟩ := ha.tidyB (by intro k l h; cases h) hs0
   obtain ⟨gf, lc, ca, l, x, hop0, hsp, hca, hcs, hat0, hit, hmu, hm', hbd, hpos⟩ := rfM_ok hR
   obtain ⟨hen, hy⟩ := hI gf _ R hit hpre.1
   unfold ItOk at hy
   rw [hmu] at hy
   obtain ⟨n, D, Y, hn0, hD0, hst, hseq⟩ : MuOk P (ann.it gf) gf ca l R.m U.ty x := hy x ca l hpos.symm rfl
   obtain ⟨vs0, hgv, hrel⟩ := qw ha0 hop0
   rw [qin hsp] at hrel
   obtain ⟨us, v, vs, rfl, hru, hv, hrel2⟩ : ∃ us v vs, vs0 = us ++ v :: vs ∧ All2 (RelC w (fgn w0 N0 M0) M0) ca us ∧ RelC w (fgn w0 N0 M0) M0 (.p k 0) v ∧ All2 (RelC w (fgn w0 N0 M0) M0) l vs := qjG hrel
   obtain ⟨B, hMB, rfl⟩ := hv
   have hrelF : All2 (RelF w (nown M0)) l vs := q5K (fun b h => h.2) hcs hrel2
   have hrelU : All2 (RelF w (nown M0)) ca us := q5K (fun b h => h.2) hca hru
   have one : ∀ {M : Map} {s : DS} {W : World} {Z' : Pins} {y : Value}, Abs w0 N0 Z' M s a W → M k = some (.box B) → s.at k = some (.box U.ty [.v y]) → W.heap[B]? = some (.cells #[y] U.ty (0, 0)) := by
    intro M s W Z' y hA hM hat
    obtain ⟨b', cs, g1, g2, g3⟩ := hA.row k _ hat
    rw [hM] at g1; cases g1
    have : cs.toList = [y] := by
     match hc : cs.toList, g3 with
     | [z], g => rw [show z = y from g.1.1]
     | [], g => exact g.elim
     | _ :: _ :: _, g => exact g.2.elim
    rw [g2, show cs = #[y] from Array.toList_inj.1 this]
   have hc0 := one ha0 hMB hat0
   have hBlt : B < w.heap.size := (Array.getElem?_eq_some_iff.1 hc0).1
   rcases hL with hL | ⟨hL, e1, e2, e3⟩
   ·rw [hu] at hL; cases hL
   simp only [loops, hl, AllG, and_true] at hL
   rw [e1, e2, e3] at hL
   have hmk : ∀ d ∈ a.defers, ∀ r, w.heap.size ≤ r → d ≠ { target := .collected r, args := #[] } := by
    intro d hd r hr e
    obtain ⟨D, h1, _, h3, _⟩ := ha0.defs.1 d hd
    rw [h1] at e
    have e' : D = r := by simpa using e
    have := (Array.getElem?_eq_some_iff.1 h3).1
    omega
   let ZI : Pins := ⟨fun _ _ => False, fun b => b < w.heap.size ∧ nown M0 b, fun j => if j = k then some (.box B) else none, 0⟩
   have hkey : ∀ j l, ZI.key j = some l → j = k ∧ l = .box B := by
    intro j l h
    have h : (if j = k then some (Loc.box B) else none) = some l := h
    split at h
    ·rename_i e; cases h; exact ⟨e, rfl⟩
    ·cases h
   have hMk : ∀ {M : Map} {s : DS} {W : World}, Abs w0 N0 ZI M s a W → M k = some (.box B) := fun hA => hA.pinK k _ (if_pos rfl)
   have hgrow : ∀ {M : Map} {s : DS} {W W' : World} {row : Option Nat}, Abs w0 N0 ZI M s a W → W.grownBy W' row → (∀ r, row = some r → w.heap.size ≤ r ∧ ∃ o : Obj, W.heap[r]? = some o ∧ o.isCells = false) → Abs w0 N0 ZI M s a W' := by
    intro M s W W' row hA hg hr
    refine hA.grownN hg fun r e => ?_
    obtain ⟨h1, h2⟩ := hr r e
    exact ⟨Nat.le_trans ha0.below.size h1, h2, fun o h => h.elim, fun d hd => hmk d hd r h1⟩
   have hend : ∀ {M : Map} {s s2 : DS} {W : World} {k : DS → Prop}, endB hd (ann.bx b) s.t s2 k → Abs w0 N0 ZI M ⟨s.t, s2.h⟩ a W → ∃ M' s3, Abs w0 N0 ZI M' s3 a W ∧ qZ s3.h = true ∧ k s3 := by
    intro M s s2 W k' hk hA
    unfold endB at hk
    split at hk
    ·rename_i s3 hs3
     cases e : qZ s3.h with
     | false => rw [e] at hk; exact hk.elim
     | true =>
      rw [e] at hk
      obtain ⟨M', hA'⟩ := hA.tidyB (fun j l h => by rw [(hkey j l h).1]; exact hkeep) hs3
      exact ⟨M', s3, hA', e, hk⟩
    ·exact hk.elim
   have hmark : ∀ {M : Map} {s : DS} {W : World}, Abs w0 N0 ZI M s a W → qZ s.h = true → W.heap[w.heap.size]? = some (.deferred (some [])) → Abs w0 N0 q0w M s { a with defers := { target := .collected w.heap.size, args := #[] } :: a.defers } W := by
    intro M s W hA hnd hk
    exact (hA.repin (Z2 := q0w) (fun _ _ h => h.elim) (fun _ h => h.elim) (fun _ _ h => by cases h)).mark ha0.below.size hk (hA.clean hnd hk rfl) fun d hd => hmk d hd _ (Nat.le_refl _)
   have hno : ∀ s, opv s g = opv s0 g → rfE ann s g ps.size = none := fun s e => rfE_no (e.trans hop0) hsp
   refine wp_rfM (n := n) (B := B) (ty := U.ty) (D := D) hgv hen (hseq w (nown M0) us vs B hc0 (fun h => h k _ hMB rfl) hrelU hrelF) hBlt hn0 (fun i hi => by obtain ⟨_, _, _, _, _, _, _, _, q, _⟩ := hst i hi; simp [q, hm'])
    (fun i W => ∃ M s, Abs w0 N0 ZI M s a W ∧ J b [i] s ∧ opv s g = opv s0 g ∧ qZ s.h = true ∧ s.at k = some (.box U.ty [.v (D i)]))
    (fun i W => ∃ M s, Abs w0 N0 ZI M s a W ∧ qZ s.h = true ∧ opv s g = opv s0 g ∧ s.at k = some (.box U.ty [.v (D i)]) ∧ (i + 1 < n → (D (i + 1)).oneCell' = true ∧ J b [i + 1] (s.row k (.box U.ty [.v (D (i + 1))]))) ∧ (i + 1 = n → kn s))
    (fun c W => ∃ M s, Abs w0 N0 ZI M s a W ∧ qZ s.h = true ∧ (match c with | .ret => kr s | .exit j => ke j s | _ => False))
    (fun i W W' row ⟨M, s, h1, h2⟩ hg hr => ⟨M, s, hgrow h1 hg hr, h2⟩) (fun i W W' row ⟨M, s, h1, h2⟩ hg hr => ⟨M, s, hgrow h1 hg hr, h2⟩) (fun c _ W W' row ⟨M, s, h1, h2⟩ hg hr => ⟨M, s, hgrow h1 hg hr, h2⟩)
    (fun i W ⟨M, s, h1, _⟩ => h1.gd) (fun i W ⟨M, s, h1, _⟩ => h1.gd) (fun c W ⟨M, s, h1, _⟩ => h1.gd)
    ⟨M0, s0, ha0.repin (fun _ _ h => h.elim) (fun b h => h) (fun j l h => by obtain ⟨rfl, rfl⟩ := hkey j l h; exact hMB), hpre.2, rfl, hnd0, by rw [hat0, hD0]⟩
    (fun i W ⟨M, s, h1, _, _, _, h2⟩ => one h1 (hMk h1) h2) (fun i W ⟨M, s, h1, _, _, h2, _⟩ => one h1 (hMk h1) h2) ?_ ?_ ?_ ?_
   ·-- a round
    rintro i W r hi ⟨M1, s, hA, hJ, hop', hnd, hat⟩ hlt hlr hD
    obtain ⟨Ri, Ui, t1, t2, t3, t4, t5, t6, t7, t8, t9, t10⟩ := hst i hi
    have hG := hL i s hJ
    unfold rfG at hG
    rw [hno s hop', rfM_mk (ann := ann) (k := k) (R := Ri) (U := Ui) (m := ps.size) (hop'.trans hop0) hsp hca hcs (by rw [t5.1]; exact hat) t1 t2 (t3.trans hm') t4 t5.2] at hG
    simp only at hG
    have hA1 : Abs w0 N0 (q1K W M1) M1 (putL ps.toList (Ri.y 0) s) { tmps := (ps.zip ((Y i).map q1F).toArray).foldl (fun t (p, v) => t.setIfInBounds p v) a.tmps, defers := [] } W := by
     rw [t6]
     have h1 := Abs.putL (ps := ps.toList) (ys := Y i) (vs := (Y i).map q1F) hA.pin.frame ((t8 W (fgn w0 N0 M1)).mono fun _ _ h => RelT.mono (fun _ _ h => RelC.ofF h) h)
     have e : (ps.zip ((Y i).map q1F).toArray).foldl (fun t (p, v) => t.setIfInBounds p v) a.tmps = (ps.toList.zip ((Y i).map q1F)).foldl (fun t (p, v) => t.setIfInBounds p v) a.tmps := by
      rw [← Array.foldl_toList, Array.toList_zip]
     rw [e]; exact h1
    refine q0m hm hT hS hI assign (ro := some (w.heap.size + 1)) (u := true) (q := some []) ⟨(fun h => by cases h), (fun _ h hn => by cases h; exact absurd rfl hn)⟩ (Kn := fun _ _ => True) (Ke := fun _ _ _ => True) (Kr := fun _ _ => True) hok.1 hf1 (Or.inl rfl) hA1 ?_ (fun _ _ _ _ _ h _ => h.elim) (fun _ _ _ _ h _ => h.elim) hG
    intro M2 s1 a1 W1 hs1 he1
    show W1.heap[w.heap.size + 1]? = some (.loop r) ∧ _
    have hnl := hA.clean hnd hlr rfl
    have hl1 : W1.heap[w.heap.size + 1]? = some (.loop r) := (he1.pinned (by omega) hnl).1.trans hlr
    have hD1 : W1.heap[w.heap.size]? = some (.deferred (some [])) := (he1.pinned (by omega) (hA.clean hnd hD rfl)).1.trans hD
    refine ⟨hl1, fun r' => ?_⟩
    cases hnd1 : qZ s1.h with
    | false => rw [hnd1] at hs1; exact hs1.elim
    | true =>
    rw [hnd1] at hs1
    simp only [cond_true] at hs1
    have hlt1 : w.heap.size + 1 < W1.heap.size := (Array.getElem?_eq_some_iff.1 hl1).1
    have hb1 : Abs w0 N0 ZI M2 ⟨s.t, s1.h⟩ a W1 := hA.back he1
    obtain ⟨W2, hW2⟩ : ∃ W2, W1.putObj (w.heap.size + 1) (.loop r') = W2 := ⟨_, rfl⟩
    have hl2 : W2.heap[w.heap.size + 1]? = some (.loop r') := by rw [← hW2]; exact World.putObj_heap_same hlt1
    have hD2 : W2.heap[w.heap.size]? = some (.deferred (some [])) := by rw [← hW2]; exact (World.putObj_heap_other (by omega)).trans hD1
    have hsz2 : W2.heap.size = W1.heap.size := by rw [← hW2]; simp
    have hg12 : W1.grownBy W2 (some (w.heap.size + 1)) := by rw [← hW2]; exact grownBy_putObj' W1 _ _
    have hb2 : Abs w0 N0 ZI M2 ⟨s.t, s1.h⟩ a W2 := hgrow hb1 hg12 fun r e => by cases e; exact ⟨by omega, _, hl1, rfl⟩
    have he2 : Abs w0 N0 (q1K W2 M2) M2 s1 a1 W2 := by
     refine Abs.pin (Z := q0w) ((he1.repin (Z2 := q0w) (fun _ _ h => h.elim) (fun _ h => h.elim) (fun _ _ h => by cases h)).grownN hg12 fun r e => ?_)
     cases e
     refine ⟨by have := ha0.below.size; omega, ⟨_, hl1, rfl⟩, fun _ h => h.elim, fun d hd e => ?_⟩
     obtain ⟨D, h1, _, h3, _⟩ := he1.defs.1 d hd
     rw [h1] at e
     have e' : D = w.heap.size + 1 := by simpa using e
     rw [e', hl1] at h3; cases h3
    rw [hW2]
    have hpost : ∀ {M3 : Map} {s3 : DS} {a3 : Act} {W3 : World}, Abs w0 N0 (q1K W2 M2) M3 s3 a3 W3 → W3.heap[w.heap.size + 1]? = some (.loop r') ∧ W3.heap[w.heap.size]? = some (.deferred (some [])) ∧ (∀ o, KpI w (nown M0) none W (W3.putObj (w.heap.size + 1) o)) ∧ Abs w0 N0 ZI M3 ⟨s.t, s3.h⟩ a W3 := by
     intro M3 s3 a3 W3 he3
     refine ⟨(he3.pinned (by omega) (he2.clean hnd1 hl2 rfl)).1.trans hl2, (he3.pinned (by omega) (he2.clean hnd1 hD2 rfl)).1.trans hD2, fun o => ⟨⟨by have q1 := hA.pinSize he1; have q2 := he2.pinSize he3; simp; omega, fun b hb hn => ?_⟩, trivial⟩, hb2.back he3⟩
     obtain ⟨p1, p2⟩ := hA.pinN b ⟨hb, hn⟩
     obtain ⟨p3, p4⟩ := he1.pinned p1 p2
     have p5 : W2.heap[b]? = W1.heap[b]? := by rw [← hW2]; exact World.putObj_heap_other (by omega)
     have p6 := (he3.pinned (b := b) (by omega) p4).1
     exact ((World.putObj_heap_other (by omega)).trans p6).trans (p5.trans p3)
    refine q0m hm hT hS hI body (ro := some (w.heap.size + 1)) (u := true) (q := some []) ⟨(fun h => by cases h), (fun _ h hn => by cases h; exact absurd rfl hn)⟩ (Kn := fun _ _ => True) (Ke := fun _ _ _ => True) (Kr := fun _ _ => True) hok.2 hf2 (Or.inl rfl) he2 (fun M3 s3 a3 W3 hk he3 => ?_) (fun j M3 s3 a3 W3 hk he3 => ?_) (fun M3 s3 a3 W3 hk he3 => ?_) hs1
    ·obtain ⟨p1, p2, p3, p4⟩ := hpost he3
     obtain ⟨M4, s4, q1, q2, q3, q4, q5⟩ := hend hk p4
     refine ⟨p1, p2, p3, M4, s4, q1, q2, q3.trans hop', q4.trans hat, fun hi1 => ?_, fun hi1 => ?_⟩
     ·cases hmo : Ui.more with
      | false => have := t10 hmo; omega
      | true =>
       rw [hmo] at q5
       obtain ⟨_, u2, u3⟩ := t9 hmo
       have q5 : J b [i + 1] (s4.row k (.box Ui.ty [.v Ui.nx])) := q5
       rw [t5.1, u2] at q5
       exact ⟨u3, q5⟩
     ·cases hmo : Ui.more with
      | true => have := (t9 hmo).1; omega
      | false => rw [hmo] at q5; exact q5
    ·obtain ⟨p1, p2, p3, p4⟩ := hpost he3
     obtain ⟨M4, s4, q1, q2, q3⟩ := hend hk p4
     exact ⟨p1, p2, p3, M4, s4, q1, q2, q3⟩
    ·obtain ⟨p1, p2, p3, p4⟩ := hpost he3
     obtain ⟨M4, s4, q1, q2, q3⟩ := hend hk p4
     exact ⟨p1, p2, p3, M4, s4, q1, q2, q3⟩
   ·rintro i W hi1 ⟨M1, s, hA, hnd, hop', hat, h1, h2⟩
    obtain ⟨h1, h3⟩ := h1 hi1
    have hM := hMk hA
    have g2 := one hA hM hat
    have hab := hA.setRow (k := k) (b := B) (cs := #[D (i + 1)]) (r' := .box U.ty [.v (D (i + 1))]) hat rfl hM rfl (fun stp => ⟨B, _, hM, setRow_heap _ _ _ _ _ _ g2, ⟨⟨rfl, h1⟩, trivial⟩⟩) rfl
    refine ⟨M1, s.row k (.box U.ty [.v (D (i + 1))]), hab, h3, ?_, qbl hnd, ?_⟩
    ·rw [← hop']; cases g <;> rfl
    ·show ((s.h.set k _)[k]?).join = _
     rw [getset, if_pos ⟨rfl, at_lt hat⟩]
   ·rintro W ⟨M1, s, hA, hnd, hop', hat, h1, h2⟩ hk
    exact hn _ _ _ _ (h2 (by omega)) (hmark hA hnd hk)
   ·rintro c W ⟨M1, s, hA, hnd, hc⟩ hk
    cases c with
    | ret => exact wpIn_ret (hr _ _ _ _ hc (hmark hA hnd hk))
    | exit j => exact wpIn_exit (he j _ _ _ _ hc (hmark hA hnd hk))
    | _ => exact hc.elim
  rename_i R hR
  cases hnd0 : qZ s0.h with
  | false => rw [hnd0] at h; exact h.elim
  | true =>
  rw [hnd0] at h
  simp only [cond_true] at h
  have hpre : okP R.pre ∧ J b [0] s0 := by
   cases e : R.pre with
   | none => rw [e] at h; exact ⟨trivial, h⟩
   | some p => rw [e] at h; exact h
  obtain ⟨M0, ha0⟩ := ha.tidyB (by intro k l h; cases h) hs0
  have hRop : ∀ s, opv s g = opv s0 g → rfE ann s g ps.size = some R := fun s e => by unfold rfE at hR ⊢; rw [e]; exact hR
  obtain ⟨gf, l, vs, hcs, hit, hm', hmu, hgv, hrel⟩ := rfE_ok ha0 hR
  have hrelF : All2 (RelF w (nown M0)) l vs := q5K (fun b h => h.2) hcs hrel
  obtain ⟨hen, hy⟩ := hI gf l R hit hpre.1
  unfold ItOk at hy
  rw [hmu] at hy
  obtain ⟨hy, hseq⟩ := hy
  rcases hL with hL | ⟨hL, e1, e2, e3⟩
  ·rw [hu] at hL; cases hL
  simp only [loops, hl, AllG, and_true] at hL
  rw [e1, e2, e3] at hL
  have hmk : ∀ d ∈ a.defers, ∀ r, w.heap.size ≤ r → d ≠ { target := .collected r, args := #[] } := by
   intro d hd r hr e
   obtain ⟨D, h1, _, h3, _⟩ := ha0.defs.1 d hd
   rw [h1] at e
   have e' : D = r := by simpa using e
   have := (Array.getElem?_eq_some_iff.1 h3).1
   omega
  let ZI : Pins := ⟨fun _ _ => False, fun b => b < w.heap.size ∧ nown M0 b, fun _ => none, 0⟩
  have hgrow : ∀ {M : Map} {s : DS} {W W' : World} {row : Option Nat}, Abs w0 N0 ZI M s a W → W.grownBy W' row → (∀ r, row = some r → w.heap.size ≤ r ∧ ∃ o : Obj, W.heap[r]? = some o ∧ o.isCells = false) → Abs w0 N0 ZI M s a W' := by
   intro M s W W' row hA hg hr
   refine hA.grownN hg fun r e => ?_
   obtain ⟨h1, h2⟩ := hr r e
   exact ⟨Nat.le_trans ha0.below.size h1, h2, fun o h => h.elim, fun d hd => hmk d hd r h1⟩
  have hend : ∀ {M : Map} {s s2 : DS} {W : World} {k : DS → Prop}, endB hd (ann.bx b) s.t s2 k → Abs w0 N0 ZI M ⟨s.t, s2.h⟩ a W → ∃ M' s3, Abs w0 N0 ZI M' s3 a W ∧ qZ s3.h = true ∧ k s3 := by
   intro M s s2 W k hk hA
   unfold endB at hk
   split at hk
   ·rename_i s3 hs3
    cases e : qZ s3.h with
    | false => rw [e] at hk; exact hk.elim
    | true =>
     rw [e] at hk
     obtain ⟨M', hA'⟩ := hA.tidyB (by intro k l h; cases h) hs3
     exact ⟨M', s3, hA', e, hk⟩
   ·exact hk.elim
  have hmark : ∀ {M : Map} {s : DS} {W : World}, Abs w0 N0 ZI M s a W → qZ s.h = true → W.heap[w.heap.size]? = some (.deferred (some [])) → Abs w0 N0 q0w M s { a with defers := { target := .collected w.heap.size, args := #[] } :: a.defers } W := by
   intro M s W hA hnd hk
   exact (hA.repin (Z2 := q0w) (fun _ _ h => h.elim) (fun _ h => h.elim) (fun _ _ h => by cases h)).mark ha0.below.size hk (hA.clean hnd hk rfl) fun d hd => hmk d hd _ (Nat.le_refl _)
  refine wp_rf (n := R.n) hgv hen (hseq w (nown M0) vs hrelF) (fun i hi => by simp [(hy i hi).1, hm']) (fun i W => ∃ M s, Abs w0 N0 ZI M s a W ∧ J b [i] s ∧ opv s g = opv s0 g ∧ qZ s.h = true)
   (fun c W => ∃ M s, Abs w0 N0 ZI M s a W ∧ qZ s.h = true ∧ (match c with | .ret => kr s | .exit j => ke j s | _ => False))
   (fun i W W' row ⟨M, s, h1, h2⟩ hg hr => ⟨M, s, hgrow h1 hg hr, h2⟩) (fun c _ W W' row ⟨M, s, h1, h2⟩ hg hr => ⟨M, s, hgrow h1 hg hr, h2⟩)
   (fun i W ⟨M, s, h1, _⟩ => h1.gd) (fun c W ⟨M, s, h1, _⟩ => h1.gd)
   ⟨M0, s0, ha0.repin (fun _ _ h => h.elim) (fun b h => h) (fun _ _ h => by cases h), hpre.2, rfl, hnd0⟩ ?_ ?_ ?_
  ·-- a round
   rintro i W r hi ⟨M1, s, hA, hJ, hop', hnd⟩ hlt hlr hD
   have hG := hL i s hJ
   unfold rfG at hG
   rw [hRop s hop'] at hG
   have hG2 := hG.2 hi
   cases hty : noTy R.ty s.h with
   | false => rw [hty] at hG2; exact hG2.elim
   | true =>
   rw [hty] at hG2
   simp only [cond_true] at hG2
   have hA1 : Abs w0 N0 (q1K W M1) M1 (putL ps.toList (R.y i) s) { tmps := (ps.zip ((R.y i).map q1F).toArray).foldl (fun t (p, v) => t.setIfInBounds p v) a.tmps, defers := [] } W := by
    have h1 := Abs.putL (ps := ps.toList) (ys := R.y i) (vs := (R.y i).map q1F) hA.pin.frame (((hy i hi).2 W (fgn w0 N0 M1)).mono fun _ _ h => RelT.mono (fun _ _ h => RelC.ofF h) h)
    have e : (ps.zip ((R.y i).map q1F).toArray).foldl (fun t (p, v) => t.setIfInBounds p v) a.tmps = (ps.toList.zip ((R.y i).map q1F)).foldl (fun t (p, v) => t.setIfInBounds p v) a.tmps := by
     rw [← Array.foldl_toList, Array.toList_zip]
    rw [e]; exact h1
   refine q0m hm hT hS hI assign (ro := some (w.heap.size + 1)) (u := true) (q := some []) ⟨(fun h => by cases h), (fun _ h hn => by cases h; exact absurd rfl hn)⟩ (Kn := fun _ _ => True) (Ke := fun _ _ _ => True) (Kr := fun _ _ => True) hok.1 hf1 (Or.inl rfl) hA1 ?_ (fun _ _ _ _ _ h _ => h.elim) (fun _ _ _ _ h _ => h.elim) hG2
   intro M2 s1 a1 W1 hs1 he1
   show W1.heap[w.heap.size + 1]? = some (.loop r) ∧ _
   have hnl := hA.clean hnd hlr rfl
   have hl1 : W1.heap[w.heap.size + 1]? = some (.loop r) := (he1.pinned (by omega) hnl).1.trans hlr
   have hD1 : W1.heap[w.heap.size]? = some (.deferred (some [])) := (he1.pinned (by omega) (hA.clean hnd hD rfl)).1.trans hD
   refine ⟨hl1, fun r' => ?_⟩
   cases hnd1 : qZ s1.h with
   | false => rw [hnd1] at hs1; exact hs1.elim
   | true =>
   rw [hnd1] at hs1
   simp only [cond_true] at hs1
   have hlt1 : w.heap.size + 1 < W1.heap.size := (Array.getElem?_eq_some_iff.1 hl1).1
   have hb1 : Abs w0 N0 ZI M2 ⟨s.t, s1.h⟩ a W1 := hA.back he1
   obtain ⟨W2, hW2⟩ : ∃ W2, W1.putObj (w.heap.size + 1) (.loop r') = W2 := ⟨_, rfl⟩
   have hl2 : W2.heap[w.heap.size + 1]? = some (.loop r') := by rw [← hW2]; exact World.putObj_heap_same hlt1
   have hD2 : W2.heap[w.heap.size]? = some (.deferred (some [])) := by rw [← hW2]; exact (World.putObj_heap_other (by omega)).trans hD1
   have hsz2 : W2.heap.size = W1.heap.size := by rw [← hW2]; simp
   have hg12 : W1.grownBy W2 (some (w.heap.size + 1)) := by rw [← hW2]; exact grownBy_putObj' W1 _ _
   have hb2 : Abs w0 N0 ZI M2 ⟨s.t, s1.h⟩ a W2 := hgrow hb1 hg12 fun r e => by cases e; exact ⟨by omega, _, hl1, rfl⟩
   have he2 : Abs w0 N0 (q1K W2 M2) M2 s1 a1 W2 := by
    refine Abs.pin (Z := q0w) ((he1.repin (Z2 := q0w) (fun _ _ h => h.elim) (fun _ h => h.elim) (fun _ _ h => by cases h)).grownN hg12 fun r e => ?_)
    cases e
    refine ⟨by have := ha0.below.size; omega, ⟨_, hl1, rfl⟩, fun _ h => h.elim, fun d hd e => ?_⟩
    obtain ⟨D, h1, _, h3, _⟩ := he1.defs.1 d hd
    rw [h1] at e
    have e' : D = w.heap.size + 1 := by simpa using e
    rw [e', hl1] at h3; cases h3
   rw [hW2]
   have hpost : ∀ {M3 : Map} {s3 : DS} {a3 : Act} {W3 : World}, Abs w0 N0 (q1K W2 M2) M3 s3 a3 W3 → W3.heap[w.heap.size + 1]? = some (.loop r') ∧ W3.heap[w.heap.size]? = some (.deferred (some [])) ∧ (∀ o, KpI w (nown M0) R.ty W (W3.putObj (w.heap.size + 1) o)) ∧ Abs w0 N0 ZI M3 ⟨s.t, s3.h⟩ a W3 := by
    intro M3 s3 a3 W3 he3
    refine ⟨(he3.pinned (by omega) (he2.clean hnd1 hl2 rfl)).1.trans hl2, (he3.pinned (by omega) (he2.clean hnd1 hD2 rfl)).1.trans hD2, fun o => ⟨⟨by have q1 := hA.pinSize he1; have q2 := he2.pinSize he3; simp; omega, fun b hb hn => ?_⟩, ?_⟩, hb2.back he3⟩
    ·obtain ⟨p1, p2⟩ := hA.pinN b ⟨hb, hn⟩
     obtain ⟨p3, p4⟩ := he1.pinned p1 p2
     have p5 : W2.heap[b]? = W1.heap[b]? := by rw [← hW2]; exact World.putObj_heap_other (by omega)
     have p6 := (he3.pinned (b := b) (by omega) p4).1
     exact ((World.putObj_heap_other (by omega)).trans p6).trans (p5.trans p3)
    ·unfold tyKept
     split
     ·trivial
     ·rename_i T hRT
      intro b cs p hb
      rw [hRT] at hty
      have hlb : b < W.heap.size := (Array.getElem?_eq_some_iff.1 hb).1
      have hne : b ≠ w.heap.size + 1 := by
       intro e
       rw [e, hlr] at hb
       cases hb
      obtain ⟨p3, p4⟩ := he1.pinned hlb (hA.cleanTy hnd hty hb)
      have hlb1 : b < W1.heap.size := Nat.lt_of_lt_of_le hlb (hA.pinSize he1)
      have p5 : W2.heap[b]? = W1.heap[b]? := by rw [← hW2]; exact World.putObj_heap_other hne
      have p6 := (he3.pinned (b := b) (by omega) p4).1
      exact ((World.putObj_heap_other hne).trans p6).trans (p5.trans p3)
   refine q0m hm hT hS hI body (ro := some (w.heap.size + 1)) (u := true) (q := some []) ⟨(fun h => by cases h), (fun _ h hn => by cases h; exact absurd rfl hn)⟩ (Kn := fun _ _ => True) (Ke := fun _ _ _ => True) (Kr := fun _ _ => True) hok.2 hf2 (Or.inl rfl) he2 (fun M3 s3 a3 W3 hk he3 => ?_) (fun j M3 s3 a3 W3 hk he3 => ?_) (fun M3 s3 a3 W3 hk he3 => ?_) hs1
   ·obtain ⟨p1, p2, p3, p4⟩ := hpost he3
    obtain ⟨M4, s4, q1, q2, q3, q4⟩ := hend hk p4
    exact ⟨p1, p2, p3, M4, s4, q1, q4, q3.trans hop', q2⟩
   ·obtain ⟨p1, p2, p3, p4⟩ := hpost he3
    obtain ⟨M4, s4, q1, q2, q3⟩ := hend hk p4
    exact ⟨p1, p2, p3, M4, s4, q1, q2, q3⟩
   ·obtain ⟨p1, p2, p3, p4⟩ := hpost he3
    obtain ⟨M4, s4, q1, q2, q3⟩ := hend hk p4
    exact ⟨p1, p2, p3, M4, s4, q1, q2, q3⟩
  ·rintro W ⟨M1, s, hA, hJ, hop', hnd⟩ hk
   have hG := hL R.n s hJ
   unfold rfG at hG
   rw [hRop s hop'] at hG
   exact hn _ _ _ _ (hG.1 rfl) (hmark hA hnd hk)
  ·rintro c W ⟨M1, s, hA, hnd, hc⟩ hk
   cases c with
   | ret => exact wpIn_ret (hr _ _ _ _ hc (hmark hA hnd hk))
   | exit j => exact wpIn_exit (he j _ _ _ _ hc (hmark hA hnd hk))
   | _ => exact hc.elim
 | .scope _, _, _, _, _, _, _, _, _, _, _, _, _, _, _, _, _, _, _, _, _, _, _, _, _, _, h | .label _, _, _, _, _, _, _, _, _, _, _, _, _, _, _, _, _, _, _, _, _, _, _, _, _, _, h | .goto _, _, _, _, _, _, _, _, _, _, _, _, _, _, _, _, _, _, _, _, _, _, _, _, _, _, h | .refuse _, _, _, _, _, _, _, _, _, _, _, _, _, _, _, _, _, _, _, _, _, _, _, _, _, _, h => h.elim
def andP : Option Prop → Option Prop → Option Prop
 | none, q => q
 | some p, none => some p
 | some p, some q => some (p ∧ q)
theorem andP_iff {p q : Option Prop} : okP (andP p q) ↔ okP p ∧ okP q := by
 cases p <;> cases q <;> simp [andP, okP]
def resV (T : Tab) (st : DS) : ResultVar → Option (DV × Option Prop)
 | .tmp t => (st.tm t).map fun d => (d, none)
 | .cell a t => ((st.tm a).bind (qc0 T q6m st t)).map fun e => (e.v, e.pr)
def resL (T : Tab) (st : DS) : List ResultVar → Option (List TV × Option Prop)
 | [] => some ([], none)
 | r :: l => match resV T st r, resL T st l with
  | some (.t x, p), some (xs, q) => some (x :: xs, andP p q)
  | _, _ => none
def resE (T : Tab) (st : DS) : List ResultVar → Option (DV × Option Prop)
 | [r] => resV T st r
 | l => (resL T st l).map fun (xs, p) => (.tu xs, p)
def start (args : List DV) (n : Nat) : DS := ⟨args.map some ++ List.replicate (n - args.length) (some noV), List.replicate n none⟩
def ownC : CV → Bool
 | .os _ => true
 | .v (.int _ _) | .v (.bool _) | .v (.string _) | .v (.slice none _ _) => true
 | _ => false
def allB (g : CV → Bool) : List CV → Bool
 | [] => true
 | x :: l => g x && allB g l
def goodTB (g : CV → Bool) : TV → Bool
 | .c x => g x
 | .a l => allB g l
 | .fn _ l => false
 | .fb _ l => false
def qdZ (g : CV → Bool) : List TV → Bool
 | [] => true
 | x :: l => goodTB g x && qdZ g l
def qh9 (g : CV → Bool) : DV → Bool
 | .t x => goodTB g x
 | .tu l => qdZ g l
theorem allB_ok {g : CV → Bool} : ∀ {l : List CV}, allB g l = true → ∀ x ∈ l, g x = true
 | [], _, x, h => by simp at h
 | y :: l, h, x, hx => by
  simp only [allB, Bool.and_eq_true] at h
  rcases List.mem_cons.1 hx with rfl | hx
  ·exact h.1
  ·exact allB_ok h.2 x hx
theorem qio {g : CV → Bool} {x : TV} (h : goodTB g x = true) : q8a g x := by
 cases x with
 | c x => exact h
 | a l => exact allB_ok h
 | fn f l => cases h
 | fb f l => cases h
theorem qg4 {g : CV → Bool} : ∀ {l : List TV}, qdZ g l = true → ∀ x ∈ l, q8a g x
 | [], _, x, h => by simp at h
 | y :: l, h, x, hx => by
  simp only [qdZ, Bool.and_eq_true] at h
  rcases List.mem_cons.1 hx with rfl | hx
  ·exact qio h.1
  ·exact qg4 h.2 x hx
theorem goodDB_ok {g : CV → Bool} {x : DV} (h : qh9 g x = true) : qdU g x := by
 cases x with
 | t x => exact qio h
 | tu l => exact qg4 h
def newV (B : Nat) (v : Value) : Prop := ∀ b off, (v = .pointer (some ⟨b, off, none⟩) ∨ ∃ n cap, v = .slice (some ⟨b, off, none⟩) n cap) → B ≤ b
def newA (B : Nat) : Value → Prop
 | .agg cs => ∀ y ∈ cs.toList, newV B y
 | v => newV B v
def newT (B : Nat) : Value → Prop
 | .tuple vs => ∀ y ∈ vs.toList, newA B y
 | v => newA B v
theorem qjI {B : Nat} {v : Value} (h1 : v.oneCell' = true) : newA B v ↔ newV B v := by
 cases v <;> first | exact Iff.rfl | (simp [Value.oneCell'] at h1; done)
theorem qf1 {α β : Type} {R : α → β → Prop} : ∀ {l : List α} {m : List β}, All2 R l m → ∀ y ∈ m, ∃ x ∈ l, R x y
 | [], [], _, y, hy => by simp at hy
 | a :: l, b :: m, h, y, hy => by
  rcases List.mem_cons.1 hy with rfl | hy
  ·exact ⟨a, by simp, h.1⟩
  ·obtain ⟨x, h1, h2⟩ := qf1 h.2 y hy; exact ⟨x, by simp [h1], h2⟩
 | [], _ :: _, h, _, _ => h.elim
 | _ :: _, [], h, _, _ => h.elim
theorem newA_of {R : CV → Value → Prop} {B : Nat} (h1 : ∀ x v, R x v → v.oneCell' = true) {x : TV} {v : Value} (g : RelT (fun x v => R x v ∧ newV B v) x v) : newA B v := by
 cases x with
 | c x => exact (qjI (h1 x v g.1)).2 g.2
 | a l =>
  obtain ⟨vs, rfl, g⟩ := g
  intro y hy
  obtain ⟨x, _, g2⟩ := qf1 g y (by simpa using hy)
  exact g2.2
 | fn f l =>
  obtain ⟨vs, rfl, g⟩ := g
  intro b off hb
  rcases hb with hb | ⟨n, cap, hb⟩ <;> cases hb
 | fb f l =>
  obtain ⟨vs, rfl, g⟩ := g
  intro b off hb
  rcases hb with hb | ⟨n, cap, hb⟩ <;> cases hb
theorem newT_tt {R : CV → Value → Prop} {B : Nat} (h1 : ∀ x v, R x v → v.oneCell' = true) {x : TV} {v : Value} (g : RelT R x v) : newT B v ↔ newA B v := by
 cases x with
 | c x =>
  have := h1 x v g
  cases v <;> first | exact Iff.rfl | (simp [Value.oneCell'] at this; done)
 | a l => obtain ⟨vs, rfl, g⟩ := g; exact Iff.rfl
 | fn f l => obtain ⟨vs, rfl, g⟩ := g; exact Iff.rfl
 | fb f l => obtain ⟨vs, rfl, g⟩ := g; exact Iff.rfl
theorem newT_of {R : CV → Value → Prop} {B : Nat} (h1 : ∀ x v, R x v → v.oneCell' = true) {d : DV} {v : Value} (g : RelD (fun x v => R x v ∧ newV B v) d v) : newT B v := by
 cases d with
 | t x => exact (newT_tt (R := R) h1 (x := x) (RelT.mono (fun _ _ g => g.1) g)).2 (newA_of h1 g)
 | tu l =>
  obtain ⟨vs, rfl, g⟩ := g
  intro y hy
  obtain ⟨x, _, g2⟩ := qf1 g y (by simpa using hy)
  exact newA_of h1 g2
def qha : CV → Prop
 | .v _ => True
 | .sl sz n c => ∀ i j, i < n → j < sz → ∃ y, c i j = .v y
 | _ => False
def qhb : TV → Prop
 | .c x => qha x
 | .a l => ∀ x ∈ l, qha x
 | .fn _ _ => False
 | .fb _ _ => False
def plainD : DV → Prop
 | .t x => qhb x
 | .tu l => ∀ x ∈ l, qhb x
theorem qjJ {w : World} {N N' : Nat → Prop} {B : Nat} (hN : ∀ b, B ≤ b → N' b) {x : CV} {v : Value} (hp : qha x) (h : RelF w N x v) (hn : newV B v) : RelF w N' x v := by
 cases x with
 | v y => exact h
 | sl sz n c =>
  obtain ⟨ao, cap, h1, h2, h3, h4, h5⟩ := h
  refine ⟨ao, cap, h1, h2, h3, h4, fun h0 => ?_⟩
  obtain ⟨b, off, g1, g2, g3, g4⟩ := h5 h0
  refine ⟨b, off, g1, g2, hN b (hn b off (Or.inr ⟨n, cap, by rw [h1, g1]⟩)), fun i j hi hj => ?_⟩
  obtain ⟨y, e1, e2⟩ := g4 i j hi hj
  obtain ⟨z, hz⟩ := hp i j hi hj
  exact ⟨y, e1, by rw [hz] at e2 ⊢; exact e2⟩
 | _ => exact hp.elim
theorem qip {w : World} {N N' : Nat → Prop} {B : Nat} (hN : ∀ b, B ≤ b → N' b) : ∀ {l : List CV} {vs : List Value}, (∀ x ∈ l, qha x) → All2 (RelF w N) l vs → (∀ y ∈ vs, newV B y) → All2 (RelF w N') l vs
 | [], [], _, _, _ => trivial
 | x :: l, v :: vs, hp, h, hn => ⟨qjJ hN (hp x (by simp)) h.1 (hn v (by simp)), qip hN (fun y hy => hp y (by simp [hy])) h.2 (fun y hy => hn y (by simp [hy]))⟩
 | [], _ :: _, _, h, _ => h.elim
 | _ :: _, [], _, h, _ => h.elim
theorem qjK {w : World} {N N' : Nat → Prop} {B : Nat} (hN : ∀ b, B ≤ b → N' b) {x : TV} {v : Value} (hp : qhb x) (h : RelT (RelF w N) x v) (hn : newA B v) : RelT (RelF w N') x v := by
 cases x with
 | c x => exact qjJ hN hp h ((qjI (RelF.one h)).1 hn)
 | a l => obtain ⟨vs, rfl, g⟩ := h; exact ⟨vs, rfl, qip hN hp g (fun y hy => hn y (by simpa using hy))⟩
 | fn f l => exact hp.elim
 | fb f l => exact hp.elim
theorem qiq {w : World} {N N' : Nat → Prop} {B : Nat} (hN : ∀ b, B ≤ b → N' b) : ∀ {l : List TV} {vs : List Value}, (∀ x ∈ l, qhb x) → All2 (RelT (RelF w N)) l vs → (∀ y ∈ vs, newA B y) → All2 (RelT (RelF w N')) l vs
 | [], [], _, _, _ => trivial
 | x :: l, v :: vs, hp, h, hn => ⟨qjK hN (hp x (by simp)) h.1 (hn v (by simp)), qiq hN (fun y hy => hp y (by simp [hy])) h.2 (fun y hy => hn y (by simp [hy]))⟩
 | [], _ :: _, _, h, _ => h.elim
 | _ :: _, [], _, h, _ => h.elim
theorem fresh_dv {w : World} {N N' : Nat → Prop} {B : Nat} (hN : ∀ b, B ≤ b → N' b) {d : DV} {v : Value} (hp : plainD d) (h : RelD (RelF w N) d v) (hn : newT B v) : RelD (RelF w N') d v := by
 cases d with
 | t x => exact qjK hN hp h ((newT_tt (fun _ _ g => RelF.one g) h).1 hn)
 | tu l => obtain ⟨vs, rfl, g⟩ := h; exact ⟨vs, rfl, qiq hN hp g (fun y hy => hn y (by simpa using hy))⟩
def retK (T : Tab) (fr : Bool) (fn : Func) (post : DV → Prop) (st : DS) : Prop := match resE T st fn.results.toList with
 | some (d, p) => match toFD st q6m d with
  | some r => bif !fr || qh9 ownC d then (match p with
   | none => post r
   | some p => p ∧ post r) else False
  | none => False
 | none => False
def evFn (P : Program) (T : Tab) (S : Sum) (ann : Ann) (J : Inv) (fn : Func) (args : List DV) (post : DV → Prop) : Prop := match fn.body with
 | some c => ev P T S ann J c 0 [] (retK T ann.fr fn post) (fun _ _ => False) (retK T ann.fr fn post) (start args fn.ntmps)
 | none => False
def qz (P : Program) (T : Tab) (S : Sum) (ann : Ann) (J : Inv) (fn : Func) (post : DV → Prop) : List Ent := match fn.body with
 | some c => loops P T S ann J c 0 (fun _ => retK T ann.fr fn post) (fun _ _ _ => False) (fun _ => retK T ann.fr fn post)
 | none => []
def round (P : Program) (T : Tab) (S : Sum) (ann : Ann) (J : Inv) (fn : Func) (post : DV → Prop) (i : Nat) (F : List Nat) (s : DS) : Prop := match (qz P T S ann J fn post)[i]? with
 | some (.lp _ G) => G F s
 | some (.rf _ G) => (match F with
  | [i] => G i s
  | _ => True)
 | none => True
def okFn (ann : Ann) (fn : Func) : Bool := match fn.body with
 | some c => q0I ann c && q0V ann false none c 0
 | none => false
def resS (tmps : Array Value) (r : ResultVar) : Sem Value := match r with
 | .tmp t => pure (tmps.getD t undef)
 | .cell x t => do loadVar t (← asAddr (tmps.getD x undef))
theorem qjL (hT : TabOK P T) {st : DS} (ha : Abs w0 N0 Z M st a w) {r : ResultVar} {d : DV} {p : Option Prop} (h : resV T st r = some (d, p)) (hp : okP p) :
  ∃ v, (resS a.tmps r).run P w = .ok v w ∧ RelD (RelC w (fgn w0 N0 M) M) d v := by
 cases r with
 | tmp t =>
  simp only [resV, Option.map_eq_some_iff, Prod.mk.injEq] at h
  obtain ⟨d', h1, rfl, _⟩ := h
  obtain ⟨v, h2, h3⟩ := ha.tmp t _ h1
  exact ⟨v, by simp [resS, Array.getD_eq_getD_getElem?, h2], h3⟩
 | cell x t =>
  simp only [resV, Option.map_eq_some_iff, Prod.mk.injEq] at h
  obtain ⟨e, h1, rfl, rfl⟩ := h
  let o : Oper := { dst := none, op := .load t (.tmp x), type := 0, pos := "", after := #[], guard := none }
  obtain ⟨_, v, h2, h3⟩ := load_ok (P := P) (o := o) (T := T) (forb := q6m) hT ha (x := .tmp x) (t := t) rfl h1 hp
  refine ⟨v, ?_, h3⟩
  have hptr : ∃ ad, a.eval (.tmp x) = .pointer (some ad) := by
   simp only [Option.bind_eq_some_iff] at h1
   obtain ⟨d, g1, g2⟩ := h1
   have g3 := qw (x := .tmp x) ha g1
   unfold qc0 at g2
   split at g2
   ·obtain ⟨b, _, hv⟩ := g3; exact ⟨_, hv⟩
   ·obtain ⟨b, o1, hv, _⟩ := g3; exact ⟨_, hv⟩
   ·obtain ⟨b, n, cap, _, hv⟩ := g3; exact ⟨_, hv⟩
   ·cases g2
  obtain ⟨ad, had⟩ := hptr
  have hd : a.tmps.getD x undef = .pointer (some ad) := had
  unfold execOp at h2
  simp only [o, had, Instr.loadAt, Instr.sureAddr, Sem.run_bind, Sem.run_pure, Result.andThen_ok] at h2
  simp only [resS, hd, asAddr, Sem.run_bind, Sem.run_pure, Result.andThen_ok]
  cases hr : (loadVar t ad).run P w with
  | ok v' w' => rw [hr] at h2; simp at h2; rw [h2.1, h2.2]
  | halt e w' => rw [hr] at h2; simp at h2
theorem qf2 (hT : TabOK P T) {st : DS} (ha : Abs w0 N0 Z M st a w) : ∀ {l : List ResultVar} {xs : List TV} {p : Option Prop}, resL T st l = some (xs, p) → okP p →
  ∃ vs, (l.mapM (resS a.tmps)).run P w = .ok vs w ∧ All2 (RelT (RelC w (fgn w0 N0 M) M)) xs vs
 | [], xs, p, h, hp => by
  simp only [resL, Option.some.injEq, Prod.mk.injEq] at h
  obtain ⟨rfl, rfl⟩ := h
  exact ⟨[], by simp, trivial⟩
 | r :: l, xs, p, h, hp => by
  simp only [resL] at h
  split at h
  ·rename_i x p1 ys p2 h1 h2
   simp only [Option.some.injEq, Prod.mk.injEq] at h
   obtain ⟨rfl, rfl⟩ := h
   have hp' := andP_iff.1 hp
   obtain ⟨v, g1, g2⟩ := qjL hT ha h1 hp'.1
   obtain ⟨vs, g3, g4⟩ := qf2 hT ha h2 hp'.2
   refine ⟨v :: vs, ?_, g2, g4⟩
   rw [List.mapM_cons]
   simp only [Sem.run_bind]
   rw [g1]
   simp only [Result.andThen_ok, Sem.run_bind]
   rw [g3]
   simp
  ·cases h
theorem qbm (hT : TabOK P T) {st : DS} (ha : Abs w0 N0 Z M st a w) {fn : Func} {d : DV} {p : Option Prop} (h : resE T st fn.results.toList = some (d, p)) (hp : okP p) : ∃ v, (results fn a.tmps).run P w = .ok v w ∧ RelD (RelC w (fgn w0 N0 M) M) d v := by
 have key : ∀ vs : List Value, (fn.results.toList.mapM (resS a.tmps)).run P w = .ok vs w → (results fn a.tmps).run P w = .ok (if h : vs.length = 1 then vs[0] else .tuple vs.toArray) w := by
  intro vs hvs
  have h1 : results fn a.tmps = (do
    let vs ← fn.results.mapM (resS a.tmps)
    pure (if h : vs.size = 1 then vs[0] else .tuple vs)) := rfl
  rw [h1, Array.mapM_eq_mapM_toList]
  simp only [Sem.run_bind, Sem.run_map]
  rw [hvs]
  simp only [Result.andThen_ok, Sem.run_pure]
  congr 1
 generalize fn.results.toList = rs at h key
 match rs, h with
 | [r], h =>
  simp only [resE] at h
  obtain ⟨v, g1, g2⟩ := qjL hT ha h hp
  refine ⟨v, ?_, g2⟩
  have := key [v] (by
   rw [List.mapM_cons]
   simp only [Sem.run_bind]
   rw [g1]
   simp)
  simpa using this
 | [], h =>
  simp only [resE, Option.map_eq_some_iff, Prod.mk.injEq] at h
  obtain ⟨⟨xs, q⟩, h1, rfl, rfl⟩ := h
  obtain ⟨vs, g1, g2⟩ := qf2 hT ha h1 hp
  have hl : xs.length = vs.length := g2.length
  simp only [resL, Option.some.injEq, Prod.mk.injEq] at h1
  rw [← h1.1] at hl
  refine ⟨_, key vs g1, ?_⟩
  rw [dif_neg (by simp at hl; omega)]
  exact ⟨vs, rfl, g2⟩
 | r1 :: r2 :: l, h =>
  simp only [resE, Option.map_eq_some_iff, Prod.mk.injEq] at h
  obtain ⟨⟨xs, q⟩, h1, rfl, rfl⟩ := h
  obtain ⟨vs, g1, g2⟩ := qf2 hT ha h1 hp
  have hl : xs.length = vs.length := g2.length
  have hx : 2 ≤ xs.length := by
   simp only [resL] at h1
   split at h1
   ·rename_i x p1 ys p2 e1 e2
    simp only [Option.some.injEq, Prod.mk.injEq] at h1
    split at e2
    ·rename_i y p3 zs p4 e3 e4
     simp only [Option.some.injEq, Prod.mk.injEq] at e2
     rw [← h1.1, ← e2.1]; simp
    ·cases e2
   ·cases h1
  refine ⟨_, key vs g1, ?_⟩
  rw [dif_neg (by omega)]
  exact ⟨vs, rfl, g2⟩
theorem qir (hm : P.follows .mixedOrders = true) (hT : TabOK P T) (hS : Valid P S) {ann : Ann} (hI : ValidIt P ann.it) {J : Inv} {f : FuncId} {fn : Func} (hf : P.funcs[f]? = some fn) (hok : okFn ann fn = true) {args : List DV} {post : DV → Prop} (h : evFn P T S ann J fn args post) (hL : AllG J (qz P T S ann J fn post)) (hlen : args.length ≤ fn.ntmps)
  (W : World) (N : Nat → Prop) (vs : List Value) (hG : Gd W) (hargs : All2 (RelD (RelF W N)) args vs) :
  Calls P f vs.toArray W fun e w' => ∃ v r, e = .returned v ∧ post r ∧ RelD (RelF w' (resN W N .no)) r v ∧ Below W.heap.size W w' ∧ (ann.fr = true → newT W.heap.size v) := by
 have hvl := hargs.length
 unfold evFn at h
 unfold qz at hL
 unfold okFn at hok
 cases hb : fn.body with
 | none => rw [hb] at h; exact h.elim
 | some c =>
 rw [hb] at h hL hok
 simp only at h hL
 simp only [Bool.and_eq_true] at hok
 have hstart : Abs W N q0w (fun _ => none) (start args fn.ntmps) { tmps := vs.toArray ++ Array.replicate (fn.ntmps - vs.toArray.size) undef, defers := [] } W := by
  refine ⟨Below.refl _ _, by simp [start, hvl], Marks.nil hG, fun i dv hi => ?_, fun k r hr => ?_, fun _ _ => rfl, (fun k l b h1 _ => by cases h1), (fun k k' r r' l l' b _ _ _ _ h1 _ _ _ => by cases h1), (fun _ _ h => h.elim), (fun _ h => h.elim), (fun _ _ h => by cases h), (fun _ _ _ _ => Nat.zero_le _)⟩
  ·unfold DS.tm start at hi
   simp only at hi
   by_cases hlt : i < args.length
   ·rw [List.getElem?_append_left (by simpa using hlt), List.getElem?_map] at hi
    have e1 : args[i]? = some dv := by
     cases e : args[i]? with
     | none => rw [e] at hi; cases hi
     | some x => rw [e] at hi; simpa using hi
    obtain ⟨v, e2, e3⟩ := hargs.get e1
    refine ⟨v, ?_, RelD.mono (fun x u g => RelC.ofF (RelF.mono (Nat.le_refl _) (fun _ _ _ _ => rfl) (fun b hb hl => ⟨fun _ => hb, fun k l h => by cases h⟩) x g)) e3⟩
    rw [Array.getElem?_append_left (by simp; omega)]
    simpa using e2
   ·rw [List.getElem?_append_right (by simpa using hlt), List.getElem?_replicate] at hi
    split at hi
    ·rename_i h2
     simp only [Option.join_some, Option.some.injEq] at hi
     subst hi
     simp only [List.length_map] at h2
     refine ⟨undef, ?_, [], rfl, trivial⟩
     rw [Array.getElem?_append_right (by simp; omega), Array.getElem?_replicate, if_pos (by simp; omega)]
    ·cases hi
  ·unfold DS.at start at hr
   simp only [List.getElem?_replicate] at hr
   split at hr <;> cases hr
 have hret : ∀ M' st' a' w', retK T ann.fr fn post st' → Abs W N q0w M' st' a' w' → ∃ v, (results fn a'.tmps).run P w' = .ok v w' ∧ ∃ v' r, Ending.returned v = .returned v' ∧ post r ∧ RelD (RelF w' (resN W N .no)) r v' ∧ Below W.heap.size W w' ∧ (ann.fr = true → newT W.heap.size v') := by
  intro M' st' a' w' hk ha'
  unfold retK at hk
  split at hk
  ·rename_i d p hres
   split at hk
   ·rename_i r hr
    have hk' : (okP p ∧ post r) ∧ (ann.fr = true → qh9 ownC d = true) := by
     cases e : (!ann.fr || qh9 ownC d) with
     | false => rw [e] at hk; exact hk.elim
     | true =>
      rw [e] at hk
      refine ⟨?_, fun h => by rw [h] at e; simpa using e⟩
      cases p with
      | none => exact ⟨trivial, hk⟩
      | some p => exact hk
    obtain ⟨hk', hfr⟩ := hk'
    obtain ⟨v, g1, g2⟩ := qbm hT ha' hres hk'.1
    refine ⟨v, g1, v, r, rfl, hk'.2, ?_, ha'.below, fun hf => ?_⟩
    rotate_left
    ·have hB : ∀ {x y : CV} {u : Value}, ownC x = true → toF st' q6m x = some y → RelC w' (fgn W N M') M' x u → RelF w' (fun _ => True) y u ∧ newV W.heap.size u := by
      intro x y u h0 h1 h2
      refine ⟨qdK ha' (N := fun _ => True) (fun _ _ => trivial) (fun _ _ => trivial) h1 h2, ?_⟩
      cases x with
      | os k =>
       intro b off hb
       rcases hb with hb | ⟨n, cap, hb⟩
       ·rcases h2.2 with e | ⟨_, _, _, e⟩ <;> rw [hb] at e <;> cases e
       ·exact (ha'.own k _ b h2.1 (by rw [hb]; rfl)).1
      | v z =>
       have e : u = z := h2.1
       subst e
       intro b off hb
       rcases hb with rfl | ⟨n, cap, rfl⟩ <;> simp [ownC] at h0
      | _ => simp [ownC] at h0
     exact newT_of (R := RelF w' (fun _ => True)) (fun _ _ g => RelF.one g) (q8l (R := RelC w' (fgn W N M') M') (R' := fun y u => RelF w' (fun _ => True) y u ∧ newV W.heap.size u) ownC (fun x y u h0 h1 h2 => hB h0 h1 h2) (goodDB_ok (hfr hf)) hr g2)
    refine q8l (R := RelC w' (fgn W N M') M') (fun _ => true) (fun x y u _ h1 h2 => qdK ha' (N := resN W N .no) (fun b hb => ?_) (fun b hb => Or.inr hb) h1 h2) qcI hr g2
    by_cases e : b < W.heap.size
    ·exact Or.inl ⟨rfl, hb.1 e⟩
    ·exact Or.inr (by omega)
   ·exact hk.elim
  ·exact hk.elim
 have hleave : ∀ (ds : List Deferred) (M' : Map) (st' : DS) (a' : Act) (w' : World), a'.defers = ds → retK T ann.fr fn post st' → Abs W N q0w M' st' a' w' → LeavesInM Fence.wide 0 P fn a'.tmps (fun e w' => ∃ v r, e = .returned v ∧ post r ∧ RelD (RelF w' (resN W N .no)) r v ∧ Below W.heap.size W w' ∧ (ann.fr = true → newT W.heap.size v)) ds .returning w' := by
  intro ds
  induction ds with
  | nil =>
   intro M' st' a' w' _ hk ha'
   exact hret M' st' a' w' hk ha'
  | cons d ds ih =>
   intro M' st' a' w' hd hk ha'
   obtain ⟨D, h1, h2, h3, h4⟩ := ha'.defs.1 d (by rw [hd]; simp)
   refine ⟨by simp, Or.inl ⟨D, _, by rw [h1], run_takeDeferred h3, ?_⟩⟩
   have hm2 := ha'.defs
   rw [hd] at hm2
   have ha2 : Abs W N q0w M' st' { a' with defers := ds } w' := ⟨ha'.below, ha'.fits, ⟨fun d' hd' => hm2.1 d' (by simp [hd']), (List.pairwise_cons.1 hm2.2.1).2, hm2.2.2⟩, ha'.tmp, ha'.row, ha'.dom, ha'.own, ha'.apart, ha'.pinB, ha'.pinN, ha'.pinK, fun _ _ _ _ => Nat.zero_le _⟩
   refine ih M' st' { a' with defers := ds } _ rfl hk (ha2.grownN (grownBy_putObj' w' D _) fun r e => ?_)
   cases e
   exact ⟨h2, ⟨_, h3, rfl⟩, fun _ h => h.elim, fun d' hd' e => (List.pairwise_cons.1 hm2.2.1).1 d' hd' (by rw [e, h1])⟩
 refine (callsIn_wide (n := 0)).1 (callsIn_of_wp_marks hf hb trivial ?_)
 refine q0m hm hT hS hI c (ro := none) (q := none) ⟨fun _ => ⟨rfl, rfl⟩, (fun _ h => by cases h)⟩ hok.1 hok.2 (Or.inr ⟨hL, rfl, rfl, rfl⟩) hstart (fun M' st' a' w' hk ha' => ?_) (fun i M' st' a' w' hk _ => hk.elim) (fun M' st' a' w' hk ha' => ?_) h
 ·exact hleave _ M' st' a' w' rfl hk ha'
 ·exact hleave _ M' st' a' w' rfl hk ha'
theorem qf3 (hm : P.follows .mixedOrders = true) (hT : TabOK P T) (hS : Valid P S) {ann : Ann} (hI : ValidIt P ann.it) {J : Inv} {f : FuncId} {fn : Func} (hf : P.funcs[f]? = some fn) (hok : okFn ann fn = true) {args : List DV} {post : DV → Prop} (h : evFn P T S ann J fn args post) (hL : AllG J (qz P T S ann J fn post)) (hlen : args.length ≤ fn.ntmps)
  (W : World) (N : Nat → Prop) (vs : List Value) (hG : Gd W) (hargs : All2 (RelD (RelF W N)) args vs) :
  Calls P f vs.toArray W fun e w' => ∃ v r, e = .returned v ∧ post r ∧ RelD (RelF w' (resN W N .no)) r v ∧ Below W.heap.size W w' :=
 Calls.mono (qir hm hT hS hI hf hok h hL hlen W N vs hG hargs) fun e w' ⟨v, r, h1, h2, h3, h4, _⟩ => ⟨v, r, h1, h2, h3, h4⟩
end Go.Proofs.YtfadkjcfjkmalaaGreatDoor.Ev
namespace Go.Proofs.YtfadkjcfjkmalaaGreatDoor.Ev
open Go.RowKit
@[irreducible] def lt {α : Type} (v : α) (k : α → Prop) : Prop := k v
theorem lt_i {α : Type} {v : α} {k : α → Prop} (h : ∀ x, v = x → k x) : lt v k := by unfold lt; exact h v rfl
theorem qg {b : Bool} {A B : Prop} (h1 : b = true → A) (h2 : b = false → B) : cond b A B := by cases b; exact h2 rfl; exact h1 rfl
@[reducible] def wr (n : Int) : Int := IntKind.i64.wrap n
def qr {α : Type} (k : Nat) : List (Nat × α) → Option α
 | [] => none
 | (j, x) :: l => bif Nat.beq k j then some x else qr k l
theorem qis {α : Type} {k : Nat} {x : α} : ∀ {l : List (Nat × α)}, qr k l = some x → (k, x) ∈ l
 | (j, y) :: l, h => by
  simp only [qr] at h
  cases e : Nat.beq k j with
  | true => rw [e] at h; cases h; rw [Nat.eq_of_beq_eq_true e]; simp
  | false => rw [e] at h; exact List.mem_cons_of_mem _ (qis h)
theorem tab_of {P : Program} {l : List (Nat × TyI)} (h : ∀ p ∈ l, TyOK P p.1 p.2) : TabOK P (fun t => qr t l) := fun t i hi => h (t, i) (qis hi)
@[reducible] def Con := List DV → Option (DV × Option Prop × Fre)
def Ok (P : Program) (f : FuncId) (F : Con) : Prop := ∀ args r pre fresh, F args = some (r, pre, fresh) → okP pre → Enters P f ∧ ∀ (W : World) (N : Nat → Prop) (vs : List Value), Gd W → CallOk W N args vs fresh →
  Calls P f vs.toArray W fun e w' => ∃ v, e = .returned v ∧ RetOk W N w' r v fresh ∧ FrameOk W vs w' fresh
def noS : Sum := fun _ _ => none
def addS (S : Sum) (f : FuncId) (F : Con) : Sum := fun g args => bif Nat.beq g f then F args else S g args
theorem Valid.no {P : Program} : Valid P noS := fun f args r pre fresh h => by simp [noS] at h
theorem Valid.add {P : Program} {S : Sum} {f : FuncId} {F : Con} (h : Valid P S) (hF : Ok P f F) : Valid P (addS S f F) := by
 intro g args r pre fresh h1 h2
 unfold addS at h1
 cases e : Nat.beq g f with
 | true => rw [e] at h1; rw [Nat.eq_of_beq_eq_true e]; exact hF args r pre fresh h1 h2
 | false => rw [e] at h1; exact h g args r pre fresh h1 h2
theorem Enters.of {P : Program} {f : FuncId} {fn : Func} (hf : P.funcs[f]? = some fn) (hn : (fn.name == "runtime.NumGoroutine") = false) (hb : fn.body.isNone = false) : Enters P f := by
 intro args w
 have h1 : fn.name ≠ "runtime.NumGoroutine" := by simpa using hn
 have h2 : fn.body ≠ none := by intro h; rw [h] at hb; cases hb
 simp [callFunc, program, Sem.run, hf, h1, h2]
def LeD (r' r : DV) : Prop := ∀ w N v, RelD (RelF w N) r' v → RelD (RelF w N) r v
theorem LeD.refl (r : DV) : LeD r r := fun _ _ _ h => h
theorem LeD.of {r' r : DV} (h : r' = r) : LeD r' r := h ▸ LeD.refl _
def LeA (al bs : List DV) : Prop := ∀ w N vs, All2 (RelD (RelF w N)) al vs → All2 (RelD (RelF w N)) bs vs
theorem LeA.refl (al : List DV) : LeA al al := fun _ _ _ h => h
theorem Ok.fn {P : Program} {T : Tab} {S : Sum} (hm : P.follows .mixedOrders = true) (hT : TabOK P T) (hS : Valid P S) {ann : Ann} (hI : ValidIt P ann.it) {f : FuncId} {fn : Func} (hf : P.funcs[f]? = some fn) (hn : (fn.name == "runtime.NumGoroutine") = false) (hok : okFn ann fn = true) {F : Con}
  (h : ∀ args r pre fresh, F args = some (r, pre, fresh) → okP pre → fresh = .no ∧ ∃ (J : Inv) (al : List DV), LeA args al ∧ al.length ≤ fn.ntmps ∧ evFn P T S ann J fn al (fun r' => LeD r' r) ∧ AllG J (qz P T S ann J fn (fun r' => LeD r' r))) : Ok P f F := by
 intro args r pre fresh h1 h2
 obtain ⟨rfl, J, al, g1, g2, g3, g4⟩ := h args r pre fresh h1 h2
 have hb : fn.body.isNone = false := by
  unfold okFn at hok
  cases e : fn.body with
  | none => rw [e] at hok; cases hok
  | some c => rfl
 refine ⟨Enters.of hf hn hb, fun W N vs hG hv => ?_⟩
 refine Calls.mono (qf3 hm hT hS hI hf hok g3 g4 g2 W N vs hG (g1 W N vs hv)) ?_
 rintro e w' ⟨v, r', rfl, k1, k2, k3⟩
 exact ⟨v, rfl, k1 _ _ _ k2, k3⟩
theorem Ok.fnFr {P : Program} {T : Tab} {S : Sum} (hm : P.follows .mixedOrders = true) (hT : TabOK P T) (hS : Valid P S) {ann : Ann} (hI : ValidIt P ann.it) (hfr : ann.fr = true) {f : FuncId} {fn : Func} (hf : P.funcs[f]? = some fn) (hn : (fn.name == "runtime.NumGoroutine") = false) (hok : okFn ann fn = true) {F : Con}
  (h : ∀ args r pre fresh, F args = some (r, pre, fresh) → okP pre → fresh = .new ∧ plainD r ∧ ∃ (J : Inv) (al : List DV), LeA args al ∧ al.length ≤ fn.ntmps ∧ evFn P T S ann J fn al (fun r' => LeD r' r) ∧ AllG J (qz P T S ann J fn (fun r' => LeD r' r))) : Ok P f F := by
 intro args r pre fresh h1 h2
 obtain ⟨rfl, hpl, J, al, g1, g2, g3, g4⟩ := h args r pre fresh h1 h2
 have hb : fn.body.isNone = false := by
  unfold okFn at hok
  cases e : fn.body with
  | none => rw [e] at hok; cases hok
  | some c => rfl
 refine ⟨Enters.of hf hn hb, fun W N vs hG hv => ?_⟩
 refine Calls.mono (qir hm hT hS hI hf hok g3 g4 g2 W N vs hG (g1 W N vs hv)) ?_
 rintro e w' ⟨v, r', rfl, k1, k2, k3, k4⟩
 exact ⟨v, rfl, fresh_dv (B := W.heap.size) (fun b hb => Or.inr hb) hpl (k1 _ _ _ k2) (k4 hfr), k3⟩
theorem Ok.one {P : Program} {T : Tab} {S : Sum} (hm : P.follows .mixedOrders = true) (hT : TabOK P T) (hS : Valid P S) {ann : Ann} (hI : ValidIt P ann.it) {f : FuncId} {fn : Func} (hf : P.funcs[f]? = some fn) (hn : (fn.name == "runtime.NumGoroutine") = false) (hok : okFn ann fn = true) {args : List DV} {r : DV} (hlen : args.length ≤ fn.ntmps) {J : Inv}
  (hev : evFn P T S ann J fn args (fun r' => LeD r' r)) (hL : AllG J (qz P T S ann J fn (fun r' => LeD r' r))) : Enters P f ∧ ∀ (W : World) (N : Nat → Prop) (vs : List Value), Gd W → All2 (RelD (RelF W N)) args vs →
  Calls P f vs.toArray W fun e w' => ∃ v, e = .returned v ∧ RetOk W N w' r v .no ∧ Below W.heap.size W w' := by
 have hb : fn.body.isNone = false := by
  unfold okFn at hok
  cases e : fn.body with
  | none => rw [e] at hok; cases hok
  | some c => rfl
 refine ⟨Enters.of hf hn hb, fun W N vs hG hv => ?_⟩
 refine Calls.mono (qf3 hm hT hS hI hf hok hev hL hlen W N vs hG hv) ?_
 rintro e w' ⟨v, r', rfl, k1, k2, k3⟩
 exact ⟨v, rfl, k1 _ _ _ k2, k3⟩
def qdF : List DV → Option (List Value)
 | [] => some []
 | d :: l => match q3x d, qdF l with
  | some v, some vs => some (v :: vs)
  | _, _ => none
theorem qit {w : World} {N : Nat → Prop} : ∀ {l : List DV} {vs us : List Value}, qdF l = some vs → All2 (RelD (RelF w N)) l us → us = vs
 | [], vs, [], h, _ => by simp only [qdF, Option.some.injEq] at h; exact h
 | d :: l, vs, u :: us, h, g => by
  simp only [qdF] at h
  split at h
  ·rename_i v ws h1 h2
   cases h
   rw [q5H (fun y u h => h.1) h1 g.1, qit h2 g.2]
  ·cases h
 | [], _, _ :: _, _, g => g.elim
 | _ :: _, _, [], _, g => g.elim
theorem Ok.old {P : Program} {f : FuncId} (hen : Enters P f) {F : Con} (h : ∀ args r pre fresh, F args = some (r, pre, fresh) → okP pre → fresh = .no ∧ ∃ vs v, qdF args = some vs ∧ q3x r = some v ∧ (∀ w N, RelD (RelF w N) r v) ∧ ∀ W, Calls P f vs.toArray W fun e w' => e = .returned v ∧ Below W.heap.size W w') : Ok P f F := by
 intro args r pre fresh h1 h2
 obtain ⟨rfl, vs, v, g1, g2, g3, g4⟩ := h args r pre fresh h1 h2
 refine ⟨hen, fun W N us _ hu => ?_⟩
 rw [qit g1 hu]
 exact Calls.mono (g4 W) fun e w' ⟨e1, e2⟩ => ⟨v, e1, g3 _ _, e2⟩
theorem RelF.sl {w : World} {N : Nat → Prop} {sz n : Nat} {c c' : Nat → Nat → CV} {v : Value} (h : RelF w N (.sl sz n c) v) (hc : ∀ i j, i < n → j < sz → c i j = c' i j) : RelF w N (.sl sz n c') v := by
 obtain ⟨ao, cap, h1, h2, h3, h4, h5⟩ := h
 refine ⟨ao, cap, h1, h2, h3, h4, fun h0 => ?_⟩
 obtain ⟨b, off, g1, g2, g3, g4⟩ := h5 h0
 exact ⟨b, off, g1, g2, g3, fun i j hi hj => by rw [← hc i j hi hj]; exact g4 i j hi hj⟩
def qj (sz n : Nat) (c : Nat → Nat → CV) : Prop := ∀ i j, i < n → j < sz → c i j = .v (.int .i64 (qb (c i j)))
def qa {α : Type} (n : Nat) (mk : (Nat → Int) → α) (c : Nat → Nat → CV) : List α := (List.range n).map fun i => mk fun j => qb (c i j)
theorem qiu {α : Type} {n : Nat} {mk : (Nat → Int) → α} {c : Nat → Nat → CV} : (qa n mk c).length = n := by simp [qa]
theorem q7i {α : Type} {n : Nat} {mk : (Nat → Int) → α} {c : Nat → Nat → CV} {i : Nat} {d : α} (h : i < n) : (qa n mk c).getD i d = mk fun j => qb (c i j) := by simp [qa, List.getD, h]
theorem q8p {α : Type} {l : List α} (d : α) {mk : (Nat → Int) → α} {c : Nat → Nat → CV} (h : ∀ i, i < l.length → mk (fun j => qb (c i j)) = l.getD i d) : qa l.length mk c = l := by
 apply List.ext_getElem?
 intro i
 by_cases hi : i < l.length
 ·rw [qa, List.getElem?_map, List.getElem?_range hi, Option.map_some, h i hi]
  simp [List.getD, hi]
 ·rw [List.getElem?_eq_none (by simpa [qa] using hi), List.getElem?_eq_none (by omega)]
theorem qM : LeA [] [] := LeA.refl _
theorem qk {a b : DV} {al bs : List DV} (h : LeD a b) (h2 : LeA al bs) : LeA (a :: al) (b :: bs) := by
 intro w N vs g
 match vs, g with
 | v :: vs, g => exact ⟨h w N v g.1, h2 w N vs g.2⟩
 | [], g => exact g.elim
theorem leL {α : Type} {sz n : Nat} {c : Nat → Nat → CV} {mk : (Nat → Int) → α} {acc : List α → Nat → Nat → CV} (hp : qj sz n c) (ha : ∀ i j, i < n → j < sz → acc (qa n mk c) i j = .v (.int .i64 (qb (c i j)))) : LeD (.t (.c (.sl sz n c))) (.t (.c (.sl sz (qa n mk c).length (acc (qa n mk c))))) := by
 intro w N v h
 have h1 : RelF w N (.sl sz n c) v := h
 show RelF w N (.sl sz (qa n mk c).length (acc (qa n mk c))) v
 rw [qiu]
 exact RelF.sl h1 fun i j hi hj => by rw [ha i j hi hj]; exact hp i j hi hj
def okCV : CV → Option Value
 | .v x => bif x.oneCell' then some x else none
 | _ => none
def cvsV : List CV → Option (List Value)
 | [] => some []
 | x :: l => match okCV x, cvsV l with
  | some v, some vs => some (v :: vs)
  | _, _ => none
def tvV : TV → Option Value
 | .c x => okCV x
 | .a l => (cvsV l).map fun vs => .agg vs.toArray
 | _ => none
def tvsV : List TV → Option (List Value)
 | [] => some []
 | x :: l => match tvV x, tvsV l with
  | some v, some vs => some (v :: vs)
  | _, _ => none
def dvV : DV → Option Value
 | .t x => tvV x
 | .tu l => (tvsV l).map fun vs => .tuple vs.toArray
theorem qjM {w : World} {N : Nat → Prop} {x : CV} {v : Value} (h : okCV x = some v) : RelF w N x v := by
 cases x with
 | v y =>
  simp only [okCV] at h
  cases e : y.oneCell' with
  | true => rw [e] at h; cases h; exact ⟨rfl, e⟩
  | false => rw [e] at h; cases h
 | _ => cases h
theorem qjN {w : World} {N : Nat → Prop} : ∀ {l : List CV} {vs : List Value}, cvsV l = some vs → All2 (RelF w N) l vs
 | [], vs, h => by cases h; trivial
 | x :: l, vs, h => by
  simp only [cvsV] at h
  split at h
  ·rename_i v us h1 h2
   cases h
   exact ⟨qjM h1, qjN h2⟩
  ·cases h
theorem tvV_rel {w : World} {N : Nat → Prop} {x : TV} {v : Value} (h : tvV x = some v) : RelT (RelF w N) x v := by
 cases x with
 | c y => exact qjM h
 | a l =>
  simp only [tvV, Option.map_eq_some_iff] at h
  obtain ⟨vs, h1, rfl⟩ := h
  exact ⟨vs, rfl, qjN h1⟩
 | fn f l => cases h
 | fb f l => cases h
theorem qjO {w : World} {N : Nat → Prop} : ∀ {l : List TV} {vs : List Value}, tvsV l = some vs → All2 (RelT (RelF w N)) l vs
 | [], vs, h => by cases h; trivial
 | x :: l, vs, h => by
  simp only [tvsV] at h
  split at h
  ·rename_i v us h1 h2
   cases h
   exact ⟨tvV_rel h1, qjO h2⟩
  ·cases h
theorem dvV_rel {w : World} {N : Nat → Prop} {d : DV} {v : Value} (h : dvV d = some v) : RelD (RelF w N) d v := by
 cases d with
 | t x => exact tvV_rel h
 | tu l =>
  simp only [dvV, Option.map_eq_some_iff] at h
  obtain ⟨vs, h1, rfl⟩ := h
  exact ⟨vs, rfl, qjO h1⟩
theorem All2.cons_inv {α β : Type} {R : α → β → Prop} {a : α} {l : List α} {m : List β} (h : All2 R (a :: l) m) : ∃ b bs, m = b :: bs ∧ R a b ∧ All2 R l bs := by
 cases m with
 | nil => exact h.elim
 | cons b bs => exact ⟨b, bs, rfl, h.1, h.2⟩
theorem All2.nil_inv {α β : Type} {R : α → β → Prop} {m : List β} (h : All2 R ([] : List α) m) : m = [] := by
 cases m with
 | nil => rfl
 | cons b bs => exact h.elim
theorem Ok.oldG {P : Program} {f : FuncId} (hen : Enters P f) {F : Con} (h : ∀ args r pre fresh, F args = some (r, pre, fresh) → okP pre → fresh = .no ∧ ∃ v, dvV r = some v ∧ ∀ W N vs, All2 (RelD (RelF W N)) args vs → Calls P f vs.toArray W fun e w' => e = .returned v ∧ Below W.heap.size W w') : Ok P f F := by
 intro args r pre fresh h1 h2
 obtain ⟨rfl, v, g1, g2⟩ := h args r pre fresh h1 h2
 exact ⟨hen, fun W N us _ hu => Calls.mono (g2 W N us hu) fun e w' ⟨e1, e2⟩ => ⟨v, e1, dvV_rel g1, e2⟩⟩
theorem Ok.oldGd {P : Program} {f : FuncId} (hen : Enters P f) {F : Con} (h : ∀ args r pre fresh, F args = some (r, pre, fresh) → okP pre → fresh = .no ∧ ∃ v, dvV r = some v ∧ ∀ W N vs, Gd W → All2 (RelD (RelF W N)) args vs → Calls P f vs.toArray W fun e w' => e = .returned v ∧ Below W.heap.size W w') : Ok P f F := by
 intro args r pre fresh h1 h2
 obtain ⟨rfl, v, g1, g2⟩ := h args r pre fresh h1 h2
 exact ⟨hen, fun W N us hG hu => Calls.mono (g2 W N us hG hu) fun e w' ⟨e1, e2⟩ => ⟨v, e1, dvV_rel g1, e2⟩⟩
theorem Ok.over {P : Program} {f : FuncId} {F F' : Con} (h : Ok P f F) (hF : ∀ args r' pre' fresh, F' args = some (r', pre', fresh) → okP pre' → ∃ r pre, F args = some (r, pre, fresh) ∧ okP pre ∧ r = r') : Ok P f F' := by
 intro args r' pre' fresh h1 h2
 obtain ⟨r, pre, g1, g2, rfl⟩ := hF args r' pre' fresh h1 h2
 exact h args r pre fresh g1 g2
theorem law_end {P : Program} {f : FuncId} {args : Array Value} {W : World} {N : Nat → Prop} (g : Calls P f args W fun e w' => ∃ v r, e = .returned v ∧ LeD r (.t (.c (.v (.bool true)))) ∧ RelD (RelF w' (resN W N .no)) r v ∧ Below W.heap.size W w') : Calls P f args W fun e w' => e = .returned (.bool true) ∧ Below W.heap.size W w' := by
 refine g.mono ?_
 rintro e w' ⟨v, r, rfl, g1, g2, g3⟩
 have g4 := g1 _ _ _ g2
 exact ⟨by rw [show v = .bool true from g4.1], g3⟩
theorem sl_SlAt {w : World} {N : Nat → Prop} {sz n : Nat} {c : Nat → Nat → CV} {v : Value} {g : Nat → Nat → Value} (h : RelF w N (.sl sz n c) v) (hc : ∀ i j, i < n → j < sz → c i j = .v (g i j)) : SlAt w v n sz g := by
 obtain ⟨ao, cap, rfl, h2, h3, h4, h5⟩ := h
 refine ⟨ao, cap, rfl, h2, h3, fun h0 => ?_, h4⟩
 obtain ⟨b, off, e, g1, _, g3⟩ := h5 h0
 refine ⟨b, off, e, g1, fun i j hi hj => ?_⟩
 obtain ⟨x, k1, k2⟩ := g3 i j hi hj
 rw [hc i j hi hj] at k2
 rw [k1, k2.1]
def qF (g : Nat → Int) : Int := g 0
def q2f (l : List Int) : Nat → Nat → CV := fun i _ => .v (.int .i64 (l.getD i 0))
theorem q6C {n : Nat} {c : Nat → Nat → CV} (hp : qj 1 n c) : LeD (.t (.c (.sl 1 n c))) (.t (.c (.sl 1 (qa n qF c).length (q2f (qa n qF c))))) := by
 refine leL hp fun i j hi hj => ?_
 have h : (qa n qF c).getD i 0 = qF fun j => qb (c i j) := q7i hi
 unfold q2f
 rw [h, show j = 0 by omega]; rfl
theorem at_int {w : World} {N : Nat → Prop} {n : Nat} {c : Nat → Nat → CV} {v : Value} (hp : qj 1 n c) (h : RelF w N (.sl 1 n c) v) : IntsAt w v (qa n qF c) := by
 have hl : (qa n qF c).length = n := qiu
 unfold IntsAt
 rw [hl]
 refine sl_SlAt h fun i j hi hj => ?_
 have h : (qa n qF c).getD i 0 = qF fun j => qb (c i j) := q7i hi
 rw [h, hp i j hi hj, show j = 0 by omega]; rfl
theorem q0n (l : List Int) : qj 1 l.length (genC (l.map fun n => [.v (.int .i64 n)])) := by
 intro i j hi hj
 have h : genC (l.map fun n => [CV.v (.int .i64 n)]) i j = .v (.int .i64 l[i]) := by
  unfold genC
  rw [show j = 0 by omega]
  simp [List.getD, hi]
 rw [h]; rfl
variable {w0 : World} {N0 : Nat → Prop} {Z : Pins} {P : Program} {T : Tab} {S : Sum} {M : Map} {a : Act} {w : World}
def Fr (l : List Oper) (a a' : Act) : Prop := (∀ i, (∀ o ∈ l, o.dst ≠ some i) → a'.tmps[i]? = a.tmps[i]?) ∧ a'.defers = a.defers
theorem Fr.refl (l : List Oper) (a : Act) : Fr l a a := ⟨fun _ _ => rfl, rfl⟩
theorem Fr.trans {l : List Oper} {a b c : Act} (h : Fr l a b) (g : Fr l b c) : Fr l a c := ⟨fun i hi => (g.1 i hi).trans (h.1 i hi), g.2.trans h.2⟩
theorem Fr.put {l : List Oper} {a : Act} {o : Oper} (ho : o ∈ l) (v : Value) : Fr l a (a.put o.dst v) := ⟨fun i hi => by
 rw [qhi, if_neg (fun h => hi o ho h.1)], q4X _ _ _⟩
def ndef (o : Oper) : Bool := match o.op with
 | .defer _ => false
 | _ => true
theorem ndef_ok {o : Oper} (h : ndef o = true) : ∀ c, o.op ≠ .defer c := by
 intro c hc; unfold ndef at h; rw [hc] at h; cases h
inductive Wl (P : Program) (o : Oper) (a : Act) (w : World) (K : Act → World → Prop) : Prop where
 | value (v : Value) (w' : World) (h : (execOp a.eval o).run P w = .ok (.value v) w') (hk : K (a.put o.dst v) w')
 | skip (w' : World) (h : (execOp a.eval o).run P w = .ok .skip w') (hk : K (a.put o.dst undef) w')
 | call (f : FuncId) (args : Array Value) (w' : World) (h : (execOp a.eval o).run P w = .ok (.enter f args) w') (hc : Calls P f args w' fun e w'' => ∃ v, e = .returned v ∧ K (a.put o.dst v) w'')
theorem Wl.wp {o : Oper} (hnd : ∀ c, o.op ≠ .defer c) {K : Act → World → Prop} (h : Wl P o a w K) {Q : Exit → Act → World → Prop} : o.wpIn Fence.wide 0 P a w K Q := by
 unfold Oper.wpIn
 refine ⟨fun f _ => trivial, ?_⟩
 rw [Oper.semAt_eq _ _ _ hnd]
 cases h with
 | value v w' h hk => rw [h]; exact hk
 | skip w' h hk => rw [h]; exact hk
 | call f args w' h hc =>
  rw [h]
  refine ⟨(fun h => by cases h), callsIn_wide.2 (Calls.mono hc ?_)⟩
  rintro e w'' ⟨v, rfl, hk⟩
  exact hk
theorem Well.wl {o : Oper} {st' : DS} (h : Well P w0 N0 Z o a w st') : Wl P o a w fun a' w' => (∃ M', Abs w0 N0 Z M' st' a' w') ∧ ∃ v, a' = a.put o.dst v := by
 cases h with
 | value v M' w' h ha => exact .value v w' h ⟨⟨M', ha⟩, v, rfl⟩
 | skip M' w' h ha => exact .skip w' h ⟨⟨M', ha⟩, undef, rfl⟩
 | call f args w' h hc => exact .call f args w' h (Calls.mono hc fun e w'' ⟨v, e1, M', ha⟩ => ⟨v, e1, ⟨M', ha⟩, v, rfl⟩)
theorem qhq {ops : Array Oper} {st : DS} {o : Oper} (ha : Abs w0 N0 Z M st a w) {b : Bool} (hb : q0O ops.toList st o = some b) : Region.wanted o (yielded ops a.tmps) = b := by
 unfold q0O at hb
 unfold Region.wanted
 split at hb
 ·rename_i hg; cases hb; rw [hg]
 ·rename_i j want hg
  rw [hg]
  simp only
  unfold yielded
  simp only [Array.getElem?_toList] at hb
  split at hb
  ·rename_i hd; cases hb; rw [hd]; rfl
  ·rename_i g hd
   rw [hd]
   simp only [Option.bind_some]
   split at hb
   ·rename_i c hc
    cases hb
    obtain ⟨v, h1, h2⟩ := ha.tmp g _ hc
    rw [h1, show v = .bool c from h2.1]
    cases c <;> cases want <;> rfl
   ·rename_i hc
    cases hb
    obtain ⟨v, h1, vs, h2, h3⟩ := ha.tmp g _ hc
    rw [h1, h2]; rfl
   ·cases hb
theorem step_fr (hT : TabOK P T) (hS : Valid P S) {ops : Array Oper} {forb : Nat → Bool} {o : Oper} {st st' : DS} {p : Prop} (ha : Abs w0 N0 Z M st a w) (h : step P T S ops.toList forb o st = some (p, st')) (hp : p) {l : List Oper} (ho : o ∈ l) {K : Act → World → Prop} {Q : Exit → Act → World → Prop} (hK : ∀ M' a' w', Abs w0 N0 Z M' st' a' w' → Fr l a a' → K a' w') :
  if Region.wanted o (yielded ops a.tmps) then o.wpIn Fence.wide 0 P a w K Q else (∀ f, o.about P w a.eval = some f → Fence.wide.fn f) ∧ K (a.put o.dst undef) w := by
 unfold step at h
 split at h
 ·rename_i hb
  rw [qhq ha hb]
  simp only [Option.map_eq_some_iff, Prod.mk.injEq] at h
  obtain ⟨e, h1, rfl, rfl⟩ := h
  simp only [if_true]
  refine Oper.wpIn_mono ?_ ((qfW hT hS ha h1 hp).wl.wp (exec_nd h1))
  rintro a' w' ⟨⟨M', ha'⟩, v, rfl⟩
  exact hK M' _ _ ha' (Fr.put ho v)
 ·rename_i hb
  rw [qhq ha hb]
  cases h
  simp only [Bool.false_eq_true, if_false]
  refine ⟨fun f _ => trivial, hK M _ _ (ha.put (Below.refl _ _) o.dst fun dv e => ?_) (Fr.put ho _)⟩
  cases e
  exact ⟨[], rfl, trivial⟩
 ·cases h
def q4u (i : Nat) : List (Nat × DV) → Option DV
 | [] => none
 | (j, d) :: l => bif Nat.beq i j then some d else q4u i l
def rebT (keep : List (Nat × DV)) : Nat → List (Option DV) → List (Option DV)
 | _, [] => []
 | i, x :: l => (match q4u i keep with
  | some d => some d
  | none => match x with
   | some d => bif q1D d then some d else none
   | none => none) :: rebT keep (i + 1) l
def rebS (keep : List (Nat × DV)) (st : DS) : DS := ⟨rebT keep 0 st.t, List.replicate st.h.length none⟩
def isYld : DV → Option Nat
 | .t (.c (.v (.func (.yield l) ⟨[]⟩ ⟨[]⟩))) => some l
 | _ => none
def yldC (st : DS) (o : Oper) : Option (Call × Nat) := match o.op with
 | .call c => match c.callee with
  | .value f => match opv st f with
   | some d => (isYld d).map fun l => (c, l)
   | none => none
  | _ => none
 | _ => none
def flatY : TV → Bool
 | .fn _ _ => false
 | .fb _ _ => false
 | x => q9E x
def qdG : List TV → Bool
 | [] => true
 | x :: l => flatY x && qdG l
def tts : List DV → Option (List TV)
 | [] => some []
 | .t x :: l => (tts l).map (x :: ·)
 | _ :: _ => none
def yldE (l0 : Nat) (n : Nat) (y : Nat → List TV) (keep : List (Nat × DV)) (o : Oper) (c : Call) (l' : Nat) (st : DS) (g : Option Nat) (k : Option Nat → DS → Prop) : Prop := match g, (opvs st c.args.toList).bind tts with
 | some i, some l => bif !qdG l then False else (l' = l0 ∧ i < n ∧ l = y i) ∧ (k (some (i + 1)) ((rebS keep st).putO o.dst (some (.t (.c (.v (.bool true)))))) ∧ k none ((rebS [] st).putO o.dst (some (.t (.c (.v (.bool false)))))))
 | _, _ => False
def qb5 (P : Program) (T : Tab) (S : Sum) (l0 n : Nat) (y : Nat → List TV) (keep : List (Nat × DV)) (ops : List Oper) : List Oper → DS → Option Nat → (Option Nat → DS → Prop) → Prop
 | [], st, g, k => k g st
 | o :: l, st, g, k => match yldC st o, q0O ops st o with
  | some (c, l'), some true => yldE l0 n y keep o c l' st g fun g' st' => qb5 P T S l0 n y keep ops l st' g' k
  | _, _ => evOp P T S ops q6m o st fun st' => qb5 P T S l0 n y keep ops l st' g k
def againY (J : Inv) (b : Nat) (hd : Hd) (bx : List Bx) (F : List Nat) (g : Option Nat) (s : DS) : Prop := match g, tidyB hd bx s with
 | some c, some s => J b (c :: F) s
 | _, _ => False
def evY (P : Program) (T : Tab) (S : Sum) (ann : Ann) (J : Inv) (l0 n : Nat) (y : Nat → List TV) (keep : List (Nat × DV)) : Code → Nat → List Nat → (Option Nat → DS → Prop) → (Nat → Option Nat → DS → Prop) → (Option Nat → DS → Prop) → Option Nat → DS → Prop
 | .skip, _, _, kn, _, _, g, st => kn g st
 | .region id ops draw, _, _, kn, _, _, g, st => bif draw then (match ann.reg id with
   | some (_, fs) => q0d P T S ops.toList (items 0 ops.toList (fs.map fb)) st (kn g)
   | none => False) else qb5 P T S l0 n y keep ops.toList ops.toList st g kn
 | .seq x z, b, F, kn, ke, kr, g, st => evY P T S ann J l0 n y keep x b F (fun g s => evY P T S ann J l0 n y keep z b F kn ke kr g s) ke kr g st
 | .cond c x z, b, F, kn, ke, kr, g, st => match opv st c with
  | some (.t (.c (.v (.bool t)))) => cond t (evY P T S ann J l0 n y keep x b F kn ke kr g st) (evY P T S ann J l0 n y keep z b F kn ke kr g st)
  | _ => False
 | .block id x, _, F, kn, ke, kr, g, st => evY P T S ann J l0 n y keep x id F kn (fun j g s => bif Nat.beq j id then kn g s else ke j g s) kr g st
 | .loop x, b, F, kn, ke, kr, g, st => match ann.lp b, g with
  | some (none, some hd), some c => match tidyB hd (ann.bx b) st with
   | some s => ∃ m, J b (c :: m :: F) s
   | none => False
  | _, _ => False
 | .exit id, _, _, _, ke, _, g, st => ke id g st
 | .ret, _, _, _, _, kr, g, st => kr g st
 | _, _, _, _, _, _, _, _ => False
def q3t (P : Program) (T : Tab) (S : Sum) (ann : Ann) (J : Inv) (l0 n : Nat) (y : Nat → List TV) (keep : List (Nat × DV)) : Code → Nat → (List Nat → Option Nat → DS → Prop) → (List Nat → Nat → Option Nat → DS → Prop) → (List Nat → Option Nat → DS → Prop) → List (Nat × (Nat → List Nat → DS → Prop))
 | .seq x z, b, kn, ke, kr => q3t P T S ann J l0 n y keep x b (fun F g s => evY P T S ann J l0 n y keep z b F (kn F) (ke F) (kr F) g s) ke kr ++ q3t P T S ann J l0 n y keep z b kn ke kr
 | .cond _ x z, b, kn, ke, kr => q3t P T S ann J l0 n y keep x b kn ke kr ++ q3t P T S ann J l0 n y keep z b kn ke kr
 | .block id x, _, kn, ke, kr => q3t P T S ann J l0 n y keep x id kn (fun F j g s => bif Nat.beq j id then kn F g s else ke F j g s) kr
 | .loop x, b, kn, ke, kr => match ann.lp b with
  | some (none, some hd) => (b, fun c F s => evY P T S ann J l0 n y keep x b F (againY J b hd (ann.bx b) F) (ke F.tail) (kr F.tail) (some c) s) :: q3t P T S ann J l0 n y keep x b (fun F g s => againY J b hd (ann.bx b) F g s) (fun F => ke F.tail) (fun F => kr F.tail)
  | _ => []
 | _, _, _, _, _ => []
def AllY (J : Inv) : List (Nat × (Nat → List Nat → DS → Prop)) → Prop
 | [] => True
 | (b, G) :: l => ((∀ c F s, ¬ J b (c :: 0 :: F) s) ∧ ∀ c m F s, J b (c :: (m + 1) :: F) s → G c (m :: F) s) ∧ AllY J l
theorem q9L {J : Inv} : ∀ {l m : List (Nat × (Nat → List Nat → DS → Prop))}, AllY J (l ++ m) ↔ AllY J l ∧ AllY J m
 | [], m => by simp [AllY]
 | (b, G) :: l, m => by simp only [List.cons_append, AllY, q9L, and_assoc]
def qdH (keep : List (Nat × DV)) (o : Oper) : Bool := ndef o && (match o.dst with
 | some d => (q4u d keep).isNone
 | none => true)
def okY (ann : Ann) (keep : List (Nat × DV)) : Code → Nat → Bool
 | .region id ops draw, _ => ops.toList.all (qdH keep) && !draw
 | .seq x z, b => okY ann keep x b && okY ann keep z b
 | .cond _ x z, b => okY ann keep x b && okY ann keep z b
 | .block id x, _ => okY ann keep x id
 | .loop x, b => (match ann.lp b with
  | some (none, some _) => true
  | _ => false) && okY ann keep x b
 | _, _ => true
end Go.Proofs.YtfadkjcfjkmalaaGreatDoor.Ev
