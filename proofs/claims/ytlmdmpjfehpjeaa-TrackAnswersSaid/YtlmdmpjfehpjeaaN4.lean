/- Texts of this claim, together. -/
import Derived.Test.YtlmdmpjfehpjeaaN3
import Derived.Test.YtlmdmpjfehpjeaaProg
import Derived.Test.YtlmdmpjfehpjeaaRows
import Derived.WalkKit
import Derived.WalkSpells
import Derived.WalkLawsBesides
import Derived.Deep.QuietTactic
import Derived.BigQuiet
import Derived.StillTailTactics
import Derived.StillTail
import Derived.Deep.AppendLies
import Derived.Laws.AppendOwnNone

/- A checker of Go code: contracts by which calls are met. No program in sight. -/
set_option linter.unusedVariables false
set_option linter.unusedSimpArgs false
namespace Go.Proofs.Ytlmdmpjfehpjeaa.Ev
open Go.RowKit

/-- a value with a name. -/
@[irreducible] def lt {α : Type} (v : α) (k : α → Prop) : Prop := k v
theorem lt_i {α : Type} {v : α} {k : α → Prop} (h : ∀ x, v = x → k x) : lt v k := by unfold lt; exact h v rfl
theorem cond_i {b : Bool} {A B : Prop} (h1 : b = true → A) (h2 : b = false → B) : cond b A B := by cases b; exact h2 rfl; exact h1 rfl
@[reducible] def wr (n : Int) : Int := IntKind.i64.wrap n
def lookA {α : Type} (k : Nat) : List (Nat × α) → Option α
  | [] => none
  | (j, x) :: l => bif Nat.beq k j then some x else lookA k l
theorem lookA_mem {α : Type} {k : Nat} {x : α} : ∀ {l : List (Nat × α)}, lookA k l = some x → (k, x) ∈ l
  | (j, y) :: l, h => by
    simp only [lookA] at h
    cases e : Nat.beq k j with
    | true => rw [e] at h; cases h; rw [Nat.eq_of_beq_eq_true e]; simp
    | false => rw [e] at h; exact List.mem_cons_of_mem _ (lookA_mem h)
theorem tab_of {P : Program} {l : List (Nat × TyI)} (h : ∀ p ∈ l, TyOK P p.1 p.2) : TabOK P (fun t => lookA t l) := fun t i hi => h (t, i) (lookA_mem hi)

/-! ### contracts -/
@[reducible] def Con := List DV → Option (DV × Option Prop × Bool)
def Ok (P : Program) (f : FuncId) (F : Con) : Prop := ∀ args r pre fresh, F args = some (r, pre, fresh) → okP pre → Enters P f ∧ ∀ (W : World) (N : Nat → Prop) (vs : List Value), All2 (RelD (RelF W N)) args vs →
    Calls P f vs.toArray W fun e w' => ∃ v, e = .returned v ∧ RelD (RelF w' (resN W N fresh)) r v ∧ Below W.heap.size W w'
def noS : Sum := fun _ _ => none
def addS (S : Sum) (f : FuncId) (F : Con) : Sum := fun g args => bif Nat.beq g f then F args else S g args
theorem Valid.no {P : Program} : Valid P noS := fun f args r pre fresh h => by simp [noS] at h
theorem Valid.add {P : Program} {S : Sum} {f : FuncId} {F : Con} (h : Valid P S) (hF : Ok P f F) : Valid P (addS S f F) := by
  intro g args r pre fresh h1 h2
  unfold addS at h1
  cases e : Nat.beq g f with
  | true => rw [e] at h1; rw [Nat.eq_of_beq_eq_true e]; exact hF args r pre fresh h1 h2
  | false => rw [e] at h1; exact h g args r pre fresh h1 h2
theorem Enters.of {P : Program} {f : FuncId} {fn : Func} (hf : P.funcs[f]? = some fn) (hn : (fn.name == "runtime.NumGoroutine") = false) (hb : fn.body.isNone = false) : Enters P f := by
  intro args w
  have h1 : fn.name ≠ "runtime.NumGoroutine" := by simpa using hn
  have h2 : fn.body ≠ none := by intro h; rw [h] at hb; cases hb
  simp [callFunc, program, Sem.run, hf, h1, h2]
/-- a result is at least as another one says. -/
def LeD (r' r : DV) : Prop := ∀ w N v, RelD (RelF w N) r' v → RelD (RelF w N) r v
theorem LeD.refl (r : DV) : LeD r r := fun _ _ _ h => h
theorem LeD.of {r' r : DV} (h : r' = r) : LeD r' r := h ▸ LeD.refl _
def LeA (al bs : List DV) : Prop := ∀ w N vs, All2 (RelD (RelF w N)) al vs → All2 (RelD (RelF w N)) bs vs
theorem LeA.refl (al : List DV) : LeA al al := fun _ _ _ h => h
/-- the contract of a function that has been checked. -/
theorem Ok.fn {P : Program} {T : Tab} {S : Sum} (hm : P.follows .mixedOrders = true) (hT : TabOK P T) (hS : Valid P S) {ann : Ann} (hI : ValidIt P ann.it) {f : FuncId} {fn : Func} (hf : P.funcs[f]? = some fn) (hn : (fn.name == "runtime.NumGoroutine") = false) (hok : okFn ann fn = true) {F : Con}
    (h : ∀ args r pre fresh, F args = some (r, pre, fresh) → okP pre → fresh = false ∧ ∃ (J : Inv) (al : List DV), LeA args al ∧ al.length ≤ fn.ntmps ∧ evFn P T S ann J fn al (fun r' => LeD r' r) ∧ AllG J (loopsFn P T S ann J fn (fun r' => LeD r' r))) : Ok P f F := by
  intro args r pre fresh h1 h2
  obtain ⟨rfl, J, al, g1, g2, g3, g4⟩ := h args r pre fresh h1 h2
  have hb : fn.body.isNone = false := by
    unfold okFn at hok
    cases e : fn.body with
    | none => rw [e] at hok; cases hok
    | some c => rfl
  refine ⟨Enters.of hf hn hb, fun W N vs hv => ?_⟩
  refine Calls.mono (fn_sound hm hT hS hI hf hok g3 g4 g2 W N vs (g1 W N vs hv)) ?_
  rintro e w' ⟨v, r', rfl, k1, k2, k3⟩
  exact ⟨v, rfl, k1 _ _ _ k2, k3⟩

/-- the contract for one choice of arguments. -/
theorem Ok.one {P : Program} {T : Tab} {S : Sum} (hm : P.follows .mixedOrders = true) (hT : TabOK P T) (hS : Valid P S) {ann : Ann} (hI : ValidIt P ann.it) {f : FuncId} {fn : Func} (hf : P.funcs[f]? = some fn) (hn : (fn.name == "runtime.NumGoroutine") = false) (hok : okFn ann fn = true) {args : List DV} {r : DV} (hlen : args.length ≤ fn.ntmps) {J : Inv}
    (hev : evFn P T S ann J fn args (fun r' => LeD r' r)) (hL : AllG J (loopsFn P T S ann J fn (fun r' => LeD r' r))) : Enters P f ∧ ∀ (W : World) (N : Nat → Prop) (vs : List Value), All2 (RelD (RelF W N)) args vs →
    Calls P f vs.toArray W fun e w' => ∃ v, e = .returned v ∧ RelD (RelF w' (resN W N false)) r v ∧ Below W.heap.size W w' := by
  have hb : fn.body.isNone = false := by
    unfold okFn at hok
    cases e : fn.body with
    | none => rw [e] at hok; cases hok
    | some c => rfl
  refine ⟨Enters.of hf hn hb, fun W N vs hv => ?_⟩
  refine Calls.mono (fn_sound hm hT hS hI hf hok hev hL hlen W N vs hv) ?_
  rintro e w' ⟨v, r', rfl, k1, k2, k3⟩
  exact ⟨v, rfl, k1 _ _ _ k2, k3⟩

/-! ### plain arguments -/
def plainV : List DV → Option (List Value)
  | [] => some []
  | d :: l => match toValue d, plainV l with
    | some v, some vs => some (v :: vs)
    | _, _ => none
theorem plainV_eq {w : World} {N : Nat → Prop} : ∀ {l : List DV} {vs us : List Value}, plainV l = some vs → All2 (RelD (RelF w N)) l us → us = vs
  | [], vs, [], h, _ => by simp only [plainV, Option.some.injEq] at h; exact h
  | d :: l, vs, u :: us, h, g => by
    simp only [plainV] at h
    split at h
    · rename_i v ws h1 h2
      cases h
      rw [toValue_eq (fun y u h => h.1) h1 g.1, plainV_eq h2 g.2]
    · cases h
  | [], _, _ :: _, _, g => g.elim
  | _ :: _, _, [], _, g => g.elim
/-- a contract of the older kind, over plain arguments and with a plain result. -/
theorem Ok.old {P : Program} {f : FuncId} (hen : Enters P f) {F : Con} (h : ∀ args r pre fresh, F args = some (r, pre, fresh) → okP pre → ∃ vs v, plainV args = some vs ∧ toValue r = some v ∧ (∀ w N, RelD (RelF w N) r v) ∧ ∀ W, Calls P f vs.toArray W fun e w' => e = .returned v ∧ Below W.heap.size W w') : Ok P f F := by
  intro args r pre fresh h1 h2
  obtain ⟨vs, v, g1, g2, g3, g4⟩ := h args r pre fresh h1 h2
  refine ⟨hen, fun W N us hu => ?_⟩
  rw [plainV_eq g1 hu]
  exact Calls.mono (g4 W) fun e w' ⟨e1, e2⟩ => ⟨v, e1, g3 _ _, e2⟩

/-! ### foreign slices -/
theorem RelF.sl {w : World} {N : Nat → Prop} {sz n : Nat} {c c' : Nat → Nat → CV} {v : Value} (h : RelF w N (.sl sz n c) v) (hc : ∀ i j, i < n → j < sz → c i j = c' i j) : RelF w N (.sl sz n c') v := by
  obtain ⟨ao, cap, h1, h2, h3, h4, h5⟩ := h
  refine ⟨ao, cap, h1, h2, h3, h4, fun h0 => ?_⟩
  obtain ⟨b, off, g1, g2, g3, g4⟩ := h5 h0
  exact ⟨b, off, g1, g2, g3, fun i j hi hj => by rw [← hc i j hi hj]; exact g4 i j hi hj⟩
/-- all cells of a slice's elements are numbers. -/
def numsP (sz n : Nat) (c : Nat → Nat → CV) : Prop := ∀ i j, i < n → j < sz → c i j = .v (.int .i64 (cvInt (c i j)))
def listC {α : Type} (n : Nat) (mk : (Nat → Int) → α) (c : Nat → Nat → CV) : List α := (List.range n).map fun i => mk fun j => cvInt (c i j)
theorem listC_len {α : Type} {n : Nat} {mk : (Nat → Int) → α} {c : Nat → Nat → CV} : (listC n mk c).length = n := by simp [listC]
theorem listC_get {α : Type} {n : Nat} {mk : (Nat → Int) → α} {c : Nat → Nat → CV} {i : Nat} {d : α} (h : i < n) : (listC n mk c).getD i d = mk fun j => cvInt (c i j) := by simp [listC, List.getD, h]
theorem listC_id {α : Type} {l : List α} (d : α) {mk : (Nat → Int) → α} {c : Nat → Nat → CV} (h : ∀ i, i < l.length → mk (fun j => cvInt (c i j)) = l.getD i d) : listC l.length mk c = l := by
  apply List.ext_getElem?
  intro i
  by_cases hi : i < l.length
  · rw [listC, List.getElem?_map, List.getElem?_range hi, Option.map_some, h i hi]
    simp [List.getD, hi]
  · rw [List.getElem?_eq_none (by simpa [listC] using hi), List.getElem?_eq_none (by omega)]
theorem LeA_nil : LeA [] [] := LeA.refl _
theorem LeA_cons {a b : DV} {al bs : List DV} (h : LeD a b) (h2 : LeA al bs) : LeA (a :: al) (b :: bs) := by
  intro w N vs g
  match vs, g with
  | v :: vs, g => exact ⟨h w N v g.1, h2 w N vs g.2⟩
  | [], g => exact g.elim
theorem leL {α : Type} {sz n : Nat} {c : Nat → Nat → CV} {mk : (Nat → Int) → α} {acc : List α → Nat → Nat → CV} (hp : numsP sz n c) (ha : ∀ i j, i < n → j < sz → acc (listC n mk c) i j = .v (.int .i64 (cvInt (c i j)))) : LeD (.t (.c (.sl sz n c))) (.t (.c (.sl sz (listC n mk c).length (acc (listC n mk c))))) := by
  intro w N v h
  have h1 : RelF w N (.sl sz n c) v := h
  show RelF w N (.sl sz (listC n mk c).length (acc (listC n mk c))) v
  rw [listC_len]
  exact RelF.sl h1 fun i j hi hj => by rw [ha i j hi hj]; exact hp i j hi hj
end Go.Proofs.Ytlmdmpjfehpjeaa.Ev

/- A checker of Go code: the types of this program. -/
set_option linter.unusedVariables false
namespace Go.Proofs.Ytlmdmpjfehpjeaa
open Go.RowKit Ev

def tabL : List (Nat × TyI) := [(2, ⟨.nm .i64, 1, 8, [.int .i64 0], true⟩),
  (3, ⟨.nm .i64, 1, 8, [.int .i64 0], true⟩),
  (4, ⟨.bl, 1, 1, [.bool false], true⟩),
  (5, ⟨.nm .u8, 1, 1, [.int .u8 0], true⟩),
  (6, ⟨.nm .u8, 1, 1, [.int .u8 0], true⟩),
  (7, ⟨.st [(0, 2), (1, 3), (2, 4), (3, 6)], 4, 24, [.int .i64 0, .int .i64 0, .bool false, .int .u8 0], false⟩),
  (9, ⟨.str, 1, 16, [.string ⟨#[]⟩], true⟩),
  (12, ⟨.nm .u64, 1, 8, [.int .u64 0], true⟩),
  (13, ⟨.st [(0, 9), (1, 12)], 2, 24, [.string ⟨#[]⟩, .int .u64 0], false⟩),
  (15, ⟨.oth, 1, 8, [.pointer none], false⟩),
  (16, ⟨.oth, 1, 8, [.pointer none], false⟩),
  (17, ⟨.oth, 1, 8, [.pointer none], false⟩),
  (18, ⟨.st [(0, 17)], 1, 8, [.pointer none], false⟩),
  (21, ⟨.nm .i32, 1, 4, [.int .i32 0], true⟩),
  (22, ⟨.ar 3 3, 3, 24, [.int .i64 0, .int .i64 0, .int .i64 0], true⟩),
  (23, ⟨.st [(0, 3), (1, 3)], 2, 16, [.int .i64 0, .int .i64 0], true⟩),
  (24, ⟨.st [(0, 3), (1, 3)], 2, 16, [.int .i64 0, .int .i64 0], true⟩),
  (25, ⟨.st [(0, 22), (3, 3), (4, 3), (5, 24), (7, 3), (8, 3), (9, 3), (10, 3), (11, 3)], 12, 96, [.int .i64 0, .int .i64 0, .int .i64 0, .int .i64 0, .int .i64 0, .int .i64 0, .int .i64 0, .int .i64 0, .int .i64 0, .int .i64 0, .int .i64 0, .int .i64 0], true⟩),
  (26, ⟨.st [(0, 22), (3, 3), (4, 3), (5, 24), (7, 3), (8, 3), (9, 3), (10, 3), (11, 3)], 12, 96, [.int .i64 0, .int .i64 0, .int .i64 0, .int .i64 0, .int .i64 0, .int .i64 0, .int .i64 0, .int .i64 0, .int .i64 0, .int .i64 0, .int .i64 0, .int .i64 0], true⟩),
  (27, ⟨.st [(0, 22), (3, 3)], 4, 32, [.int .i64 0, .int .i64 0, .int .i64 0, .int .i64 0], true⟩),
  (28, ⟨.st [(0, 22), (3, 3)], 4, 32, [.int .i64 0, .int .i64 0, .int .i64 0, .int .i64 0], true⟩),
  (30, ⟨.nm .i64, 1, 8, [.int .i64 0], true⟩),
  (36, ⟨.st [(0, 3), (1, 3)], 2, 16, [.int .i64 0, .int .i64 0], true⟩),
  (37, ⟨.st [(0, 3), (1, 3)], 2, 16, [.int .i64 0, .int .i64 0], true⟩),
  (49, ⟨.sl 3, 1, 24, [.slice none 0 0], false⟩),
  (50, ⟨.st [(0, 3), (1, 49)], 2, 32, [.int .i64 0, .slice none 0 0], false⟩),
  (51, ⟨.st [(0, 3), (1, 49)], 2, 32, [.int .i64 0, .slice none 0 0], false⟩),
  (52, ⟨.st [(0, 51), (2, 51)], 4, 64, [.int .i64 0, .slice none 0 0, .int .i64 0, .slice none 0 0], false⟩),
  (53, ⟨.st [(0, 51), (2, 51)], 4, 64, [.int .i64 0, .slice none 0 0, .int .i64 0, .slice none 0 0], false⟩),
  (56, ⟨.st [(0, 22), (3, 22), (6, 3), (7, 3)], 8, 64, [.int .i64 0, .int .i64 0, .int .i64 0, .int .i64 0, .int .i64 0, .int .i64 0, .int .i64 0, .int .i64 0], true⟩),
  (57, ⟨.st [(0, 22), (3, 22), (6, 3), (7, 3)], 8, 64, [.int .i64 0, .int .i64 0, .int .i64 0, .int .i64 0, .int .i64 0, .int .i64 0, .int .i64 0, .int .i64 0], true⟩),
  (61, ⟨.sl 92, 1, 24, [.slice none 0 0], false⟩),
  (74, ⟨.st [(0, 22), (3, 22)], 6, 48, [.int .i64 0, .int .i64 0, .int .i64 0, .int .i64 0, .int .i64 0, .int .i64 0], true⟩),
  (75, ⟨.st [(0, 22), (3, 22)], 6, 48, [.int .i64 0, .int .i64 0, .int .i64 0, .int .i64 0, .int .i64 0, .int .i64 0], true⟩),
  (76, ⟨.st [(0, 28), (4, 61)], 5, 56, [.int .i64 0, .int .i64 0, .int .i64 0, .int .i64 0, .slice none 0 0], false⟩),
  (77, ⟨.st [(0, 28), (4, 61)], 5, 56, [.int .i64 0, .int .i64 0, .int .i64 0, .int .i64 0, .slice none 0 0], false⟩),
  (87, ⟨.sl 22, 1, 24, [.slice none 0 0], false⟩),
  (91, ⟨.st [(0, 22), (3, 3), (4, 3)], 5, 40, [.int .i64 0, .int .i64 0, .int .i64 0, .int .i64 0, .int .i64 0], true⟩),
  (92, ⟨.st [(0, 22), (3, 3), (4, 3)], 5, 40, [.int .i64 0, .int .i64 0, .int .i64 0, .int .i64 0, .int .i64 0], true⟩),
  (98, ⟨.ar 2 75, 12, 96, [.int .i64 0, .int .i64 0, .int .i64 0, .int .i64 0, .int .i64 0, .int .i64 0, .int .i64 0, .int .i64 0, .int .i64 0, .int .i64 0, .int .i64 0, .int .i64 0], true⟩),
  (106, ⟨.st [(0, 75), (6, 61)], 7, 72, [.int .i64 0, .int .i64 0, .int .i64 0, .int .i64 0, .int .i64 0, .int .i64 0, .slice none 0 0], false⟩),
  (107, ⟨.st [(0, 75), (6, 61)], 7, 72, [.int .i64 0, .int .i64 0, .int .i64 0, .int .i64 0, .int .i64 0, .int .i64 0, .slice none 0 0], false⟩),
  (108, ⟨.sl 75, 1, 24, [.slice none 0 0], false⟩),
  (109, ⟨.st [(0, 108), (1, 3)], 2, 32, [.slice none 0 0, .int .i64 0], false⟩),
  (110, ⟨.st [(0, 108), (1, 3)], 2, 32, [.slice none 0 0, .int .i64 0], false⟩),
  (128, ⟨.ar 4 3, 4, 32, [.int .i64 0, .int .i64 0, .int .i64 0, .int .i64 0], true⟩),
  (133, ⟨.st [(0, 26)], 12, 96, [.int .i64 0, .int .i64 0, .int .i64 0, .int .i64 0, .int .i64 0, .int .i64 0, .int .i64 0, .int .i64 0, .int .i64 0, .int .i64 0, .int .i64 0, .int .i64 0], true⟩),
  (134, ⟨.st [(0, 26)], 12, 96, [.int .i64 0, .int .i64 0, .int .i64 0, .int .i64 0, .int .i64 0, .int .i64 0, .int .i64 0, .int .i64 0, .int .i64 0, .int .i64 0, .int .i64 0, .int .i64 0], true⟩),
  (135, ⟨.ar 3 3, 3, 24, [.int .i64 0, .int .i64 0, .int .i64 0], true⟩),
  (156, ⟨.st [(0, 3), (1, 3)], 2, 16, [.int .i64 0, .int .i64 0], true⟩),
  (157, ⟨.st [(0, 3), (1, 3)], 2, 16, [.int .i64 0, .int .i64 0], true⟩),
  (180, ⟨.st [(0, 135), (3, 3)], 4, 32, [.int .i64 0, .int .i64 0, .int .i64 0, .int .i64 0], true⟩),
  (181, ⟨.st [(0, 135), (3, 3)], 4, 32, [.int .i64 0, .int .i64 0, .int .i64 0, .int .i64 0], true⟩),
  (183, ⟨.oth, 1, 8, [.pointer none], false⟩),
  (184, ⟨.sl 30, 1, 24, [.slice none 0 0], false⟩),
  (198, ⟨.nm .u64, 1, 8, [.int .u64 0], true⟩),
  (210, ⟨.st [(0, 17), (1, 17), (2, 17), (3, 9)], 4, 40, [.pointer none, .pointer none, .pointer none, .string ⟨#[]⟩], false⟩),
  (215, ⟨.nm .u32, 1, 4, [.int .u32 0], true⟩),
  (216, ⟨.nm .u8, 1, 1, [.int .u8 0], true⟩),
  (217, ⟨.nm .u8, 1, 1, [.int .u8 0], true⟩),
  (219, ⟨.oth, 1, 8, [.pointer none], false⟩),
  (220, ⟨.nm .i32, 1, 4, [.int .i32 0], true⟩),
  (221, ⟨.nm .i32, 1, 4, [.int .i32 0], true⟩)]
def tab : Tab := fun t => lookA t tabL
theorem ty2 : TyOK Try.prog 2 ⟨.nm .i64, 1, 8, [.int .i64 0], true⟩ := ⟨by kernel_rfl, by kernel_rfl, by kernel_rfl, fun _ => ⟨by kernel_rfl, by kernel_rfl, by kernel_rfl⟩⟩
theorem ty3 : TyOK Try.prog 3 ⟨.nm .i64, 1, 8, [.int .i64 0], true⟩ := ⟨by kernel_rfl, by kernel_rfl, by kernel_rfl, fun _ => ⟨by kernel_rfl, by kernel_rfl, by kernel_rfl⟩⟩
theorem ty4 : TyOK Try.prog 4 ⟨.bl, 1, 1, [.bool false], true⟩ := ⟨by kernel_rfl, by kernel_rfl, by kernel_rfl, fun _ => ⟨by kernel_rfl, by kernel_rfl, by kernel_rfl⟩⟩
theorem ty5 : TyOK Try.prog 5 ⟨.nm .u8, 1, 1, [.int .u8 0], true⟩ := ⟨by kernel_rfl, by kernel_rfl, by kernel_rfl, fun _ => ⟨by kernel_rfl, by kernel_rfl, by kernel_rfl⟩⟩
theorem ty6 : TyOK Try.prog 6 ⟨.nm .u8, 1, 1, [.int .u8 0], true⟩ := ⟨by kernel_rfl, by kernel_rfl, by kernel_rfl, fun _ => ⟨by kernel_rfl, by kernel_rfl, by kernel_rfl⟩⟩
theorem ty7 : TyOK Try.prog 7 ⟨.st [(0, 2), (1, 3), (2, 4), (3, 6)], 4, 24, [.int .i64 0, .int .i64 0, .bool false, .int .u8 0], false⟩ := ⟨by kernel_rfl, by kernel_rfl, by kernel_rfl, fun h => by cases h⟩
theorem ty9 : TyOK Try.prog 9 ⟨.str, 1, 16, [.string ⟨#[]⟩], true⟩ := ⟨by kernel_rfl, by kernel_rfl, by kernel_rfl, fun _ => ⟨by kernel_rfl, by kernel_rfl, by kernel_rfl⟩⟩
theorem ty12 : TyOK Try.prog 12 ⟨.nm .u64, 1, 8, [.int .u64 0], true⟩ := ⟨by kernel_rfl, by kernel_rfl, by kernel_rfl, fun _ => ⟨by kernel_rfl, by kernel_rfl, by kernel_rfl⟩⟩
theorem ty13 : TyOK Try.prog 13 ⟨.st [(0, 9), (1, 12)], 2, 24, [.string ⟨#[]⟩, .int .u64 0], false⟩ := ⟨by kernel_rfl, by kernel_rfl, by kernel_rfl, fun h => by cases h⟩
theorem ty15 : TyOK Try.prog 15 ⟨.oth, 1, 8, [.pointer none], false⟩ := ⟨by kernel_rfl, by kernel_rfl, by kernel_rfl, fun h => by cases h⟩
theorem ty16 : TyOK Try.prog 16 ⟨.oth, 1, 8, [.pointer none], false⟩ := ⟨by kernel_rfl, by kernel_rfl, by kernel_rfl, fun h => by cases h⟩
theorem ty17 : TyOK Try.prog 17 ⟨.oth, 1, 8, [.pointer none], false⟩ := ⟨by kernel_rfl, by kernel_rfl, by kernel_rfl, fun h => by cases h⟩
theorem ty18 : TyOK Try.prog 18 ⟨.st [(0, 17)], 1, 8, [.pointer none], false⟩ := ⟨by kernel_rfl, by kernel_rfl, by kernel_rfl, fun h => by cases h⟩
theorem ty21 : TyOK Try.prog 21 ⟨.nm .i32, 1, 4, [.int .i32 0], true⟩ := ⟨by kernel_rfl, by kernel_rfl, by kernel_rfl, fun _ => ⟨by kernel_rfl, by kernel_rfl, by kernel_rfl⟩⟩
theorem ty22 : TyOK Try.prog 22 ⟨.ar 3 3, 3, 24, [.int .i64 0, .int .i64 0, .int .i64 0], true⟩ := ⟨by kernel_rfl, by kernel_rfl, by kernel_rfl, fun _ => ⟨by kernel_rfl, by kernel_rfl, by kernel_rfl⟩⟩
theorem ty23 : TyOK Try.prog 23 ⟨.st [(0, 3), (1, 3)], 2, 16, [.int .i64 0, .int .i64 0], true⟩ := ⟨by kernel_rfl, by kernel_rfl, by kernel_rfl, fun _ => ⟨by kernel_rfl, by kernel_rfl, by kernel_rfl⟩⟩
theorem ty24 : TyOK Try.prog 24 ⟨.st [(0, 3), (1, 3)], 2, 16, [.int .i64 0, .int .i64 0], true⟩ := ⟨by kernel_rfl, by kernel_rfl, by kernel_rfl, fun _ => ⟨by kernel_rfl, by kernel_rfl, by kernel_rfl⟩⟩
theorem ty25 : TyOK Try.prog 25 ⟨.st [(0, 22), (3, 3), (4, 3), (5, 24), (7, 3), (8, 3), (9, 3), (10, 3), (11, 3)], 12, 96, [.int .i64 0, .int .i64 0, .int .i64 0, .int .i64 0, .int .i64 0, .int .i64 0, .int .i64 0, .int .i64 0, .int .i64 0, .int .i64 0, .int .i64 0, .int .i64 0], true⟩ := ⟨by kernel_rfl, by kernel_rfl, by kernel_rfl, fun _ => ⟨by kernel_rfl, by kernel_rfl, by kernel_rfl⟩⟩
theorem ty26 : TyOK Try.prog 26 ⟨.st [(0, 22), (3, 3), (4, 3), (5, 24), (7, 3), (8, 3), (9, 3), (10, 3), (11, 3)], 12, 96, [.int .i64 0, .int .i64 0, .int .i64 0, .int .i64 0, .int .i64 0, .int .i64 0, .int .i64 0, .int .i64 0, .int .i64 0, .int .i64 0, .int .i64 0, .int .i64 0], true⟩ := ⟨by kernel_rfl, by kernel_rfl, by kernel_rfl, fun _ => ⟨by kernel_rfl, by kernel_rfl, by kernel_rfl⟩⟩
theorem ty27 : TyOK Try.prog 27 ⟨.st [(0, 22), (3, 3)], 4, 32, [.int .i64 0, .int .i64 0, .int .i64 0, .int .i64 0], true⟩ := ⟨by kernel_rfl, by kernel_rfl, by kernel_rfl, fun _ => ⟨by kernel_rfl, by kernel_rfl, by kernel_rfl⟩⟩
theorem ty28 : TyOK Try.prog 28 ⟨.st [(0, 22), (3, 3)], 4, 32, [.int .i64 0, .int .i64 0, .int .i64 0, .int .i64 0], true⟩ := ⟨by kernel_rfl, by kernel_rfl, by kernel_rfl, fun _ => ⟨by kernel_rfl, by kernel_rfl, by kernel_rfl⟩⟩
theorem ty30 : TyOK Try.prog 30 ⟨.nm .i64, 1, 8, [.int .i64 0], true⟩ := ⟨by kernel_rfl, by kernel_rfl, by kernel_rfl, fun _ => ⟨by kernel_rfl, by kernel_rfl, by kernel_rfl⟩⟩
theorem ty36 : TyOK Try.prog 36 ⟨.st [(0, 3), (1, 3)], 2, 16, [.int .i64 0, .int .i64 0], true⟩ := ⟨by kernel_rfl, by kernel_rfl, by kernel_rfl, fun _ => ⟨by kernel_rfl, by kernel_rfl, by kernel_rfl⟩⟩
theorem ty37 : TyOK Try.prog 37 ⟨.st [(0, 3), (1, 3)], 2, 16, [.int .i64 0, .int .i64 0], true⟩ := ⟨by kernel_rfl, by kernel_rfl, by kernel_rfl, fun _ => ⟨by kernel_rfl, by kernel_rfl, by kernel_rfl⟩⟩
theorem ty49 : TyOK Try.prog 49 ⟨.sl 3, 1, 24, [.slice none 0 0], false⟩ := ⟨by kernel_rfl, by kernel_rfl, by kernel_rfl, fun h => by cases h⟩
theorem ty50 : TyOK Try.prog 50 ⟨.st [(0, 3), (1, 49)], 2, 32, [.int .i64 0, .slice none 0 0], false⟩ := ⟨by kernel_rfl, by kernel_rfl, by kernel_rfl, fun h => by cases h⟩
theorem ty51 : TyOK Try.prog 51 ⟨.st [(0, 3), (1, 49)], 2, 32, [.int .i64 0, .slice none 0 0], false⟩ := ⟨by kernel_rfl, by kernel_rfl, by kernel_rfl, fun h => by cases h⟩
theorem ty52 : TyOK Try.prog 52 ⟨.st [(0, 51), (2, 51)], 4, 64, [.int .i64 0, .slice none 0 0, .int .i64 0, .slice none 0 0], false⟩ := ⟨by kernel_rfl, by kernel_rfl, by kernel_rfl, fun h => by cases h⟩
theorem ty53 : TyOK Try.prog 53 ⟨.st [(0, 51), (2, 51)], 4, 64, [.int .i64 0, .slice none 0 0, .int .i64 0, .slice none 0 0], false⟩ := ⟨by kernel_rfl, by kernel_rfl, by kernel_rfl, fun h => by cases h⟩
theorem ty56 : TyOK Try.prog 56 ⟨.st [(0, 22), (3, 22), (6, 3), (7, 3)], 8, 64, [.int .i64 0, .int .i64 0, .int .i64 0, .int .i64 0, .int .i64 0, .int .i64 0, .int .i64 0, .int .i64 0], true⟩ := ⟨by kernel_rfl, by kernel_rfl, by kernel_rfl, fun _ => ⟨by kernel_rfl, by kernel_rfl, by kernel_rfl⟩⟩
theorem ty57 : TyOK Try.prog 57 ⟨.st [(0, 22), (3, 22), (6, 3), (7, 3)], 8, 64, [.int .i64 0, .int .i64 0, .int .i64 0, .int .i64 0, .int .i64 0, .int .i64 0, .int .i64 0, .int .i64 0], true⟩ := ⟨by kernel_rfl, by kernel_rfl, by kernel_rfl, fun _ => ⟨by kernel_rfl, by kernel_rfl, by kernel_rfl⟩⟩
theorem ty61 : TyOK Try.prog 61 ⟨.sl 92, 1, 24, [.slice none 0 0], false⟩ := ⟨by kernel_rfl, by kernel_rfl, by kernel_rfl, fun h => by cases h⟩
theorem ty74 : TyOK Try.prog 74 ⟨.st [(0, 22), (3, 22)], 6, 48, [.int .i64 0, .int .i64 0, .int .i64 0, .int .i64 0, .int .i64 0, .int .i64 0], true⟩ := ⟨by kernel_rfl, by kernel_rfl, by kernel_rfl, fun _ => ⟨by kernel_rfl, by kernel_rfl, by kernel_rfl⟩⟩
theorem ty75 : TyOK Try.prog 75 ⟨.st [(0, 22), (3, 22)], 6, 48, [.int .i64 0, .int .i64 0, .int .i64 0, .int .i64 0, .int .i64 0, .int .i64 0], true⟩ := ⟨by kernel_rfl, by kernel_rfl, by kernel_rfl, fun _ => ⟨by kernel_rfl, by kernel_rfl, by kernel_rfl⟩⟩
theorem ty76 : TyOK Try.prog 76 ⟨.st [(0, 28), (4, 61)], 5, 56, [.int .i64 0, .int .i64 0, .int .i64 0, .int .i64 0, .slice none 0 0], false⟩ := ⟨by kernel_rfl, by kernel_rfl, by kernel_rfl, fun h => by cases h⟩
theorem ty77 : TyOK Try.prog 77 ⟨.st [(0, 28), (4, 61)], 5, 56, [.int .i64 0, .int .i64 0, .int .i64 0, .int .i64 0, .slice none 0 0], false⟩ := ⟨by kernel_rfl, by kernel_rfl, by kernel_rfl, fun h => by cases h⟩
theorem ty87 : TyOK Try.prog 87 ⟨.sl 22, 1, 24, [.slice none 0 0], false⟩ := ⟨by kernel_rfl, by kernel_rfl, by kernel_rfl, fun h => by cases h⟩
theorem ty91 : TyOK Try.prog 91 ⟨.st [(0, 22), (3, 3), (4, 3)], 5, 40, [.int .i64 0, .int .i64 0, .int .i64 0, .int .i64 0, .int .i64 0], true⟩ := ⟨by kernel_rfl, by kernel_rfl, by kernel_rfl, fun _ => ⟨by kernel_rfl, by kernel_rfl, by kernel_rfl⟩⟩
theorem ty92 : TyOK Try.prog 92 ⟨.st [(0, 22), (3, 3), (4, 3)], 5, 40, [.int .i64 0, .int .i64 0, .int .i64 0, .int .i64 0, .int .i64 0], true⟩ := ⟨by kernel_rfl, by kernel_rfl, by kernel_rfl, fun _ => ⟨by kernel_rfl, by kernel_rfl, by kernel_rfl⟩⟩
theorem ty98 : TyOK Try.prog 98 ⟨.ar 2 75, 12, 96, [.int .i64 0, .int .i64 0, .int .i64 0, .int .i64 0, .int .i64 0, .int .i64 0, .int .i64 0, .int .i64 0, .int .i64 0, .int .i64 0, .int .i64 0, .int .i64 0], true⟩ := ⟨by kernel_rfl, by kernel_rfl, by kernel_rfl, fun _ => ⟨by kernel_rfl, by kernel_rfl, by kernel_rfl⟩⟩
theorem ty106 : TyOK Try.prog 106 ⟨.st [(0, 75), (6, 61)], 7, 72, [.int .i64 0, .int .i64 0, .int .i64 0, .int .i64 0, .int .i64 0, .int .i64 0, .slice none 0 0], false⟩ := ⟨by kernel_rfl, by kernel_rfl, by kernel_rfl, fun h => by cases h⟩
theorem ty107 : TyOK Try.prog 107 ⟨.st [(0, 75), (6, 61)], 7, 72, [.int .i64 0, .int .i64 0, .int .i64 0, .int .i64 0, .int .i64 0, .int .i64 0, .slice none 0 0], false⟩ := ⟨by kernel_rfl, by kernel_rfl, by kernel_rfl, fun h => by cases h⟩
theorem ty108 : TyOK Try.prog 108 ⟨.sl 75, 1, 24, [.slice none 0 0], false⟩ := ⟨by kernel_rfl, by kernel_rfl, by kernel_rfl, fun h => by cases h⟩
theorem ty109 : TyOK Try.prog 109 ⟨.st [(0, 108), (1, 3)], 2, 32, [.slice none 0 0, .int .i64 0], false⟩ := ⟨by kernel_rfl, by kernel_rfl, by kernel_rfl, fun h => by cases h⟩
theorem ty110 : TyOK Try.prog 110 ⟨.st [(0, 108), (1, 3)], 2, 32, [.slice none 0 0, .int .i64 0], false⟩ := ⟨by kernel_rfl, by kernel_rfl, by kernel_rfl, fun h => by cases h⟩
theorem ty128 : TyOK Try.prog 128 ⟨.ar 4 3, 4, 32, [.int .i64 0, .int .i64 0, .int .i64 0, .int .i64 0], true⟩ := ⟨by kernel_rfl, by kernel_rfl, by kernel_rfl, fun _ => ⟨by kernel_rfl, by kernel_rfl, by kernel_rfl⟩⟩
theorem ty133 : TyOK Try.prog 133 ⟨.st [(0, 26)], 12, 96, [.int .i64 0, .int .i64 0, .int .i64 0, .int .i64 0, .int .i64 0, .int .i64 0, .int .i64 0, .int .i64 0, .int .i64 0, .int .i64 0, .int .i64 0, .int .i64 0], true⟩ := ⟨by kernel_rfl, by kernel_rfl, by kernel_rfl, fun _ => ⟨by kernel_rfl, by kernel_rfl, by kernel_rfl⟩⟩
theorem ty134 : TyOK Try.prog 134 ⟨.st [(0, 26)], 12, 96, [.int .i64 0, .int .i64 0, .int .i64 0, .int .i64 0, .int .i64 0, .int .i64 0, .int .i64 0, .int .i64 0, .int .i64 0, .int .i64 0, .int .i64 0, .int .i64 0], true⟩ := ⟨by kernel_rfl, by kernel_rfl, by kernel_rfl, fun _ => ⟨by kernel_rfl, by kernel_rfl, by kernel_rfl⟩⟩
theorem ty135 : TyOK Try.prog 135 ⟨.ar 3 3, 3, 24, [.int .i64 0, .int .i64 0, .int .i64 0], true⟩ := ⟨by kernel_rfl, by kernel_rfl, by kernel_rfl, fun _ => ⟨by kernel_rfl, by kernel_rfl, by kernel_rfl⟩⟩
theorem ty156 : TyOK Try.prog 156 ⟨.st [(0, 3), (1, 3)], 2, 16, [.int .i64 0, .int .i64 0], true⟩ := ⟨by kernel_rfl, by kernel_rfl, by kernel_rfl, fun _ => ⟨by kernel_rfl, by kernel_rfl, by kernel_rfl⟩⟩
theorem ty157 : TyOK Try.prog 157 ⟨.st [(0, 3), (1, 3)], 2, 16, [.int .i64 0, .int .i64 0], true⟩ := ⟨by kernel_rfl, by kernel_rfl, by kernel_rfl, fun _ => ⟨by kernel_rfl, by kernel_rfl, by kernel_rfl⟩⟩
theorem ty180 : TyOK Try.prog 180 ⟨.st [(0, 135), (3, 3)], 4, 32, [.int .i64 0, .int .i64 0, .int .i64 0, .int .i64 0], true⟩ := ⟨by kernel_rfl, by kernel_rfl, by kernel_rfl, fun _ => ⟨by kernel_rfl, by kernel_rfl, by kernel_rfl⟩⟩
theorem ty181 : TyOK Try.prog 181 ⟨.st [(0, 135), (3, 3)], 4, 32, [.int .i64 0, .int .i64 0, .int .i64 0, .int .i64 0], true⟩ := ⟨by kernel_rfl, by kernel_rfl, by kernel_rfl, fun _ => ⟨by kernel_rfl, by kernel_rfl, by kernel_rfl⟩⟩
theorem ty183 : TyOK Try.prog 183 ⟨.oth, 1, 8, [.pointer none], false⟩ := ⟨by kernel_rfl, by kernel_rfl, by kernel_rfl, fun h => by cases h⟩
theorem ty184 : TyOK Try.prog 184 ⟨.sl 30, 1, 24, [.slice none 0 0], false⟩ := ⟨by kernel_rfl, by kernel_rfl, by kernel_rfl, fun h => by cases h⟩
theorem ty198 : TyOK Try.prog 198 ⟨.nm .u64, 1, 8, [.int .u64 0], true⟩ := ⟨by kernel_rfl, by kernel_rfl, by kernel_rfl, fun _ => ⟨by kernel_rfl, by kernel_rfl, by kernel_rfl⟩⟩
theorem ty210 : TyOK Try.prog 210 ⟨.st [(0, 17), (1, 17), (2, 17), (3, 9)], 4, 40, [.pointer none, .pointer none, .pointer none, .string ⟨#[]⟩], false⟩ := ⟨by kernel_rfl, by kernel_rfl, by kernel_rfl, fun h => by cases h⟩
theorem ty215 : TyOK Try.prog 215 ⟨.nm .u32, 1, 4, [.int .u32 0], true⟩ := ⟨by kernel_rfl, by kernel_rfl, by kernel_rfl, fun _ => ⟨by kernel_rfl, by kernel_rfl, by kernel_rfl⟩⟩
theorem ty216 : TyOK Try.prog 216 ⟨.nm .u8, 1, 1, [.int .u8 0], true⟩ := ⟨by kernel_rfl, by kernel_rfl, by kernel_rfl, fun _ => ⟨by kernel_rfl, by kernel_rfl, by kernel_rfl⟩⟩
theorem ty217 : TyOK Try.prog 217 ⟨.nm .u8, 1, 1, [.int .u8 0], true⟩ := ⟨by kernel_rfl, by kernel_rfl, by kernel_rfl, fun _ => ⟨by kernel_rfl, by kernel_rfl, by kernel_rfl⟩⟩
theorem ty219 : TyOK Try.prog 219 ⟨.oth, 1, 8, [.pointer none], false⟩ := ⟨by kernel_rfl, by kernel_rfl, by kernel_rfl, fun h => by cases h⟩
theorem ty220 : TyOK Try.prog 220 ⟨.nm .i32, 1, 4, [.int .i32 0], true⟩ := ⟨by kernel_rfl, by kernel_rfl, by kernel_rfl, fun _ => ⟨by kernel_rfl, by kernel_rfl, by kernel_rfl⟩⟩
theorem ty221 : TyOK Try.prog 221 ⟨.nm .i32, 1, 4, [.int .i32 0], true⟩ := ⟨by kernel_rfl, by kernel_rfl, by kernel_rfl, fun _ => ⟨by kernel_rfl, by kernel_rfl, by kernel_rfl⟩⟩
theorem tabOK : TabOK Try.prog tab := by
  refine tab_of fun p hp => ?_
  simp only [tabL, List.mem_cons, List.not_mem_nil, or_false] at hp
  rcases hp with rfl | rfl | rfl | rfl | rfl | rfl | rfl | rfl | rfl | rfl | rfl | rfl | rfl | rfl | rfl | rfl | rfl | rfl | rfl | rfl | rfl | rfl | rfl | rfl | rfl | rfl | rfl | rfl | rfl | rfl | rfl | rfl | rfl | rfl | rfl | rfl | rfl | rfl | rfl | rfl | rfl | rfl | rfl | rfl | rfl | rfl | rfl | rfl | rfl | rfl | rfl | rfl | rfl | rfl | rfl | rfl | rfl | rfl | rfl | rfl | rfl | rfl | rfl
  · exact ty2
  · exact ty3
  · exact ty4
  · exact ty5
  · exact ty6
  · exact ty7
  · exact ty9
  · exact ty12
  · exact ty13
  · exact ty15
  · exact ty16
  · exact ty17
  · exact ty18
  · exact ty21
  · exact ty22
  · exact ty23
  · exact ty24
  · exact ty25
  · exact ty26
  · exact ty27
  · exact ty28
  · exact ty30
  · exact ty36
  · exact ty37
  · exact ty49
  · exact ty50
  · exact ty51
  · exact ty52
  · exact ty53
  · exact ty56
  · exact ty57
  · exact ty61
  · exact ty74
  · exact ty75
  · exact ty76
  · exact ty77
  · exact ty87
  · exact ty91
  · exact ty92
  · exact ty98
  · exact ty106
  · exact ty107
  · exact ty108
  · exact ty109
  · exact ty110
  · exact ty128
  · exact ty133
  · exact ty134
  · exact ty135
  · exact ty156
  · exact ty157
  · exact ty180
  · exact ty181
  · exact ty183
  · exact ty184
  · exact ty198
  · exact ty210
  · exact ty215
  · exact ty216
  · exact ty217
  · exact ty219
  · exact ty220
  · exact ty221
theorem mixed : Try.prog.follows .mixedOrders = true := by kernel_rfl
end Go.Proofs.Ytlmdmpjfehpjeaa

/- Plain arithmetic: factorials, binomial numbers, powers. No program in sight. -/
set_option linter.unusedVariables false
set_option linter.unusedSimpArgs false
namespace Go.Proofs.Ytlmdmpjfehpjeaa

/-- binomial numbers. -/
def ch : Nat → Nat → Nat
  | _, 0 => 1
  | 0, _ + 1 => 0
  | n + 1, k + 1 => ch n k + ch n (k + 1)
/-! sequences of trials -/
/-- the number of sequences of t trials with exactly k hits, trial by trial. -/
def ex (s u : Nat) : Nat → Nat → Nat
  | 0, 0 => 1
  | 0, _ + 1 => 0
  | t + 1, 0 => ex s u t 0 * u
  | t + 1, k + 1 => ex s u t (k + 1) * u + ex s u t k * s
/-! greatest common divisors, as Go reckons them -/
theorem gcd_tmod (a b : Int) : Int.gcd b (a.tmod b) = Int.gcd a b := by
  simp only [Int.gcd, Int.natAbs_tmod]
  rw [Nat.gcd_comm b.natAbs, ← Nat.gcd_rec, Nat.gcd_comm]
theorem tmod_abs (a b : Int) (h : b ≠ 0) : (a.tmod b).natAbs < b.natAbs := by
  rw [Int.natAbs_tmod]; exact Nat.mod_lt _ (by omega)

end Go.Proofs.Ytlmdmpjfehpjeaa

/- Small notions that all contracts of this seat use: a range test, the first error of a list, worlds that only grow, slices that read as lists. No program in sight. -/
set_option linter.unusedVariables false
set_option linter.unusedSimpArgs false
namespace Go.Proofs.Ytlmdmpjfehpjeaa
open Go.RowKit

theorem hid {p : Prop} (h : p) : Hid p := h

/-- n lies from lo to hi. -/
def inB (n lo hi : Int) : Bool := decide (lo ≤ n) && decide (n ≤ hi)
theorem inB_true {n lo hi : Int} : inB n lo hi = true ↔ lo ≤ n ∧ n ≤ hi := by simp [inB]
/-- 0 if a condition holds, else an error. -/
def unl (b : Bool) (n : Int) : Int := if b = true then 0 else n

/-- the first number of a list that is not 0, or 0. -/
def firstNZ : List Int → Int
  | [] => 0
  | x :: l => if x = 0 then firstNZ l else x

theorem firstNZ_zero {l : List Int} : firstNZ l = 0 ↔ ∀ x ∈ l, x = 0 := by
  induction l with
  | nil => simp [firstNZ]
  | cons a l ih =>
    simp only [firstNZ]
    split
    · rename_i h; simp [ih, h]
    · rename_i h; simp [h]

theorem firstNZ_append_zero {l m : List Int} (h : ∀ x ∈ l, x = 0) : firstNZ (l ++ m) = firstNZ m := by
  induction l with
  | nil => rfl
  | cons a l ih =>
    have ha : a = 0 := h a (by simp)
    simp only [List.cons_append, firstNZ, ha, if_true]
    exact ih fun x hx => h x (by simp [hx])

/-- What a call that leaves old memory alone gives of old cells. -/
theorem bcell {W w1 : World} (hb : Below W.heap.size W w1) : (∀ b o, b < W.heap.size → w1.cell? ⟨b, o, none⟩ = W.cell? ⟨b, o, none⟩) ∧ (∀ b o, b < W.heap.size → w1.frozen? ⟨b, o, none⟩ = W.frozen? ⟨b, o, none⟩) :=
  ⟨fun b o h => hb.cell (p := ⟨b, o, none⟩) h, fun b o h => hb.frozen (p := ⟨b, o, none⟩) h⟩

theorem Below.drewN {B : Nat} {a w : World} (n : Nat) (h : Below B a w) : Below B a (w.drewN n) := ⟨h.os, h.tape, h.output, h.size, h.block⟩

theorem Below_call {w a w1 : World} (h : Below w.heap.size w a) (hb : Below a.heap.size a w1) : Below w.heap.size w w1 := h.trans (hb.mono h.size)

theorem Below_alloc {w w' : World} (h : Below w.heap.size w w') (o : Obj) : Below w.heap.size w (w'.alloc o) := h.alloc h.size o

/-- A slice value v reads in w as n elements of sz cells: cell j of element i holds c i j. -/
def SlAt (w : World) (v : Value) (n sz : Nat) (c : Nat → Nat → Value) : Prop :=
  ∃ ao cap, v = .slice ao n cap ∧ n ≤ cap ∧ cap ≤ maxLen ∧
    (0 < n → ∃ b off, ao = some ⟨b, off, none⟩ ∧ b < w.heap.size ∧ ∀ i j, i < n → j < sz → w.cell? ⟨b, off + i * sz + j, none⟩ = some (c i j)) ∧ (ao = none → cap = 0)

theorem SlAt.below {w w' : World} {v : Value} {n sz : Nat} {c : Nat → Nat → Value} (h : SlAt w v n sz c) (hb : Below w.heap.size w w') : SlAt w' v n sz c := by
  obtain ⟨ao, cap, rfl, h1, h2, h3, h4⟩ := h
  refine ⟨ao, cap, rfl, h1, h2, fun h0 => ?_, h4⟩
  obtain ⟨b, off, e, hlt, hc⟩ := h3 h0
  exact ⟨b, off, e, Nat.lt_of_lt_of_le hlt hb.size, fun i j hi hj => (hb.cell (p := ⟨b, _, none⟩) hlt).trans (hc i j hi hj)⟩

/-- A slice of ints. -/
def IntsAt (w : World) (v : Value) (l : List Int) : Prop := SlAt w v l.length 1 (fun i _ => .int .i64 (l.getD i 0))

theorem IntsAt.below {w w' : World} {v : Value} {l : List Int} (h : IntsAt w v l) (hb : Below w.heap.size w w') : IntsAt w' v l := SlAt.below h hb

/-- .. opened: the value's shape, and each cell under its condition. -/
theorem IntsAt.open {w : World} {v : Value} {l : List Int} (h : IntsAt w v l) : ∃ ao cap, v = .slice ao l.length cap ∧ l.length ≤ cap ∧ cap ≤ maxLen ∧
    ∀ k, k < l.length → ∃ b off, ao = some ⟨b, off, none⟩ ∧ b < w.heap.size ∧ ∀ i, i < l.length → w.cell? ⟨b, off + i, none⟩ = some (.int .i64 (l.getD i 0)) := by
  obtain ⟨ao, cap, rfl, h1, h2, h3, _⟩ := h
  refine ⟨ao, cap, rfl, h1, h2, fun k hk => ?_⟩
  obtain ⟨b, off, e, hlt, hc⟩ := h3 (by omega)
  exact ⟨b, off, e, hlt, fun i hi => by simpa using hc i 0 hi (by omega)⟩

/-- a number of a list, 0 behind its end: simp does not look into it. -/
def nth (l : List Int) (i : Nat) : Int := l.getD i 0
theorem IntsAt.opn {w : World} {v : Value} {l : List Int} (h : IntsAt w v l) : ∃ ao cap, v = .slice ao l.length cap ∧ l.length ≤ cap ∧ cap ≤ maxLen ∧
    ∀ k, k < l.length → ∃ b off, ao = some ⟨b, off, none⟩ ∧ b < w.heap.size ∧ ∀ i, i < l.length → w.cell? ⟨b, off + i, none⟩ = some (.int .i64 (nth l i)) := h.open

theorem IntsAt.nil (w : World) : IntsAt w (.slice none 0 0) [] := ⟨none, 0, rfl, by simp, by simp, fun h => by simp at h, fun _ => rfl⟩

/-- a slice literal of ints, laid in a new block. -/
theorem intsAt_new (w : World) (e : TypeId) (l : List Int) (n N : Nat) (hn : n = l.length) (hm : n ≤ 1000) (hN : w.heap.size = N) : IntsAt (w.alloc (.cells (l.map (Value.int .i64)).toArray e)) (.slice (some ⟨N, 0, none⟩) n n) l := by
  subst hn; subst hN
  refine ⟨_, _, rfl, Nat.le_refl _, by unfold maxLen; omega, fun _ => ⟨_, 0, rfl, by simp, fun i j hi hj => ?_⟩, fun h => by cases h⟩
  obtain rfl : j = 0 := by omega
  rw [cell_of_row (w.alloc _) w.heap.size _ _ e (0, 0) (heap_alloc_new w _)]
  simp [hi, List.getD]

theorem getD_lt {α : Type} {l : List α} {k : Nat} (d : α) (h : k < l.length) : l.getD k d = l[k] := by simp [List.getD, h]
theorem take_getD {α : Type} {l : List α} {k : Nat} (d : α) (h : k < l.length) : l.take (k + 1) = l.take k ++ [l.getD k d] := by
  rw [List.take_succ_eq_append_getElem h, getD_lt d h]
theorem cut_getD {α : Type} {l : List α} {k : Nat} (d : α) (h : k < l.length) : l = l.take k ++ l.getD k d :: l.drop (k + 1) := by
  rw [getD_lt d h, List.getElem_cons_drop, List.take_append_drop]

theorem ret_int {k : IntKind} {a b : Int} (h : a = b) : Ending.returned (.int k a) = .returned (.int k b) := by rw [h]
theorem ret_bool {a b : Bool} (h : a = b) : Ending.returned (.bool a) = .returned (.bool b) := by rw [h]

end Go.Proofs.Ytlmdmpjfehpjeaa

/- A checker of Go code: older contracts, over slices too. No program in sight. -/
set_option linter.unusedVariables false
set_option linter.unusedSimpArgs false
namespace Go.Proofs.Ytlmdmpjfehpjeaa.Ev
open Go.RowKit

def okCV : CV → Option Value
  | .v x => bif x.oneCell' then some x else none
  | _ => none
def cvsV : List CV → Option (List Value)
  | [] => some []
  | x :: l => match okCV x, cvsV l with
    | some v, some vs => some (v :: vs)
    | _, _ => none
def tvV : TV → Option Value
  | .c x => okCV x
  | .a l => (cvsV l).map fun vs => .agg vs.toArray
  | _ => none
def tvsV : List TV → Option (List Value)
  | [] => some []
  | x :: l => match tvV x, tvsV l with
    | some v, some vs => some (v :: vs)
    | _, _ => none
def dvV : DV → Option Value
  | .t x => tvV x
  | .tu l => (tvsV l).map fun vs => .tuple vs.toArray
theorem okCV_rel {w : World} {N : Nat → Prop} {x : CV} {v : Value} (h : okCV x = some v) : RelF w N x v := by
  cases x with
  | v y =>
    simp only [okCV] at h
    cases e : y.oneCell' with
    | true => rw [e] at h; cases h; exact ⟨rfl, e⟩
    | false => rw [e] at h; cases h
  | _ => cases h
theorem cvsV_rel {w : World} {N : Nat → Prop} : ∀ {l : List CV} {vs : List Value}, cvsV l = some vs → All2 (RelF w N) l vs
  | [], vs, h => by cases h; trivial
  | x :: l, vs, h => by
    simp only [cvsV] at h
    split at h
    · rename_i v us h1 h2
      cases h
      exact ⟨okCV_rel h1, cvsV_rel h2⟩
    · cases h
theorem tvV_rel {w : World} {N : Nat → Prop} {x : TV} {v : Value} (h : tvV x = some v) : RelT (RelF w N) x v := by
  cases x with
  | c y => exact okCV_rel h
  | a l =>
    simp only [tvV, Option.map_eq_some_iff] at h
    obtain ⟨vs, h1, rfl⟩ := h
    exact ⟨vs, rfl, cvsV_rel h1⟩
  | fn f l => cases h
theorem tvsV_rel {w : World} {N : Nat → Prop} : ∀ {l : List TV} {vs : List Value}, tvsV l = some vs → All2 (RelT (RelF w N)) l vs
  | [], vs, h => by cases h; trivial
  | x :: l, vs, h => by
    simp only [tvsV] at h
    split at h
    · rename_i v us h1 h2
      cases h
      exact ⟨tvV_rel h1, tvsV_rel h2⟩
    · cases h
theorem dvV_rel {w : World} {N : Nat → Prop} {d : DV} {v : Value} (h : dvV d = some v) : RelD (RelF w N) d v := by
  cases d with
  | t x => exact tvV_rel h
  | tu l =>
    simp only [dvV, Option.map_eq_some_iff] at h
    obtain ⟨vs, h1, rfl⟩ := h
    exact ⟨vs, rfl, tvsV_rel h1⟩
theorem All2.cons_inv {α β : Type} {R : α → β → Prop} {a : α} {l : List α} {m : List β} (h : All2 R (a :: l) m) : ∃ b bs, m = b :: bs ∧ R a b ∧ All2 R l bs := by
  cases m with
  | nil => exact h.elim
  | cons b bs => exact ⟨b, bs, rfl, h.1, h.2⟩
theorem All2.nil_inv {α β : Type} {R : α → β → Prop} {m : List β} (h : All2 R ([] : List α) m) : m = [] := by
  cases m with
  | nil => rfl
  | cons b bs => exact h.elim
theorem plain_arg {w : World} {N : Nat → Prop} {d : DV} {v u : Value} (h : toValue d = some v) (g : RelD (RelF w N) d u) : u = v := toValue_eq (fun y u h => h.1) h g
/-- a contract of the older kind. -/
theorem Ok.oldG {P : Program} {f : FuncId} (hen : Enters P f) {F : Con} (h : ∀ args r pre fresh, F args = some (r, pre, fresh) → okP pre → ∃ v, dvV r = some v ∧ ∀ W N vs, All2 (RelD (RelF W N)) args vs → Calls P f vs.toArray W fun e w' => e = .returned v ∧ Below W.heap.size W w') : Ok P f F := by
  intro args r pre fresh h1 h2
  obtain ⟨v, g1, g2⟩ := h args r pre fresh h1 h2
  exact ⟨hen, fun W N us hu => Calls.mono (g2 W N us hu) fun e w' ⟨e1, e2⟩ => ⟨v, e1, dvV_rel g1, e2⟩⟩
/-- a contract for a case. -/
theorem Ok.over {P : Program} {f : FuncId} {F F' : Con} (h : Ok P f F) (hF : ∀ args r' pre' fresh, F' args = some (r', pre', fresh) → okP pre' → ∃ r pre, F args = some (r, pre, fresh) ∧ okP pre ∧ r = r') : Ok P f F' := by
  intro args r' pre' fresh h1 h2
  obtain ⟨r, pre, g1, g2, rfl⟩ := hF args r' pre' fresh h1 h2
  exact h args r pre fresh g1 g2
theorem law_end {P : Program} {f : FuncId} {args : Array Value} {W : World} {N : Nat → Prop} (g : Calls P f args W fun e w' => ∃ v r, e = .returned v ∧ LeD r (.t (.c (.v (.bool true)))) ∧ RelD (RelF w' (resN W N false)) r v ∧ Below W.heap.size W w') : Calls P f args W fun e w' => e = .returned (.bool true) ∧ Below W.heap.size W w' := by
  refine g.mono ?_
  rintro e w' ⟨v, r, rfl, g1, g2, g3⟩
  have g4 := g1 _ _ _ g2
  exact ⟨by rw [show v = .bool true from g4.1], g3⟩
/-- a foreign slice of numbers, in the older form. -/
theorem sl_SlAt {w : World} {N : Nat → Prop} {sz n : Nat} {c : Nat → Nat → CV} {v : Value} {g : Nat → Nat → Value} (h : RelF w N (.sl sz n c) v) (hc : ∀ i j, i < n → j < sz → c i j = .v (g i j)) : SlAt w v n sz g := by
  obtain ⟨ao, cap, rfl, h2, h3, h4, h5⟩ := h
  refine ⟨ao, cap, rfl, h2, h3, fun h0 => ?_, h4⟩
  obtain ⟨b, off, e, g1, _, g3⟩ := h5 h0
  refine ⟨b, off, e, g1, fun i j hi hj => ?_⟩
  obtain ⟨x, k1, k2⟩ := g3 i j hi hj
  rw [hc i j hi hj] at k2
  rw [k1, k2.1]
theorem SlAt_sl {w : World} {N : Nat → Prop} {sz n : Nat} {c : Nat → Nat → CV} {v : Value} {g : Nat → Nat → Value} (h : SlAt w v n sz g) (hN : ∀ b, b < w.heap.size → N b) (hc : ∀ i j, i < n → j < sz → c i j = .v (g i j) ∧ (g i j).oneCell' = true) : RelF w N (.sl sz n c) v := by
  obtain ⟨ao, cap, rfl, h2, h3, h4, h5⟩ := h
  refine ⟨ao, cap, rfl, h2, h3, h5, fun h0 => ?_⟩
  obtain ⟨b, off, e, g1, g3⟩ := h4 h0
  refine ⟨b, off, e, g1, hN b g1, fun i j hi hj => ⟨_, g3 i j hi hj, ?_⟩⟩
  rw [(hc i j hi hj).1]
  exact ⟨rfl, (hc i j hi hj).2⟩
/-- lists of ints. -/
def mkInt (g : Nat → Int) : Int := g 0
theorem at_int {w : World} {N : Nat → Prop} {n : Nat} {c : Nat → Nat → CV} {v : Value} (hp : numsP 1 n c) (h : RelF w N (.sl 1 n c) v) : IntsAt w v (listC n mkInt c) := by
  have hl : (listC n mkInt c).length = n := listC_len
  unfold IntsAt
  rw [hl]
  refine sl_SlAt h fun i j hi hj => ?_
  have h : (listC n mkInt c).getD i 0 = mkInt fun j => cvInt (c i j) := listC_get hi
  rw [h, hp i j hi hj, show j = 0 by omega]; rfl
theorem numsP_gen (l : List Int) : numsP 1 l.length (genC (l.map fun n => [.v (.int .i64 n)])) := by
  intro i j hi hj
  have h : genC (l.map fun n => [CV.v (.int .i64 n)]) i j = .v (.int .i64 l[i]) := by
    unfold genC
    rw [show j = 0 by omega]
    simp [List.getD, hi]
  rw [h]; rfl
end Go.Proofs.Ytlmdmpjfehpjeaa.Ev

/- Tracks: plain law of reached places, answers, scores, divided boxes, best steps, covers. -/
set_option linter.unusedVariables false
set_option linter.unusedSimpArgs false
namespace Go.Proofs.Ytlmdmpjfehpjeaa

structure TMod where
  (px py pz tm tk lo hi li ea la no mi : Int)
structure V3 where
  (x y z : Int)
def V3.dot (a b : V3) : Int := a.x * b.x + a.y * b.y + a.z * b.z
def TMod.slow (m : TMod) : Int := m.li * m.tk * m.tk
def TMod.way (m : TMod) (s p : V3) (t : Int) : V3 := ⟨m.tk * (p.x - m.px) - (t - m.tm) * s.x, m.tk * (p.y - m.py) - (t - m.tm) * s.y, m.tk * (p.z - m.pz) - (t - m.tm) * s.z⟩
def reachB (a b c : Int) : Bool := decide (c = 0) || (decide (b ≤ 0) && decide (a * c ≤ b * b))
def TMod.reached (m : TMod) (s p : V3) (t : Int) : Bool := reachB (s.dot s - m.slow) ((m.way s p t).dot s) ((m.way s p t).dot (m.way s p t))
theorem sq_nn (a : Int) : 0 ≤ a * a := by have h : ((a.natAbs * a.natAbs : Nat) : Int) = a * a := Int.natAbs_mul_self; omega
theorem V3.dot_self (a : V3) : 0 ≤ a.dot a := by
  have h1 := sq_nn a.x 
  have h2 := sq_nn a.y
  have h3 := sq_nn a.z
  unfold V3.dot; omega
theorem V3.dot_zero {a : V3} (h : a.dot a = 0) : a.x = 0 ∧ a.y = 0 ∧ a.z = 0 := by
  have h1 := sq_nn a.x
  have h2 := sq_nn a.y
  have h3 := sq_nn a.z
  unfold V3.dot at h
  have e1 : a.x * a.x = 0 := by omega
  have e2 : a.y * a.y = 0 := by omega
  have e3 : a.z * a.z = 0 := by omega
  exact ⟨(Int.mul_eq_zero.1 e1).elim id id, (Int.mul_eq_zero.1 e2).elim id id, (Int.mul_eq_zero.1 e3).elim id id⟩
/-- light that has reached a place stays there. -/
theorem reached_succ (m : TMod) (s p : V3) (t : Int) (hs : 0 ≤ m.slow) (ha : m.slow < s.dot s) (h : m.reached s p t = true) : m.reached s p (t + 1) = true := by
  obtain ⟨w, hw⟩ : ∃ w, w = m.way s p t := ⟨_, rfl⟩
  obtain ⟨w', hw'⟩ : ∃ w', w' = m.way s p (t + 1) := ⟨_, rfl⟩
  have ex : w'.x = w.x - s.x := by rw [hw, hw']; simp only [TMod.way]; grind
  have ey : w'.y = w.y - s.y := by rw [hw, hw']; simp only [TMod.way]; grind
  have ez : w'.z = w.z - s.z := by rw [hw, hw']; simp only [TMod.way]; grind
  unfold TMod.reached at *
  rw [← hw] at h
  rw [← hw']
  obtain ⟨S, hS⟩ : ∃ S, S = s.dot s := ⟨_, rfl⟩
  obtain ⟨b, hb⟩ : ∃ b, b = w.dot s := ⟨_, rfl⟩
  obtain ⟨c, hc⟩ : ∃ c, c = w.dot w := ⟨_, rfl⟩
  have eb : w'.dot s = b - S := by rw [hb, hS]; simp only [V3.dot, ex, ey, ez]; grind
  have ec : w'.dot w' = c - 2 * b + S := by rw [hc, hb, hS]; simp only [V3.dot, ex, ey, ez]; grind
  rw [eb, ec, ← hS]
  rw [← hb, ← hc, ← hS] at h
  rw [← hS] at ha
  have hc0 : 0 ≤ c := by rw [hc]; exact V3.dot_self w
  unfold reachB at *
  simp only [Bool.or_eq_true, Bool.and_eq_true, decide_eq_true_eq] at *
  right
  have hb0 : b ≤ 0 ∧ (S - m.slow) * c ≤ b * b := by
    rcases h with h | h
    · have := V3.dot_zero (hc.symm.trans h)
      have e0 : b = 0 := by rw [hb]; simp only [V3.dot, this.1, this.2.1, this.2.2]; omega
      exact ⟨by omega, by rw [h, e0]; omega⟩
    · exact h
  refine ⟨by omega, ?_⟩
  generalize m.slow = q at *
  have h1 := Int.mul_nonneg (show 0 ≤ -b by omega) hs
  have h2 := Int.mul_nonneg (show 0 ≤ S by omega) hs
  have e : (b - S) * (b - S) - (S - q) * (c - 2 * b + S) = (b * b - (S - q) * c) + 2 * (-b * q) + S * q := by grind
  omega
theorem reached_mono (m : TMod) (s p : V3) (hs : 0 ≤ m.slow) (ha : m.slow < s.dot s) {t u : Int} (htu : t ≤ u) (h : m.reached s p t = true) : m.reached s p u = true := by
  obtain ⟨k, rfl⟩ : ∃ k : Nat, u = t + k := ⟨(u - t).toNat, by omega⟩
  induction k with
  | zero => simpa using h
  | succ k ih =>
    have := reached_succ m s p (t + k) hs ha (ih (by omega))
    rwa [show t + (k : Int) + 1 = t + ((k + 1 : Nat) : Int) by push_cast; omega] at this
/-- the first number from t on, among so many. -/
def fstN (f : Int → Bool) : Nat → Int → Int
  | 0, t => t
  | n + 1, t => if f t then t else fstN f n (t + 1)
theorem fstN_spec (f : Int → Bool) : ∀ (n : Nat) (t : Int), t ≤ fstN f n t ∧ fstN f n t ≤ t + n ∧ (∀ u, t ≤ u → u < fstN f n t → f u = false) ∧ (fstN f n t < t + n → f (fstN f n t) = true) := by
  intro n
  induction n with
  | zero => intro t; exact ⟨Int.le_refl _, by simp [fstN], fun u h1 h2 => by simp only [fstN] at h2; omega, fun h => by simp [fstN] at h⟩
  | succ n ih =>
    intro t
    unfold fstN
    split
    · next h => exact ⟨Int.le_refl _, by omega, fun u h1 h2 => by omega, fun _ => h⟩
    · next h =>
      obtain ⟨h1, h2, h3, h4⟩ := ih (t + 1)
      refine ⟨by omega, by push_cast; omega, fun u hu1 hu2 => ?_, fun hh => h4 (by push_cast at hh; omega)⟩
      rcases (by omega : u = t ∨ t + 1 ≤ u) with rfl | h5
      · simpa using h
      · exact h3 u h5 hu2
theorem fstN_eq {f : Int → Bool} {n : Nat} {t u : Int} (h1 : t ≤ u) (h2 : u ≤ t + n) (h3 : ∀ v, t ≤ v → v < u → f v = false) (h4 : u < t + n → f u = true) : fstN f n t = u := by
  obtain ⟨a1, a2, a3, a4⟩ := fstN_spec f n t
  rcases Int.lt_trichotomy (fstN f n t) u with h | h | h
  · have := h3 _ a1 h; rw [a4 (by omega)] at this; cases this
  · exact h
  · have := a3 u h1 h; rw [h4 (by omega)] at this; cases this
/-- the first time, from the time before the first that counts. -/
def TMod.first (m : TMod) (s p : V3) : Int := fstN (m.reached s p) 2000002 (-1000001)
theorem first_spec (m : TMod) (s p : V3) (hs : 0 ≤ m.slow) (ha : m.slow < s.dot s) {u : Int} (h1 : -1000001 ≤ u) (h2 : u ≤ 1000000) : m.reached s p u = decide (m.first s p ≤ u) := by
  obtain ⟨a1, a2, a3, a4⟩ := fstN_spec (m.reached s p) 2000002 (-1000001)
  by_cases h : m.first s p ≤ u
  · rw [decide_eq_true h]
    exact reached_mono m s p hs ha h (a4 (by unfold TMod.first at h; omega))
  · rw [decide_eq_false h]
    exact a3 u h1 (by unfold TMod.first at h; omega)
/-- products of numbers of a size. -/
theorem mul_sz {x y : Int} {A B : Nat} (hx : x.natAbs ≤ A) (hy : y.natAbs ≤ B) : (x * y).natAbs ≤ A * B := by
  rw [Int.natAbs_mul]; exact Nat.mul_le_mul hx hy
theorem mul_rg {x y A B C : Int} (hx : -A ≤ x ∧ x ≤ A) (hy : -B ≤ y ∧ y ≤ B) (hC : A * B ≤ C) : -C ≤ x * y ∧ x * y ≤ C := by
  have h := mul_sz (x := x) (y := y) (A := A.natAbs) (B := B.natAbs) (by omega) (by omega)
  have e : ((A.natAbs * B.natAbs : Nat) : Int) = A * B := by push_cast; congr 1 <;> omega
  omega
theorem reached_iff (m : TMod) (s p : V3) (hs : 0 ≤ m.slow) (ha : m.slow < s.dot s) {n : Int} (h1 : m.reached s p n = true) (h0 : m.reached s p (n - 1) = false) (u : Int) : m.reached s p u = decide (n ≤ u) := by
  by_cases h : n ≤ u
  · rw [decide_eq_true h]; exact reached_mono m s p hs ha h h1
  · rw [decide_eq_false h]
    cases e : m.reached s p u
    · rfl
    · rw [reached_mono m s p hs ha (show u ≤ n - 1 by omega) e] at h0; cases h0
theorem first_of (m : TMod) (s p : V3) {n : Int} (h : ∀ u, m.reached s p u = decide (n ≤ u)) (h1 : -1000001 ≤ n) (h2 : n ≤ 1000001) : m.first s p = n :=
  fstN_eq h1 (by omega) (fun v _ hv => by rw [h, decide_eq_false (by omega)]) (fun _ => by rw [h, decide_eq_true (Int.le_refl _)])
def V3.add (a b : V3) : V3 := ⟨a.x + b.x, a.y + b.y, a.z + b.z⟩
def TMod.pl (m : TMod) : V3 := ⟨m.px, m.py, m.pz⟩
def TMod.put (m : TMod) (p : V3) (t : Int) : TMod := { m with px := p.x, py := p.y, pz := p.z, tm := t }
structure TBox where
  (lo hi : V3)
/-- a range of numbers. -/
structure Rg where
  (lo hi : Int)
def Rg.plus (r s : Rg) : Rg := ⟨r.lo + s.lo, r.hi + s.hi⟩
def mn4 (a b c d : Int) : Int := min (min (min a b) c) d
def mx4 (a b c d : Int) : Int := max (max (max a b) c) d
def Rg.times (r s : Rg) : Rg := ⟨mn4 (r.lo * s.lo) (r.lo * s.hi) (r.hi * s.lo) (r.hi * s.hi), mx4 (r.lo * s.lo) (r.lo * s.hi) (r.hi * s.lo) (r.hi * s.hi)⟩
def Rg.square (r : Rg) : Rg := if r.lo ≤ 0 ∧ 0 ≤ r.hi then ⟨0, max (r.lo * r.lo) (r.hi * r.hi)⟩ else ⟨min (r.lo * r.lo) (r.hi * r.hi), max (r.lo * r.lo) (r.hi * r.hi)⟩
def Rg.has (r : Rg) (n : Int) : Prop := r.lo ≤ n ∧ n ≤ r.hi
def TBox.rx (b : TBox) : Rg := ⟨b.lo.x, b.hi.x⟩
def TBox.ry (b : TBox) : Rg := ⟨b.lo.y, b.hi.y⟩
def TBox.rz (b : TBox) : Rg := ⟨b.lo.z, b.hi.z⟩
def TBox.has (b : TBox) (s : V3) : Prop := b.rx.has s.x ∧ b.ry.has s.y ∧ b.rz.has s.z
def restR (tk : Int) (r : Rg) (d a : Int) : Rg := (r.times ⟨-a, -a⟩).plus ⟨tk * d, tk * d⟩
def TMod.prodR (m : TMod) (b : TBox) (p : V3) (t : Int) : Rg :=
  (((⟨0, 0⟩ : Rg).plus ((restR m.tk b.rx (p.x - m.px) (t - m.tm)).times b.rx)).plus ((restR m.tk b.ry (p.y - m.py) (t - m.tm)).times b.ry)).plus ((restR m.tk b.rz (p.z - m.pz) (t - m.tm)).times b.rz)
def TMod.leftR (m : TMod) (b : TBox) (p : V3) (t : Int) : Rg :=
  (((⟨0, 0⟩ : Rg).plus (restR m.tk b.rx (p.x - m.px) (t - m.tm)).square).plus (restR m.tk b.ry (p.y - m.py) (t - m.tm)).square).plus (restR m.tk b.rz (p.z - m.pz) (t - m.tm)).square
def TBox.squares (b : TBox) : Rg := (((⟨0, 0⟩ : Rg).plus b.rx.square).plus b.ry.square).plus b.rz.square
def TMod.fast (m : TMod) (b : TBox) : Rg := ⟨max b.squares.lo m.lo - m.slow, min b.squares.hi m.hi - m.slow⟩
/-- the answer for a box: 2 surely, 0 surely not, 1 undecided. -/
def ansR (prod left fast : Rg) : Int :=
  if left.hi = 0 ∨ (prod.hi ≤ 0 ∧ fast.hi * left.hi ≤ prod.hi * prod.hi) then 2 else if 0 < left.lo ∧ (0 < prod.lo ∨ prod.lo * prod.lo < fast.lo * left.lo) then 0 else 1
def TMod.ans (m : TMod) (b : TBox) (p : V3) (t : Int) : Int := ansR (m.prodR b p t) (m.leftR b p t) (m.fast b)
def TMod.permit (m : TMod) (s : V3) : Prop := m.lo ≤ s.dot s ∧ s.dot s ≤ m.hi
structure THit where
  (p : V3)
  (t w : Int)
def TMod.pen (m : TMod) (s : V3) (h : THit) : Int :=
  if m.reached s h.p (h.t + m.ea) = false then h.w * m.mi else if m.reached s h.p (h.t - m.la - 1) = true then h.w * m.no else 0
def TMod.pens (m : TMod) (s : V3) (l : List THit) : List Int := l.map (m.pen s)
def TMod.score (m : TMod) (s : V3) (l : List THit) : Int := (m.pens s l).foldl (· + ·) 0
def ownR (early late miss noise : Int) : Rg :=
  ⟨if early = 0 ∧ late = 2 then min miss noise else if early = 0 then miss else if late = 2 then noise else 0,
   if late ≠ 0 then max (if early ≠ 2 then miss else 0) noise else if early ≠ 2 then miss else 0⟩
def TMod.hitR (m : TMod) (b : TBox) (h : THit) : Rg := ownR (m.ans b h.p (h.t + m.ea)) (m.ans b h.p (h.t - m.la - 1)) (h.w * m.mi) (h.w * m.no)
def TMod.scores (m : TMod) (b : TBox) (l : List THit) : Rg := l.foldl (fun r h => r.plus (m.hitR b h)) ⟨0, 0⟩
def Rg.sub (r s : Rg) : Prop := s.lo ≤ r.lo ∧ r.hi ≤ s.hi
def Rg.ok (r : Rg) : Prop := r.lo ≤ r.hi
theorem Rg.ends {r r' : Rg} (h : r.sub r') (o : r.ok) : r'.has r.lo ∧ r'.has r.hi := by unfold Rg.sub Rg.ok Rg.has at *; omega
def TBox.sub (b c : TBox) : Prop := b.rx.sub c.rx ∧ b.ry.sub c.ry ∧ b.rz.sub c.rz
def TBox.ok (b : TBox) : Prop := b.rx.ok ∧ b.ry.ok ∧ b.rz.ok
/-- a box may have a permitted step. -/
def TMod.canBe (m : TMod) (b : TBox) : Prop := m.lo ≤ b.squares.hi ∧ b.squares.lo ≤ m.hi
def TBox.count (b : TBox) : Int := (b.hi.x - b.lo.x + 1) * (b.hi.y - b.lo.y + 1) * (b.hi.z - b.lo.z + 1)
/-- the numbers from lo to hi, and the steps of a box, ascending. -/
def upto (lo hi : Int) : List Int := (List.range (hi - lo + 1).toNat).map (fun k : Nat => lo + (k : Int))
def TBox.all (b : TBox) : List V3 := (upto b.lo.x b.hi.x).flatMap fun x => (upto b.lo.y b.hi.y).flatMap fun y => (upto b.lo.z b.hi.z).map fun z => ⟨x, y, z⟩
def TMod.permB (m : TMod) (s : V3) : Bool := decide (m.lo ≤ s.dot s) && decide (s.dot s ≤ m.hi)
theorem permB_iff {m : TMod} {s : V3} : m.permB s = true ↔ m.permit s := by simp [TMod.permB, TMod.permit]
def TMod.steps (m : TMod) (b : TBox) : List V3 := b.all.filter m.permB
/-- two boxes have no step in common, coordinate by coordinate. -/
def TBox.apart (a b : TBox) : Prop := a.hi.x < b.lo.x ∨ b.hi.x < a.lo.x ∨ a.hi.y < b.lo.y ∨ b.hi.y < a.lo.y ∨ a.hi.z < b.lo.z ∨ b.hi.z < a.lo.z
def TMod.proved (m : TMod) (l : List THit) (K : Int) (b : TBox) : Prop := ¬ m.canBe b ∨ K ≤ (m.scores b l).lo
def sumC (L : List TBox) : Int := (L.map TBox.count).foldl (· + ·) 0
/-- boxes that make up a box, each of which is proved. -/
structure TMod.covers (m : TMod) (l : List THit) (K : Int) (b : TBox) (L : List TBox) : Prop where
  each : ∀ c ∈ L, c.ok ∧ c.sub b ∧ m.proved l K c
  apart : L.Pairwise TBox.apart
  count : sumC L = b.count
end Go.Proofs.Ytlmdmpjfehpjeaa

/- Tracks: errors, and the sizes of what is reckoned. -/
set_option linter.unusedVariables false
set_option linter.unusedSimpArgs false
namespace Go.Proofs.Ytlmdmpjfehpjeaa

/-- errors of places, times, models, steps, moments, boxes, hits. -/
def V3.inS (p : V3) (k : Int) : Bool := inB p.x (-k) k && inB p.y (-k) k && inB p.z (-k) k
def plE (p : V3) : Int := unl (p.inS 1000) 2
def tmE (n : Int) : Int := unl (inB n (-10000) 10000) 2
def TMod.right (m : TMod) : Bool := inB m.tk 1 20 && inB m.lo 1 1200 && inB m.hi 1 1200 && inB m.li 1 100 && inB m.ea 0 100 && inB m.la 0 100 && inB m.no 0 100 && inB m.mi 0 100
def TMod.err (m : TMod) : Int := firstNZ [plE m.pl, tmE m.tm, unl m.right 2, unl (decide (m.lo ≤ m.hi)) 9, unl (decide (m.slow < m.lo)) 13]
def TMod.stE (m : TMod) (s : V3) : Int := firstNZ [unl (s.inS 20) 2, unl (m.permB s) 24]
def TMod.both (m : TMod) (s : V3) : Int := firstNZ [m.err, m.stE s]
def momE (p : V3) (t : Int) : Int := firstNZ [plE p, unl (inB t (-1000000) 1000000) 2]
def TBox.err (b : TBox) : Int := firstNZ [unl (b.lo.inS 20 && b.hi.inS 20) 2, unl (decide (b.lo.x ≤ b.hi.x) && decide (b.lo.y ≤ b.hi.y) && decide (b.lo.z ≤ b.hi.z)) 9, unl (decide (b.count ≤ 700)) 8]
def THit.err (h : THit) : Int := firstNZ [plE h.p, tmE h.t, unl (inB h.w 0 100) 2]
theorem firstNZ_cons {x : Int} {l : List Int} : firstNZ (x :: l) = 0 ↔ x = 0 ∧ firstNZ l = 0 := by
  simp only [firstNZ]; split
  · next h => simp [h]
  · next h => simp [h]
theorem unl_zero {b : Bool} {n : Int} (hn : n ≠ 0) : unl b n = 0 ↔ b = true := by unfold unl; split <;> simp_all
theorem inS_iff {p : V3} {k : Int} : p.inS k = true ↔ (-k ≤ p.x ∧ p.x ≤ k) ∧ (-k ≤ p.y ∧ p.y ≤ k) ∧ (-k ≤ p.z ∧ p.z ≤ k) := by
  unfold V3.inS; simp only [Bool.and_eq_true, inB_true, and_assoc]
structure TMod.Ok (m : TMod) : Prop where
  px : -1000 ≤ m.px ∧ m.px ≤ 1000
  py : -1000 ≤ m.py ∧ m.py ≤ 1000
  pz : -1000 ≤ m.pz ∧ m.pz ≤ 1000
  tm : -10000 ≤ m.tm ∧ m.tm ≤ 10000
  tk : 1 ≤ m.tk ∧ m.tk ≤ 20
  lo : 1 ≤ m.lo ∧ m.lo ≤ 1200
  hi : 1 ≤ m.hi ∧ m.hi ≤ 1200
  li : 1 ≤ m.li ∧ m.li ≤ 100
  ea : 0 ≤ m.ea ∧ m.ea ≤ 100
  la : 0 ≤ m.la ∧ m.la ≤ 100
  no : 0 ≤ m.no ∧ m.no ≤ 100
  mi : 0 ≤ m.mi ∧ m.mi ≤ 100
  ord : m.lo ≤ m.hi
  slo : m.slow < m.lo
  slp : 0 ≤ m.slow
theorem err_ok {m : TMod} (h : m.err = 0) : m.Ok := by
  unfold TMod.err at h
  rw [firstNZ_cons, firstNZ_cons, firstNZ_cons, firstNZ_cons, firstNZ_cons] at h
  obtain ⟨h1, h2, h3, h4, h5, _⟩ := h
  unfold plE at h1; unfold tmE at h2
  rw [unl_zero (by decide)] at h1 h2 h3 h4 h5
  rw [inS_iff] at h1
  unfold TMod.right at h3
  simp only [Bool.and_eq_true, inB_true, decide_eq_true_eq] at h2 h3 h4 h5
  obtain ⟨a1, a2, a3⟩ := h1
  obtain ⟨⟨⟨⟨⟨⟨⟨b1, b2⟩, b3⟩, b4⟩, b5⟩, b6⟩, b7⟩, b8⟩ := h3
  refine ⟨a1, a2, a3, h2, b1, b2, b3, b4, b5, b6, b7, b8, h4, h5, ?_⟩
  unfold TMod.slow
  exact Int.mul_nonneg (Int.mul_nonneg (by omega) (by omega)) (by omega)
theorem both_ok {m : TMod} {s : V3} (h : m.both s = 0) : m.Ok ∧ s.inS 20 = true ∧ m.permit s ∧ m.slow < s.dot s := by
  unfold TMod.both at h
  rw [firstNZ_cons, firstNZ_cons] at h
  obtain ⟨h1, h2, _⟩ := h
  unfold TMod.stE at h2
  rw [firstNZ_cons, firstNZ_cons] at h2
  obtain ⟨h3, h4, _⟩ := h2
  rw [unl_zero (by decide)] at h3 h4
  have ho := err_ok h1
  have hp := permB_iff.1 h4
  exact ⟨ho, h3, hp, by have := ho.slo; have := hp.1; omega⟩
/-- sizes inside the reckoning of reached places. -/
theorem dot_sz {a b : V3} {A B : Int} (ha : a.inS A = true) (hb : b.inS B = true) (hA : 0 ≤ A) (hB : 0 ≤ B) : (-(A * B) ≤ a.x * b.x ∧ a.x * b.x ≤ A * B) ∧ (-(A * B) ≤ a.y * b.y ∧ a.y * b.y ≤ A * B) ∧ (-(A * B) ≤ a.z * b.z ∧ a.z * b.z ≤ A * B) := by
  rw [inS_iff] at ha hb
  exact ⟨mul_rg ha.1 hb.1 (Int.le_refl _), mul_rg ha.2.1 hb.2.1 (Int.le_refl _), mul_rg ha.2.2 hb.2.2 (Int.le_refl _)⟩
theorem way_sz {m : TMod} {s p : V3} {t : Int} (ho : m.Ok) (hs : s.inS 20 = true) (hp : p.inS 1000 = true) (ht : -1000101 ≤ t ∧ t ≤ 1000100) : (m.way s p t).inS 20242020 = true := by
  rw [inS_iff] at *
  have h1 := mul_rg (x := m.tk) (y := p.x - m.px) (A := 20) (B := 2000) (C := 40000) (by have := ho.tk; omega) (by have := ho.px; omega) (by decide)
  have h2 := mul_rg (x := m.tk) (y := p.y - m.py) (A := 20) (B := 2000) (C := 40000) (by have := ho.tk; omega) (by have := ho.py; omega) (by decide)
  have h3 := mul_rg (x := m.tk) (y := p.z - m.pz) (A := 20) (B := 2000) (C := 40000) (by have := ho.tk; omega) (by have := ho.pz; omega) (by decide)
  have g1 := mul_rg (x := t - m.tm) (y := s.x) (A := 1010101) (B := 20) (C := 20202020) (by have := ho.tm; omega) hs.1 (by decide)
  have g2 := mul_rg (x := t - m.tm) (y := s.y) (A := 1010101) (B := 20) (C := 20202020) (by have := ho.tm; omega) hs.2.1 (by decide)
  have g3 := mul_rg (x := t - m.tm) (y := s.z) (A := 1010101) (B := 20) (C := 20202020) (by have := ho.tm; omega) hs.2.2 (by decide)
  unfold TMod.way; simp only; omega
end Go.Proofs.Ytlmdmpjfehpjeaa

/- Tracks: contracts of the small functions on numbers. -/
set_option linter.unusedVariables false
set_option linter.unusedSimpArgs false
namespace Go.Proofs.Ytlmdmpjfehpjeaa
open Go.RowKit

theorem track_within (n lo hi : Int) (w : World) :
    Calls Try.prog 68 #[.int .i64 n, .int .i64 lo, .int .i64 hi] w fun e w' => e = .returned (.bool (inB n lo hi)) ∧ w = w' := by
  go_enter Try.func68, Try.ntmps68
  go_wp2
  all_goals (go_ret; exact ⟨by simp [inB]; omega, rfl⟩)

theorem base_Within (n lo hi : Int) (w : World) :
    Calls Try.prog 26 #[.int .i64 n, .int .i64 lo, .int .i64 hi] w fun e w' => e = .returned (.bool (inB n lo hi)) ∧ w = w' := by
  go_enter Try.func26, Try.ntmps26
  go_wp2
  all_goals (go_ret; exact ⟨by simp [inB]; omega, rfl⟩)

theorem track_unless (b : Bool) (n : Int) (w : World) :
    Calls Try.prog 72 #[.bool b, .int .i64 n] w fun e w' => e = .returned (.int .i64 (unl b n)) ∧ w = w' := by
  cases b
  all_goals
    go_enter Try.func72, Try.ntmps72
    go_wp2
    go_ret
    exact ⟨rfl, rfl⟩

theorem track_first (l : List Int) (v : Value) (w : World) (h : IntsAt w v l) :
    Calls Try.prog 69 #[v] w fun e w' => e = .returned (.int .i64 (firstNZ l)) ∧ w = w' := by
  obtain ⟨ao, cap, rfl, h1, h2, h3⟩ := h.open
  unfold maxLen at h2
  go_enter Try.func69, Try.ntmps69
  go_wp2_with fail
  go_loop [7] (fun i => ∃ k : Nat, k ≤ l.length ∧ i = .int .i64 k ∧ ∀ x ∈ l.take k, x = 0) (fun i => l.length - (intOf i).toNat)
  case atStart => exact ⟨0, Nat.zero_le _, rfl, by simp⟩
  case round =>
    obtain ⟨k, hk, rfl, hz⟩ := hrel
    have HZ := hid hz
    clear hz
    by_cases hlt : k < l.length
    · obtain ⟨b, off, rfl, hb, hc⟩ := h3 k hlt
      have hck := hc k hlt
      clear hc h3
      by_cases h0 : l.getD k 0 = 0
      · have H0 := hid h0
        have h0' : (l.getD k 0 != 0) = false := by simpa using h0
        clear h0
        obtain ⟨x, hx⟩ : ∃ x, x = l.getD k 0 := ⟨_, rfl⟩
        rw [← hx] at hck h0'
        have HX := hid hx
        clear hx
        go_wp2_with fail
        go_round
        case rel =>
          refine ⟨k + 1, by omega, by go_num, ?_⟩
          intro y hy
          rw [take_getD 0 hlt] at hy
          rcases List.mem_append.1 hy with hy | hy
          · exact HZ.out y hy
          · rw [List.mem_singleton.1 hy]; exact H0.out
        case measure => simp [intOf]; omega
      · have h0' : (l.getD k 0 != 0) = true := by simpa using h0
        obtain ⟨x, hx⟩ : ∃ x, x = l.getD k 0 := ⟨_, rfl⟩
        rw [← hx] at hck h0' h0
        have HX := hid hx
        have H0 := hid h0
        clear hx h0
        go_wp2_with fail
        go_ret
        refine ⟨ret_int ?_, rfl⟩
        have e1 : l = l.take k ++ (x :: l.drop (k + 1)) := by
          rw [HX.out]; exact cut_getD 0 hlt
        rw [e1, firstNZ_append_zero HZ.out]
        simp [firstNZ, H0.out]
    · go_wp2_with fail
      go_ret
      refine ⟨ret_int ?_, rfl⟩
      rw [firstNZ_zero.2]
      have := HZ.out
      rwa [List.take_of_length_le (by omega)] at this

end Go.Proofs.Ytlmdmpjfehpjeaa

/- A statement whose order is open, walked in one order: first operations that yield the same in every world, then reads and quiet calls, then a tail that can only come in one order. Own work over the kit's notions of ready, apart and quiet. -/
set_option linter.unusedVariables false
set_option linter.unusedSimpArgs false
namespace Go.Proofs.Ytlmdmpjfehpjeaa
open Go.RowKit

section
variable {P : Program} {ops : Array Oper} {md : Region.Mode} {C : World → Prop}

/-- Operations that give a value and no call. -/
def simpleOp (o : Oper) : Bool :=
  match o.op with
  | .move _ | .assign _ | .pick .. | .binOp .. | .unOp .. | .slice .. | .indexAddr .. | .fieldAddr .. | .extract .. | .field .. | .index .. | .build .. => true
  | _ => false

theorem value_of_bind {P : Program} {w w1 : World} {n : Next} (s : Sem Value) (h : ((do let x ← s; pure (.value x) : Sem Next)).run P w = .ok n w1) : ∃ v, n = .value v := by
  rw [Sem.run_bind] at h
  cases hs : s.run P w with
  | ok x w2 => rw [hs] at h; simp only [Result.andThen_ok, Sem.run_pure] at h; cases h; exact ⟨_, rfl⟩
  | halt x w2 => rw [hs] at h; cases h

theorem value_of_bind' {P : Program} {α : Type} {w w1 : World} {n : Next} (s : Sem α) (f : α → Value) (h : ((do let x ← s; pure (.value (f x)) : Sem Next)).run P w = .ok n w1) : ∃ v, n = .value v := by
  rw [Sem.run_bind] at h
  cases hs : s.run P w with
  | ok x w2 => rw [hs] at h; simp only [Result.andThen_ok, Sem.run_pure] at h; cases h; exact ⟨_, rfl⟩
  | halt x w2 => rw [hs] at h; cases h

theorem simpleOp_value {o : Oper} (h : simpleOp o = true) {ρ : Operand → Value} {w w1 : World} {n : Next} (hr : (execOp ρ o).run P w = .ok n w1) : ∃ v, n = .value v := by
  unfold simpleOp at h
  unfold execOp at hr
  split at h
  all_goals first
    | (rename_i e; rw [e] at hr; simp only [Sem.run_pure] at hr; cases hr; exact ⟨_, rfl⟩)
    | (rename_i e; rw [e] at hr; exact value_of_bind _ hr)
    | (rename_i e; rw [e] at hr; exact value_of_bind' _ _ hr)
    | cases h

/-- From a step that is quiet in every world. -/
theorem yields_of_quiet {i : Nat} {o : Oper} {a : Act} {K : Act → Prop} (hi : ops[i]? = some o) (hs : simpleOp o = true) (h : qOp P ops (fun _ => True) i K a) : ∃ v, Yields P ops o v a ∧ K (a.put o.dst v) := by
  obtain ⟨v, hy, hK⟩ := yieldsIn_of_qOp hi h
  refine ⟨v, ?_, hK⟩
  rcases hy with ⟨hw, hy⟩ | ⟨hw, rfl⟩
  · refine Or.inl ⟨hw, fun w => ?_⟩
    have h1 := hy w trivial
    unfold Oper.quietAt at h1
    generalize hr : (execOp a.eval o).run P w = r at h1
    cases r with
    | ok n w' =>
      obtain ⟨u, rfl⟩ := simpleOp_value hs hr
      simp only [Oper.quietUpon] at h1
      rw [h1.1, h1.2]
    | halt x w' => simp only [Oper.quietUpon] at h1
  · exact Or.inr ⟨hw, rfl⟩

/-! ### the middle part -/

/-! ### the checks -/

structure MidInv (md : Region.Mode) (ops : Array Oper) (n : Nat) (l0 listed : Array Bool) : Prop where
  size : listed.size = ops.size
  closed : ∀ j oj, ops[j]? = some oj → listed.getD j false = true → ∀ e ∈ oj.after, Region.binds md e = true → listed.getD e.on false = true
  tail : ∀ t, n ≤ t → t < ops.size → listed.getD t true = false
  start : ∀ j, l0.getD j false = true → listed.getD j false = true

theorem MidInv.set {n i : Nat} {l0 listed : Array Bool} (inv : MidInv md ops n l0 listed) (hi : i ∈ Region.ready md ops listed) (hin : i < n) : MidInv md ops n l0 (listed.setIfInBounds i true) := by
  obtain ⟨hun, oi, hoi, hall⟩ := mem_ready.1 hi
  refine ⟨by simp [inv.size], fun j oj hj hl e he hb => ?_, fun t ht ht' => ?_, fun j hj => getD_set_true (inv.start j hj)⟩
  · by_cases hij : i = j
    · subst hij
      have : oj = oi := Option.some.inj (hj.symm.trans hoi)
      subst this
      exact getD_set_true (hall e he hb)
    · rw [getD_set_ne false hij] at hl
      exact getD_set_true (inv.closed j oj hj hl e he hb)
  · rw [getD_set_ne true (by omega)]; exact inv.tail t ht ht'

/-- the operations with these numbers. -/
def pick (l : List Oper) : List Nat → List Oper
  | [] => []
  | i :: p => (l.drop i).head?.toList ++ pick l p

theorem pick_cons {l : List Oper} {i : Nat} {p : List Nat} {o : Oper} (h : l[i]? = some o) : pick l (i :: p) = o :: pick l p := by
  simp [pick, List.head?_drop, h]

/-- False at a panic. -/
def noPan (Q : Exit → Act → World → Prop) : Exit → Act → World → Prop
  | .panic _, _, _ => False
  | e, a, w => Q e a w

end
/-- an operation that gives a value and no call is as quiet in one class as in all worlds. -/
theorem quiet_simple {P : Program} {o : Oper} {a : Act} {C : World → Prop} {K : Act → Prop} (hs : simpleOp o = true) (h : o.quiet P a (fun _ => True) K) : o.quiet P a C K := by
  obtain ⟨v, hv, hK⟩ := h
  refine ⟨v, fun w _ => ?_, hK⟩
  have h1 := hv w trivial
  unfold Oper.quietAt at *
  generalize hr : (execOp a.eval o).run P w = r at h1
  cases r with
  | ok n w' =>
    obtain ⟨u, rfl⟩ := simpleOp_value hs hr
    exact h1
  | halt x w' => exact h1

/-- a load of a cell that all worlds of the class hold. -/
theorem quiet_val {P : Program} {o : Oper} {a : Act} {C : World → Prop} {K : Act → Prop} (v : Value) (h : ∀ w, C w → (execOp a.eval o).run P w = .ok (.value v) w) (hK : K (a.put o.dst v)) : o.quiet P a C K :=
  ⟨v, fun w hw => by unfold Oper.quietAt; rw [h w hw]; exact ⟨rfl, rfl⟩, hK⟩
/-! ### append -/
/-- t is a slice type of elements e, each of sz cells and so many bytes. -/
def Elem (P : Program) (t e : TypeId) (sz bytes : Nat) : Prop := ∃ i z, P.underlying t = some (.slice e) ∧ P.info? e = some i ∧ i.zero = some z ∧ i.size = sz ∧ i.bytes = bytes ∧ z.cells.size = sz ∧ 0 < sz
theorem Elem.mk {P : Program} {t e : TypeId} {z : Value} {sz bytes : Nat} (ht : P.underlying t = some (.slice e)) (hi : (P.info? e).map (fun i => (i.zero, i.size, i.bytes)) = some (some z, sz, bytes)) (hz : z.cells.size = sz) (hs : 0 < sz) : Elem P t e sz bytes := by
  obtain ⟨i, h1, h2, h3, h4⟩ := info_parts hi
  exact ⟨i, z, ht, h1, h2, h3, h4, hz, hs⟩

/-- What an append does to other memory: below base nothing; of what was there the value's own row alone. -/
structure Pushed (base : Nat) (w w' : World) (v v' : Value) : Prop where
  below : Below base w w'
  other : ∀ k, k < w.heap.size → some k ≠ v.ownBlock → w'.heap[k]? = w.heap[k]?
  lies : v'.ownBlock = v.ownBlock ∨ v'.ownBlock = some w.heap.size

end Go.Proofs.Ytlmdmpjfehpjeaa

/- A statement whose order is open: operations that yield the same in every world first, then the others in the one order that is left. -/
set_option linter.unusedVariables false
set_option linter.unusedSimpArgs false
namespace Go.Proofs.Ytlmdmpjfehpjeaa
open Go.RowKit
section
variable {P : Program} {md : Region.Mode}

end

end Go.Proofs.Ytlmdmpjfehpjeaa

/- A statement whose order is open, in steps: what yields the same in every world comes first; what has to come next; two that come in either order. -/
set_option linter.unusedVariables false
set_option linter.unusedSimpArgs false
namespace Go.Proofs.Ytlmdmpjfehpjeaa
open Go.RowKit
section
variable {P : Program} {md : Region.Mode}

inductive Stp where
  | q (ks : List Nat)
  | f (ks : List Nat)
  | p (i j : Nat)

def contF (K : Act → World → Prop) : Exit → Act → World → Prop
  | .normal, a, w => K a w
  | _, _, _ => False

theorem wp_F {ops : Array Oper} {Q : Exit → Act → World → Prop} {X K : Act → World → Prop} {o : Oper} {a : Act} {w : World} (hh : o.wp P a w K (contF X)) : o.wp P a w K Q := by
  unfold Oper.wp at *
  generalize (execOp a.eval o).run P w = r at *
  cases r with
  | ok n w' =>
    cases n <;> simp only [Oper.upon] at hh ⊢ <;>
      first
        | exact hh
        | exact Calls.mono hh (fun e w'' he => by
            cases e with
            | returned v => exact he
            | panicked c => exact (he : False).elim
            | outgrown => obtain ⟨a, w, h⟩ := he; exact (h : False).elim)
  | halt x w' => cases x <;> simp only [Oper.upon] at hh ⊢ <;> first | exact hh | exact (hh : False).elim

theorem wpOp_F {ops : Array Oper} {Q : Exit → Act → World → Prop} {X K : Act → World → Prop} {i : Nat} {a : Act} {w : World} (hh : wpOp P ops (contF X) i K a w) : wpOp P ops Q i K a w := by
  unfold wpOp at *
  split
  · simpa [*] using hh
  · rename_i o ho
    simp only [ho] at hh
    split
    · rename_i hw
      simp only [hw, if_true] at hh
      rcases hh with h | ⟨_, a, w, h⟩
      · exact Or.inl (wp_F (ops := ops) h)
      · exact (h : False).elim
    · rename_i hw; simp only [hw] at hh; exact hh

def runSet (L : Array Bool) (ks : List Nat) : Array Bool := ks.foldl (fun L k => L.setIfInBounds k true) L

def qB (md : Region.Mode) (ops : Array Oper) : List Nat → Array Bool → Bool
  | [], _ => true
  | k :: p, L => ((ops[k]?).map simpleOp).getD false && (Region.ready md ops L).contains k && Region.free md ops L k && qB md ops p (L.setIfInBounds k true)
def fB (md : Region.Mode) (ops : Array Oper) : List Nat → Array Bool → Bool
  | [], _ => true
  | k :: p, L => decide (Region.ready md ops L = [k]) && (ops[k]?).isSome && fB md ops p (L.setIfInBounds k true)
def mixB (md : Region.Mode) (ops : Array Oper) : List Stp → Array Bool → Bool
  | [], L => (Region.ready md ops L).isEmpty
  | .q ks :: s, L => qB md ops ks L && mixB md ops s (runSet L ks)
  | .f ks :: s, L => fB md ops ks L && mixB md ops s (runSet L ks)
  | .p i j :: s, L => decide (Region.ready md ops L = [i, j]) && fB md ops [j] (runSet L [i]) && fB md ops [i] (runSet L [j]) && (ops[i]?).isSome && (ops[j]?).isSome && (runSet L [j, i] == runSet L [i, j]) && mixB md ops s (runSet L [i, j])

def lenS : List Stp → Nat
  | [] => 0
  | .q ks :: s => ks.length + lenS s
  | .f ks :: s => ks.length + lenS s
  | .p _ _ :: s => 2 + lenS s

def wpMix (P : Program) (l : List Oper) (Q : Exit → Act → World → Prop) : List Stp → Act → World → Prop
  | [], a, w => Q .normal a w
  | .q ks :: s, a, w => wpQuiet P l.toArray (fun _ => True) (fun a' => wpMix P l Q s a' w) (pick l ks) a
  | .f ks :: s, a, w => wpList P l.toArray (contF (wpMix P l Q s)) (pick l ks) a w
  | .p i j :: s, a, w => wpList P l.toArray (contF (wpMix P l Q s)) (pick l [i, j]) a w ∧ wpList P l.toArray (contF (wpMix P l Q s)) (pick l [j, i]) a w

theorem wpAny_q {l : List Oper} {Q : Exit → Act → World → Prop} (hQ : ∀ c a a' w, Q (.panic c) a w → Q (.panic c) a' w) (hsel : Region.noSelect l.toArray = true) {X : Act → World → Prop} {n : Nat} :
    ∀ (p : List Nat) (L : Array Bool) (a : Act) (w : World), qB md l.toArray p L = true → (∀ a', X a' w → wpAny P md l.toArray Q n (runSet L p) a' w) → wpQuiet P l.toArray (fun _ => True) (fun a' => X a' w) (pick l p) a →
      wpAny P md l.toArray Q (p.length + n) L a w := by
  intro p
  induction p with
  | nil => intro L a w hB h hx; rw [List.length_nil, Nat.zero_add]; exact h a hx
  | cons i p ih =>
    intro L a w hB h hx
    simp only [qB, Bool.and_eq_true] at hB
    obtain ⟨⟨⟨ho, hr⟩, hf⟩, hB'⟩ := hB
    cases ho2 : l.toArray[i]? with
    | none => rw [ho2] at ho; cases ho
    | some o =>
      rw [ho2] at ho
      have hs1 : simpleOp o = true := by simpa using ho
      have ho' : l[i]? = some o := by simpa using ho2
      rw [pick_cons ho'] at hx
      have hr' : i ∈ Region.ready md l.toArray L := by simpa using hr
      have hq : qOp P l.toArray (fun _ => True) i (wpQuiet P l.toArray (fun _ => True) (fun a' => X a' w) (pick l p)) a := by unfold qOp; simp only [ho2]; exact hx
      obtain ⟨v, hy, hK⟩ := yields_of_quiet ho2 hs1 hq
      rw [List.length_cons, show p.length + 1 + n = (p.length + n) + 1 from by omega]
      exact wpAny_first ho2 (Region.noSelect_spec hsel) (fun c a w h => hQ c _ _ w h) _ L a w (Region.free_spec ho2 hf) hr' hy (ih _ _ _ hB' h hK)

theorem wpAny_f {l : List Oper} {Q : Exit → Act → World → Prop} {X : Act → World → Prop} {n : Nat} :
    ∀ (p : List Nat) (L : Array Bool) (a : Act) (w : World), fB md l.toArray p L = true → (∀ a' w', X a' w' → wpAny P md l.toArray Q n (runSet L p) a' w') → wpList P l.toArray (contF X) (pick l p) a w →
      wpAny P md l.toArray Q (p.length + n) L a w := by
  intro p
  induction p with
  | nil => intro L a w hB h hx; rw [List.length_nil, Nat.zero_add]; exact h a w hx
  | cons k p ih =>
    intro L a w hB h hx
    simp only [fB, Bool.and_eq_true, decide_eq_true_eq] at hB
    obtain ⟨⟨hr, ho⟩, hB'⟩ := hB
    obtain ⟨o, ho⟩ := Option.isSome_iff_exists.1 ho
    have ho' : l[k]? = some o := by simpa using ho
    rw [pick_cons ho'] at hx
    rw [List.length_cons, show p.length + 1 + n = (p.length + n) + 1 from by omega]
    refine ⟨fun h1 => (by rw [hr] at h1; cases h1), fun i hi => ?_⟩
    rw [hr] at hi
    have hik : i = k := by simpa using hi
    subst hik
    have hw : wpOp P l.toArray (contF X) i (wpList P l.toArray (contF X) (pick l p)) a w := by unfold wpOp; simp only [ho]; exact hx
    exact wpOp_mono (fun a' w' h' => ih _ _ _ hB' h h') (wpOp_F hw)

theorem wpAny_mix {l : List Oper} {Q : Exit → Act → World → Prop} (hQ : ∀ c a a' w, Q (.panic c) a w → Q (.panic c) a' w) (hsel : Region.noSelect l.toArray = true) :
    ∀ (s : List Stp) (L : Array Bool) (a : Act) (w : World), mixB md l.toArray s L = true → wpMix P l Q s a w → wpAny P md l.toArray Q (lenS s) L a w := by
  intro s
  induction s with
  | nil => intro L a w hB h; exact ⟨by simpa [mixB] using hB, h⟩
  | cons st s ih =>
    intro L a w hB h
    cases st with
    | q ks =>
      simp only [mixB, Bool.and_eq_true] at hB
      exact wpAny_q hQ hsel (X := wpMix P l Q s) ks L a w hB.1 (fun a' h' => ih _ _ _ hB.2 h') h
    | f ks =>
      simp only [mixB, Bool.and_eq_true] at hB
      exact wpAny_f ks L a w hB.1 (fun a' w' h' => ih _ _ _ hB.2 h') h
    | p i j =>
      simp only [mixB, Bool.and_eq_true, decide_eq_true_eq, beq_iff_eq] at hB
      obtain ⟨⟨⟨⟨⟨⟨hr, h1⟩, h2⟩, hi⟩, hj⟩, he⟩, hB'⟩ := hB
      obtain ⟨ha, hb⟩ := h
      show wpAny P md l.toArray Q (2 + lenS s) L a w
      rw [show 2 + lenS s = (1 + lenS s) + 1 from by omega]
      refine ⟨fun h1 => (by rw [hr] at h1; cases h1), fun k hk => ?_⟩
      rw [hr] at hk
      rcases (by simpa using hk : k = i ∨ k = j) with rfl | rfl
      · obtain ⟨o, ho⟩ := Option.isSome_iff_exists.1 hi
        have ho' : l[k]? = some o := by simpa using ho
        rw [pick_cons ho'] at ha
        have hw : wpOp P l.toArray (contF (wpMix P l Q s)) k (wpList P l.toArray (contF (wpMix P l Q s)) (pick l [j])) a w := by unfold wpOp; simp only [ho]; exact ha
        exact wpOp_mono (fun a' w' h' => wpAny_f [j] _ a' w' h1 (fun a'' w'' h'' => ih _ _ _ hB' h'') h') (wpOp_F hw)
      · obtain ⟨o, ho⟩ := Option.isSome_iff_exists.1 hj
        have ho' : l[k]? = some o := by simpa using ho
        rw [pick_cons ho'] at hb
        have hw : wpOp P l.toArray (contF (wpMix P l Q s)) k (wpList P l.toArray (contF (wpMix P l Q s)) (pick l [i])) a w := by unfold wpOp; simp only [ho]; exact hb
        refine wpOp_mono (fun a' w' h' => wpAny_f [i] _ a' w' h2 (fun a'' w'' h'' => ?_) h') (wpOp_F hw)
        have := ih _ _ _ hB' h''
        rw [← he] at this
        exact this

end
end Go.Proofs.Ytlmdmpjfehpjeaa

/- A statement whose order is open, in steps, over a class of worlds: reads of cells that all worlds of the class hold come first, too; whatever else is done keeps the class. -/
set_option linter.unusedVariables false
set_option linter.unusedSimpArgs false
namespace Go.Proofs.Ytlmdmpjfehpjeaa
open Go.RowKit
section
variable {P : Program} {md : Region.Mode} {ops : Array Oper} {Q : Exit → Act → World → Prop} {C : World → Prop}

/-- one that gives a value and leaves the world as it is: no call. -/
def stillB : Callee → Bool
  | .builtin .len | .builtin .max | .builtin .min | .builtin .cap => true
  | _ => false
def stillOp (o : Oper) : Bool := simpleOp o || (match o.op with | .load .. => true | .call c => stillB c.callee | _ => false)

theorem stillOp_value {o : Oper} (h : stillOp o = true) {ρ : Operand → Value} {w w1 : World} {n : Next} (hr : (execOp ρ o).run P w = .ok n w1) : ∃ v, n = .value v := by
  unfold stillOp at h
  rw [Bool.or_eq_true] at h
  rcases h with h | h
  · exact simpleOp_value h hr
  · split at h
    · rename_i e
      unfold execOp at hr
      rw [e] at hr
      exact value_of_bind _ hr
    · rename_i c e
      unfold execOp at hr
      rw [e] at hr
      unfold stillB at h
      split at h
      all_goals first
        | (rename_i e2; simp only [resolve, e2, Sem.run_bind, Sem.run_pure, Result.andThen_ok, invoke, builtin] at hr; exact value_of_bind _ (by simpa only [Sem.run_bind, Sem.run_pure] using hr))
        | cases h
    · cases h

def YieldsX (P : Program) (ops : Array Oper) (C : World → Prop) (o : Oper) (v : Value) (a : Act) : Prop :=
  (Region.wanted o (yielded ops a.tmps) = true ∧ ∀ w, C w → (execOp a.eval o).run P w = .ok (.value v) w) ∨ (Region.wanted o (yielded ops a.tmps) = false ∧ v = undef)

theorem yieldsX_of_quiet {i : Nat} {o : Oper} {a : Act} {K : Act → Prop} (hi : ops[i]? = some o) (hs : stillOp o = true) (h : qOp P ops C i K a) : ∃ v, YieldsX P ops C o v a ∧ K (a.put o.dst v) := by
  obtain ⟨v, hy, hK⟩ := yieldsIn_of_qOp hi h
  refine ⟨v, ?_, hK⟩
  rcases hy with ⟨hw, hy⟩ | ⟨hw, rfl⟩
  · refine Or.inl ⟨hw, fun w hC => ?_⟩
    have h1 := hy w hC
    unfold Oper.quietAt at h1
    generalize hr : (execOp a.eval o).run P w = r at h1
    cases r with
    | ok n w' =>
      obtain ⟨u, rfl⟩ := stillOp_value hs hr
      simp only [Oper.quietUpon] at h1
      rw [h1.1, h1.2]
    | halt x w' => simp only [Oper.quietUpon] at h1
  · exact Or.inr ⟨hw, rfl⟩

theorem YieldsX.wpOp {i : Nat} {o : Oper} {v : Value} {a : Act} (hi : ops[i]? = some o) (hy : YieldsX P ops C o v a) {K : Act → World → Prop} {w : World} (hC : C w) (h : K (a.put o.dst v) w) : wpOp P ops Q i K a w := by
  unfold Go.wpOp
  simp only [hi]
  rcases hy with ⟨hw, hv⟩ | ⟨hw, rfl⟩
  · simp only [hw, if_true, Oper.wp, hv w hC, Oper.upon]; exact .inl h
  · simp only [hw, Bool.false_eq_true, if_false]; exact h

theorem YieldsX.of_same {o : Oper} {v : Value} {a a' : Act} (hy : YieldsX P ops C o v a) (he : execOp a'.eval o = execOp a.eval o)
    (hw : Region.wanted o (yielded ops a'.tmps) = Region.wanted o (yielded ops a.tmps)) : YieldsX P ops C o v a' := by
  unfold YieldsX at *
  rw [he, hw]
  exact hy

theorem wpOp_putX {j : Nat} {oi oj : Oper} {v : Value} (hj : ops[j]? = some oj) (hap : oi.apart ops oj = true)
    (hsi : ∀ cs b, oi.op ≠ .select cs b) (hsj : ∀ cs b, oj.op ≠ .select cs b)
    (hQ : ∀ c a w, Q (.panic c) (a.put oi.dst v) w → Q (.panic c) a w) {K : Act → World → Prop} {a : Act} {w : World}
    (hy : YieldsX P ops C oi v a) (h : wpOp P ops Q j K (a.put oi.dst v) w) :
    wpOp P ops Q j (fun a' w' => YieldsX P ops C oi v a' ∧ K (a'.put oi.dst v) w') a w := by
  obtain ⟨h1, h2, h3⟩ := Oper.apart_spec hap
  have keep : ∀ (a : Act), YieldsX P ops C oi v a → ∀ u, YieldsX P ops C oi v (a.put oj.dst u) := fun a hy u =>
    hy.of_same (execOp_put oi hsi a oj.dst u h3) (wanted_put oi a oj.dst u h3)
  have keepD : ∀ d, YieldsX P ops C oi v { a with defers := d :: a.defers } := fun d => hy.of_same rfl rfl
  unfold wpOp at *
  simp only [hj] at *
  rw [wanted_put oj a oi.dst v h1] at h
  split
  · rename_i hw
    simp only [hw, if_true] at h
    rcases h with h | ⟨hasks, hlets⟩
    case inr => exact .inr ⟨by unfold Oper.asks at *; rw [execOp_put oj hsj a oi.dst v h1] at hasks; exact hasks, hlets⟩
    refine .inl ?_
    unfold Oper.wp at *
    rw [execOp_put oj hsj a oi.dst v h1] at h
    generalize (execOp a.eval oj).run P w = r at *
    cases r with
    | ok n w' =>
      cases n <;> simp only [Oper.upon] at h ⊢
      case value u => exact ⟨keep a hy u, by rw [← Act.put_comm a v u h2]; exact h⟩
      case skip => exact ⟨keep a hy _, by rw [← Act.put_comm a v undef h2]; exact h⟩
      case defer d =>
        refine ⟨keep _ (keepD d) _, ?_⟩
        rw [← Act.put_comm _ v undef h2, ← Act.put_defers]
        exact h
      case enter f args =>
        refine Calls.mono h fun e w'' he => ?_
        cases e with
        | returned u => exact ⟨keep a hy u, by rw [← Act.put_comm a v u h2]; exact he⟩
        | panicked c => exact hQ _ _ _ he
        | outgrown => exact he
      case row row args => exact Rows.mono h fun u w'' he => ⟨keep a hy u, by rw [← Act.put_comm a v u h2]; exact he⟩
    | halt x w' =>
      cases x <;> simp only [Oper.upon] at h ⊢
      case panic u => exact hQ _ _ _ h
  · rename_i hw
    simp only [hw] at h
    exact ⟨keep a hy _, by rw [← Act.put_comm a v undef h2]; exact h⟩

def wpAnyC (P : Program) (md : Region.Mode) (ops : Array Oper) (C : World → Prop) (Q : Exit → Act → World → Prop) (n1 m : Nat) : Nat → Array Bool → Act → World → Prop
  | 0, listed, a, w => (∀ j, j < n1 → listed.getD j true = true) ∧ wpAny P md ops Q m listed a w
  | fuel + 1, listed, a, w => Region.ready md ops listed ≠ [] ∧ ∀ i ∈ Region.ready md ops listed, wpOp P ops Q i (fun a' w' => C w' ∧ wpAnyC P md ops C Q n1 m fuel (listed.setIfInBounds i true) a' w') a w

theorem wpAny_of_C {n1 m : Nat} : ∀ (f : Nat) (listed : Array Bool) (a : Act) (w : World), wpAnyC P md ops C Q n1 m f listed a w → wpAny P md ops Q (f + m) listed a w := by
  intro f
  induction f with
  | zero => intro listed a w h; rw [Nat.zero_add]; exact h.2
  | succ f ih =>
    intro listed a w h
    rw [show f + 1 + m = (f + m) + 1 by omega]
    exact ⟨fun h0 => absurd h0 h.1, fun i hi => wpOp_mono (fun _ _ h' => ih _ _ _ h'.2) (h.2 i hi)⟩

/-- whatever stands from n1 on waits for each operation below n1. -/
def phaseB (md : Region.Mode) (ops : Array Oper) (n1 : Nat) : Bool :=
  (List.range ops.size).all fun j => decide (j < n1) || (List.range n1).all fun i => Region.waitsFor md ops j i

theorem phase_ready {n1 i j : Nat} {listed : Array Bool} (hp : phaseB md ops n1 = true) (hi : i < n1) (hun : listed.getD i true = false) (hj : j ∈ Region.ready md ops listed) : j < n1 := by
  obtain ⟨_, oj, hoj, hall⟩ := mem_ready.1 hj
  have hlt : j < ops.size := (Array.getElem?_eq_some_iff.1 hoj).1
  have h1 := List.all_eq_true.1 hp j (List.mem_range.2 hlt)
  simp only [Bool.or_eq_true, decide_eq_true_eq] at h1
  rcases h1 with h1 | h1
  · exact h1
  · obtain ⟨o', ho', e, he, hb, hon⟩ := Region.waitsFor_spec (List.all_eq_true.1 h1 i (List.mem_range.2 hi))
    have : o' = oj := Option.some.inj (ho'.symm.trans hoj)
    subst this
    have h2 := hall e he hb
    rw [hon, getD_both hun] at h2
    cases h2

theorem wpAnyC_first {n1 m i : Nat} {oi : Oper} {v : Value} (hp : phaseB md ops n1 = true) (hin : i < n1) (hi : ops[i]? = some oi) (hsel : ∀ (j : Nat) (o : Oper) cs b, ops[j]? = some o → o.op ≠ .select cs b)
    (hQ : ∀ c a w, Q (.panic c) (a.put oi.dst v) w → Q (.panic c) a w) :
    ∀ (fuel : Nat) (listed : Array Bool) (a : Act) (w : World), C w →
      (∀ j oj, ops[j]? = some oj → j ≠ i → listed.getD j true = false → (∀ e ∈ oj.after, Region.binds md e = true → e.on ≠ i) → oi.apart ops oj = true) →
      i ∈ Region.ready md ops listed → YieldsX P ops C oi v a →
      wpAnyC P md ops C Q n1 m fuel (listed.setIfInBounds i true) (a.put oi.dst v) w → wpAnyC P md ops C Q n1 m (fuel + 1) listed a w := by
  intro fuel
  induction fuel with
  | zero =>
    intro listed a w hC _ hr hy H
    refine ⟨fun h => (by rw [h] at hr; cases hr), fun j hj => ?_⟩
    by_cases hji : j = i
    · subst hji; exact hy.wpOp hi hC ⟨hC, H⟩
    · have hjn := phase_ready hp hin (mem_ready.1 hr).1 hj
      have h1 := H.1 j hjn
      rw [getD_set_ne true (Ne.symm hji), (mem_ready.1 hj).1] at h1
      cases h1
  | succ fuel ih =>
    intro listed a w hC hfree hr hy H
    refine ⟨fun h => (by rw [h] at hr; cases hr), fun j hj => ?_⟩
    by_cases hji : j = i
    · subst hji; exact hy.wpOp hi hC ⟨hC, H⟩
    · have h1 := H.2 j (ready_mono hj hji)
      obtain ⟨hjun, oj, hoj, hall⟩ := mem_ready.1 hj
      have hnot : ∀ e ∈ oj.after, Region.binds md e = true → e.on ≠ i := fun e he hb heq => by
        have h1 := hall e he hb
        have h0 := (mem_ready.1 hr).1
        rw [heq] at h1
        rcases Nat.lt_or_ge i listed.size with h' | h'
        · simp [h'] at h0 h1; rw [h0] at h1; cases h1
        · simp [Array.getElem?_eq_none h'] at h1
      have h2 := wpOp_putX hoj (hfree j oj hoj hji hjun hnot) (fun cs b => hsel i oi cs b hi) (fun cs b => hsel j oj cs b hoj) hQ hy h1
      have hfree' : ∀ k ok, ops[k]? = some ok → k ≠ i → (listed.setIfInBounds j true).getD k true = false →
          (∀ e ∈ ok.after, Region.binds md e = true → e.on ≠ i) → oi.apart ops ok = true := fun k ok hk hki hun hno => by
        refine hfree k ok hk hki ?_ hno
        by_cases hjk : j = k
        · subst hjk; exact hjun
        · rw [getD_set_ne true hjk] at hun; exact hun
      refine wpOp_mono (fun a' w' h3 => ⟨h3.2.1, ih (listed.setIfInBounds j true) a' w' h3.2.1 hfree' (ready_mono hr (Ne.symm hji)) h3.1 ?_⟩) h2
      rw [Array.setIfInBounds_comm _ _ hji]
      exact h3.2.2

def qcB (md : Region.Mode) (ops : Array Oper) (n1 : Nat) : List Nat → Array Bool → Bool
  | [], _ => true
  | k :: p, L => decide (k < n1) && ((ops[k]?).map stillOp).getD false && (Region.ready md ops L).contains k && Region.free md ops L k && qcB md ops n1 p (L.setIfInBounds k true)
def mixcB (md : Region.Mode) (ops : Array Oper) (n1 : Nat) (s2 : List Stp) : List Stp → Array Bool → Bool
  | [], L => (List.range n1).all (fun j => L.getD j true) && mixB md ops s2 L
  | .q ks :: s, L => qcB md ops n1 ks L && mixcB md ops n1 s2 s (runSet L ks)
  | .f ks :: s, L => fB md ops ks L && mixcB md ops n1 s2 s (runSet L ks)
  | .p i j :: s, L => decide (Region.ready md ops L = [i, j]) && fB md ops [j] (runSet L [i]) && fB md ops [i] (runSet L [j]) && (ops[i]?).isSome && (ops[j]?).isSome && (runSet L [j, i] == runSet L [i, j]) && mixcB md ops n1 s2 s (runSet L [i, j])

/-- operations one by one, each of which keeps the class. -/
def wpSteps (P : Program) (ops : Array Oper) (C : World → Prop) (X : Act → World → Prop) : List Oper → Act → World → Prop
  | [], a, w => X a w
  | o :: rest, a, w => wpList P ops (contF fun a' w' => C w' ∧ wpSteps P ops C X rest a' w') [o] a w

def wpMixC (P : Program) (l : List Oper) (C : World → Prop) (Q : Exit → Act → World → Prop) (s2 : List Stp) : List Stp → Act → World → Prop
  | [], a, w => wpMix P l Q s2 a w
  | .q ks :: s, a, w => wpQuiet P l.toArray C (fun a' => wpMixC P l C Q s2 s a' w) (pick l ks) a
  | .f ks :: s, a, w => wpSteps P l.toArray C (wpMixC P l C Q s2 s) (pick l ks) a w
  | .p i j :: s, a, w => wpSteps P l.toArray C (wpMixC P l C Q s2 s) (pick l [i, j]) a w ∧ wpSteps P l.toArray C (wpMixC P l C Q s2 s) (pick l [j, i]) a w

theorem wpAnyC_q {l : List Oper} {Q : Exit → Act → World → Prop} {n1 m : Nat} (hp : phaseB md l.toArray n1 = true) (hQ : ∀ c a a' w, Q (.panic c) a w → Q (.panic c) a' w) (hsel : Region.noSelect l.toArray = true) {X : Act → World → Prop} {n : Nat} :
    ∀ (p : List Nat) (L : Array Bool) (a : Act) (w : World), C w → qcB md l.toArray n1 p L = true → (∀ a', X a' w → wpAnyC P md l.toArray C Q n1 m n (runSet L p) a' w) → wpQuiet P l.toArray C (fun a' => X a' w) (pick l p) a →
      wpAnyC P md l.toArray C Q n1 m (p.length + n) L a w := by
  intro p
  induction p with
  | nil => intro L a w hC hB h hx; rw [List.length_nil, Nat.zero_add]; exact h a hx
  | cons i p ih =>
    intro L a w hC hB h hx
    simp only [qcB, Bool.and_eq_true, decide_eq_true_eq] at hB
    obtain ⟨⟨⟨⟨hin, ho⟩, hr⟩, hf⟩, hB'⟩ := hB
    cases ho2 : l.toArray[i]? with
    | none => rw [ho2] at ho; cases ho
    | some o =>
      rw [ho2] at ho
      have hs1 : stillOp o = true := by simpa using ho
      have ho' : l[i]? = some o := by simpa using ho2
      rw [pick_cons ho'] at hx
      have hr' : i ∈ Region.ready md l.toArray L := by simpa using hr
      have hq : qOp P l.toArray C i (wpQuiet P l.toArray C (fun a' => X a' w) (pick l p)) a := by unfold qOp; simp only [ho2]; exact hx
      obtain ⟨v, hy, hK⟩ := yieldsX_of_quiet ho2 hs1 hq
      rw [List.length_cons, show p.length + 1 + n = (p.length + n) + 1 from by omega]
      exact wpAnyC_first hp hin ho2 (Region.noSelect_spec hsel) (fun c a w h => hQ c _ _ w h) _ L a w hC (Region.free_spec ho2 hf) hr' hy (ih _ _ _ hC hB' h hK)

theorem wpAnyC_f {l : List Oper} {Q : Exit → Act → World → Prop} {X : Act → World → Prop} {n n1 m : Nat} :
    ∀ (p : List Nat) (L : Array Bool) (a : Act) (w : World), C w → fB md l.toArray p L = true → (∀ a' w', C w' → X a' w' → wpAnyC P md l.toArray C Q n1 m n (runSet L p) a' w') → wpSteps P l.toArray C X (pick l p) a w →
      wpAnyC P md l.toArray C Q n1 m (p.length + n) L a w := by
  intro p
  induction p with
  | nil => intro L a w hC hB h hx; rw [List.length_nil, Nat.zero_add]; exact h a w hC hx
  | cons k p ih =>
    intro L a w hC hB h hx
    simp only [fB, Bool.and_eq_true, decide_eq_true_eq] at hB
    obtain ⟨⟨hr, ho⟩, hB'⟩ := hB
    obtain ⟨o, ho⟩ := Option.isSome_iff_exists.1 ho
    have ho' : l[k]? = some o := by simpa using ho
    rw [pick_cons ho'] at hx
    rw [List.length_cons, show p.length + 1 + n = (p.length + n) + 1 from by omega]
    refine ⟨fun h1 => (by rw [hr] at h1; cases h1), fun i hi => ?_⟩
    rw [hr] at hi
    have hik : i = k := by simpa using hi
    subst hik
    rw [wpSteps] at hx
    have hw : wpOp P l.toArray (contF fun a' w' => C w' ∧ wpSteps P l.toArray C X (pick l p) a' w') i (fun a' w' => C w' ∧ wpSteps P l.toArray C X (pick l p) a' w') a w := by
      unfold wpOp; simp only [ho]; exact hx
    exact wpOp_mono (fun a' w' h' => ⟨h'.1, ih _ _ _ h'.1 hB' h h'.2⟩) (wpOp_F hw)

theorem wpAnyC_mix {l : List Oper} {Q : Exit → Act → World → Prop} {n1 : Nat} {s2 : List Stp} (hp : phaseB md l.toArray n1 = true) (hQ : ∀ c a a' w, Q (.panic c) a w → Q (.panic c) a' w) (hsel : Region.noSelect l.toArray = true) :
    ∀ (s : List Stp) (L : Array Bool) (a : Act) (w : World), C w → mixcB md l.toArray n1 s2 s L = true → wpMixC P l C Q s2 s a w → wpAnyC P md l.toArray C Q n1 (lenS s2) (lenS s) L a w := by
  intro s
  induction s with
  | nil =>
    intro L a w hC hB h
    simp only [mixcB, Bool.and_eq_true] at hB
    exact ⟨fun j hj => List.all_eq_true.1 hB.1 j (List.mem_range.2 hj), wpAny_mix hQ hsel s2 L a w hB.2 h⟩
  | cons st s ih =>
    intro L a w hC hB h
    cases st with
    | q ks =>
      simp only [mixcB, Bool.and_eq_true] at hB
      exact wpAnyC_q hp hQ hsel (X := wpMixC P l C Q s2 s) ks L a w hC hB.1 (fun a' h' => ih _ _ _ hC hB.2 h') h
    | f ks =>
      simp only [mixcB, Bool.and_eq_true] at hB
      exact wpAnyC_f ks L a w hC hB.1 (fun a' w' hC' h' => ih _ _ _ hC' hB.2 h') h
    | p i j =>
      simp only [mixcB, Bool.and_eq_true, decide_eq_true_eq, beq_iff_eq] at hB
      obtain ⟨⟨⟨⟨⟨⟨hr, h1⟩, h2⟩, hi⟩, hj⟩, he⟩, hB'⟩ := hB
      obtain ⟨ha, hb⟩ := h
      show wpAnyC P md l.toArray C Q n1 (lenS s2) (2 + lenS s) L a w
      rw [show 2 + lenS s = (1 + lenS s) + 1 from by omega]
      refine ⟨fun h1 => (by rw [hr] at h1; cases h1), fun k hk => ?_⟩
      rw [hr] at hk
      rcases (by simpa using hk : k = i ∨ k = j) with rfl | rfl
      · obtain ⟨o, ho⟩ := Option.isSome_iff_exists.1 hi
        have ho' : l[k]? = some o := by simpa using ho
        rw [pick_cons ho', wpSteps] at ha
        have hw : wpOp P l.toArray (contF fun a' w' => C w' ∧ wpSteps P l.toArray C (wpMixC P l C Q s2 s) (pick l [j]) a' w') k (fun a' w' => C w' ∧ wpSteps P l.toArray C (wpMixC P l C Q s2 s) (pick l [j]) a' w') a w := by
          unfold wpOp; simp only [ho]; exact ha
        exact wpOp_mono (fun a' w' h' => ⟨h'.1, wpAnyC_f [j] _ a' w' h'.1 h1 (fun a'' w'' hC'' h'' => ih _ _ _ hC'' hB' h'') h'.2⟩) (wpOp_F hw)
      · obtain ⟨o, ho⟩ := Option.isSome_iff_exists.1 hj
        have ho' : l[k]? = some o := by simpa using ho
        rw [pick_cons ho', wpSteps] at hb
        have hw : wpOp P l.toArray (contF fun a' w' => C w' ∧ wpSteps P l.toArray C (wpMixC P l C Q s2 s) (pick l [i]) a' w') k (fun a' w' => C w' ∧ wpSteps P l.toArray C (wpMixC P l C Q s2 s) (pick l [i]) a' w') a w := by
          unfold wpOp; simp only [ho]; exact hb
        refine wpOp_mono (fun a' w' h' => ⟨h'.1, wpAnyC_f [i] _ a' w' h'.1 h2 (fun a'' w'' hC'' h'' => ?_) h'.2⟩) (wpOp_F hw)
        have := ih _ _ _ hC'' hB' h''
        rw [← he] at this
        exact this

def mixcAllB (l : List Oper) (n1 : Nat) (s s2 : List Stp) : Bool :=
  Region.noSelect l.toArray && phaseB .any l.toArray n1 && decide (lenS s + lenS s2 = l.length) && mixcB .any l.toArray n1 s2 s (Array.replicate l.length false)

theorem wp_mixC (C : World → Prop) {id : Nat} {a : Act} {w : World} {l : List Oper} (n1 : Nat) (s s2 : List Stp) (hm : P.follows .mixedOrders = true) (hB : mixcAllB l n1 s s2 = true) (hC : C w.drew)
    (h : ∀ Q' : Exit → Act → World → Prop, (∀ a w, Q .normal a w → Q' .normal a w) → wpMixC P l C Q' s2 s a w.drew) :
    (Code.region id l.toArray true).wp P Q a w := by
  simp only [mixcAllB, Bool.and_eq_true, decide_eq_true_eq] at hB
  obtain ⟨⟨⟨hsel, hp⟩, hlen⟩, hB⟩ := hB
  refine Code.wp_mono (Q := noPan Q) (fun e a w hq => by cases e <;> first | exact hq | exact (hq : False).elim) ?_
  refine wp_region_any hm ?_
  have := wpAny_of_C (C := C) _ _ _ _ (wpAnyC_mix (md := .any) (Q := noPan Q) hp (fun c a a' w hq => hq) hsel s (Array.replicate l.length false) a w.drew hC hB (h (noPan Q) fun _ _ h => h))
  rw [show lenS s + lenS s2 = l.toArray.size from by simp; omega] at this
  simpa using this
end

/-- a load of whatever a cell holds, in a class all of whose worlds hold it. -/
theorem run_load_cell {P : Program} {o : Oper} {a : Act} {w : World} {ty : TypeId} {x : Operand} {p : Addr} {v : Value} (ho : o.op = .load ty x) (hx : a.eval x = .pointer (some p)) (hd : ∀ w, (isAgg ty).run P w = .ok false w) (hc : w.cell? p = some v) :
    (execOp a.eval o).run P w = .ok (.value v) w := by
  unfold execOp
  simp only [ho, hx]
  simp [go_sem, hc, hd]
def aggB (P : Program) (ty : TypeId) : Bool := match P.underlying ty with | some (.struct _) | some (.array _ _) | none => true | _ => false
def yesB (P : Program) (ty : TypeId) (n : Nat) : Bool := (match P.underlying ty with | some (.struct _) | some (.array _ _) => true | _ => false) && ((P.info? ty).map (·.size) == some n)
theorem isAgg_no {P : Program} {ty : TypeId} (h : aggB P ty = false) (w : World) : (isAgg ty).run P w = .ok false w := by
  unfold aggB at h
  cases e : P.underlying ty with
  | none => rw [e] at h; cases h
  | some d =>
    rw [e] at h
    simp only [isAgg, Sem.run_bind, run_underlying e, Result.andThen_ok]
    split
    · cases h
    · cases h
    · rfl
theorem quiet_cellB {P : Program} {o : Oper} {a : Act} {B : Nat} {w0 : World} {K : Act → Prop} {ty : TypeId} {x : Operand} {b off : Nat} {v : Value} (ho : o.op = .load ty x) (hx : a.eval x = .pointer (some ⟨b, off, none⟩)) (hd : aggB P ty = false)
    (hc : w0.cell? ⟨b, off, none⟩ = some v) (hb : b < B) (hK : K (a.put o.dst v)) : o.quiet P a (fun w' => Below B w0 w') K :=
  quiet_val v (fun w hw => run_load_cell ho hx (isAgg_no hd) ((hw.cell (p := ⟨b, off, none⟩) hb).trans hc)) hK

theorem isAgg_yes {P : Program} {ty : TypeId} {n : Nat} (h : yesB P ty n = true) (w : World) : (isAgg ty).run P w = .ok true w ∧ (sizeOf ty).run P w = .ok n w := by
  simp only [yesB, Bool.and_eq_true, beq_iff_eq] at h
  obtain ⟨h1, h2⟩ := h
  constructor
  · cases e : P.underlying ty with
    | none => rw [e] at h1; cases h1
    | some d =>
      rw [e] at h1
      simp only [isAgg, Sem.run_bind, run_underlying e, Result.andThen_ok]
      split
      · rfl
      · rfl
      · rename_i h3 h4
        split at h1
        · rename_i _ _ e2; cases e2; exact (h3 _ rfl).elim
        · rename_i _ _ _ e2; cases e2; exact (h4 _ _ rfl).elim
        · cases h1
  · cases e : P.info? ty with
    | none => rw [e] at h2; cases h2
    | some i => rw [e] at h2; simp at h2; simp [sizeOf, run_typeInfo w e, h2]
theorem run_load_agg {P : Program} {o : Oper} {a : Act} {w : World} {ty : TypeId} {x : Operand} {p : Addr} (cs : List Value) (ho : o.op = .load ty x) (hx : a.eval x = .pointer (some p)) (hd : yesB P ty cs.length = true) (hc : ∀ j v, cs[j]? = some v → w.cell? (p.add j) = some v) :
    (execOp a.eval o).run P w = .ok (.value (.agg cs.toArray)) w := by
  have h := run_loadCells_list (P := P) w p cs hc
  unfold loadCells at h
  obtain ⟨h1, h2⟩ := isAgg_yes hd w
  unfold execOp
  simp only [ho, hx]
  simp [go_sem, h1, h2, h]
theorem quiet_agg2B {P : Program} {o : Oper} {a : Act} {B : Nat} {w0 : World} {K : Act → Prop} {ty : TypeId} {x : Operand} {b off : Nat} {v0 v1 : Value} (ho : o.op = .load ty x) (hx : a.eval x = .pointer (some ⟨b, off, none⟩)) (hd : yesB P ty 2 = true)
    (h0 : w0.cell? ⟨b, off, none⟩ = some v0) (h1 : w0.cell? ⟨b, off + 1, none⟩ = some v1) (hb : b < B) (hK : K (a.put o.dst (.agg #[v0, v1]))) : o.quiet P a (fun w' => Below B w0 w') K :=
  quiet_val _ (fun w hw => run_load_agg [v0, v1] ho hx hd (fun j v hj => by
    match j, hj with
    | 0, hj => cases hj; exact (hw.cell (p := ⟨b, off, none⟩) hb).trans h0
    | 1, hj => cases hj; exact (hw.cell (p := ⟨b, off + 1, none⟩) hb).trans h1
    | j + 2, hj => simp at hj)) hK
theorem quiet_agg3B {P : Program} {o : Oper} {a : Act} {B : Nat} {w0 : World} {K : Act → Prop} {ty : TypeId} {x : Operand} {b off : Nat} {v0 v1 v2 : Value} (ho : o.op = .load ty x) (hx : a.eval x = .pointer (some ⟨b, off, none⟩)) (hd : yesB P ty 3 = true)
    (h0 : w0.cell? ⟨b, off, none⟩ = some v0) (h1 : w0.cell? ⟨b, off + 1, none⟩ = some v1) (h2 : w0.cell? ⟨b, off + 2, none⟩ = some v2) (hb : b < B) (hK : K (a.put o.dst (.agg #[v0, v1, v2]))) : o.quiet P a (fun w' => Below B w0 w') K :=
  quiet_val _ (fun w hw => run_load_agg [v0, v1, v2] ho hx hd (fun j v hj => by
    match j, hj with
    | 0, hj => cases hj; exact (hw.cell (p := ⟨b, off, none⟩) hb).trans h0
    | 1, hj => cases hj; exact (hw.cell (p := ⟨b, off + 1, none⟩) hb).trans h1
    | 2, hj => cases hj; exact (hw.cell (p := ⟨b, off + 2, none⟩) hb).trans h2
    | j + 3, hj => simp at hj)) hK
theorem quiet_agg4B {P : Program} {o : Oper} {a : Act} {B : Nat} {w0 : World} {K : Act → Prop} {ty : TypeId} {x : Operand} {b off : Nat} {v0 v1 v2 v3 : Value} (ho : o.op = .load ty x) (hx : a.eval x = .pointer (some ⟨b, off, none⟩)) (hd : yesB P ty 4 = true)
    (h0 : w0.cell? ⟨b, off, none⟩ = some v0) (h1 : w0.cell? ⟨b, off + 1, none⟩ = some v1) (h2 : w0.cell? ⟨b, off + 2, none⟩ = some v2) (h3 : w0.cell? ⟨b, off + 3, none⟩ = some v3) (hb : b < B) (hK : K (a.put o.dst (.agg #[v0, v1, v2, v3]))) : o.quiet P a (fun w' => Below B w0 w') K :=
  quiet_val _ (fun w hw => run_load_agg [v0, v1, v2, v3] ho hx hd (fun j v hj => by
    match j, hj with
    | 0, hj => cases hj; exact (hw.cell (p := ⟨b, off, none⟩) hb).trans h0
    | 1, hj => cases hj; exact (hw.cell (p := ⟨b, off + 1, none⟩) hb).trans h1
    | 2, hj => cases hj; exact (hw.cell (p := ⟨b, off + 2, none⟩) hb).trans h2
    | 3, hj => cases hj; exact (hw.cell (p := ⟨b, off + 3, none⟩) hb).trans h3
    | j + 4, hj => simp at hj)) hK

theorem quiet_max {P : Program} {o : Oper} {a : Act} {C : World → Prop} {K : Act → Prop} {x y : Operand} {ts : Array TypeId} {m n r : Int} (ho : o.op = .call { callee := .builtin .max, args := #[x, y], argTypes := ts }) (hx : a.eval x = .int .i64 m) (hy : a.eval y = .int .i64 n)
    (hr : max m n = r) (hK : K (a.put o.dst (.int .i64 r))) : o.quiet P a C K :=
  quiet_val _ (fun w _ => by
    subst hr
    unfold execOp
    simp only [ho, resolve, invoke, builtin, Sem.run_bind, Sem.run_pure, Result.andThen_ok, List.map_toArray, List.map_cons, List.map_nil, hx, hy]
    simp [Builtin.max_, Builtin.max2, go_sem, Int.max_def]
    try (split <;> simp_all <;> omega)) hK
end Go.Proofs.Ytlmdmpjfehpjeaa

/- A class of worlds in which some blocks are as they were; loads of aggregates of many cells. -/
set_option linter.unusedVariables false
set_option linter.unusedSimpArgs false
namespace Go.Proofs.Ytlmdmpjfehpjeaa
open Go.RowKit

/-- the blocks of a list are as they were. -/
def KeepB (G : List Nat) (W wc : World) : Prop := ∀ g ∈ G, g < wc.heap.size ∧ wc.heap[g]? = W.heap[g]?
theorem KeepB.refl {G : List Nat} {W : World} (h : ∀ g ∈ G, g < W.heap.size) : KeepB G W W := fun g hg => ⟨h g hg, rfl⟩
theorem KeepB.drew {G : List Nat} {W w : World} (h : KeepB G W w) : KeepB G W w.drew := fun g hg => h g hg
theorem KeepB.below {G : List Nat} {W w w' : World} (h : KeepB G W w) (hb : Below w.heap.size w w') : KeepB G W w' := fun g hg => ⟨Nat.lt_of_lt_of_le (h g hg).1 hb.size, (hb.block g (h g hg).1).trans (h g hg).2⟩
theorem KeepB.alloc {G : List Nat} {W w : World} (h : KeepB G W w) (o : Obj) : KeepB G W (w.alloc o) := KeepB.below h ((Below.refl _ _).alloc (Nat.le_refl _) o)
theorem heap_setCell_ne (w : World) (g k off : Nat) (v : Value) (h : g ≠ k) : (w.setCell ⟨k, off, none⟩ v).heap[g]? = w.heap[g]? := heap_setCell_other w ⟨k, off, none⟩ g v h
theorem KeepB.setCell {G : List Nat} {W w : World} {k off : Nat} {v : Value} (h : KeepB G W w) (hk : ∀ g ∈ G, g ≠ k) : KeepB G W (w.setCell ⟨k, off, none⟩ v) := fun g hg => by
  rw [World.size_setCell, heap_setCell_ne _ _ _ _ _ (hk g hg)]; exact h g hg
theorem KeepB.cell {G : List Nat} {W w : World} (h : KeepB G W w) {g off : Nat} (hg : g ∈ G) : w.cell? ⟨g, off, none⟩ = W.cell? ⟨g, off, none⟩ := by
  simp only [World.cell?, (h g hg).2]
theorem quiet_cellK {P : Program} {o : Oper} {a : Act} {G : List Nat} {w0 : World} {K : Act → Prop} {ty : TypeId} {x : Operand} {b off : Nat} {v : Value} (ho : o.op = .load ty x) (hx : a.eval x = .pointer (some ⟨b, off, none⟩)) (hd : aggB P ty = false)
    (hc : w0.cell? ⟨b, off, none⟩ = some v) (hb : b ∈ G) (hK : K (a.put o.dst v)) : o.quiet P a (KeepB G w0) K :=
  quiet_val v (fun w hw => run_load_cell ho hx (isAgg_no hd) ((hw.cell hb).trans hc)) hK
theorem quiet_agg6B {P : Program} {o : Oper} {a : Act} {B : Nat} {w0 : World} {K : Act → Prop} {ty : TypeId} {x : Operand} {b off : Nat} {v0 v1 v2 v3 v4 v5 : Value} (ho : o.op = .load ty x) (hx : a.eval x = .pointer (some ⟨b, off, none⟩)) (hd : yesB P ty 6 = true)
    (h0 : w0.cell? ⟨b, off, none⟩ = some v0) (h1 : w0.cell? ⟨b, off + 1, none⟩ = some v1) (h2 : w0.cell? ⟨b, off + 2, none⟩ = some v2) (h3 : w0.cell? ⟨b, off + 3, none⟩ = some v3) (h4 : w0.cell? ⟨b, off + 4, none⟩ = some v4) (h5 : w0.cell? ⟨b, off + 5, none⟩ = some v5) (hb : b < B) (hK : K (a.put o.dst (.agg #[v0, v1, v2, v3, v4, v5]))) : o.quiet P a (fun w' => Below B w0 w') K :=
  quiet_val _ (fun w hw => run_load_agg [v0, v1, v2, v3, v4, v5] ho hx hd (fun j v hj => by
    match j, hj with
    | 0, hj => cases hj; exact (hw.cell (p := ⟨b, off, none⟩) hb).trans h0
    | 1, hj => cases hj; exact (hw.cell (p := ⟨b, off + 1, none⟩) hb).trans h1
    | 2, hj => cases hj; exact (hw.cell (p := ⟨b, off + 2, none⟩) hb).trans h2
    | 3, hj => cases hj; exact (hw.cell (p := ⟨b, off + 3, none⟩) hb).trans h3
    | 4, hj => cases hj; exact (hw.cell (p := ⟨b, off + 4, none⟩) hb).trans h4
    | 5, hj => cases hj; exact (hw.cell (p := ⟨b, off + 5, none⟩) hb).trans h5
    | j + 6, hj => simp at hj)) hK
theorem quiet_agg12B {P : Program} {o : Oper} {a : Act} {B : Nat} {w0 : World} {K : Act → Prop} {ty : TypeId} {x : Operand} {b off : Nat} {v0 v1 v2 v3 v4 v5 v6 v7 v8 v9 v10 v11 : Value} (ho : o.op = .load ty x) (hx : a.eval x = .pointer (some ⟨b, off, none⟩)) (hd : yesB P ty 12 = true)
    (h0 : w0.cell? ⟨b, off, none⟩ = some v0) (h1 : w0.cell? ⟨b, off + 1, none⟩ = some v1) (h2 : w0.cell? ⟨b, off + 2, none⟩ = some v2) (h3 : w0.cell? ⟨b, off + 3, none⟩ = some v3) (h4 : w0.cell? ⟨b, off + 4, none⟩ = some v4) (h5 : w0.cell? ⟨b, off + 5, none⟩ = some v5) (h6 : w0.cell? ⟨b, off + 6, none⟩ = some v6) (h7 : w0.cell? ⟨b, off + 7, none⟩ = some v7) (h8 : w0.cell? ⟨b, off + 8, none⟩ = some v8) (h9 : w0.cell? ⟨b, off + 9, none⟩ = some v9) (h10 : w0.cell? ⟨b, off + 10, none⟩ = some v10) (h11 : w0.cell? ⟨b, off + 11, none⟩ = some v11) (hb : b < B) (hK : K (a.put o.dst (.agg #[v0, v1, v2, v3, v4, v5, v6, v7, v8, v9, v10, v11]))) : o.quiet P a (fun w' => Below B w0 w') K :=
  quiet_val _ (fun w hw => run_load_agg [v0, v1, v2, v3, v4, v5, v6, v7, v8, v9, v10, v11] ho hx hd (fun j v hj => by
    match j, hj with
    | 0, hj => cases hj; exact (hw.cell (p := ⟨b, off, none⟩) hb).trans h0
    | 1, hj => cases hj; exact (hw.cell (p := ⟨b, off + 1, none⟩) hb).trans h1
    | 2, hj => cases hj; exact (hw.cell (p := ⟨b, off + 2, none⟩) hb).trans h2
    | 3, hj => cases hj; exact (hw.cell (p := ⟨b, off + 3, none⟩) hb).trans h3
    | 4, hj => cases hj; exact (hw.cell (p := ⟨b, off + 4, none⟩) hb).trans h4
    | 5, hj => cases hj; exact (hw.cell (p := ⟨b, off + 5, none⟩) hb).trans h5
    | 6, hj => cases hj; exact (hw.cell (p := ⟨b, off + 6, none⟩) hb).trans h6
    | 7, hj => cases hj; exact (hw.cell (p := ⟨b, off + 7, none⟩) hb).trans h7
    | 8, hj => cases hj; exact (hw.cell (p := ⟨b, off + 8, none⟩) hb).trans h8
    | 9, hj => cases hj; exact (hw.cell (p := ⟨b, off + 9, none⟩) hb).trans h9
    | 10, hj => cases hj; exact (hw.cell (p := ⟨b, off + 10, none⟩) hb).trans h10
    | 11, hj => cases hj; exact (hw.cell (p := ⟨b, off + 11, none⟩) hb).trans h11
    | j + 12, hj => simp at hj)) hK
theorem quiet_agg2K {P : Program} {o : Oper} {a : Act} {G : List Nat} {w0 : World} {K : Act → Prop} {ty : TypeId} {x : Operand} {b off : Nat} {v0 v1 : Value} (ho : o.op = .load ty x) (hx : a.eval x = .pointer (some ⟨b, off, none⟩)) (hd : yesB P ty 2 = true)
    (h0 : w0.cell? ⟨b, off, none⟩ = some v0) (h1 : w0.cell? ⟨b, off + 1, none⟩ = some v1) (hb : b ∈ G) (hK : K (a.put o.dst (.agg #[v0, v1]))) : o.quiet P a (KeepB G w0) K :=
  quiet_val _ (fun w hw => run_load_agg [v0, v1] ho hx hd (fun j v hj => by
    match j, hj with
    | 0, hj => cases hj; exact (hw.cell (g := b) (off := off) hb).trans h0
    | 1, hj => cases hj; exact (hw.cell (g := b) (off := off + 1) hb).trans h1
    | j + 2, hj => simp at hj)) hK
theorem quiet_agg3K {P : Program} {o : Oper} {a : Act} {G : List Nat} {w0 : World} {K : Act → Prop} {ty : TypeId} {x : Operand} {b off : Nat} {v0 v1 v2 : Value} (ho : o.op = .load ty x) (hx : a.eval x = .pointer (some ⟨b, off, none⟩)) (hd : yesB P ty 3 = true)
    (h0 : w0.cell? ⟨b, off, none⟩ = some v0) (h1 : w0.cell? ⟨b, off + 1, none⟩ = some v1) (h2 : w0.cell? ⟨b, off + 2, none⟩ = some v2) (hb : b ∈ G) (hK : K (a.put o.dst (.agg #[v0, v1, v2]))) : o.quiet P a (KeepB G w0) K :=
  quiet_val _ (fun w hw => run_load_agg [v0, v1, v2] ho hx hd (fun j v hj => by
    match j, hj with
    | 0, hj => cases hj; exact (hw.cell (g := b) (off := off) hb).trans h0
    | 1, hj => cases hj; exact (hw.cell (g := b) (off := off + 1) hb).trans h1
    | 2, hj => cases hj; exact (hw.cell (g := b) (off := off + 2) hb).trans h2
    | j + 3, hj => simp at hj)) hK
theorem quiet_agg6K {P : Program} {o : Oper} {a : Act} {G : List Nat} {w0 : World} {K : Act → Prop} {ty : TypeId} {x : Operand} {b off : Nat} {v0 v1 v2 v3 v4 v5 : Value} (ho : o.op = .load ty x) (hx : a.eval x = .pointer (some ⟨b, off, none⟩)) (hd : yesB P ty 6 = true)
    (h0 : w0.cell? ⟨b, off, none⟩ = some v0) (h1 : w0.cell? ⟨b, off + 1, none⟩ = some v1) (h2 : w0.cell? ⟨b, off + 2, none⟩ = some v2) (h3 : w0.cell? ⟨b, off + 3, none⟩ = some v3) (h4 : w0.cell? ⟨b, off + 4, none⟩ = some v4) (h5 : w0.cell? ⟨b, off + 5, none⟩ = some v5) (hb : b ∈ G) (hK : K (a.put o.dst (.agg #[v0, v1, v2, v3, v4, v5]))) : o.quiet P a (KeepB G w0) K :=
  quiet_val _ (fun w hw => run_load_agg [v0, v1, v2, v3, v4, v5] ho hx hd (fun j v hj => by
    match j, hj with
    | 0, hj => cases hj; exact (hw.cell (g := b) (off := off) hb).trans h0
    | 1, hj => cases hj; exact (hw.cell (g := b) (off := off + 1) hb).trans h1
    | 2, hj => cases hj; exact (hw.cell (g := b) (off := off + 2) hb).trans h2
    | 3, hj => cases hj; exact (hw.cell (g := b) (off := off + 3) hb).trans h3
    | 4, hj => cases hj; exact (hw.cell (g := b) (off := off + 4) hb).trans h4
    | 5, hj => cases hj; exact (hw.cell (g := b) (off := off + 5) hb).trans h5
    | j + 6, hj => simp at hj)) hK
theorem quiet_agg12K {P : Program} {o : Oper} {a : Act} {G : List Nat} {w0 : World} {K : Act → Prop} {ty : TypeId} {x : Operand} {b off : Nat} {v0 v1 v2 v3 v4 v5 v6 v7 v8 v9 v10 v11 : Value} (ho : o.op = .load ty x) (hx : a.eval x = .pointer (some ⟨b, off, none⟩)) (hd : yesB P ty 12 = true)
    (h0 : w0.cell? ⟨b, off, none⟩ = some v0) (h1 : w0.cell? ⟨b, off + 1, none⟩ = some v1) (h2 : w0.cell? ⟨b, off + 2, none⟩ = some v2) (h3 : w0.cell? ⟨b, off + 3, none⟩ = some v3) (h4 : w0.cell? ⟨b, off + 4, none⟩ = some v4) (h5 : w0.cell? ⟨b, off + 5, none⟩ = some v5) (h6 : w0.cell? ⟨b, off + 6, none⟩ = some v6) (h7 : w0.cell? ⟨b, off + 7, none⟩ = some v7) (h8 : w0.cell? ⟨b, off + 8, none⟩ = some v8) (h9 : w0.cell? ⟨b, off + 9, none⟩ = some v9) (h10 : w0.cell? ⟨b, off + 10, none⟩ = some v10) (h11 : w0.cell? ⟨b, off + 11, none⟩ = some v11) (hb : b ∈ G) (hK : K (a.put o.dst (.agg #[v0, v1, v2, v3, v4, v5, v6, v7, v8, v9, v10, v11]))) : o.quiet P a (KeepB G w0) K :=
  quiet_val _ (fun w hw => run_load_agg [v0, v1, v2, v3, v4, v5, v6, v7, v8, v9, v10, v11] ho hx hd (fun j v hj => by
    match j, hj with
    | 0, hj => cases hj; exact (hw.cell (g := b) (off := off) hb).trans h0
    | 1, hj => cases hj; exact (hw.cell (g := b) (off := off + 1) hb).trans h1
    | 2, hj => cases hj; exact (hw.cell (g := b) (off := off + 2) hb).trans h2
    | 3, hj => cases hj; exact (hw.cell (g := b) (off := off + 3) hb).trans h3
    | 4, hj => cases hj; exact (hw.cell (g := b) (off := off + 4) hb).trans h4
    | 5, hj => cases hj; exact (hw.cell (g := b) (off := off + 5) hb).trans h5
    | 6, hj => cases hj; exact (hw.cell (g := b) (off := off + 6) hb).trans h6
    | 7, hj => cases hj; exact (hw.cell (g := b) (off := off + 7) hb).trans h7
    | 8, hj => cases hj; exact (hw.cell (g := b) (off := off + 8) hb).trans h8
    | 9, hj => cases hj; exact (hw.cell (g := b) (off := off + 9) hb).trans h9
    | 10, hj => cases hj; exact (hw.cell (g := b) (off := off + 10) hb).trans h10
    | 11, hj => cases hj; exact (hw.cell (g := b) (off := off + 11) hb).trans h11
    | j + 12, hj => simp at hj)) hK
section
variable {P : Program} {md : Region.Mode} {ops : Array Oper} {Q : Exit → Act → World → Prop} {C : World → Prop}
/-- operations one by one, and one beside them that may come anywhere. -/
def wpFlt (P : Program) (ops : Array Oper) (C : World → Prop) (X : Act → World → Prop) (js : List Oper) : List Oper → Act → World → Prop
  | [], a, w => wpSteps P ops C X js a w
  | o :: rest, a, w => wpList P ops (contF fun a' w' => C w' ∧ wpFlt P ops C X js rest a' w') [o] a w ∧ wpSteps P ops C X (js ++ o :: rest) a w
def fltB (md : Region.Mode) (ops : Array Oper) (j : Nat) (Z : Array Bool) : List Nat → Array Bool → Bool
  | [], L => fB md ops [j] L && (runSet L [j] == Z)
  | k :: ks, L => decide (Region.ready md ops L = [k, j]) && (ops[k]?).isSome && (ops[j]?).isSome && fB md ops (k :: ks) (runSet L [j]) && (runSet L (j :: k :: ks) == Z) && fltB md ops j Z ks (runSet L [k])
theorem wpAnyC_flt {l : List Oper} {Q : Exit → Act → World → Prop} {X : Act → World → Prop} {n n1 m j : Nat} {Z : Array Bool} (hX : ∀ a' w', C w' → X a' w' → wpAnyC P md l.toArray C Q n1 m n Z a' w') :
    ∀ (ks : List Nat) (L : Array Bool) (a : Act) (w : World), C w → fltB md l.toArray j Z ks L = true → wpFlt P l.toArray C X (pick l [j]) (pick l ks) a w →
      wpAnyC P md l.toArray C Q n1 m (ks.length + 1 + n) L a w := by
  intro ks
  induction ks with
  | nil =>
    intro L a w hC hB h
    simp only [fltB, Bool.and_eq_true, beq_iff_eq] at hB
    have := wpAnyC_f (P := P) (Q := Q) (n1 := n1) (m := m) (n := n) (X := X) [j] L a w hC hB.1 (fun a' w' hC' h' => by rw [hB.2]; exact hX a' w' hC' h') h
    simpa using this
  | cons k ks ih =>
    intro L a w hC hB h
    simp only [fltB, Bool.and_eq_true, decide_eq_true_eq, beq_iff_eq] at hB
    obtain ⟨⟨⟨⟨⟨hr, hk⟩, hj⟩, hf⟩, he⟩, hB'⟩ := hB
    obtain ⟨ok, hok⟩ := Option.isSome_iff_exists.1 hk
    obtain ⟨oj, hoj⟩ := Option.isSome_iff_exists.1 hj
    have hok' : l[k]? = some ok := by simpa using hok
    have hoj' : l[j]? = some oj := by simpa using hoj
    rw [pick_cons hok'] at h
    obtain ⟨ha, hb⟩ := h
    rw [List.length_cons, show ks.length + 1 + 1 + n = (ks.length + 1 + n) + 1 from by omega]
    refine ⟨fun h1 => (by rw [hr] at h1; cases h1), fun i hi => ?_⟩
    rw [hr] at hi
    rcases (by simpa using hi : i = k ∨ i = j) with rfl | rfl
    · have hw : wpOp P l.toArray (contF fun a' w' => C w' ∧ wpFlt P l.toArray C X (pick l [j]) (pick l ks) a' w') i (fun a' w' => C w' ∧ wpFlt P l.toArray C X (pick l [j]) (pick l ks) a' w') a w := by
        unfold wpOp; simp only [hok]; exact ha
      exact wpOp_mono (fun a' w' h' => ⟨h'.1, ih _ _ _ h'.1 hB' h'.2⟩) (wpOp_F hw)
    · rw [pick_cons hoj', show pick l [] = [] from rfl, List.cons_append, List.nil_append, wpSteps, ← pick_cons hok'] at hb
      have hw : wpOp P l.toArray (contF fun a' w' => C w' ∧ wpSteps P l.toArray C X (pick l (k :: ks)) a' w') i (fun a' w' => C w' ∧ wpSteps P l.toArray C X (pick l (k :: ks)) a' w') a w := by
        unfold wpOp; simp only [hoj]; exact hb
      refine wpOp_mono (fun a' w' h' => ⟨h'.1, ?_⟩) (wpOp_F hw)
      have := wpAnyC_f (P := P) (Q := Q) (n1 := n1) (m := m) (n := n) (X := X) (k :: ks) _ a' w' h'.1 hf (fun a'' w'' hC'' h'' => by
        rw [show runSet (runSet L [i]) (k :: ks) = Z from he]; exact hX a'' w'' hC'' h'') h'.2
      rw [List.length_cons] at this
      exact this
end
end Go.Proofs.Ytlmdmpjfehpjeaa
