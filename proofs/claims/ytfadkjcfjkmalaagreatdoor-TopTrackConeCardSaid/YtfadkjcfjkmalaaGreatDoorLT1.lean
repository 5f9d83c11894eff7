/- Texts of this claim, together. -/
import Derived.Test.YtfadkjcfjkmalaaGreatDoorRows
import Derived.WalkKit
import Derived.WalkSpells
import Derived.WalkLawsBesides
import Derived.Deep.QuietTactic
import Derived.BigQuiet
import Derived.StillTailTactics
import Derived.CallsIn

set_option maxRecDepth 100000
set_option linter.unusedVariables false
set_option linter.unusedSimpArgs false
namespace Go.Proofs.YtfadkjcfjkmalaaGreatDoor
def ch : Nat → Nat → Nat
 | _, 0 => 1
 | 0, _ + 1 => 0
 | n + 1, k + 1 => ch n k + ch n (k + 1)
def ex (s u : Nat) : Nat → Nat → Nat
 | 0, 0 => 1
 | 0, _ + 1 => 0
 | t + 1, 0 => ex s u t 0 * u
 | t + 1, k + 1 => ex s u t (k + 1) * u + ex s u t k * s
end Go.Proofs.YtfadkjcfjkmalaaGreatDoor
namespace Go.Proofs.YtfadkjcfjkmalaaGreatDoor
open Go.RowKit
theorem hid {p : Prop} (h : p) : Hid p := h
def inB (n lo hi : Int) : Bool := decide (lo ≤ n) && decide (n ≤ hi)
theorem q0Q {n lo hi : Int} : inB n lo hi = true ↔ lo ≤ n ∧ n ≤ hi := by simp [inB]
def unl (b : Bool) (n : Int) : Int := if b = true then 0 else n
def qd : List Int → Int
 | [] => 0
 | x :: l => if x = 0 then qd l else x
theorem qcD {l : List Int} : qd l = 0 ↔ ∀ x ∈ l, x = 0 := by
 induction l with
 | nil => simp [qd]
 | cons a l ih =>
  simp only [qd]
  split
  ·rename_i h; simp [ih, h]
  ·rename_i h; simp [h]
theorem qc7 {l m : List Int} (h : ∀ x ∈ l, x = 0) : qd (l ++ m) = qd m := by
 induction l with
 | nil => rfl
 | cons a l ih =>
  have ha : a = 0 := h a (by simp)
  simp only [List.cons_append, qd, ha, if_true]
  exact ih fun x hx => h x (by simp [hx])
theorem Below.drewN {B : Nat} {a w : World} (n : Nat) (h : Below B a w) : Below B a (w.drewN n) := ⟨h.os, h.tape, h.output, h.size, h.block⟩
theorem qm1 {w a w1 : World} (h : Below w.heap.size w a) (hb : Below a.heap.size a w1) : Below w.heap.size w w1 := h.trans (hb.mono h.size)
theorem qkH {w w' : World} (h : Below w.heap.size w w') (o : Obj) : Below w.heap.size w (w'.alloc o) := h.alloc h.size o
def SlAt (w : World) (v : Value) (n sz : Nat) (c : Nat → Nat → Value) : Prop :=
 ∃ ao cap, v = .slice ao n cap ∧ n ≤ cap ∧ cap ≤ maxLen ∧
  (0 < n → ∃ b off, ao = some ⟨b, off, none⟩ ∧ b < w.heap.size ∧ ∀ i j, i < n → j < sz → w.cell? ⟨b, off + i * sz + j, none⟩ = some (c i j)) ∧ (ao = none → cap = 0)
theorem SlAt.below {w w' : World} {v : Value} {n sz : Nat} {c : Nat → Nat → Value} (h : SlAt w v n sz c) (hb : Below w.heap.size w w') : SlAt w' v n sz c := by
 obtain ⟨ao, cap, rfl, h1, h2, h3, h4⟩ := h
 refine ⟨ao, cap, rfl, h1, h2, fun h0 => ?_, h4⟩
 obtain ⟨b, off, e, hlt, hc⟩ := h3 h0
 exact ⟨b, off, e, Nat.lt_of_lt_of_le hlt hb.size, fun i j hi hj => (hb.cell (p := ⟨b, _, none⟩) hlt).trans (hc i j hi hj)⟩
def IntsAt (w : World) (v : Value) (l : List Int) : Prop := SlAt w v l.length 1 (fun i _ => .int .i64 (l.getD i 0))
theorem IntsAt.below {w w' : World} {v : Value} {l : List Int} (h : IntsAt w v l) (hb : Below w.heap.size w w') : IntsAt w' v l := SlAt.below h hb
theorem IntsAt.open {w : World} {v : Value} {l : List Int} (h : IntsAt w v l) : ∃ ao cap, v = .slice ao l.length cap ∧ l.length ≤ cap ∧ cap ≤ maxLen ∧
  ∀ k, k < l.length → ∃ b off, ao = some ⟨b, off, none⟩ ∧ b < w.heap.size ∧ ∀ i, i < l.length → w.cell? ⟨b, off + i, none⟩ = some (.int .i64 (l.getD i 0)) := by
 obtain ⟨ao, cap, rfl, h1, h2, h3, _⟩ := h
 refine ⟨ao, cap, rfl, h1, h2, fun k hk => ?_⟩
 obtain ⟨b, off, e, hlt, hc⟩ := h3 (by omega)
 exact ⟨b, off, e, hlt, fun i hi => by simpa using hc i 0 hi (by omega)⟩
def nth (l : List Int) (i : Nat) : Int := l.getD i 0
theorem IntsAt.opn {w : World} {v : Value} {l : List Int} (h : IntsAt w v l) : ∃ ao cap, v = .slice ao l.length cap ∧ l.length ≤ cap ∧ cap ≤ maxLen ∧
  ∀ k, k < l.length → ∃ b off, ao = some ⟨b, off, none⟩ ∧ b < w.heap.size ∧ ∀ i, i < l.length → w.cell? ⟨b, off + i, none⟩ = some (.int .i64 (nth l i)) := h.open
theorem IntsAt.nil (w : World) : IntsAt w (.slice none 0 0) [] := ⟨none, 0, rfl, by simp, by simp, fun h => by simp at h, fun _ => rfl⟩
theorem q8k {w : World} {base base' : Nat} {e : TypeId} {size : Nat} {v : Value} {n : Nat} {xs : List Value} (h : w.ownsRow base e size v n xs) (hb : base' ≤ base) : w.ownsRow base' e size v n xs := by
 refine ⟨h.1, ?_⟩
 rcases h.2 with h2 | ⟨g, cap, cur, hv, hg, r⟩
 ·exact Or.inl h2
 ·exact Or.inr ⟨g, cap, cur, hv, Nat.le_trans hb hg, r⟩
theorem qm2 (w : World) (e : TypeId) (l : List Int) (n N : Nat) (hn : n = l.length) (hm : n ≤ 1000) (hN : w.heap.size = N) : IntsAt (w.alloc (.cells (l.map (Value.int .i64)).toArray e)) (.slice (some ⟨N, 0, none⟩) n n) l := by
 subst hn; subst hN
 refine ⟨_, _, rfl, Nat.le_refl _, by unfold maxLen; omega, fun _ => ⟨_, 0, rfl, by simp, fun i j hi hj => ?_⟩, fun h => by cases h⟩
 obtain rfl : j = 0 := by omega
 rw [cell_of_row (w.alloc _) w.heap.size _ _ e (0, 0) (heap_alloc_new w _)]
 simp [hi, List.getD]
theorem ret_int {k : IntKind} {a b : Int} (h : a = b) : Ending.returned (.int k a) = .returned (.int k b) := by rw [h]
end Go.Proofs.YtfadkjcfjkmalaaGreatDoor
namespace Go.Proofs.YtfadkjcfjkmalaaGreatDoor.Ev
open Go.RowKit
def tab64 : List Int := [0, 1, 56, 2, 57, 49, 28, 3, 61, 58, 42, 50, 38, 29, 17, 4, 62, 47, 59, 36, 45, 43, 51, 22, 53, 39, 33, 30, 24, 18, 12, 5, 63, 55, 48, 27, 60, 41, 37, 16, 46, 35, 44, 21, 52, 32, 23, 11, 54, 26, 40, 15, 34, 20, 31, 10, 25, 14, 19, 9, 13, 8, 7, 6]
def G64 (w : World) : Prop := ∀ i, i < 64 → w.cell? ⟨7, i, none⟩ = some (.int .u8 (tab64.getD i 0))
theorem G64.below {w w' : World} (h : G64 w) (hb : Below w.heap.size w w') : G64 w' := by
 intro i hi
 have h0 := h i hi
 exact (hb.cell (World.block_lt_of_cell? _ _ h0)).trans h0
def qdQ (w : World) (g : Nat) : Option (Array Value) := match w.heap[g]? with
 | some (.cells cs _ _) => some cs
 | _ => none
theorem qdQ.below {w w' : World} {g : Nat} {cs : Array Value} (h : qdQ w g = some cs) (hb : Below w.heap.size w w') : qdQ w' g = some cs := by
 unfold qdQ at h ⊢
 have hlt : g < w.heap.size := by
  rcases Nat.lt_or_ge g w.heap.size with h' | h'
  ·exact h'
  ·rw [Array.getElem?_eq_none h'] at h; cases h
 rw [hb.block g hlt]
 exact h
structure GStr (w : World) : Prop where
 pow : qdQ w 5 = some ([1, 10, 100, 1000, 10000, 100000, 1000000, 10000000, 100000000, 1000000000, 10000000000, 100000000000, 1000000000000, 10000000000000, 100000000000000, 1000000000000000, 10000000000000000, 100000000000000000, 1000000000000000000, 10000000000000000000].map (Value.int .u64)).toArray
 len : ∃ m, w.cell? ⟨0, 0, none⟩ = some (.int .i64 m)
 syn : ∃ t p, w.cell? ⟨3, 0, none⟩ = some (.iface t p)
 rng : ∃ t p, w.cell? ⟨4, 0, none⟩ = some (.iface t p)
theorem GStr.below {w w' : World} (h : GStr w) (hb : Below w.heap.size w w') : GStr w' := by
 obtain ⟨h1, ⟨m, h2⟩, ⟨t, p, h3⟩, t', p', h4⟩ := h
 exact ⟨qdQ.below h1 hb, ⟨m, (hb.cell (World.block_lt_of_cell? _ _ h2)).trans h2⟩, ⟨t, p, (hb.cell (World.block_lt_of_cell? _ _ h3)).trans h3⟩, t', p', (hb.cell (World.block_lt_of_cell? _ _ h4)).trans h4⟩
def Gd (w : World) : Prop := G64 w ∧ GStr w
theorem Gd.below {w w' : World} (h : Gd w) (hb : Below w.heap.size w w') : Gd w' := ⟨h.1.below hb, h.2.below hb⟩
def All2 {α β : Type} (R : α → β → Prop) : List α → List β → Prop
 | [], [] => True
 | a :: l, b :: m => R a b ∧ All2 R l m
 | _, _ => False
namespace All2
variable {α β γ : Type} {R R' : α → β → Prop}
theorem length : ∀ {l : List α} {m : List β}, All2 R l m → l.length = m.length
 | [], [], _ => rfl
 | _ :: _, _ :: _, h => by simp [length h.2]
 | [], _ :: _, h => h.elim
 | _ :: _, [], h => h.elim
theorem mono (hm : ∀ a b, R a b → R' a b) : ∀ {l : List α} {m : List β}, All2 R l m → All2 R' l m
 | [], [], _ => trivial
 | _ :: _, _ :: _, h => ⟨hm _ _ h.1, mono hm h.2⟩
 | [], _ :: _, h => h.elim
 | _ :: _, [], h => h.elim
theorem get : ∀ {l : List α} {m : List β} {i : Nat} {a : α}, All2 R l m → l[i]? = some a → ∃ b, m[i]? = some b ∧ R a b
 | [], [], _, _, _, h => by simp at h
 | x :: l, y :: m, 0, a, h, e => by
  simp at e; subst e; exact ⟨y, by simp, h.1⟩
 | x :: l, y :: m, i + 1, a, h, e => by
  simp at e; obtain ⟨b, h1, h2⟩ := get h.2 e; exact ⟨b, by simpa using h1, h2⟩
 | [], _ :: _, _, _, h, _ => h.elim
 | _ :: _, [], _, _, h, _ => h.elim
theorem append : ∀ {l : List α} {m : List β} {l' : List α} {m' : List β}, All2 R l m → All2 R l' m' → All2 R (l ++ l') (m ++ m')
 | [], [], _, _, _, h => h
 | _ :: _, _ :: _, _, _, h, h' => ⟨h.1, append h.2 h'⟩
 | [], _ :: _, _, _, h, _ => h.elim
 | _ :: _, [], _, _, h, _ => h.elim
theorem set : ∀ {l : List α} {m : List β} {i : Nat} {a : α} {b : β}, All2 R l m → R a b → All2 R (l.set i a) (m.set i b)
 | [], [], _, _, _, _, _ => trivial
 | _ :: _, _ :: _, 0, _, _, h, hr => ⟨hr, h.2⟩
 | _ :: _, _ :: _, i + 1, _, _, h, hr => ⟨h.1, set h.2 hr⟩
 | [], _ :: _, _, _, _, h, _ => h.elim
 | _ :: _, [], _, _, _, h, _ => h.elim
theorem drop : ∀ {l : List α} {m : List β} (i : Nat), All2 R l m → All2 R (l.drop i) (m.drop i)
 | _, _, 0, h => h
 | [], [], _ + 1, _ => trivial
 | _ :: _, _ :: _, i + 1, h => drop i h.2
 | [], _ :: _, _, h => h.elim
 | _ :: _, [], _, h => h.elim
theorem take : ∀ {l : List α} {m : List β} (i : Nat), All2 R l m → All2 R (l.take i) (m.take i)
 | _, _, 0, _ => trivial
 | [], [], _ + 1, _ => trivial
 | _ :: _, _ :: _, i + 1, h => ⟨h.1, take i h.2⟩
 | [], _ :: _, _, h => h.elim
 | _ :: _, [], _, h => h.elim
theorem map_left {f : γ → α} : ∀ {l : List γ} {m : List β}, All2 (fun c b => R (f c) b) l m → All2 R (l.map f) m
 | [], [], _ => trivial
 | _ :: _, _ :: _, h => ⟨h.1, map_left h.2⟩
 | [], _ :: _, h => h.elim
 | _ :: _, [], h => h.elim
theorem of_get : ∀ {l : List α} {m : List β}, l.length = m.length → (∀ (i : Nat) (a : α) (b : β), l[i]? = some a → m[i]? = some b → R a b) → All2 R l m
 | [], [], _, _ => trivial
 | a :: l, b :: m, h, hr => ⟨hr 0 a b rfl rfl, of_get (by simpa using h) fun i a b h1 h2 => hr (i + 1) a b (by simpa using h1) (by simpa using h2)⟩
 | [], _ :: _, h, _ => by simp at h
 | _ :: _, [], h, _ => by simp at h
theorem all_right {p : β → Prop} (hp : ∀ a b, R a b → p b) : ∀ {l : List α} {m : List β}, All2 R l m → ∀ b ∈ m, p b
 | [], [], _, b, hb => by simp at hb
 | _ :: _, _ :: _, h, b, hb => by
  rcases List.mem_cons.1 hb with rfl | hb
  ·exact hp _ _ h.1
  ·exact all_right hp h.2 b hb
 | [], _ :: _, h, _, _ => h.elim
 | _ :: _, [], h, _, _ => h.elim
end All2
inductive CV where
 | v (x : Value)
 | sl (sz n : Nat) (c : Nat → Nat → CV)
 | px (n off : Nat) (c : Nat → CV)
 | os (k : Nat)
 | p (k off : Nat)
 | pe (k i sz off : Nat)
 | ob (k off sz n : Nat)
 | er (b : Bool)
 | any
inductive TV where
 | c (x : CV)
 | a (l : List CV)
 | fn (f : FuncId) (l : List CV)
 | fb (f : FuncId) (l : List CV)
inductive DV where
 | t (x : TV)
 | tu (l : List TV)
inductive Row where
 | box (ty : TypeId) (c : List CV)
 | gen (ty : TypeId) (sz : Nat) (l : List (List CV))
 | num (ty : TypeId) (k : IntKind) (l : List Int)
 | dead
structure DS where
 t : List (Option DV)
 h : List (Option Row)
inductive Loc where
 | box (b : Nat)
 | row (v : Value)
def Loc.block : Loc → Option Nat
 | .box b => some b
 | .row v => v.ownBlock
def RelF (w : World) (N : Nat → Prop) : CV → Value → Prop
 | .v x, v => v = x ∧ v.oneCell' = true
 | .sl sz n c, v => ∃ ao cap, v = .slice ao n cap ∧ n ≤ cap ∧ cap ≤ maxLen ∧ (ao = none → cap = 0) ∧
   (0 < n → ∃ b off, ao = some ⟨b, off, none⟩ ∧ b < w.heap.size ∧ N b ∧ ∀ i j, i < n → j < sz → ∃ x, w.cell? ⟨b, off + i * sz + j, none⟩ = some x ∧ RelF w N (c i j) x)
 | .px n off c, v => ∃ b o, v = .pointer (some ⟨b, o + off, none⟩) ∧ b < w.heap.size ∧ N b ∧ ∀ j, j < n → ∃ x, w.cell? ⟨b, o + j, none⟩ = some x ∧ RelF w N (c j) x
 | .er b, v => (b = true ∧ v = .nilIface) ∨ (b = false ∧ ∃ t p, v = .iface t p)
 | .any, v => v.oneCell' = true
 | _, _ => False
theorem RelF.mono {w w' : World} {N N' : Nat → Prop} (hs : w.heap.size ≤ w'.heap.size) (hc : ∀ b, N b → b < w.heap.size → ∀ off, w'.cell? ⟨b, off, none⟩ = w.cell? ⟨b, off, none⟩) (hN : ∀ b, N b → b < w.heap.size → N' b) :
  ∀ (x : CV) {v : Value}, RelF w N x v → RelF w' N' x v
 | .v x, v, h => h
 | .sl sz n c, v, h => by
  obtain ⟨ao, cap, h1, h2, h3, h4, h5⟩ := h
  refine ⟨ao, cap, h1, h2, h3, h4, fun h0 => ?_⟩
  obtain ⟨b, off, g1, g2, g3, g4⟩ := h5 h0
  refine ⟨b, off, g1, Nat.lt_of_lt_of_le g2 hs, hN b g3 g2, fun i j hi hj => ?_⟩
  obtain ⟨x, e1, e2⟩ := g4 i j hi hj
  exact ⟨x, (hc b g3 g2 _).trans e1, RelF.mono hs hc hN (c i j) e2⟩
 | .px n off c, v, h => by
  obtain ⟨b, o, g1, g2, g3, g4⟩ := h
  refine ⟨b, o, g1, Nat.lt_of_lt_of_le g2 hs, hN b g3 g2, fun j hj => ?_⟩
  obtain ⟨x, e1, e2⟩ := g4 j hj
  exact ⟨x, (hc b g3 g2 _).trans e1, RelF.mono hs hc hN (c j) e2⟩
 | .er _, _, h => h
 | .any, _, h => h
 | .os _, _, h => h.elim
 | .p _ _, _, h => h.elim
 | .pe _ _ _ _, _, h => h.elim
 | .ob _ _ _ _, _, h => h.elim
theorem RelF.one {w : World} {N : Nat → Prop} : ∀ {x : CV} {v : Value}, RelF w N x v → v.oneCell' = true
 | .v x, v, h => h.2
 | .sl sz n c, v, h => by obtain ⟨ao, cap, rfl, _⟩ := h; rfl
 | .px n off c, v, h => by obtain ⟨b, o, rfl, _⟩ := h; rfl
 | .er _, v, h => by rcases h with ⟨_, rfl⟩ | ⟨_, _, _, rfl⟩ <;> rfl
 | .any, _, h => h
 | .os _, _, h => h.elim
 | .p _ _, _, h => h.elim
 | .pe _ _ _ _, _, h => h.elim
 | .ob _ _ _ _, _, h => h.elim
@[reducible] def Map := Nat → Option Loc
def RelC (w : World) (N : Nat → Prop) (M : Map) : CV → Value → Prop
 | .os k, v => M k = some (.row v) ∧ (v = .slice none 0 0 ∨ ∃ b n cap, v = .slice (some ⟨b, 0, none⟩) n cap)
 | .p k off, v => ∃ b, M k = some (.box b) ∧ v = .pointer (some ⟨b, off, none⟩)
 | .pe k i sz off, v => ∃ b n cap, M k = some (.row (.slice (some ⟨b, 0, none⟩) n cap)) ∧ v = .pointer (some ⟨b, i * sz + off, none⟩)
 | .ob k off sz n, v => (∃ b cap, M k = some (.box b) ∧ v = .slice (some ⟨b, off, none⟩) n cap ∧ n ≤ cap ∧ cap ≤ maxLen) ∨
   ∃ b c o cap, M k = some (.row (.slice (some ⟨b, 0, none⟩) (off + n) c)) ∧ (0 < n → o = off) ∧ v = .slice (some ⟨b, o, none⟩) n cap ∧ n ≤ cap ∧ cap ≤ maxLen
 | .v x, v => RelF w N (.v x) v
 | .sl sz n c, v => RelF w N (.sl sz n c) v
 | .px n off c, v => RelF w N (.px n off c) v
 | .er b, v => RelF w N (.er b) v
 | .any, v => RelF w N .any v
theorem RelC.one {w : World} {N : Nat → Prop} {M : Map} : ∀ {x : CV} {v : Value}, RelC w N M x v → v.oneCell' = true
 | .v x, v, h => RelF.one h
 | .sl sz n c, v, h => RelF.one h
 | .px n off c, v, h => RelF.one h
 | .er _, v, h => RelF.one h
 | .any, v, h => RelF.one h
 | .os _, _, h => by obtain ⟨_, rfl | ⟨_, _, _, rfl⟩⟩ := h <;> rfl
 | .p _ _, _, h => by obtain ⟨_, _, rfl⟩ := h; rfl
 | .pe _ _ _ _, _, h => by obtain ⟨_, _, _, _, rfl⟩ := h; rfl
 | .ob _ _ _ _, _, h => by rcases h with ⟨_, _, _, rfl, _⟩ | ⟨_, _, _, _, _, _, rfl, _⟩ <;> rfl
theorem RelC.ofF {w : World} {N : Nat → Prop} {M : Map} : ∀ {x : CV} {v : Value}, RelF w N x v → RelC w N M x v
 | .v x, v, h => h
 | .sl sz n c, v, h => h
 | .px n off c, v, h => h
 | .er _, v, h => h
 | .any, v, h => h
 | .os _, _, h => h.elim
 | .p _ _, _, h => h.elim
 | .pe _ _ _ _, _, h => h.elim
 | .ob _ _ _ _, _, h => h.elim
def RelT (R : CV → Value → Prop) : TV → Value → Prop
 | .c x, v => R x v
 | .a l, v => ∃ vs : List Value, v = .agg vs.toArray ∧ All2 R l vs
 | .fn f l, v => ∃ vs : List Value, v = .func (.func f) #[] vs.toArray ∧ All2 R l vs
 | .fb f l, v => ∃ vs : List Value, v = .func (.func f) #[.agg vs.toArray] #[] ∧ All2 R l vs
def RelD (R : CV → Value → Prop) : DV → Value → Prop
 | .t x, v => RelT R x v
 | .tu l, v => ∃ vs : List Value, v = .tuple vs.toArray ∧ All2 (RelT R) l vs
theorem RelT.mono {R R' : CV → Value → Prop} (h : ∀ x v, R x v → R' x v) : ∀ {x : TV} {v : Value}, RelT R x v → RelT R' x v
 | .c _, _, g => h _ _ g
 | .a _, _, ⟨vs, e, g⟩ => ⟨vs, e, g.mono h⟩
 | .fn _ _, _, ⟨vs, e, g⟩ => ⟨vs, e, g.mono h⟩
 | .fb _ _, _, ⟨vs, e, g⟩ => ⟨vs, e, g.mono h⟩
theorem RelD.mono {R R' : CV → Value → Prop} (h : ∀ x v, R x v → R' x v) : ∀ {x : DV} {v : Value}, RelD R x v → RelD R' x v
 | .t _, _, g => RelT.mono h g
 | .tu _, _, ⟨vs, e, g⟩ => ⟨vs, e, g.mono fun _ _ => RelT.mono h⟩
def RelR (w : World) (base : Nat) (N : Nat → Prop) (M : Map) (k : Nat) : Row → Prop
 | .box ty c => ∃ b cs, M k = some (.box b) ∧ w.heap[b]? = some (.cells cs ty (0, 0)) ∧ All2 (RelC w N M) c cs.toList
 | .gen ty sz l => ∃ v xs, M k = some (.row v) ∧ w.ownsRow base ty sz v l.length xs ∧ (∀ e ∈ l, e.length = sz) ∧ All2 (RelF w N) l.flatten xs
 | .num ty kd l => ∃ v, M k = some (.row v) ∧ w.ownsRow base ty 1 v l.length (l.map (Value.int kd))
 | .dead => True
def Row.alive : Row → Bool
 | .dead => false
 | _ => true
def DS.at (st : DS) (k : Nat) : Option Row := (st.h[k]?).join
def DS.tm (st : DS) (i : Nat) : Option DV := (st.t[i]?).join
def fgn (w0 : World) (N0 : Nat → Prop) (M : Map) (b : Nat) : Prop := (b < w0.heap.size → N0 b) ∧ ∀ k l, M k = some l → l.block ≠ some b
def nown (M : Map) (b : Nat) : Prop := ∀ k l, M k = some l → l.block ≠ some b
structure Pins where
 blk : Nat → Obj → Prop
 non : Nat → Prop
 key : Nat → Option Loc
 lim : Nat
def Marks (w0 : World) (M : Map) (w : World) (l : List Deferred) : Prop := (∀ d ∈ l, ∃ D, d = { target := .collected D, args := #[] } ∧ w0.heap.size ≤ D ∧ w.heap[D]? = some (.deferred (some [])) ∧ nown M D) ∧ l.Pairwise (· ≠ ·) ∧ Gd w0
theorem Marks.nil {w0 : World} {M : Map} {w : World} (hG : Gd w0) : Marks w0 M w [] := ⟨fun d h => by simp at h, List.Pairwise.nil, hG⟩
theorem Marks.mono {w0 : World} {M M' : Map} {w w' : World} {l : List Deferred} (h : Marks w0 M w l) (hb : ∀ b, nown M b → b < w.heap.size → w'.heap[b]? = w.heap[b]? ∧ nown M' b) : Marks w0 M' w' l :=
 ⟨fun d hd => by
  obtain ⟨D, h1, h2, h3, h4⟩ := h.1 d hd
  obtain ⟨g1, g2⟩ := hb D h4 (Array.getElem?_eq_some_iff.1 h3).1
  exact ⟨D, h1, h2, g1.trans h3, g2⟩, h.2⟩
def q0w : Pins := ⟨fun _ _ => False, fun _ => False, fun _ => none, 0⟩
structure Abs (w0 : World) (N0 : Nat → Prop) (Z : Pins) (M : Map) (st : DS) (a : Act) (w : World) : Prop where
 below : Below w0.heap.size w0 w
 fits : a.tmps.size = st.t.length
 defs : Marks w0 M w a.defers
 tmp : ∀ i dv, st.tm i = some dv → ∃ v, a.tmps[i]? = some v ∧ RelD (RelC w (fgn w0 N0 M) M) dv v
 row : ∀ k r, st.at k = some r → RelR w w0.heap.size (fgn w0 N0 M) M k r
 dom : ∀ k, st.at k = none → M k = none
 own : ∀ k l b, M k = some l → l.block = some b → w0.heap.size ≤ b ∧ b < w.heap.size
 apart : ∀ k k' r r' l l' b, st.at k = some r → r.alive = true → st.at k' = some r' → r'.alive = true → M k = some l → M k' = some l' → l.block = some b → l'.block = some b → k = k'
 pinB : ∀ b o, Z.blk b o → w.heap[b]? = some o ∧ nown M b
 pinN : ∀ b, Z.non b → b < w.heap.size ∧ nown M b
 pinK : ∀ k l, Z.key k = some l → M k = some l
 lim : ∀ d ∈ a.defers, ∀ D, d = { target := .collected D, args := #[] } → Z.lim ≤ D
theorem Abs.gd {w0 : World} {N0 : Nat → Prop} {Z : Pins} {M : Map} {st : DS} {a : Act} {w : World} (ha : Abs w0 N0 Z M st a w) : Gd w := ha.defs.2.2.below ha.below
end Go.Proofs.YtfadkjcfjkmalaaGreatDoor.Ev
namespace Go.Proofs.YtfadkjcfjkmalaaGreatDoor.Ev
open Go.RowKit
inductive Sh where
 | st (fs : List (Nat × TypeId))
 | ar (n : Nat) (e : TypeId)
 | sl (e : TypeId)
 | nm (k : IntKind)
 | str
 | bl
 | oth
def Sh.agg : Sh → Bool
 | .st _ | .ar _ _ => true
 | _ => false
structure TyI where
 sh : Sh
 size : Nat
 bytes : Nat
 zero : List Value
 eqok : Bool
@[reducible] def Tab := TypeId → Option TyI
def shOf : TypeDesc → Sh
 | .struct fs => .st (fs.toList.map fun f => (f.offset, f.type))
 | .array n e => .ar n e
 | .slice e => .sl e
 | .int k => .nm k
 | .string => .str
 | .bool => .bl
 | _ => .oth
structure TyOK (P : Program) (t : TypeId) (i : TyI) : Prop where
 und : (P.underlying t).map shOf = some i.sh
 info : (P.info? t).map (fun x => (x.size, x.bytes)) = some (i.size, i.bytes)
 zero : ((P.info? t).bind (·.zero)).map (·.cells.toList) = some i.zero
 eq : i.eqok = true → P.stoodInHeld t = false ∧ P.eqGuardType P.depth t = false ∧ (P.fieldsOf t).toList.all (fun f => f.name != "_") = true
def TabOK (P : Program) (T : Tab) : Prop := ∀ t i, T t = some i → TyOK P t i
def q3w (P : Program) {α : Type} : Sem α → Option α
 | .pure a => some a
 | .program k => q3w P (k P)
 | .mark _ k => q3w P k
 | _ => none
theorem q4J {P : Program} {α : Type} : ∀ (s : Sem α) {a : α}, q3w P s = some a → ∀ w, s.run P w = .ok a w
 | .pure a, b, h, w => by simp only [q3w, Option.some.injEq] at h; subst h; rfl
 | .program k, b, h, w => by simp only [q3w] at h; exact q4J (k P) h w
 | .mark _ k, b, h, w => by simp only [q3w] at h; exact q4J k h w
 | .load .., _, h, _ | .store .., _, h, _ | .new .., _, h, _ | .shape .., _, h, _ | .freeze .., _, h, _ | .frozen .., _, h, _ | .getObj .., _, h, _ | .setObj .., _, h, _
 | .choose .., _, h, _ | .sys .., _, h, _ | .halt .., _, h, _ => by simp [q3w] at h
def allV : List CV → Option (List Value)
 | [] => some []
 | .v x :: l => (allV l).map (x :: ·)
 | _ :: _ => none
def q3x : DV → Option Value
 | .t (.c (.v x)) => some x
 | .t (.a l) => (allV l).map fun vs => .agg vs.toArray
 | _ => none
def q0k (bytes n : Nat) : Prop := n * bytes ≤ 140737488355328 ∧ n ≤ maxLen
def q1P : List Value → Bool
 | [] => true
 | x :: l => x.oneCell' && q1P l
def ofValue : Value → Option DV
 | .agg cs => bif q1P cs.toList then some (.t (.a (cs.toList.map CV.v))) else none
 | .tuple _ => none
 | x => some (.t (.c (.v x)))
def opv (st : DS) : Operand → Option DV
 | .tmp i => st.tm i
 | .const (.func (.func f) first caps) => none
 | .const x => ofValue x
 | .func f => some (.t (.fn f []))
 | .global _ => none
def opvs (st : DS) : List Operand → Option (List DV)
 | [] => some []
 | x :: l => match opv st x, opvs st l with
  | some d, some ds => some (d :: ds)
  | _, _ => none
def DS.rd (st : DS) (forb : Nat → Bool) (k : Nat) : Option Row := bif forb k then none else st.at k
def cellsOf : DV → Option (List CV)
 | .t (.c x) => some [x]
 | .t (.a l) => some l
 | _ => none
def numsC (kd : IntKind) (l : List Int) : Nat → Nat → CV := fun i _ => .v (.int kd (l.getD i 0))
def genC (l : List (List CV)) : Nat → Nat → CV := fun i j => (l.getD i []).getD j (.v (.bool false))
def boxC (l : List CV) : Nat → CV := fun j => l.getD j (.v (.bool false))
def qb : CV → Int
 | .v (.int _ n) => n
 | _ => 0
def isF : CV → Bool
 | .v _ | .sl _ _ _ | .px _ _ _ | .er _ | .any => true
 | _ => false
def allF : List CV → Bool
 | [] => true
 | x :: l => isF x && allF l
def toF (st : DS) (forb : Nat → Bool) : CV → Option CV
 | .os k => match st.rd forb k with
  | some (.gen _ sz l) => some (.sl sz l.length (genC l))
  | some (.num _ kd l) => some (.sl 1 l.length (numsC kd l))
  | _ => none
 | .p k off => match st.rd forb k with
  | some (.box _ c) => bif allF c then some (.px c.length off (boxC c)) else none
  | _ => none
 | .pe _ _ _ _ => none
 | .ob k off sz n => match st.rd forb k with
  | some (.box _ c) => bif allF c && Nat.ble (off + n * sz) c.length then some (.sl sz n (fun i j => boxC c (off + i * sz + j))) else none
  | some (.num _ kd l) => bif Nat.beq 1 sz then some (.sl 1 n (fun i j => numsC kd l (off + i) j)) else none
  | _ => none
 | x => some x
def toFs (st : DS) (forb : Nat → Bool) : List CV → Option (List CV)
 | [] => some []
 | x :: l => match toF st forb x, toFs st forb l with
  | some d, some ds => some (d :: ds)
  | _, _ => none
def toFT (st : DS) (forb : Nat → Bool) : TV → Option TV
 | .c x => (toF st forb x).map .c
 | .a l => (toFs st forb l).map .a
 | .fn f l => (toFs st forb l).map (.fn f)
 | .fb f l => (toFs st forb l).map (.fb f)
def q9D (st : DS) (forb : Nat → Bool) : List TV → Option (List TV)
 | [] => some []
 | x :: l => match toFT st forb x, q9D st forb l with
  | some d, some ds => some (d :: ds)
  | _, _ => none
def toFD (st : DS) (forb : Nat → Bool) : DV → Option DV
 | .t x => (toFT st forb x).map .t
 | .tu l => (q9D st forb l).map .tu
def q4T (st : DS) (forb : Nat → Bool) : List DV → Option (List DV)
 | [] => some []
 | x :: l => match toFD st forb x, q4T st forb l with
  | some d, some ds => some (d :: ds)
  | _, _ => none
def ownT : TV → Bool
 | .c x => !isF x
 | .a l => !allF l
 | .fn _ l => !allF l
 | .fb _ l => !allF l
def ownTs : List TV → Bool
 | [] => false
 | x :: l => ownT x || ownTs l
def ownD : DV → Bool
 | .t x => ownT x
 | .tu l => ownTs l
def q4r : List DV → Bool
 | [] => false
 | x :: l => ownD x || q4r l
def q4s : CV → Bool
 | .v _ => true
 | _ => false
def q0b : List CV → Bool
 | [] => true
 | x :: l => q4s x && q0b l
def q9E : TV → Bool
 | .c x => q4s x
 | .a l => q0b l
 | .fn _ l => q0b l
 | .fb _ l => q0b l
def q1x : List TV → Bool
 | [] => true
 | x :: l => q9E x && q1x l
def q1D : DV → Bool
 | .t x => q9E x
 | .tu l => q1x l
def anyT : TV → Bool
 | .c .any => true
 | x => q9E x
def qdR : List TV → Bool
 | [] => true
 | x :: l => anyT x && qdR l
def qdS : DV → Bool
 | .t x => anyT x
 | .tu l => qdR l
def okP : Option Prop → Prop
 | none => True
 | some p => p
inductive Fre where
 | no
 | new
 | own (r : Row)
 | wr (j ty : Nat) (cs : List CV)
 | clo (ty : Nat) (c : List CV)
 | wrs (tya ty : Nat) (cs : List CV)
instance : Coe Bool Fre := ⟨fun b => bif b then .new else .no⟩
def resN (W : World) (N : Nat → Prop) (fresh : Fre) (b : Nat) : Prop := (fresh = .no ∧ N b) ∨ W.heap.size ≤ b
def box1 (b : Nat) : Map := fun k => if k = 0 then some (.box b) else none
def own1 (v : Value) : Map := fun k => if k = 0 then some (.row v) else none
def nb (W : World) (u : Value) (b : Nat) : Prop := W.heap.size ≤ b ∧ u.ownBlock ≠ some b
def RetOk (W : World) (N : Nat → Prop) (w' : World) (r : DV) (v : Value) : Fre → Prop
 | .own R => ∃ u, RelD (RelC w' (nb W u) (own1 u)) r v ∧ RelR w' W.heap.size (fun _ => False) (own1 u) 0 R
 | .clo ty c => ∃ b cs, W.heap.size ≤ b ∧ w'.heap[b]? = some (.cells cs ty (0, 0)) ∧ All2 (RelF w' (fun _ => False)) c cs.toList ∧ RelD (RelC w' (fun b' => W.heap.size ≤ b' ∧ b' ≠ b) (box1 b)) r v
 | .no => RelD (RelF w' (resN W N .no)) r v
 | .new => RelD (RelF w' (resN W N .new)) r v
 | .wr _ _ cs => q1D r = true ∧ q0b cs = true ∧ RelD (RelF w' (fun _ => False)) r v
 | .wrs _ _ cs => q1D r = true ∧ q0b cs = true ∧ RelD (RelF w' (fun _ => False)) r v
def cutW (W : World) (B : Nat) : World := { W with heap := W.heap.extract 0 B }
theorem q3N {W : World} {B : Nat} (h : B < W.heap.size) : (cutW W B).heap.size = B := by
 simp [cutW]; omega
structure FrameB (W : World) (B : Nat) (w' : World) : Prop where
 os : w'.os = W.os
 tape : w'.tape = W.tape
 output : w'.output = W.output
 size : W.heap.size ≤ w'.heap.size
 block : ∀ b, b < W.heap.size → b ≠ B → w'.heap[b]? = W.heap[b]?
def CallOk (W : World) (N : Nat → Prop) (args : List DV) (vs : List Value) : Fre → Prop
 | .wr j ty cs => All2 (RelD (RelF W (fun _ => True))) args vs ∧ ∃ B cells, vs[j]? = some (.pointer (some ⟨B, 0, none⟩)) ∧ W.heap[B]? = some (.cells cells ty (0, 0)) ∧ (∃ c, args[j]? = some (.t (.c (.px cells.size 0 c)))) ∧ (∀ i a v, i ≠ j → args[i]? = some a → vs[i]? = some v → RelD (RelF W (fun b => N b ∧ b ≠ B)) a v) ∧ Gd (cutW W B)
 | .wrs tya ty cs => ∃ x n c v0 A cap pc B cells, args = [x, .t (.c (.px n 0 c))] ∧ vs = [v0, .slice (some ⟨A, 0, none⟩) n cap] ∧ n ≤ cap ∧ cap ≤ maxLen ∧ 0 < n ∧ A ≠ B ∧
   W.heap[A]? = some (.cells pc tya (0, 0)) ∧ pc.toList = (List.range n).map (fun i => Value.pointer (some ⟨B, i, none⟩)) ∧ W.heap[B]? = some (.cells cells ty (0, 0)) ∧ All2 (RelF W (fun _ => True)) ((List.range n).map c) cells.toList ∧ RelD (RelF W (fun b => N b ∧ b ≠ A ∧ b ≠ B)) x v0 ∧ Gd (cutW W (min A B))
 | _ => All2 (RelD (RelF W N)) args vs
def FrameOk (W : World) (vs : List Value) (w' : World) : Fre → Prop
 | .wr j ty cs => ∃ B cells', vs[j]? = some (.pointer (some ⟨B, 0, none⟩)) ∧ w'.heap[B]? = some (.cells cells' ty (0, 0)) ∧ All2 (RelF w' (fun _ => False)) cs cells'.toList ∧ FrameB W B w'
 | .wrs tya ty cs => ∃ A n cap pc B cells', vs[1]? = some (.slice (some ⟨A, 0, none⟩) n cap) ∧ W.heap[A]? = some (.cells pc tya (0, 0)) ∧ pc[0]? = some (.pointer (some ⟨B, 0, none⟩)) ∧ w'.heap[B]? = some (.cells cells' ty (0, 0)) ∧ All2 (RelF w' (fun _ => False)) cs cells'.toList ∧ FrameB W B w'
 | _ => Below W.heap.size W w'
@[reducible] def Sum := FuncId → List DV → Option (DV × Option Prop × Fre)
def Enters (P : Program) (f : FuncId) : Prop := ∀ args w, (callFunc f args).run P w = .ok (.enter f args) w
def Valid (P : Program) (S : Sum) : Prop := ∀ f args r pre fresh, S f args = some (r, pre, fresh) → okP pre → Enters P f ∧ ∀ (W : World) (N : Nat → Prop) (vs : List Value), Gd W → CallOk W N args vs fresh →
  Calls P f vs.toArray W fun e w' => ∃ v, e = .returned v ∧ RetOk W N w' r v fresh ∧ FrameOk W vs w' fresh
structure Eff where
 v : DV
 up : List (Nat × Row)
 pr : Option Prop
def Eff.pre (e : Eff) : Prop := okP e.pr
def val (v : DV) : Eff := ⟨v, [], none⟩
def dInt (k : IntKind) (n : Int) : DV := .t (.c (.v (.int k n)))
def dI (n : Int) : DV := .t (.c (.v (.int .i64 n)))
def dB (b : Bool) : DV := .t (.c (.v (.bool b)))
def noV : DV := .tu []
def pickE (b : Bool) : Option DV → Option DV → Option Eff
 | some (.t (.c (.v (.bool x)))), some (.t (.c (.v (.bool y)))) => some (val (dB (bif b then x else y)))
 | some d, some (.tu []) => some ⟨d, [], some (b = true)⟩
 | some (.tu []), some d => some ⟨d, [], some (b = false)⟩
 | _, _ => none
def sub (l : List CV) (off n : Nat) : List CV := (l.drop off).take n
def put (l : List CV) (off : Nat) (xs : List CV) : List CV := l.take off ++ xs ++ l.drop (off + xs.length)
def q6k (i : TyI) (c : List CV) (off : Nat) : Option Eff :=
 bif i.sh.agg then (bif Nat.ble (off + i.size) c.length then some (val (.t (.a (sub c off i.size)))) else none)
 else (c[off]?).map fun x => val (.t (.c x))
def fwd (c : Nat → CV) (off : Nat) : Nat → List CV
 | 0 => []
 | n + 1 => c off :: fwd c (off + 1) n
def loadF (i : TyI) (n : Nat) (c : Nat → CV) (off : Nat) : Option Eff :=
 bif i.sh.agg then (bif Nat.ble (off + i.size) n then some (val (.t (.a (fwd c off i.size)))) else none)
 else bif Nat.blt off n then some (val (.t (.c (c off)))) else none
def qhT : Value → CV → Option (CV × Prop)
 | .int k _, x => some (.v (.int k (qb x)), x = .v (.int k (qb x)))
 | _, _ => none
def q8S : List Value → (Nat → CV) → Nat → Option (List CV × Prop)
 | [], _, _ => some ([], True)
 | z :: zs, c, off => match qhT z (c off), q8S zs c (off + 1) with
  | some (x, p), some (xs, q) => some (x :: xs, p ∧ q)
  | _, _ => none
def loadG (i : TyI) (sz : Nat) (l : List (List CV)) (j off : Nat) : Option Eff :=
 match q8S i.zero (genC l j) off with
 | some (xs, p) => bif Nat.ble (off + i.size) sz && Nat.beq i.zero.length i.size then (match i.sh.agg, xs with
  | true, xs => some ⟨.t (.a xs), [], some (j < l.length ∧ p)⟩
  | false, [x] => some ⟨.t (.c x), [], some (j < l.length ∧ p)⟩
  | false, _ => none) else none
 | none => (l[j]?).bind fun e => q6k i e off
def qc0 (T : Tab) (forb : Nat → Bool) (st : DS) (t : TypeId) (x : DV) : Option Eff :=
 match T t, x with
 | some i, .t (.c (.p k off)) => match st.rd forb k with
  | some (.box _ c) => q6k i c off
  | _ => none
 | some i, .t (.c (.px n off c)) => loadF i n c off
 | some i, .t (.c (.pe k j sz off)) => match st.rd forb k with
  | some (.gen _ sz' l) => bif Nat.beq sz sz' then loadG i sz l j off else none
  | some (.num _ kd l) => bif Nat.beq sz 1 && Nat.beq off 0 && !i.sh.agg then some ⟨dInt kd (l.getD j 0), [], some (j < l.length)⟩ else none
  | _ => none
 | _, _ => none
def qh1 (T : Tab) (forb : Nat → Bool) (st : DS) (t : TypeId) (x y : DV) : Option Eff :=
 match T t, cellsOf y with
 | some i, some xs => (match x with
  | .t (.c (.p k off)) => (match st.rd forb k with
   | some (.box ty c) => bif Nat.beq xs.length i.size && Nat.ble (off + xs.length) c.length then some ⟨noV, [(k, .box ty (put c off xs))], none⟩ else none
   | _ => none)
  | .t (.c (.pe k j sz off)) => (match st.rd forb k with
   | some (.num ty kd' l) => (match xs with
    | [.v (.int kd n)] => bif Nat.beq sz 1 && Nat.beq off 0 && Nat.beq i.size 1 then some ⟨noV, [(k, .num ty kd' (l.set j n))], some (j < l.length ∧ kd = kd')⟩ else none
    | _ => none)
   | some (.gen ty sz' l) => bif Nat.beq sz sz' && (Nat.beq xs.length i.size && (Nat.ble (off + xs.length) sz && allF xs)) then some ⟨noV, [(k, .gen ty sz' (l.set j (put (l.getD j []) off xs)))], some (j < l.length)⟩ else none
   | _ => none)
  | _ => none)
 | _, _ => none
def q7Y (T : Tab) (t : TypeId) : Nat := match T t with
 | some i => i.size
 | none => 0
def qb1 (T : Tab) (s : TypeId) (f : Nat) : Option (Nat × TypeId) := match T s with
 | some ⟨.st fs, _, _, _, _⟩ => fs[f]?
 | _ => none
def qc1 (T : Tab) (s : TypeId) (f : Nat) (x : DV) : Option Eff :=
 match qb1 T s f with
 | none => none
 | some (o, ft) => bif Nat.beq (q7Y T ft) 0 then none else
  match x with
  | .t (.c (.p k off)) => some (val (.t (.c (.p k (off + o)))))
  | .t (.c (.px n off c)) => some (val (.t (.c (.px n (off + o) c))))
  | .t (.c (.pe k j sz off)) => some (val (.t (.c (.pe k j sz (off + o)))))
  | _ => none
def q7Z (T : Tab) (forb : Nat → Bool) (st : DS) (t : TypeId) (x ix : DV) : Option Eff :=
 match T t, ix with
 | some ⟨.ar n e, _, _, _, _⟩, .t (.c (.v (.int kd i))) => match T e with
  | none => none
  | some ei => match x with
   | .t (.c (.p k off)) => some ⟨.t (.c (.p k (off + i.toNat * ei.size))), [], some (0 ≤ i ∧ i < n)⟩
   | .t (.c (.px m off c)) => some ⟨.t (.c (.px m (off + i.toNat * ei.size) c)), [], some (0 ≤ i ∧ i < n)⟩
   | _ => none
 | some ⟨.sl e, _, _, _, _⟩, .t (.c (.v (.int kd i))) => match T e with
  | none => none
  | some ei => match x with
   | .t (.c (.sl sz n c)) => bif Nat.beq sz ei.size then some ⟨.t (.c (.px sz 0 (fun j => c i.toNat j))), [], some (0 ≤ i ∧ i < n)⟩ else none
   | .t (.c (.os k)) => match st.rd forb k with
    | some (.gen _ sz l) => bif Nat.beq sz ei.size then some ⟨.t (.c (.pe k i.toNat sz 0)), [], some (0 ≤ i ∧ i < l.length)⟩ else none
    | some (.num _ _ l) => bif Nat.beq 1 ei.size then some ⟨.t (.c (.pe k i.toNat 1 0)), [], some (0 ≤ i ∧ i < l.length)⟩ else none
    | _ => none
   | .t (.c (.ob k off sz n)) => match st.rd forb k with
    | some (.box _ _) => bif Nat.beq sz ei.size then some ⟨.t (.c (.p k (off + i.toNat * ei.size))), [], some (0 ≤ i ∧ i < n)⟩ else none
    | _ => none
   | _ => none
 | _, _ => none
def qhU (T : Tab) (t : TypeId) (x : DV) : Option Eff := match T t, x with
 | some ⟨.ar n e, _, _, _, _⟩, .t (.c (.sl sz m c)) => bif Nat.beq sz 1 && Nat.blt 0 n then some ⟨.t (.c (.px n 0 (fun j => c j 0))), [], some (n ≤ m)⟩ else none
 | _, _ => none
def partE (T : Tab) (t : TypeId) (l : List CV) (off : Nat) : Option Eff := (T t).bind fun i => q6k i l off
def fieldE (T : Tab) (s : TypeId) (f : Nat) (x : DV) : Option Eff :=
 match qb1 T s f, x with
 | some (o, ft), .t (.a l) => partE T ft l o
 | _, _ => none
def indexE (T : Tab) (t : TypeId) (x ix : DV) : Option Eff := match T t, x, ix with
 | some ⟨.ar n e, _, _, _, _⟩, .t (.a l), .t (.c (.v (.int _ i))) => (partE T e l (i.toNat * q7Y T e)).map fun f => ⟨f.v, [], some (0 ≤ i ∧ i < n)⟩
 | some ⟨.str, _, _, _, _⟩, .t (.c (.v (.string s))), .t (.c (.v (.int _ i))) => some ⟨dInt .u8 ((s.data.getD i.toNat 0).toNat : Nat), [], some (0 ≤ i ∧ i < s.size)⟩
 | _, _, _ => none
def zeros (z : List Value) : Option (Option IntKind) := match z with
 | [.int k n] => bif n == 0 then some (some k) else none
 | z => bif q1P z then some none else none
def makeE (T : Tab) (st : DS) (dst : Option Tmp) (t : TypeId) (x y : DV) : Option Eff := match dst with
 | none => none
 | some d => match T t, x, y with
  | some ⟨.sl e, _, _, _, _⟩, .t (.c (.v (.int .i64 n))), .t (.c (.v (.int .i64 m))) => (match T e, st.at d with
   | some ei, none => bif Nat.blt d st.h.length && Nat.blt 0 ei.size && Nat.beq ei.zero.length ei.size then (match zeros ei.zero with
    | some (some k) => some ⟨.t (.c (.os d)), [(d, .num e k (List.replicate n.toNat 0))], some (m = n ∧ 0 ≤ n ∧ q0k ei.bytes n.toNat)⟩
    | some none => some ⟨.t (.c (.os d)), [(d, .gen e ei.size (List.replicate n.toNat (ei.zero.map CV.v)))], some (m = n ∧ 0 ≤ n ∧ q0k ei.bytes n.toNat)⟩
    | none => none) else none
   | _, _ => none)
  | _, _, _ => none
def qfP (i : Nat) : DV → Option Eff
 | .tu l => (l[i]?).map fun x => val (.t x)
 | _ => none
def q4t (st : DS) : List (Nat × Operand) → Option (List (Nat × List CV))
 | [] => some []
 | (i, x) :: l => match (opv st x).bind cellsOf, q4t st l with
  | some c, some r => some ((i, c) :: r)
  | _, _ => none
def qdT (place : Nat → Option (Nat × Nat)) (cells : List CV) : List (Nat × List CV) → Option (List CV)
 | [] => some cells
 | (i, c) :: rest => match place i with
  | none => none
  | some (off, size) => bif Nat.beq c.length size && Nat.ble (off + c.length) cells.length then qdT place (put cells off c) rest else none
def q8T (T : Tab) : List (Nat × TypeId) → Option (List (Nat × Nat))
 | [] => some []
 | (o, t) :: l => match T t, q8T T l with
  | some i, some r => some ((o, i.size) :: r)
  | _, _ => none
def qh2 (T : Tab) (st : DS) (t : TypeId) (parts : List (Nat × Operand)) : Option Eff :=
 match T t, q4t st parts with
 | some i, some ps => bif q1P i.zero then (match i.sh with
  | .st fs => (q8T T fs).bind fun pl => (qdT (fun j => pl[j]?) (i.zero.map .v) ps).map fun l => val (.t (.a l))
  | .ar _ e => (T e).bind fun ei => (qdT (fun j => some (j * ei.size, ei.size)) (i.zero.map .v) ps).map fun l => val (.t (.a l))
  | _ => none) else none
 | _, _ => none
def q6l (T : Tab) (st : DS) (dst : Option Tmp) (e : TypeId) (c : List CV) : Option Eff :=
 match dst with
 | some d => match st.at d with
  | none => bif Nat.blt d st.h.length then some ⟨.t (.c (.p d 0)), [(d, .box e c)], none⟩ else none
  | some _ => none
 | none => none
def qb2 (sz : Nat) : Nat → List (Nat × List CV) → Option (List (List CV))
 | _, [] => some []
 | k, (i, c) :: l => bif Nat.beq i k && Nat.beq c.length sz && allF c then (qb2 sz (k + 1) l).map (c :: ·) else none
def q7e : Nat → List CV → Option Nat
 | i, [.p k off] => bif Nat.beq off i then some k else none
 | i, .p k off :: l => match q7e (i + 1) l with
  | some k' => bif Nat.beq k k' && Nat.beq off i then some k else none
  | none => none
 | _, _ => none
def inPtr : Nat → List (Nat × List CV) → Option (List CV)
 | _, [] => some []
 | k, (i, c) :: l => match c with
  | [.p a off] => bif Nat.beq i k then (inPtr (k + 1) l).map (.p a off :: ·) else none
  | _ => none
def q7f (T : Tab) (st : DS) (dst : Option Tmp) (t : TypeId) (n : Nat) (parts : List (Nat × Operand)) : Option Eff :=
 match dst with
 | none => none
 | some d => match T t, q4t st parts with
 | some ⟨.sl e, _, _, _, _⟩, some ps => match T e, st.at d with
  | some ei, none => match qb2 ei.size 0 ps with
   | some l => bif Nat.beq l.length n && Nat.ble (n * ei.size) 1000 && Nat.blt 0 ei.size && Nat.beq ei.zero.length ei.size && Nat.blt d st.h.length then some ⟨.t (.c (.os d)), [(d, .gen e ei.size l)], none⟩ else none
   | none => (match inPtr 0 ps with
    | some c => (match q7e 0 c with
     | some _ => bif Nat.beq c.length n && Nat.ble n 1000 && Nat.blt 0 n && Nat.beq ei.size 1 && Nat.beq ei.zero.length ei.size && Nat.blt d st.h.length then some ⟨.t (.c (.ob d 0 1 n)), [(d, .box e c)], none⟩ else none
     | none => none)
    | none => none)
  | _, _ => none
 | _, _ => none
def qdz : DV → Option Eff
 | .t (.c (.p k off)) => some (val (.t (.c (.p k off))))
 | .t (.c (.px n off c)) => some (val (.t (.c (.px n off c))))
 | .t (.c (.pe k i sz off)) => some (val (.t (.c (.pe k i sz off))))
 | _ => none
def plain2 (P : Program) (f : Value → Value → Sem Value) (x y : Option DV) : Option Eff :=
 match x.bind q3x, y.bind q3x with
 | some a, some b => ((q3w P (f a b)).bind ofValue).map val
 | _, _ => none
def plain1 (P : Program) (f : Value → Sem Value) (x : Option DV) : Option Eff :=
 match x.bind q3x with
 | some a => ((q3w P (f a)).bind ofValue).map val
 | none => none
def q8U : List DV → Option (List Value)
 | [] => some []
 | d :: l => match q3x d, q8U l with
  | some v, some vs => some (v :: vs)
  | _, _ => none
def qh4 (P : Program) (f : Array Value → Sem Value) (xs : Option (List DV)) : Option Eff :=
 match xs.bind q8U with
 | some vs => ((q3w P (f vs.toArray)).bind ofValue).map val
 | none => none
def divE (op : BinOp) : Option DV → Option DV → Option Eff
 | some (.t (.c (.v (.int k a)))), some (.t (.c (.v (.int k' b)))) => match op with
  | .quo => some ⟨dInt k (k.wrap (a.tdiv b)), [], some (k = k' ∧ b ≠ 0)⟩
  | .rem => some ⟨dInt k (a.tmod b), [], some (k = k' ∧ b ≠ 0)⟩
  | _ => none
 | _, _ => none
def shiftE (op : BinOp) : Option DV → Option DV → Option Eff
 | some (.t (.c (.v (.int k a)))), some (.t (.c (.v (.int _ b)))) => match op with
  | .shl => some ⟨dInt k (k.wrap (a * 2 ^ (min b.toNat k.bits))), [], some (0 ≤ b)⟩
  | .shr => some ⟨dInt k (a.fdiv (2 ^ (min b.toNat k.bits))), [], some (0 ≤ b)⟩
  | _ => none
 | _, _ => none
def eqFs (rec : TypeId → List Value → List Value → Option Bool) (T : Tab) (xs ys : List Value) : List (Nat × TypeId) → Option Bool
 | [] => some true
 | (o, t) :: l => match T t with
  | some i => bif !(Nat.ble (o + i.size) xs.length && Nat.ble (o + i.size) ys.length && (i.sh.agg || Nat.beq i.size 1)) then none else match rec t ((xs.drop o).take i.size) ((ys.drop o).take i.size), eqFs rec T xs ys l with
   | some b, some c => some (bif b then c else false)
   | _, _ => none
  | none => none
def eqEs (rec : List Value → List Value → Option Bool) (sz : Nat) (xs ys : List Value) : Nat → Nat → Option Bool
 | 0, _ => some true
 | n + 1, k => match rec ((xs.drop (k * sz)).take sz) ((ys.drop (k * sz)).take sz), eqEs rec sz xs ys n (k + 1) with
  | some b, some c => some (bif b then c else false)
  | _, _ => none
def eqV (T : Tab) : Nat → TypeId → List Value → List Value → Option Bool
 | 0, _, _, _ => none
 | d + 1, t, xs, ys => match T t with
  | some i => match i.sh with
   | .nm _ => match xs, ys with
    | [.int k a], [.int k' b] => bif decide (k = k') then some (a == b) else none
    | _, _ => none
   | .bl => match xs, ys with
    | [.bool a], [.bool b] => some (a == b)
    | _, _ => none
   | .str => match xs, ys with
    | [.string a], [.string b] => some (a == b)
    | _, _ => none
   | .st fs => bif i.eqok && Nat.beq xs.length i.size && Nat.beq ys.length i.size then eqFs (eqV T d) T xs ys fs else none
   | .ar n e => match T e with
    | some ei => bif Nat.beq xs.length (n * ei.size) && Nat.beq ys.length (n * ei.size) && (ei.sh.agg || Nat.beq ei.size 1) then eqEs (eqV T d e) ei.size xs ys n 0 else none
    | none => none
   | _ => none
  | none => none
def eqE (T : Tab) (op : BinOp) (t : TypeId) : Option DV → Option DV → Option Eff
 | some (.t (.a l)), some (.t (.a m)) => match allV l, allV m, T t with
  | some xs, some ys, some i => bif i.eqok && i.sh.agg then (eqV T 10000 t xs ys).bind fun b => match op with
   | .eql => some (val (dB b))
   | .neq => some (val (dB (!b)))
   | _ => none else none
  | _, _, _ => none
 | _, _ => none
def isShift : BinOp → Bool
 | .shl | .shr => true
 | _ => false
def isDiv : BinOp → Bool
 | .quo | .rem => true
 | _ => false
def lenE (T : Tab) (forb : Nat → Bool) (st : DS) (t : TypeId) : DV → Option Eff
 | .t (.c (.sl _ n _)) => match T t with
  | some ⟨.sl _, _, _, _, _⟩ => some (val (dI n))
  | _ => none
 | .t (.c (.os k)) => match T t, st.rd forb k with
  | some ⟨.sl _, _, _, _, _⟩, some (.gen _ _ l) => some (val (dI l.length))
  | some ⟨.sl _, _, _, _, _⟩, some (.num _ _ l) => some (val (dI l.length))
  | _, _ => none
 | .t (.c (.v (.slice ao n cap))) => match T t with
  | some ⟨.sl _, _, _, _, _⟩ => some (val (dI n))
  | _ => none
 | .t (.c (.ob _ _ _ n)) => match T t with
  | some ⟨.sl _, _, _, _, _⟩ => some (val (dI n))
  | _ => none
 | .t (.c (.v (.string s))) => match T t with
  | some ⟨.str, _, _, _, _⟩ => some (val (dI s.size))
  | _ => none
 | _ => none
def qdA (kd : IntKind) : List (List CV) → Option (List Int × Prop)
 | [] => some ([], True)
 | [.v (.int k n)] :: l => (qdA kd l).map fun (xs, p) => (n :: xs, k = kd ∧ p)
 | _ :: _ => none
def q2N (forb : Nat → Bool) (st : DS) (sz : Nat) : DV → Option (List (List CV))
 | .t (.c (.os k)) => match st.rd forb k with
  | some (.gen _ sz' l) => bif Nat.beq sz sz' then some l else none
  | some (.num _ kd l) => bif Nat.beq sz 1 then some (l.map fun n => [.v (.int kd n)]) else none
  | _ => none
 | .t (.c (.sl sz' n c)) => bif Nat.beq sz sz' then some ((List.range n).map fun i => fwd (c i) 0 sz) else none
 | .t (.c (.v (.slice none 0 0))) => some []
 | _ => none
def qb3 (forb : Nat → Bool) (st : DS) (kd : IntKind) : DV → Option (List Int × Prop)
 | .t (.c (.os k)) => match st.rd forb k with
  | some (.gen _ sz' l) => bif Nat.beq 1 sz' then qdA kd l else none
  | some (.num _ kd' l) => some (l, kd' = kd)
  | _ => none
 | .t (.c (.sl sz' n c)) => bif Nat.beq 1 sz' then some ((List.range n).map fun i => qb (c i 0), ∀ i, i < n → c i 0 = .v (.int kd (qb (c i 0)))) else none
 | .t (.c (.v (.slice none 0 0))) => some ([], True)
 | _ => none
def q8i (T : Tab) (forb : Nat → Bool) (st : DS) (dst : Option Tmp) (t : TypeId) (s x : DV) : Option Eff :=
 match dst with
 | none => none
 | some d => match T t with
  | some ⟨.sl e, _, _, _, _⟩ => match T e, st.at d with
   | some ei, none => bif Nat.blt d st.h.length && Nat.blt 0 ei.size && Nat.beq ei.zero.length ei.size then (match s with
    | .t (.c (.os k)) => match st.rd forb k with
     | some (.num ty kd l) => bif Nat.beq ty e && Nat.beq ei.size 1 then (qb3 forb st kd x).map fun (xs, p) => ⟨.t (.c (.os d)), [(k, .dead), (d, .num e kd (l ++ xs))], some (p ∧ q0k ei.bytes (l.length + xs.length))⟩ else none
     | some (.gen ty sz l) => bif Nat.beq ty e && Nat.beq sz ei.size then (q2N forb st sz x).map fun xs => ⟨.t (.c (.os d)), [(k, .dead), (d, .gen e sz (l ++ xs))], some (q0k ei.bytes (l.length + xs.length))⟩ else none
     | _ => none
    | .t (.c (.v (.slice none 0 0))) => (q2N forb st ei.size x).map fun xs => ⟨.t (.c (.os d)), [(d, .gen e ei.size xs)], some (q0k ei.bytes xs.length)⟩
    | _ => none) else none
   | _, _ => none
  | _ => none
def q1m (st : DS) (dflt : Int) : Option Operand → Option Int
 | none => some dflt
 | some x => match opv st x with
  | some (.t (.c (.v (.int _ i)))) => some i
  | _ => none
def qh5 (T : Tab) (forb : Nat → Bool) (st : DS) (t : TypeId) (x : DV) (lo hi mx : Option Operand) : Option Eff :=
 match mx with
 | some _ => none
 | none => match T t, x with
  | some ⟨.sl e, _, _, _, _⟩, .t (.c (.sl sz n c)) => match T e, q1m st 0 lo, q1m st n hi with
   | some ei, some l, some h => bif Nat.beq sz ei.size then some ⟨.t (.c (.sl sz (h - l).toNat (fun i j => c (l.toNat + i) j))), [], some (0 ≤ l ∧ l ≤ h ∧ h ≤ n)⟩ else none
   | _, _, _ => none
  | some ⟨.sl e, _, _, _, _⟩, .t (.c (.os k)) => match hi with
   | some _ => none
   | none => match T e, q1m st 0 lo, st.rd forb k with
    | some ei, some l, some (.num _ kd r) => bif Nat.beq 1 ei.size then some ⟨.t (.c (.ob k l.toNat 1 (r.length - l.toNat))), [], some (0 < l ∧ l ≤ r.length)⟩ else none
    | _, _, _ => none
  | some ⟨.ar n e, _, _, _, _⟩, .t (.c (.p k off)) => match T e, lo, hi with
   | some ei, none, none => bif Nat.ble n 1000 then some (val (.t (.c (.ob k off ei.size n)))) else none
   | _, _, _ => none
  | some ⟨.str, _, _, _, _⟩, .t (.c (.v (.string s))) => match q1m st 0 lo, q1m st s.size hi with
   | some l, some h => some ⟨.t (.c (.v (.string (s.extract l.toNat h.toNat)))), [], some (0 ≤ l ∧ l ≤ h ∧ h ≤ s.size)⟩
   | _, _ => none
  | _, _ => none
def qdB (d : Nat) : List CV → Option (List CV)
 | [.os 0] => some [.os d]
 | x :: l => bif isF x then (qdB d l).map (x :: ·) else none
 | [] => none
def nameD (d : Nat) : DV → Option DV
 | .t (.a l) => (qdB d l).map fun l => .t (.a l)
 | .t (.c (.os 0)) => some (.t (.c (.os d)))
 | .tu (.c (.os 0) :: l) => bif q1x l then some (.tu (.c (.os d) :: l)) else none
 | _ => none
def qdC (d : Nat) : List CV → Option (List CV)
 | .p 0 off :: l => bif allF l then some (.p d off :: l) else none
 | x :: l => bif isF x then (qdC d l).map (x :: ·) else none
 | [] => none
def nameF (d : Nat) : DV → Option DV
 | .t (.fn f l) => (qdC d l).map fun l => .t (.fn f l)
 | _ => none
def isRow : Row → Bool
 | .gen _ _ _ | .num _ _ _ => true
 | _ => false
def callE (S : Sum) (forb : Nat → Bool) (st : DS) (dst : Option Tmp) (f : DV) (args : List DV) : Option Eff :=
 match f with
 | .t (.fn g caps) => match q4T st forb (args ++ caps.map fun x => .t (.c x)) with
  | some aas => match S g aas with
   | some (r, pre, .own R) => (match dst with
    | some d => (match st.at d, nameD d r with
     | none, some r' => bif Nat.blt d st.h.length && isRow R then some ⟨r', [(d, R)], pre⟩ else none
     | _, _ => none)
    | none => none)
   | some (r, pre, .clo ty c) => (match dst with
    | some d => (match st.at d, nameF d r with
     | none, some r' => bif Nat.blt d st.h.length && q0b c then some ⟨r', [(d, .box ty c)], pre⟩ else none
     | _, _ => none)
    | none => none)
   | some (r, pre, .wr j ty cs) => (match args[j]?, caps, aas[j]? with
    | some (.t (.c (.p k 0))), [], some (.t (.c (.px n 0 _))) => (match st.rd forb k with
     | some (.box ty' cs0) => bif Nat.beq ty ty' && (Nat.beq n cs0.length && (!q4r (args.eraseIdx j))) then some ⟨r, [(k, .box ty' cs)], pre⟩ else none
     | _ => none)
    | _, _, _ => none)
   | some (r, pre, .no) => bif (!q4r (args ++ caps.map fun x => .t (.c x))) || qdS r then some ⟨r, [], pre⟩ else none
   | some (r, pre, .new) => some ⟨r, [], pre⟩
   | _ => none
  | none => match args, caps with
   | [x, .t (.c (.ob ka off sz n))], [] => (match st.rd forb ka with
    | some (.box tya ptrs) => (match q7e 0 ptrs with
     | some k => (match st.rd forb k, toFD st forb x with
      | some (.box ty cs0), some x' => bif Nat.beq off 0 && (Nat.beq sz 1 && (Nat.blt 0 n && (Nat.beq ptrs.length n && (Nat.beq cs0.length n && (q0b cs0 && (!q4r [x])))))) then (match S g [x', .t (.c (.px n 0 (boxC cs0)))] with
       | some (r, pre, .wrs tya' ty' cs) => bif Nat.beq tya tya' && Nat.beq ty ty' then some ⟨r, [(k, .box ty cs)], pre⟩ else none
       | _ => none) else none
      | _, _ => none)
     | none => none)
    | _ => none)
   | _, _ => none
 | .t (.fb g l) => match q4T st forb (.t (.a l) :: args) with
  | some aas => match S g aas with
   | some (r, pre, .no) => bif (!q4r (.t (.a l) :: args)) || q1D r then some ⟨r, [], pre⟩ else none
   | some (r, pre, .new) => some ⟨r, [], pre⟩
   | _ => none
  | none => none
 | _ => none
def cvs : List DV → Option (List CV)
 | [] => some []
 | .t (.c x) :: l => (cvs l).map (x :: ·)
 | _ :: _ => none
def fbE (f : FuncId) : Option (List DV) → Option Eff
 | some [.t (.a l)] => some (val (.t (.fb f l)))
 | _ => none
def fnOf : DV → DV
 | .t (.c (.v (.func (.func f) ⟨[]⟩ ⟨[]⟩))) => .t (.fn f [])
 | d => d
def unFn : DV → DV
 | .t (.fn f []) => .t (.c (.v (.func (.func f) ⟨[]⟩ ⟨[]⟩)))
 | d => d
def isK : Operand → Bool
 | .const _ => true
 | _ => false
def strE (P : Program) (op : BinOp) (t : TypeId) (y : Operand) : Option DV → Option DV → Option Eff
 | some (.t (.c (.v (.string a)))), some (.t (.c (.v (.string b)))) => match op with
  | .add => some ⟨.t (.c (.v (.string (a ++ b)))), [], some (((a.size + b.size : Nat) : Int) ≤ 9223372036854775807)⟩
  | _ => none
 | some (.t (.c (.er b))), some (.t (.c (.v .nilIface))) => bif isK y then (match P.underlying t with
  | some (.interface _) => (match op with
   | .eql => some (val (dB b))
   | .neq => some (val (dB (!b)))
   | _ => none)
  | _ => none) else none
 | _, _ => none
def exec0 (P : Program) (T : Tab) (S : Sum) (forb : Nat → Bool) (st : DS) (o : Oper) : Option Eff :=
 match o.op with
 | .move x => (opv st x).map val
 | .assign x => (opv st x).map val
 | .pick c a b => match opv st c with
  | some (.t (.c (.v (.bool t)))) => pickE t (opv st a) (opv st b)
  | _ => none
 | .alloc e => match T e with
  | some i => bif q1P i.zero then q6l T st o.dst e (i.zero.map .v) else none
  | none => none
 | .box e x => ((opv st x).bind cellsOf).bind fun c => q6l T st o.dst e c
 | .build t parts => qh2 T st t parts.toList
 | .buildSlice t n parts => q7f T st o.dst t n parts.toList
 | .load t a => (opv st a).bind (qc0 T forb st t)
 | .store t a x => match opv st a, opv st x with
  | some p, some y => qh1 T forb st t p (unFn y)
  | _, _ => none
 | .nilCheck x => (opv st x).bind qdz
 | .binOp op xt x y yt => bif isDiv op then divE op (opv st x) (opv st y) else bif isShift op then shiftE op (opv st x) (opv st y) else match eqE T op xt (opv st x) (opv st y) with
  | some e => some e
  | none => match strE P op xt y (opv st x) (opv st y) with
   | some e => some e
   | none => plain2 P (fun a b => do eqGuard op xt x y a b; binOp op xt a b) (opv st x) (opv st y)
 | .unOp op _ x => plain1 P (Op.unary op) (opv st x)
 | .convert src dst x => plain1 P (convert src dst) (opv st x)
 | .makeFunc (.func f) first caps => bif Nat.beq first.size 0 then (((opvs st caps.toList).bind cvs).map fun l => val (.t (.fn f l))) else (bif Nat.beq caps.size 0 then fbE f (opvs st first.toList) else none)
 | .fieldAddr s x f => (opv st x).bind (qc1 T s f)
 | .field s x f => (opv st x).bind (fieldE T s f)
 | .indexAddr t x ix => match opv st x, opv st ix with
  | some a, some b => q7Z T forb st t a b
  | _, _ => none
 | .extract x i => (opv st x).bind (qfP i)
 | .sliceToArrayPointer t x => (opv st x).bind (qhU T t)
 | .index t x ix => match opv st x, opv st ix with
  | some a, some b => indexE T t a b
  | _, _ => none
 | .makeSlice t x y => match opv st x, opv st y with
  | some a, some b => makeE T st o.dst t a b
  | _, _ => none
 | .slice t x lo hi mx => (opv st x).bind fun d => qh5 T forb st t d lo hi mx
 | .call c => match c.callee with
  | .builtin .len => match c.args.toList, c.argTypes.toList with
   | [x], [t] => (opv st x).bind (lenE T forb st t)
   | _, _ => none
  | .builtin .append => match c.args.toList, c.argTypes.toList with
   | [x, y], [t, t'] => match opv st x, opv st y with
    | some dx, some dy => bif Nat.beq t t' then q8i T forb st o.dst t dx dy else none
    | _, _ => none
   | _, _ => none
  | .builtin .max => qh4 P (Builtin.max_ c.argTypes o.type) (opvs st c.args.toList)
  | .builtin .min => qh4 P (Builtin.min_ c.argTypes o.type) (opvs st c.args.toList)
  | .value f => match opv st f, opvs st c.args.toList with
   | some g, some args => callE S forb st o.dst (fnOf g) args
   | _, _ => none
  | _ => none
 | _ => none
def isAl : Op → Bool
 | .alloc _ | .box _ _ | .buildSlice _ _ _ | .makeSlice _ _ _ => true
 | .call c => match c.callee with
  | .value _ => true
  | _ => false
 | _ => false
def isWr : Op → Bool
 | .store _ _ _ => true
 | .call c => match c.callee with
  | .builtin .append => true
  | _ => false
 | _ => false
def okW (forb : Nat → Bool) : List (Nat × Row) → Bool
 | [] => true
 | (k, _) :: l => !forb k && Nat.blt k 2000 && okW forb l
def okUp (forb : Nat → Bool) (o : Oper) (up : List (Nat × Row)) : Bool := bif isWr o.op then okW forb up else (match up with
 | [] => true
 | [(k, _)] => isAl o.op && ((match o.dst with | some d => Nat.beq d k | none => false) || (!forb 2000 && (!forb k && Nat.blt k 2000)))
 | _ => false)
def exec (P : Program) (T : Tab) (S : Sum) (forb : Nat → Bool) (st : DS) (o : Oper) : Option Eff :=
 match exec0 P T S forb st o with
 | some e => bif okUp forb o e.up then some e else none
 | none => none
def DS.putO (st : DS) (d : Option Tmp) (v : Option DV) : DS := match d with
 | some d => { st with t := st.t.set d v }
 | none => st
def upd : List (Nat × Row) → List (Option Row) → List (Option Row)
 | [], h => h
 | (k, r) :: l, h => upd l (h.set k (some r))
def DS.app (st : DS) (d : Option Tmp) (e : Eff) : DS := ({ st with h := upd e.up st.h }).putO d (some e.v)
variable {w0 : World} {N0 : Nat → Prop} {Z : Pins}
structure Stp (w0 : World) (N0 : Nat → Prop) (M M' : Map) (w w' : World) : Prop where
 size : w.heap.size ≤ w'.heap.size
 blk : ∀ b, nown M b → b < w.heap.size → w'.heap[b]? = w.heap[b]?
 keep : ∀ k l, M k = some l → M' k = some l
 new : ∀ k l b, M' k = some l → l.block = some b → (∃ k' l', M k' = some l' ∧ l'.block = some b) ∨ w.heap.size ≤ b
theorem Stp.cell {M M' : Map} {w w' : World} (h : Stp w0 N0 M M' w w') (b : Nat) (hf : fgn w0 N0 M b) (hb : b < w.heap.size) (off : Nat) : w'.cell? ⟨b, off, none⟩ = w.cell? ⟨b, off, none⟩ := World.cell?_of_block (w := w) (h.blk b hf.2 hb)
theorem Stp.nown {M M' : Map} {w w' : World} (h : Stp w0 N0 M M' w w') {b : Nat} (hb : b < w.heap.size) (hf : nown M b) : nown M' b := fun k l e1 e2 => by
  rcases h.new k l b e1 e2 with ⟨k', l', g1, g2⟩ | g
  ·exact hf k' l' g1 g2
  ·omega
theorem Stp.fgn {M M' : Map} {w w' : World} (h : Stp w0 N0 M M' w w') {b : Nat} (hb : b < w.heap.size) (hf : fgn w0 N0 M b) : fgn w0 N0 M' b :=
 ⟨hf.1, fun k l e1 e2 => by
  rcases h.new k l b e1 e2 with ⟨k', l', g1, g2⟩ | g
  ·exact hf.2 k' l' g1 g2
  ·omega⟩
theorem Stp.relF {M M' : Map} {w w' : World} (h : Stp w0 N0 M M' w w') {x : CV} {v : Value} (hr : RelF w (Ev.fgn w0 N0 M) x v) : RelF w' (Ev.fgn w0 N0 M') x v :=
 RelF.mono h.size h.cell (fun b hb hl => h.fgn hl hb) x hr
theorem Stp.relC {M M' : Map} {w w' : World} (h : Stp w0 N0 M M' w w') : ∀ {x : CV} {v : Value}, RelC w (Ev.fgn w0 N0 M) M x v → RelC w' (Ev.fgn w0 N0 M') M' x v
 | .v x, v, g => h.relF (x := .v x) g
 | .sl sz n c, v, g => h.relF (x := .sl sz n c) g
 | .px n off c, v, g => h.relF (x := .px n off c) g
 | .er b, v, g => h.relF (x := .er b) g
 | .any, v, g => h.relF (x := .any) g
 | .os k, v, g => ⟨h.keep _ _ g.1, g.2⟩
 | .p k off, v, g => by obtain ⟨b, g1, g2⟩ := g; exact ⟨b, h.keep _ _ g1, g2⟩
 | .pe k i sz off, v, g => by obtain ⟨b, n, cap, g1, g2⟩ := g; exact ⟨b, n, cap, h.keep _ _ g1, g2⟩
 | .ob k off sz n, v, g => by
  rcases g with ⟨b, cap, g1, g2⟩ | ⟨b, c, o, cap, g1, g2⟩
  ·exact Or.inl ⟨b, cap, h.keep _ _ g1, g2⟩
  ·exact Or.inr ⟨b, c, o, cap, h.keep _ _ g1, g2⟩
theorem Stp.relD {M M' : Map} {w w' : World} (h : Stp w0 N0 M M' w w') {x : DV} {v : Value} (hr : RelD (RelC w (Ev.fgn w0 N0 M) M) x v) : RelD (RelC w' (Ev.fgn w0 N0 M') M') x v :=
 RelD.mono (fun _ _ g => h.relC g) hr
theorem q5G {w w' : World} {base : Nat} {e : TypeId} {size : Nat} {v : Value} {n : Nat} {xs : List Value} (h : w.ownsRow base e size v n xs) (hb : ∀ b, v.ownBlock = some b → w'.heap[b]? = w.heap[b]?) : w'.ownsRow base e size v n xs := by
 refine ⟨h.1, ?_⟩
 rcases h.2 with h2 | ⟨g, cap, cur, hv, hg, hh, r⟩
 ·exact Or.inl h2
 ·exact Or.inr ⟨g, cap, cur, hv, hg, by rw [hb g (by rw [hv]; rfl)]; exact hh, r⟩
theorem Stp.relR {M M' : Map} {w w' : World} (h : Stp w0 N0 M M' w w') {k : Nat} : ∀ {r : Row}, RelR w w0.heap.size (Ev.fgn w0 N0 M) M k r → (r.alive = true → ∀ l b, M k = some l → l.block = some b → w'.heap[b]? = w.heap[b]?) → RelR w' w0.heap.size (Ev.fgn w0 N0 M') M' k r
 | .box ty c, g, hb => by
  obtain ⟨b, cs, g1, g2, g3⟩ := g
  exact ⟨b, cs, h.keep _ _ g1, (hb rfl _ _ g1 rfl).trans g2, g3.mono fun _ _ g => h.relC g⟩
 | .gen ty sz l, g, hb => by
  obtain ⟨v, xs, g1, g2, g3, g4⟩ := g
  exact ⟨v, xs, h.keep _ _ g1, q5G g2 (fun b e => hb rfl _ _ g1 e), g3, g4.mono fun _ _ g => h.relF g⟩
 | .num ty kd l, g, hb => by
  obtain ⟨v, g1, g2⟩ := g
  exact ⟨v, h.keep _ _ g1, q5G g2 (fun b e => hb rfl _ _ g1 e)⟩
 | .dead, _, _ => trivial
theorem Abs.step {M M' : Map} {st st' : DS} {a a' : Act} {w w' : World} (ha : Abs w0 N0 Z M st a w) (hs : Stp w0 N0 M M' w w') (hb : Below w0.heap.size w w')
  (hfit : a'.tmps.size = st'.t.length) (hdef : a'.defers = a.defers)
  (htmp : ∀ i dv, st'.tm i = some dv → (st.tm i = some dv ∧ a'.tmps[i]? = a.tmps[i]?) ∨ ∃ v, a'.tmps[i]? = some v ∧ RelD (RelC w' (fgn w0 N0 M') M') dv v)
  (hrow : ∀ k r, st'.at k = some r → (st.at k = some r ∧ (r.alive = true → ∀ l b, M k = some l → l.block = some b → w'.heap[b]? = w.heap[b]?)) ∨ RelR w' w0.heap.size (fgn w0 N0 M') M' k r)
  (hdom : ∀ k, st'.at k = none → M' k = none)
  (hown : ∀ k l b, M' k = some l → l.block = some b → w0.heap.size ≤ b ∧ b < w'.heap.size)
  (hap : ∀ k k' r r' l l' b, st'.at k = some r → r.alive = true → st'.at k' = some r' → r'.alive = true → M' k = some l → M' k' = some l' → l.block = some b → l'.block = some b → k = k') :
  Abs w0 N0 Z M' st' a' w' where
 below := ha.below.trans hb
 fits := hfit
 lim := by rw [hdef]; exact ha.lim
 defs := hdef ▸ ha.defs.mono fun b h1 h2 => ⟨hs.blk b h1 h2, hs.nown h2 h1⟩
 tmp i dv h := by
  rcases htmp i dv h with ⟨h1, h2⟩ | h1
  ·obtain ⟨v, e, r⟩ := ha.tmp i dv h1
   exact ⟨v, h2.trans e, hs.relD r⟩
  ·exact h1
 row k r h := by
  rcases hrow k r h with ⟨h1, h2⟩ | h1
  ·exact hs.relR (ha.row k r h1) h2
  ·exact h1
 dom := hdom
 own := hown
 apart := hap
 pinB b o h := by
  obtain ⟨h1, h2⟩ := ha.pinB b o h
  have hb : b < w.heap.size := (Array.getElem?_eq_some_iff.1 h1).1
  exact ⟨(hs.blk b h2 hb).trans h1, hs.nown hb h2⟩
 pinN b h := by
  obtain ⟨h1, h2⟩ := ha.pinN b h
  exact ⟨Nat.lt_of_lt_of_le h1 hs.size, hs.nown h1 h2⟩
 pinK k l h := hs.keep k l (ha.pinK k l h)
theorem getset {α : Type} (l : List (Option α)) (d i : Nat) (x : Option α) : ((l.set d x)[i]?).join = if d = i ∧ d < l.length then x else (l[i]?).join := by
 rw [List.getElem?_set]
 by_cases h : d = i
 ·subst h
  by_cases h2 : d < l.length
  ·simp [h2]
  ·simp [h2]
 ·simp [h]
theorem qab (st : DS) (d : Option Tmp) (x : Option DV) (i : Nat) : (st.putO d x).tm i = if d = some i ∧ i < st.t.length then x else st.tm i := by
 cases d with
 | none => simp [DS.putO]
 | some d =>
  simp only [DS.putO, DS.tm, getset, Option.some.injEq]
  by_cases h : d = i
  ·subst h; rfl
  ·simp [h]
theorem q5q (st : DS) (d : Option Tmp) (x : Option DV) (k : Nat) : (st.putO d x).at k = st.at k := by cases d <;> rfl
theorem qac (st : DS) (d : Option Tmp) (x : Option DV) : (st.putO d x).h = st.h := by cases d <;> rfl
theorem q4W (st : DS) (d : Option Tmp) (x : Option DV) : (st.putO d x).t.length = st.t.length := by cases d <;> simp [DS.putO]
theorem qhi (a : Act) (d : Option Tmp) (v : Value) (i : Nat) : (a.put d v).tmps[i]? = if d = some i ∧ i < a.tmps.size then some v else a.tmps[i]? := by
 cases d with
 | none => simp [Act.put]
 | some d =>
  simp only [Act.put, Option.some.injEq]
  by_cases h : d = i
  ·subst h
   by_cases h2 : d < a.tmps.size <;> simp [h2]
  ·simp [h, Array.getElem?_setIfInBounds]
theorem qb7 (a : Act) (d : Option Tmp) (v : Value) : (a.put d v).tmps.size = a.tmps.size := by cases d <;> simp [Act.put]
theorem q4X (a : Act) (d : Option Tmp) (v : Value) : (a.put d v).defers = a.defers := by cases d <;> rfl
theorem qb8 {M' : Map} {st : DS} {a : Act} {w' : World} {d : Option Tmp} {x : Option DV} {v : Value} (hf : a.tmps.size = st.t.length) (hv : ∀ dv, x = some dv → RelD (RelC w' (fgn w0 N0 M') M') dv v) (i : Nat) (dv : DV) (h : (st.putO d x).tm i = some dv) :
  (st.tm i = some dv ∧ (a.put d v).tmps[i]? = a.tmps[i]?) ∨ ∃ u, (a.put d v).tmps[i]? = some u ∧ RelD (RelC w' (fgn w0 N0 M') M') dv u := by
 rw [qab] at h
 rw [qhi, hf]
 by_cases hc : d = some i ∧ i < st.t.length
 ·rw [if_pos hc] at h
  rw [if_pos hc]
  exact Or.inr ⟨v, rfl, hv dv h⟩
 ·rw [if_neg hc] at h
  rw [if_neg hc]
  exact Or.inl ⟨h, rfl⟩
theorem Stp.refl (M : Map) (w : World) : Stp w0 N0 M M w w := ⟨Nat.le_refl _, fun _ _ _ => rfl, fun _ _ h => h, fun k l b h1 h2 => Or.inl ⟨k, l, h1, h2⟩⟩
theorem Stp.below {M : Map} {w w' : World} (h : Below w.heap.size w w') : Stp w0 N0 M M w w' :=
 ⟨h.size, fun b _ hb => h.block b hb, fun _ _ h => h, fun k l b h1 h2 => Or.inl ⟨k, l, h1, h2⟩⟩
theorem Abs.put {M : Map} {st : DS} {a : Act} {w w' : World} (ha : Abs w0 N0 Z M st a w) (hb : Below w.heap.size w w') (d : Option Tmp) {x : Option DV} {v : Value} (hv : ∀ dv, x = some dv → RelD (RelC w' (fgn w0 N0 M) M) dv v) : Abs w0 N0 Z M (st.putO d x) (a.put d v) w' :=
 ha.step (Stp.below hb) (hb.mono ha.below.size) (by rw [qb7, q4W, ha.fits]) (q4X _ _ _) (qb8 ha.fits hv)
  (fun k r h => Or.inl ⟨by rwa [q5q] at h, fun _ l b h1 h2 => hb.block b (ha.own k l b h1 h2).2⟩)
  (fun k h => ha.dom k (by rwa [q5q] at h)) (fun k l b h1 h2 => ⟨(ha.own k l b h1 h2).1, Nat.lt_of_lt_of_le (ha.own k l b h1 h2).2 hb.size⟩)
  (fun k k' r r' l l' b h1 h2 h3 h4 h5 h6 h7 h8 => ha.apart k k' r r' l l' b (by rwa [q5q] at h1) h2 (by rwa [q5q] at h3) h4 h5 h6 h7 h8)
theorem Abs.putV {M : Map} {st : DS} {a : Act} {w : World} (ha : Abs w0 N0 Z M st a w) (d : Option Tmp) {x : DV} {v : Value} (hv : RelD (RelC w (fgn w0 N0 M) M) x v) : Abs w0 N0 Z M (st.putO d (some x)) (a.put d v) w :=
 ha.put (Below.refl _ _) d fun _ e => by cases e; exact hv
theorem Abs.skip {M : Map} {st : DS} {a : Act} {w : World} (ha : Abs w0 N0 Z M st a w) (d : Option Tmp) (v : Value) : Abs w0 N0 Z M (st.putO d none) (a.put d v) w :=
 ha.put (Below.refl _ _) d fun _ e => by cases e
theorem Abs.grow {M : Map} {st : DS} {a : Act} {w w' : World} (ha : Abs w0 N0 Z M st a w) (hb : Below w.heap.size w w') : Abs w0 N0 Z M st a w' :=
 ha.put (d := none) (x := none) (v := undef) hb fun _ e => by cases e
theorem Abs.know {M : Map} {st : DS} {a : Act} {w : World} (ha : Abs w0 N0 Z M st a w) {i : Nat} {x y : DV} (hx : st.tm i = some x) (hxy : x = y) : Abs w0 N0 Z M (st.putO (some i) (some y)) a w := by
 subst hxy
 have : (st.putO (some i) (some x)) = st := by
  unfold DS.putO
  simp only
  congr 1
  apply List.ext_getElem?
  intro j
  rw [List.getElem?_set]
  unfold DS.tm at hx
  split
  ·rename_i e; subst e
   split
   ·rename_i h2
    cases h3 : st.t[i]? with
    | none => rw [h3] at hx; cases hx
    | some o => rw [h3] at hx; simp at hx; rw [hx]
   ·rename_i h2
    rw [List.getElem?_eq_none (by omega)]
  ·rfl
 rw [this]; exact ha
theorem Abs.newRow {M : Map} {st : DS} {a : Act} {w : World} (ha : Abs w0 N0 Z M st a w) (d : Nat) {r : Row} {l : Loc} {cs : Array Value} {ty : TypeId} {x : DV} {v : Value} (hd : st.at d = none) (hlt : d < st.h.length) (hal : r.alive = true)
  (hl : l.block = some w.heap.size)
  (hrow : ∀ M' : Map, M' d = some l → Stp w0 N0 M M' w (w.alloc (.cells cs ty)) → RelR (w.alloc (.cells cs ty)) w0.heap.size (fgn w0 N0 M') M' d r)
  (hv : ∀ M' : Map, M' d = some l → RelD (RelC (w.alloc (.cells cs ty)) (fgn w0 N0 M') M') x v) :
  ∃ M', Abs w0 N0 Z M' (({ st with h := st.h.set d (some r) } : DS).putO (some d) (some x)) (a.put (some d) v) (w.alloc (.cells cs ty)) := by
 let M' : Map := fun k => if k = d then some l else M k
 have hMd : M d = none := ha.dom d hd
 have hM'd : M' d = some l := by simp [M']
 have hM' : ∀ k, k ≠ d → M' k = M k := fun k h => by simp [M', h]
 have hnl : w.heap.size ≤ (w.alloc (.cells cs ty)).heap.size := by simp
 have hbe : Below w.heap.size w (w.alloc (.cells cs ty)) := (Below.refl _ _).alloc (Nat.le_refl _) _
 have stp : Stp w0 N0 M M' w (w.alloc (.cells cs ty)) := by
  refine ⟨hnl, fun b _ hb => hbe.block b hb, fun k l' h => ?_, fun k l' b h1 h2 => ?_⟩
  ·rw [hM' k (fun e => by rw [e, hMd] at h; cases h)]; exact h
  ·by_cases e : k = d
   ·subst e; rw [hM'd] at h1; cases h1; rw [hl] at h2; cases h2; exact Or.inr (Nat.le_refl _)
   ·rw [hM' k e] at h1; exact Or.inl ⟨k, l', h1, h2⟩
 have hat : ∀ k, (({ st with h := st.h.set d (some r) } : DS).putO (some d) (some x)).at k = if d = k ∧ d < st.h.length then some r else st.at k := fun k => by
  rw [q5q]; unfold DS.at; exact getset _ _ _ _
 refine ⟨M', ha.step stp (hbe.mono ha.below.size) (by rw [qb7, q4W]; exact ha.fits) (q4X _ _ _) (fun i dv h => ?_) (fun k r' h => ?_) (fun k h => ?_) (fun k l' b h1 h2 => ?_) (fun k k' r1 r2 l1 l2 b h1 h2 h3 h4 h5 h6 h7 h8 => ?_)⟩
 ·exact qb8 (st := { st with h := st.h.set d (some r) }) ha.fits (fun dv e => by cases e; exact hv M' hM'd) i dv h
 ·rw [hat] at h
  by_cases e : d = k ∧ d < st.h.length
  ·rw [if_pos e] at h; cases h; rw [← e.1]; exact Or.inr (hrow M' hM'd stp)
  ·rw [if_neg e] at h
   exact Or.inl ⟨h, fun _ l' b h1 h2 => hbe.block b (ha.own k l' b h1 h2).2⟩
 ·rw [hat] at h
  by_cases e : d = k ∧ d < st.h.length
  ·rw [if_pos e] at h; cases h
  ·rw [if_neg e] at h
   by_cases e2 : k = d
   ·exact (e ⟨e2.symm, hlt⟩).elim
   ·rw [hM' k e2]; exact ha.dom k h
 ·by_cases e : k = d
  ·subst e; rw [hM'd] at h1; cases h1; rw [hl] at h2; cases h2; exact ⟨ha.below.size, by simp⟩
  ·rw [hM' k e] at h1; have := ha.own k l' b h1 h2; exact ⟨this.1, by simp; omega⟩
 ·rw [hat] at h1 h3
  by_cases e : k = d
  ·by_cases e' : k' = d
   ·rw [e, e']
   ·subst e; rw [hM'd] at h5; cases h5; rw [hl] at h7; cases h7
    rw [hM' k' e'] at h6; have := ha.own k' l2 _ h6 h8; omega
  ·rw [if_neg (fun h => e h.1.symm)] at h1
   rw [hM' k e] at h5
   by_cases e' : k' = d
   ·subst e'; rw [hM'd] at h6; cases h6; rw [hl] at h8; cases h8
    have := ha.own k l1 _ h5 h7; omega
   ·rw [if_neg (fun h => e' h.1.symm)] at h3
    rw [hM' k' e'] at h6
    exact ha.apart k k' r1 r2 l1 l2 b h1 h2 h3 h4 h5 h6 h7 h8
end Go.Proofs.YtfadkjcfjkmalaaGreatDoor.Ev
namespace Go.Proofs.YtfadkjcfjkmalaaGreatDoor.Ev
open Go.RowKit
variable {w0 : World} {N0 : Nat → Prop} {Z : Pins} {P : Program} {T : Tab} {S : Sum} {forb : Nat → Bool} {M : Map} {st : DS} {a : Act} {w : World} {o : Oper}
theorem qcE {t : TypeId} {i : TypeInfo} (h : P.info? t = some i) (w : World) : (typeInfo t).run P w = .ok i w := by simp [typeInfo, program, Sem.run, h]
theorem TyOK.desc {t : TypeId} {i : TyI} (h : TyOK P t i) : ∃ d, P.underlying t = some d ∧ shOf d = i.sh := by
 have := h.und
 cases e : P.underlying t with
 | none => rw [e] at this; cases this
 | some d => rw [e] at this; exact ⟨d, rfl, by simpa using this⟩
theorem TyOK.inf {t : TypeId} {i : TyI} (h : TyOK P t i) : ∃ x, P.info? t = some x ∧ x.size = i.size ∧ x.bytes = i.bytes ∧ ∃ z, x.zero = some z ∧ z.cells.toList = i.zero := by
 have h1 := h.info
 have h2 := h.zero
 cases e : P.info? t with
 | none => rw [e] at h1; cases h1
 | some x =>
  rw [e] at h1 h2
  simp only [Option.map_some, Option.some.injEq, Prod.mk.injEq, Option.bind_some] at h1 h2
  cases e2 : x.zero with
  | none => rw [e2] at h2; cases h2
  | some z => rw [e2] at h2; exact ⟨x, rfl, h1.1, h1.2, z, e2, by simpa using h2⟩
theorem TyOK.isAgg {t : TypeId} {i : TyI} (h : TyOK P t i) (w : World) : (Go.isAgg t).run P w = .ok i.sh.agg w := by
 obtain ⟨d, h1, h2⟩ := h.desc
 rw [← h2]
 simp only [Go.isAgg, Sem.run_bind, run_underlying h1, Result.andThen_ok]
 cases d <;> rfl
theorem TyOK.sizeOf {t : TypeId} {i : TyI} (h : TyOK P t i) (w : World) : (Go.sizeOf t).run P w = .ok i.size w := by
 obtain ⟨x, h1, h2, _⟩ := h.inf
 simp [Go.sizeOf, qcE h1, h2]
theorem TyOK.zeroValue {t : TypeId} {i : TyI} (h : TyOK P t i) (w : World) : ∃ z, (Go.zeroValue t).run P w = .ok z w ∧ z.cells.toList = i.zero := by
 obtain ⟨x, h1, _, _, z, h2, h3⟩ := h.inf
 exact ⟨z, by simp [Go.zeroValue, qcE h1, h2], h3⟩
theorem TyOK.arr {t : TypeId} {i : TyI} {n : Nat} {e : TypeId} (h : TyOK P t i) (hs : i.sh = .ar n e) : P.underlying t = some (.array n e) := by
 obtain ⟨d, h1, h2⟩ := h.desc
 rw [hs] at h2
 cases d <;> simp only [shOf, Sh.ar.injEq] at h2 <;> first | (cases h2; done) | skip
 rw [h1, h2.1, h2.2]
theorem TyOK.sl {t : TypeId} {i : TyI} {e : TypeId} (h : TyOK P t i) (hs : i.sh = .sl e) : P.underlying t = some (.slice e) := by
 obtain ⟨d, h1, h2⟩ := h.desc
 rw [hs] at h2
 cases d <;> simp only [shOf, Sh.sl.injEq] at h2 <;> first | (cases h2; done) | skip
 rw [h1, h2]
theorem TyOK.str {t : TypeId} {i : TyI} (h : TyOK P t i) (hs : i.sh = .str) : P.underlying t = some .string := by
 obtain ⟨d, h1, h2⟩ := h.desc
 rw [hs] at h2
 cases d <;> first | (cases h2; done) | exact h1
theorem TyOK.strct {t : TypeId} {i : TyI} {fs : List (Nat × TypeId)} (h : TyOK P t i) (hs : i.sh = .st fs) : ∃ F, P.underlying t = some (.struct F) ∧ F.toList.map (fun f => (f.offset, f.type)) = fs := by
 obtain ⟨d, h1, h2⟩ := h.desc
 rw [hs] at h2
 cases d <;> simp only [shOf, Sh.st.injEq] at h2 <;> first | (cases h2; done) | skip
 exact ⟨_, h1, h2⟩
theorem qb9 {R : CV → Value → Prop} (hR : ∀ y u, R (.v y) u → u = y) : ∀ {l : List CV} {vs us : List Value}, allV l = some vs → All2 R l us → us = vs
 | [], _, [], h, _ => by simp only [allV, Option.some.injEq] at h; exact h
 | .v x :: l, vs, u :: us, h, g => by
  simp only [allV, Option.map_eq_some_iff] at h
  obtain ⟨ws, h1, h2⟩ := h
  subst h2
  rw [hR x u g.1, qb9 hR h1 g.2]
 | [], _, _ :: _, _, g => g.elim
 | .v _ :: _, _, [], _, g => g.elim
 | .sl _ _ _ :: _, _, _, h, _ | .px _ _ _ :: _, _, _, h, _ | .os _ :: _, _, _, h, _ | .p _ _ :: _, _, _, h, _ | .pe _ _ _ _ :: _, _, _, h, _ | .ob _ _ _ _ :: _, _, _, h, _ | .er _ :: _, _, _, h, _ | .any :: _, _, _, h, _ => by simp [allV] at h
theorem q5H {R : CV → Value → Prop} (hR : ∀ y u, R (.v y) u → u = y) {d : DV} {x v : Value} (h : q3x d = some x) (hr : RelD R d v) : v = x := by
 match d, h, hr with
 | .t (.c (.v y)), h, hr => simp only [q3x, Option.some.injEq] at h; rw [← h]; exact hR y v hr
 | .t (.a l), h, hr =>
  simp only [q3x, Option.map_eq_some_iff] at h
  obtain ⟨vs, h1, h2⟩ := h
  obtain ⟨us, h3, h4⟩ := hr
  rw [h3, ← h2, qb9 hR h1 h4]
 | .t (.c (.sl _ _ _)), h, _ | .t (.c (.px _ _ _)), h, _ | .t (.c (.os _)), h, _ | .t (.c (.p _ _)), h, _ | .t (.c (.pe _ _ _ _)), h, _ | .t (.c (.ob _ _ _ _)), h, _ | .t (.c (.er _)), h, _ | .t (.c .any), h, _ | .t (.fn _ _), h, _ | .t (.fb _ _), h, _ | .tu _, h, _ => simp [q3x] at h
theorem qcF {R : CV → Value → Prop} (hR : ∀ y, y.oneCell' = true → R (.v y) y) : ∀ {l : List Value}, q1P l = true → All2 R (l.map CV.v) l
 | [], _ => trivial
 | y :: l, h => by
  simp only [q1P, Bool.and_eq_true] at h
  exact ⟨hR y h.1, qcF hR h.2⟩
theorem q7b {R : CV → Value → Prop} (hR : ∀ y, y.oneCell' = true → R (.v y) y) : ∀ {x : Value} {d : DV}, ofValue x = some d → RelD R d x := by
 intro x d h
 cases x <;> simp only [ofValue, Option.some.injEq, reduceCtorEq] at h <;> first | (subst h; exact hR _ rfl) | skip
 rename_i cs
 cases e : q1P cs.toList with
 | false => rw [e] at h; cases h
 | true =>
  rw [e] at h
  simp only [cond_true, Option.some.injEq] at h
  subst h
  exact ⟨cs.toList, by simp, qcF hR e⟩
theorem qad {N : Nat → Prop} : ∀ (y : Value), y.oneCell' = true → RelC w N M (.v y) y := fun y h => ⟨rfl, h⟩
theorem relC_v' {N : Nat → Prop} : ∀ (y u : Value), RelC w N M (.v y) u → u = y := fun y u h => h.1
theorem qw (ha : Abs w0 N0 Z M st a w) {x : Operand} {d : DV} (h : opv st x = some d) : RelD (RelC w (fgn w0 N0 M) M) d (a.eval x) := by
 cases x with
 | tmp i =>
  obtain ⟨v, h1, h2⟩ := ha.tmp i d h
  have : a.eval (.tmp i) = v := by simp [Act.eval, Array.getD_eq_getD_getElem?, h1]
  rw [this]; exact h2
 | const v =>
  have h' : ofValue v = some d := by
   unfold opv at h
   split at h
   ·rename_i e; cases e
   ·cases h
   ·rename_i e; cases e; exact h
   ·rename_i e; cases e
   ·rename_i e; cases e
  exact q7b qad h'
 | func f =>
  simp only [opv, Option.some.injEq] at h
  subst h
  exact ⟨[], rfl, trivial⟩
 | _ => simp [opv] at h
theorem q6A (ha : Abs w0 N0 Z M st a w) : ∀ {l : List Operand} {ds : List DV}, opvs st l = some ds → All2 (RelD (RelC w (fgn w0 N0 M) M)) ds (l.map a.eval)
 | [], ds, h => by simp only [opvs, Option.some.injEq] at h; subst h; trivial
 | x :: l, ds, h => by
  simp only [opvs] at h
  split at h
  ·rename_i d es h1 h2
   simp only [Option.some.injEq] at h; subst h
   exact ⟨qw ha h1, q6A ha h2⟩
  ·cases h
theorem q4K {R : CV → Value → Prop} (hone : ∀ x v, R x v → v.oneCell' = true) {d : DV} {c : List CV} {v : Value} (h : cellsOf d = some c) (hr : RelD R d v) : All2 R c v.cells.toList := by
 match d, h, hr with
 | .t (.c x), h, hr =>
  simp only [cellsOf, Option.some.injEq] at h
  subst h
  have h1 := hone x v hr
  have : v.cells = #[v] := by cases v <;> first | rfl | (simp [Value.oneCell'] at h1; done)
  rw [this]
  exact ⟨hr, trivial⟩
 | .t (.a l), h, hr =>
  simp only [cellsOf, Option.some.injEq] at h
  subst h
  obtain ⟨us, h3, h4⟩ := hr
  rw [h3]
  simpa [Value.cells] using h4
 | .t (.fn _ _), h, _ | .t (.fb _ _), h, _ | .tu _, h, _ => simp [cellsOf] at h
inductive Well (P : Program) (w0 : World) (N0 : Nat → Prop) (Z : Pins) (o : Oper) (a : Act) (w : World) (st' : DS) : Prop where
 | value (v : Value) (M' : Map) (w' : World) (h : (execOp a.eval o).run P w = .ok (.value v) w') (ha : Abs w0 N0 Z M' st' (a.put o.dst v) w')
 | skip (M' : Map) (w' : World) (h : (execOp a.eval o).run P w = .ok .skip w') (ha : Abs w0 N0 Z M' st' (a.put o.dst undef) w')
 | call (f : FuncId) (args : Array Value) (w' : World) (h : (execOp a.eval o).run P w = .ok (.enter f args) w') (hc : Calls P f args w' fun e w'' => ∃ v, e = .returned v ∧ ∃ M', Abs w0 N0 Z M' st' (a.put o.dst v) w'')
def fen : Option Nat → Fence
 | none => Fence.wide
 | some l => Fence.wide.inRound l
theorem fen_fn (ro : Option Nat) (f : FuncId) : (fen ro).fn f := by cases ro <;> trivial
theorem fen_depth (ro : Option Nat) {n : Nat} : (fen ro).depth.isSome = true → 1 ≤ n := by cases ro <;> (intro h; cases h)
theorem fen_calls {ro : Option Nat} {n : Nat} {f : FuncId} {args : Array Value} {R : Ending → World → Prop} (h : Calls P f args w R) : CallsIn (fen ro) n P f args w R := by
 cases ro with
 | none => exact callsIn_wide.2 h
 | some l => exact (callsIn_wide (n := n)).2 h
theorem Well.wp {st' : DS} {ro : Option Nat} (hnd : ∀ c, o.op ≠ .defer c) (h : Well P w0 N0 Z o a w st') {K : Act → World → Prop} {Q : Exit → Act → World → Prop} (hK : ∀ M' a' w', Abs w0 N0 Z M' st' a' w' → K a' w') : o.wpIn (fen ro) 0 P a w K Q := by
 unfold Oper.wpIn
 refine ⟨fun f _ => fen_fn ro f, ?_⟩
 rw [Oper.semAt_eq _ _ _ hnd]
 cases h with
 | value v M' w' h ha => rw [h]; exact hK _ _ _ ha
 | skip M' w' h ha => rw [h]; exact hK _ _ _ ha
 | call f args w' h hc =>
  rw [h]
  refine ⟨fen_depth ro, fen_calls (Calls.mono hc ?_)⟩
  rintro e w'' ⟨v, rfl, M', ha⟩
  exact hK _ _ _ ha
theorem Well.val (ha : Abs w0 N0 Z M st a w) {d : DV} {v : Value} (h : (execOp a.eval o).run P w = .ok (.value v) w) (hr : RelD (RelC w (fgn w0 N0 M) M) d v) {p : Option Prop} : Well P w0 N0 Z o a w (st.app o.dst ⟨d, [], p⟩) :=
 .value v M w h (ha.putV o.dst hr)
theorem qhX (ha : Abs w0 N0 Z M st a w) {x : Operand} (ho : o.op = .move x ∨ o.op = .assign x) {e : Eff} (he : (opv st x).map val = some e) : Well P w0 N0 Z o a w (st.app o.dst e) := by
 simp only [Option.map_eq_some_iff] at he
 obtain ⟨d, h1, rfl⟩ := he
 refine Well.val ha (v := a.eval x) ?_ (qw ha h1)
 unfold execOp
 rcases ho with ho | ho <;> (rw [ho]; rfl)
theorem qjk (ha : Abs w0 N0 Z M st a w) {x y : Operand} {f : Value → Value → Sem Value} {e : Eff} (he : plain2 P f (opv st x) (opv st y) = some e) (ho : ∀ w, (execOp a.eval o).run P w = (do pure (.value (← f (a.eval x) (a.eval y))) : Sem Next).run P w) : Well P w0 N0 Z o a w (st.app o.dst e) := by
 unfold plain2 at he
 cases hx : opv st x with
 | none => rw [hx] at he; simp at he
 | some dx =>
  cases hy : opv st y with
  | none => rw [hx, hy] at he; simp at he
  | some dy =>
   rw [hx, hy] at he
   simp only [Option.bind_some] at he
   split at he
   ·rename_i u v hu hv
    simp only [Option.map_eq_some_iff, Option.bind_eq_some_iff] at he
    obtain ⟨d, ⟨r, h1, h2⟩, rfl⟩ := he
    have e1 := q5H relC_v' hu (qw ha hx)
    have e2 := q5H relC_v' hv (qw ha hy)
    refine Well.val ha (v := r) ?_ (q7b qad h2)
    rw [ho, e1, e2]
    simp only [Sem.run_bind, q4J _ h1, Result.andThen_ok]
    rfl
   ·cases he
theorem qcG (ha : Abs w0 N0 Z M st a w) {x : Operand} {f : Value → Sem Value} {e : Eff} (he : plain1 P f (opv st x) = some e) (ho : ∀ w, (execOp a.eval o).run P w = (do pure (.value (← f (a.eval x))) : Sem Next).run P w) : Well P w0 N0 Z o a w (st.app o.dst e) := by
 unfold plain1 at he
 cases hx : opv st x with
 | none => rw [hx] at he; simp at he
 | some dx =>
  rw [hx] at he
  simp only [Option.bind_some] at he
  split at he
  ·rename_i u hu
   simp only [Option.map_eq_some_iff, Option.bind_eq_some_iff] at he
   obtain ⟨d, ⟨r, h1, h2⟩, rfl⟩ := he
   have e1 := q5H relC_v' hu (qw ha hx)
   refine Well.val ha (v := r) ?_ (q7b qad h2)
   rw [ho, e1]
   simp only [Sem.run_bind, q4J _ h1, Result.andThen_ok]
   rfl
  ·cases he
def aggV (i : TyI) (xs : List Value) (x : Value) : Prop := (i.sh.agg = true ∧ x = .agg xs.toArray) ∨ (i.sh.agg = false ∧ xs = [x])
theorem qba (hT : TabOK P T) {t : TypeId} {i : TyI} (hi : T t = some i) {xs : List Value} {o : Nat} (ho : o + i.size ≤ xs.length) (hs : i.sh.agg = false → i.size = 1) (w : World) : ∃ v, (part t xs.toArray o).run P w = .ok v w ∧ aggV i ((xs.drop o).take i.size) v := by
 have h1 := (hT t i hi).isAgg w
 have h2 := (hT t i hi).sizeOf w
 cases hg : i.sh.agg with
 | true =>
  rw [hg] at h1
  exact ⟨.agg ((xs.drop o).take i.size).toArray, by simp [part, h1, h2], Or.inl ⟨hg, rfl⟩⟩
 | false =>
  rw [hg] at h1
  have h3 := hs hg
  have hlt : o < xs.length := by omega
  refine ⟨xs[o], by simp [part, h1, hlt], Or.inr ⟨hg, ?_⟩⟩
  rw [h3, List.drop_eq_getElem_cons hlt]
  rfl
theorem qjl (hT : TabOK P T) {d : Nat} {rec : TypeId → List Value → List Value → Option Bool} (hr : ∀ {t : TypeId} {i : TyI} {xs ys : List Value} {b : Bool} {x y : Value}, T t = some i → rec t xs ys = some b → aggV i xs x → aggV i ys y → ∀ w, (Op.equalIn d t x y).run P w = .ok b w) {xs ys : List Value} :
  ∀ {F : List Field} {b : Bool}, eqFs rec T xs ys (F.map fun f => (f.offset, f.type)) = some b → F.all (fun f => f.name != "_") = true → ∀ w, (Op.eqFields d xs.toArray ys.toArray F).run P w = .ok b w
 | [], b, h, _, w => by
  simp only [List.map_nil, eqFs, Option.some.injEq] at h
  subst h; rfl
 | f :: F, b, h, hn, w => by
  simp only [List.all_cons, Bool.and_eq_true, bne_iff_ne, ne_eq] at hn
  simp only [List.map_cons, eqFs] at h
  split at h
  ·rename_i i hi
   cases hq : (Nat.ble (f.offset + i.size) xs.length && Nat.ble (f.offset + i.size) ys.length && (i.sh.agg || Nat.beq i.size 1)) with
   | false => rw [hq] at h; cases h
   | true =>
    rw [hq] at h
    simp only [Bool.not_true, cond_false] at h
    simp only [Bool.and_eq_true, Bool.or_eq_true] at hq
    have hs : i.sh.agg = false → i.size = 1 := fun e => by
     rcases hq.2 with h1 | h1
     ·rw [e] at h1; cases h1
     ·exact Nat.eq_of_beq_eq_true h1
    split at h
    ·rename_i b1 b2 h1 h2
     cases h
     obtain ⟨u, r1, a1⟩ := qba (P := P) hT hi (Nat.le_of_ble_eq_true hq.1.1) hs w
     obtain ⟨v, r2, a2⟩ := qba (P := P) hT hi (Nat.le_of_ble_eq_true hq.1.2) hs w
     have r3 := hr hi h1 a1 a2 w
     have r4 := qjl hT hr h2 hn.2 w
     simp only [Op.eqFields, if_pos hn.1, Sem.run_bind, r1, r2, r3, Result.andThen_ok]
     cases b1 with
     | false => simp
     | true => simpa using r4
    ·cases h
  ·cases h
theorem qjm (hT : TabOK P T) {d : Nat} {e : TypeId} {ei : TyI} (hei : T e = some ei) {rec : List Value → List Value → Option Bool} (hr : ∀ {xs ys : List Value} {b : Bool} {x y : Value}, rec xs ys = some b → aggV ei xs x → aggV ei ys y → ∀ w, (Op.equalIn d e x y).run P w = .ok b w) {xs ys : List Value} (hs : ei.sh.agg = false → ei.size = 1) :
  ∀ {n k : Nat} {b : Bool}, eqEs rec ei.size xs ys n k = some b → (k + n) * ei.size ≤ xs.length → (k + n) * ei.size ≤ ys.length → ∀ w,
   (do
    let r ← forIn (List.range' k n 1) ((none, ()) : Option Bool × Unit) fun i r => do
     let a ← part e xs.toArray (i * ei.size)
     let c ← part e ys.toArray (i * ei.size)
     let q ← Op.equalIn d e a c
     if (!q) = true then pure (ForInStep.done (some false, ())) else pure (ForInStep.yield (none, ()))
    match r.fst with
     | some a => pure a
     | none => pure true : Sem Bool).run P w = .ok b w
 | 0, k, b, h, _, _, w => by
  simp only [eqEs, Option.some.injEq] at h
  subst h; simp
 | n + 1, k, b, h, h1, h2, w => by
  simp only [eqEs] at h
  split at h
  ·rename_i b1 b2 g1 g2
   cases h
   have hk : k * ei.size + ei.size ≤ (k + (n + 1)) * ei.size := by rw [← Nat.succ_mul]; exact Nat.mul_le_mul_right _ (by omega)
   obtain ⟨u, r1, a1⟩ := qba (P := P) hT hei (xs := xs) (o := k * ei.size) (by omega) hs w
   obtain ⟨v, r2, a2⟩ := qba (P := P) hT hei (xs := ys) (o := k * ei.size) (by omega) hs w
   have r3 := hr g1 a1 a2 w
   have r4 := qjm hT hei hr hs g2 (by rw [show k + 1 + n = k + (n + 1) by omega]; exact h1) (by rw [show k + 1 + n = k + (n + 1) by omega]; exact h2) w
   rw [List.range'_succ, List.forIn_cons]
   simp only [bind_assoc, Sem.run_bind, r1, r2, r3, Result.andThen_ok]
   cases b1 with
   | false => simp
   | true => simpa using r4
  ·cases h
theorem qhj (hT : TabOK P T) : ∀ (d : Nat) {t : TypeId} {i : TyI} {xs ys : List Value} {b : Bool} {x y : Value}, T t = some i → eqV T d t xs ys = some b → aggV i xs x → aggV i ys y → ∀ w, (Op.equalIn d t x y).run P w = .ok b w
 | 0, t, i, xs, ys, b, x, y, hi, h, _, _, w => by simp [eqV] at h
 | d + 1, t, i, xs, ys, b, x, y, hi, h, hx, hy, w => by
  obtain ⟨D, hu, hD⟩ := (hT t i hi).desc
  unfold eqV at h
  rw [hi] at h
  simp only at h
  have one : ∀ {v z : Value}, i.sh.agg = false → aggV i [v] z → z = v := by
   intro v z e h
   rcases h with ⟨h1, _⟩ | ⟨_, h2⟩
   ·rw [e] at h1; cases h1
   ·cases h2; rfl
  have agg : ∀ {l : List Value} {z : Value}, i.sh.agg = true → aggV i l z → z = .agg l.toArray := by
   intro l z e h
   rcases h with ⟨_, h1⟩ | ⟨h1, _⟩
   ·exact h1
   ·rw [e] at h1; cases h1
  split at h
  ·rename_i k hsh
   have hag : i.sh.agg = false := by rw [hsh]; rfl
   split at h
   ·have hx := one hag hx
    have hy := one hag hy
    rename_i k1 a1 k2 a2 _ _
    subst hx; subst hy
    cases hq : decide (k1 = k2) with
    | false => rw [hq] at h; cases h
    | true =>
     rw [hq] at h; cases h
     obtain rfl := of_decide_eq_true hq
     rw [hsh] at hD
     cases D <;> first | (cases hD; done) | skip
     simp [Op.equalIn, run_underlying hu]
   ·cases h
  ·rename_i hsh
   have hag : i.sh.agg = false := by rw [hsh]; rfl
   split at h
   ·have hx := one hag hx
    have hy := one hag hy
    subst hx; subst hy
    cases h
    rw [hsh] at hD
    cases D <;> first | (cases hD; done) | skip
    simp [Op.equalIn, run_underlying hu]
   ·cases h
  ·rename_i hsh
   have hag : i.sh.agg = false := by rw [hsh]; rfl
   split at h
   ·have hx := one hag hx
    have hy := one hag hy
    subst hx; subst hy
    cases h
    rw [hsh] at hD
    cases D <;> first | (cases hD; done) | skip
    simp [Op.equalIn, run_underlying hu]
   ·cases h
  ·rename_i fs hsh
   have hag : i.sh.agg = true := by rw [hsh]; rfl
   have hx := agg hag hx
   have hy := agg hag hy
   subst hx; subst hy
   cases hq : (i.eqok && Nat.beq xs.length i.size && Nat.beq ys.length i.size) with
   | false => rw [hq] at h; cases h
   | true =>
    rw [hq] at h
    simp only [Bool.and_eq_true] at hq
    obtain ⟨e1, e2, e3⟩ := (hT t i hi).eq hq.1.1
    obtain ⟨F, hF, hfs⟩ := (hT t i hi).strct hsh
    have hfo : P.fieldsOf t = F := by unfold Program.fieldsOf; rw [hF]
    rw [run_equalIn_agg w d t _ _ (by rw [hfo]; exact hF) e1, hfo]
    rw [hfo] at e3
    rw [← hfs] at h
    exact qjl hT (fun h1 h2 h3 h4 w => qhj hT d h1 h2 h3 h4 w) h e3 w
  ·rename_i n e hsh
   have hag : i.sh.agg = true := by rw [hsh]; rfl
   have hx := agg hag hx
   have hy := agg hag hy
   subst hx; subst hy
   split at h
   ·rename_i ei hei
    cases hq : (Nat.beq xs.length (n * ei.size) && Nat.beq ys.length (n * ei.size) && (ei.sh.agg || Nat.beq ei.size 1)) with
    | false => rw [hq] at h; cases h
    | true =>
     rw [hq] at h
     simp only [Bool.and_eq_true, Bool.or_eq_true] at hq
     have hs : ei.sh.agg = false → ei.size = 1 := fun e => by
      rcases hq.2 with h1 | h1
      ·rw [e] at h1; cases h1
      ·exact Nat.eq_of_beq_eq_true h1
     have l1 := Nat.eq_of_beq_eq_true hq.1.1
     have l2 := Nat.eq_of_beq_eq_true hq.1.2
     have h1 := (hT t i hi).arr hsh
     have h2 := (hT e ei hei).sizeOf w
     have h3 := qjm hT hei (fun h1 h2 h3 w => qhj hT d hei h1 h2 h3 w) hs (n := n) (k := 0) h (by rw [Nat.zero_add]; omega) (by rw [Nat.zero_add]; omega) w
     simp only [Op.equalIn, Sem.run_bind, run_underlying h1, Result.andThen_ok, h2]
     rw [Std.Legacy.Range.forIn_eq_forIn_range']
     simp [Std.Legacy.Range.size] at h3 ⊢
     rw [← h3]
     congr 1
     funext q w2
     obtain ⟨q1, q2⟩ := q
     cases q1 <;> rfl
   ·cases h
  ·cases h
theorem eqE_sound (hT : TabOK P T) (ha : Abs w0 N0 Z M st a w) {op : BinOp} {t yt : TypeId} {x y : Operand} (ho : o.op = .binOp op t x y yt) {e : Eff} (he : eqE T op t (opv st x) (opv st y) = some e) : Well P w0 N0 Z o a w (st.app o.dst e) := by
 unfold eqE at he
 split at he
 ·rename_i l m hx hy
  split at he
  ·rename_i xs ys i h1 h2 hi
   cases hq : (i.eqok && i.sh.agg) with
   | false => rw [hq] at he; cases he
   | true =>
    rw [hq] at he
    simp only [cond_true, Option.bind_eq_some_iff] at he
    obtain ⟨b, hb, he⟩ := he
    obtain ⟨us, e1, e2⟩ := qw ha hx
    obtain ⟨vs, e3, e4⟩ := qw ha hy
    rw [qb9 relC_v' h1 e2] at e1
    rw [qb9 relC_v' h2 e4] at e3
    simp only [Bool.and_eq_true] at hq
    obtain ⟨_, g2, _⟩ := (hT t i hi).eq hq.1
    have hag : i.sh.agg = true := hq.2
    have hr := qhj hT 10000 hi hb (Or.inl ⟨hag, rfl⟩) (Or.inl ⟨hag, rfl⟩) w
    cases op <;> simp only [reduceCtorEq, Option.some.injEq] at he
    ·subst he
     refine Well.val ha (d := dB b) (v := .bool b) ?_ ⟨rfl, rfl⟩
     unfold execOp
     simp only [ho, e1, e3, Sem.run_bind, run_eqGuard_agg w _ t _ _ _ _ g2, Result.andThen_ok, run_eql_struct, hr, Sem.run_pure]
    ·subst he
     refine Well.val ha (d := dB (!b)) (v := .bool (!b)) ?_ ⟨rfl, rfl⟩
     unfold execOp
     simp only [ho, e1, e3, Sem.run_bind, run_eqGuard_agg w _ t _ _ _ _ g2, Result.andThen_ok, run_neq_struct, hr, Sem.run_pure]
  ·cases he
 ·cases he
end Go.Proofs.YtfadkjcfjkmalaaGreatDoor.Ev
namespace Go.Proofs.YtfadkjcfjkmalaaGreatDoor.Ev
open Go.RowKit
variable {w0 : World} {N0 : Nat → Prop} {Z : Pins} {P : Program} {T : Tab} {S : Sum} {forb : Nat → Bool} {M : Map} {st : DS} {a : Act} {w : World} {o : Oper}
theorem rd_at {k : Nat} {r : Row} (h : st.rd forb k = some r) : st.at k = some r := by
 unfold DS.rd at h
 cases e : forb k with
 | true => rw [e] at h; cases h
 | false => rw [e] at h; exact h
theorem well_pick (ha : Abs w0 N0 Z M st a w) {c x y : Operand} (ho : o.op = .pick c x y) {t : Bool} (hc : opv st c = some (.t (.c (.v (.bool t))))) {e : Eff} (he : pickE t (opv st x) (opv st y) = some e) (hp : e.pre) : Well P w0 N0 Z o a w (st.app o.dst e) := by
 have ec : a.eval c = .bool t := (qw ha hc).1
 have run : ∀ v, (if t then a.eval x else a.eval y) = v → (execOp a.eval o).run P w = .ok (.value v) w := by
  intro v hv
  unfold execOp
  simp only [ho, ec, asBool, Sem.run_bind, Sem.run_pure, Result.andThen_ok]
  rw [hv]
 unfold pickE at he
 split at he
 ·rename_i x' y' hx hy
  cases he
  have ex : a.eval x = .bool x' := (qw ha hx).1
  have ey : a.eval y = .bool y' := (qw ha hy).1
  exact Well.val ha (d := dB (bif t then x' else y')) (run (.bool (bif t then x' else y')) (by rw [ex, ey]; cases t <;> rfl)) ⟨rfl, rfl⟩
 ·rename_i d hx hy
  cases he
  exact Well.val ha (run _ (by rw [show t = true from hp]; rfl)) (qw ha hx)
 ·rename_i d hx hy
  cases he
  exact Well.val ha (run _ (by rw [show t = false from hp]; rfl)) (qw ha hy)
 ·cases he
theorem well_div (ha : Abs w0 N0 Z M st a w) {op : BinOp} {xt yt : TypeId} {x y : Operand} (ho : o.op = .binOp op xt x y yt) {e : Eff} (he : divE op (opv st x) (opv st y) = some e) (hp : e.pre) : Well P w0 N0 Z o a w (st.app o.dst e) := by
 unfold divE at he
 split at he
 ·rename_i k u k' v hx hy
  have ex : a.eval x = .int k u := (qw ha hx).1
  have ey : a.eval y = .int k' v := (qw ha hy).1
  split at he
  ·cases he
   obtain ⟨rfl, h0⟩ := hp
   refine Well.val ha (d := dInt k (k.wrap (u.tdiv v))) (v := .int k (k.wrap (u.tdiv v))) ?_ ⟨rfl, rfl⟩
   unfold execOp
   simp only [ho]
   rw [ex, ey]
   simp [go_sem, Op.intDiv, h0]
  ·cases he
   obtain ⟨rfl, h0⟩ := hp
   refine Well.val ha (d := dInt k (u.tmod v)) (v := .int k (u.tmod v)) ?_ ⟨rfl, rfl⟩
   unfold execOp
   simp only [ho]
   rw [ex, ey]
   simp [go_sem, Op.intDiv, h0]
  ·cases he
 ·cases he
theorem qm3 (ha : Abs w0 N0 Z M st a w) {op : BinOp} {xt yt : TypeId} {x y : Operand} (ho : o.op = .binOp op xt x y yt) {e : Eff} (he : shiftE op (opv st x) (opv st y) = some e) (hp : e.pre) : Well P w0 N0 Z o a w (st.app o.dst e) := by
 unfold shiftE at he
 split at he
 ·rename_i k u k' v hx hy
  have ex : a.eval x = .int k u := (qw ha hx).1
  have ey : a.eval y = .int k' v := (qw ha hy).1
  split at he
  ·cases he
   have h0 : 0 ≤ v := hp
   refine Well.val ha (d := dInt k (k.wrap (u * 2 ^ (min v.toNat k.bits)))) (v := .int k (k.wrap (u * 2 ^ (min v.toNat k.bits)))) ?_ ⟨rfl, rfl⟩
   unfold execOp
   simp only [ho]
   rw [ex, ey]
   simp [go_sem, Op.shift, show ¬ v < 0 by omega]
  ·cases he
   have h0 : 0 ≤ v := hp
   refine Well.val ha (d := dInt k (u.fdiv (2 ^ (min v.toNat k.bits)))) (v := .int k (u.fdiv (2 ^ (min v.toNat k.bits)))) ?_ ⟨rfl, rfl⟩
   unfold execOp
   simp only [ho]
   rw [ex, ey]
   simp [go_sem, Op.shift, show ¬ v < 0 by omega]
  ·cases he
 ·cases he
theorem qfQ (hT : TabOK P T) (ha : Abs w0 N0 Z M st a w) {t : TypeId} {c : List CV} {cs : List Value} (hrel : All2 (RelC w (fgn w0 N0 M) M) c cs) (hrun : (execOp a.eval o).run P w = .ok (.value (.pointer (some ⟨w.heap.size, 0, none⟩))) (w.alloc (.cells cs.toArray t))) {e : Eff} (he : q6l T st o.dst t c = some e) : Well P w0 N0 Z o a w (st.app o.dst e) := by
 unfold q6l at he
 cases hd : o.dst with
 | none => rw [hd] at he; cases he
 | some d =>
  rw [hd] at he
  simp only at he
  cases hat : st.at d with
  | some r => rw [hat] at he; cases he
  | none =>
   rw [hat] at he
   simp only at he
   cases hb : Nat.blt d st.h.length with
   | false => rw [hb] at he; cases he
   | true =>
    rw [hb] at he
    cases he
    have hlt : d < st.h.length := Nat.le_of_ble_eq_true hb
    obtain ⟨M', h⟩ := ha.newRow d (r := .box t c) (l := .box w.heap.size) (cs := cs.toArray) (ty := t) (x := .t (.c (.p d 0))) (v := .pointer (some ⟨w.heap.size, 0, none⟩)) hat hlt rfl rfl
     (fun M' h1 h2 => ⟨_, _, h1, heap_alloc_new w _, hrel.mono fun _ _ g => h2.relC g⟩) (fun M' h1 => ⟨_, h1, rfl⟩)
    exact .value _ M' _ hrun (by rw [hd]; exact h)
theorem well_box (hT : TabOK P T) (ha : Abs w0 N0 Z M st a w) {t : TypeId} {x : Operand} (ho : o.op = .box t x) {e : Eff} (he : (((opv st x).bind cellsOf).bind fun c => q6l T st o.dst t c) = some e) : Well P w0 N0 Z o a w (st.app o.dst e) := by
 simp only [Option.bind_eq_some_iff] at he
 obtain ⟨c, ⟨d, h1, h2⟩, h3⟩ := he
 refine qfQ hT ha (q4K (fun _ _ h => RelC.one h) h2 (qw ha h1)) ?_ h3
 unfold execOp
 simp only [ho, Instr.box, newVar, newRow, newObj, Sem.run_bind, Sem.run_pure, Result.andThen_ok, Sem.run]
 first | done | rfl
theorem qkI (hT : TabOK P T) (ha : Abs w0 N0 Z M st a w) {t : TypeId} (ho : o.op = .alloc t) {i : TyI} (hi : T t = some i) (h1 : q1P i.zero = true) {e : Eff} (he : q6l T st o.dst t (i.zero.map .v) = some e) : Well P w0 N0 Z o a w (st.app o.dst e) := by
 obtain ⟨z, hz, hzc⟩ := (hT t i hi).zeroValue w
 refine qfQ hT ha (cs := i.zero) (qcF qad h1) ?_ he
 unfold execOp
 simp only [ho, Instr.alloc, Sem.run_bind, hz, Result.andThen_ok, newVar, newRow, newObj, Sem.run_pure, Sem.run]
 rw [← hzc]
 simp
 try rfl
def VOk (P : Program) (w0 : World) (N0 : Nat → Prop) (M : Map) (o : Oper) (a : Act) (w : World) (e : Eff) : Prop := e.up = [] ∧ ∃ v, (execOp a.eval o).run P w = .ok (.value v) w ∧ RelD (RelC w (fgn w0 N0 M) M) e.v v
theorem VOk.well (ha : Abs w0 N0 Z M st a w) {e : Eff} (h : VOk P w0 N0 M o a w e) : Well P w0 N0 Z o a w (st.app o.dst e) := by
 obtain ⟨v, up, p⟩ := e
 obtain ⟨h1, u, h2, h3⟩ := h
 simp only at h1 h3
 subst h1
 exact Well.val ha h2 h3
theorem q2d (hT : TabOK P T) (ha : Abs w0 N0 Z M st a w) {t : TypeId} {x : Operand} (ho : o.op = .load t x) {i : TyI} (hi : T t = some i) {b off : Nat} (hx : a.eval x = .pointer (some ⟨b, off, none⟩)) {d : DV} {v : Value} (hr : RelD (RelC w (fgn w0 N0 M) M) d v)
  (h : (i.sh.agg = true ∧ ∃ vs : List Value, v = .agg vs.toArray ∧ vs.length = i.size ∧ ∀ j u, vs[j]? = some u → w.cell? ⟨b, off + j, none⟩ = some u) ∨ (i.sh.agg = false ∧ w.cell? ⟨b, off, none⟩ = some v)) {p : Option Prop} : VOk P w0 N0 M o a w ⟨d, [], p⟩ := by
 refine ⟨rfl, v, ?_, hr⟩
 have h1 := (hT t i hi).isAgg w
 have h2 := (hT t i hi).sizeOf w
 unfold execOp
 simp only [ho, hx]
 rcases h with ⟨g1, vs, g2, g3, g4⟩ | ⟨g1, g2⟩
 ·have h3 := run_loadCells_list (P := P) w ⟨b, off, none⟩ vs (fun j u hj => by rw [Addr.add_lit]; exact g4 j u hj)
  unfold loadCells at h3
  rw [g1] at h1
  rw [← g3] at h2
  simp [go_sem, h1, h2, h3, g2]
 ·rw [g1] at h1
  simp [go_sem, h1, g2]
theorem fwd_get (c : Nat → CV) : ∀ (n off j : Nat), (fwd c off n)[j]? = if j < n then some (c (off + j)) else none
 | 0, off, j => by simp [fwd]
 | n + 1, off, 0 => by simp [fwd]
 | n + 1, off, j + 1 => by
  simp only [fwd, List.getElem?_cons_succ, fwd_get c n (off + 1) j]
  by_cases h : j < n
  ·rw [if_pos h, if_pos (by omega)]; congr 2; omega
  ·rw [if_neg h, if_neg (by omega)]
theorem fwd_len (c : Nat → CV) : ∀ (n off : Nat), (fwd c off n).length = n
 | 0, off => rfl
 | n + 1, off => by simp [fwd, fwd_len c n]
theorem qeW {R : CV → Value → Prop} {c : Nat → CV} {f : Nat → Value} : ∀ (n off : Nat), (∀ j, j < n → R (c (off + j)) (f (off + j))) → All2 R (fwd c off n) ((List.range' off n).map f)
 | 0, off, _ => trivial
 | n + 1, off, h => ⟨by simpa using h 0 (by omega), qeW n (off + 1) fun j hj => by have := h (j + 1) (by omega); rwa [show off + (j + 1) = off + 1 + j by omega] at this⟩
theorem qeD (hT : TabOK P T) (ha : Abs w0 N0 Z M st a w) {t : TypeId} {x : Operand} (ho : o.op = .load t x) {i : TyI} (hi : T t = some i) {b off : Nat} (hx : a.eval x = .pointer (some ⟨b, off, none⟩)) {c : List CV} {cs : List Value} {o2 : Nat} (hc : All2 (RelC w (fgn w0 N0 M) M) c cs) (hcell : ∀ j u, cs[o2 + j]? = some u → w.cell? ⟨b, off + j, none⟩ = some u) {e : Eff} (he : q6k i c o2 = some e) : VOk P w0 N0 M o a w e := by
 unfold q6k at he
 cases hg : i.sh.agg with
 | true =>
  rw [hg] at he
  simp only [cond_true] at he
  cases hb : Nat.ble (o2 + i.size) c.length with
  | false => rw [hb] at he; cases he
  | true =>
   rw [hb] at he
   cases he
   have hle : o2 + i.size ≤ c.length := Nat.le_of_ble_eq_true hb
   have hlen := hc.length
   refine q2d hT ha ho hi hx (d := .t (.a (sub c o2 i.size))) (v := .agg ((cs.drop o2).take i.size).toArray) ⟨_, rfl, (hc.drop o2).take i.size⟩ (Or.inl ⟨hg, _, rfl, ?_, fun j u hj => ?_⟩)
   ·rw [List.length_take, List.length_drop]; omega
   ·rw [List.getElem?_take] at hj
    split at hj
    ·rw [List.getElem?_drop] at hj
     exact hcell j u hj
    ·cases hj
 | false =>
  rw [hg] at he
  simp only [cond_false, Option.map_eq_some_iff] at he
  obtain ⟨y, h1, rfl⟩ := he
  obtain ⟨u, h2, h3⟩ := hc.get h1
  exact q2d hT ha ho hi hx (d := .t (.c y)) (v := u) h3 (Or.inr ⟨hg, hcell 0 u (by simpa using h2)⟩)
theorem qkJ (hT : TabOK P T) (ha : Abs w0 N0 Z M st a w) {t : TypeId} {x : Operand} (ho : o.op = .load t x) {i : TyI} (hi : T t = some i) {b o1 off n : Nat} (hx : a.eval x = .pointer (some ⟨b, o1 + off, none⟩)) {c : Nat → CV} (hcell : ∀ j, j < n → ∃ u, w.cell? ⟨b, o1 + j, none⟩ = some u ∧ RelF w (fgn w0 N0 M) (c j) u) {e : Eff} (he : loadF i n c off = some e) : VOk P w0 N0 M o a w e := by
 unfold loadF at he
 cases hg : i.sh.agg with
 | true =>
  rw [hg] at he
  simp only [cond_true] at he
  cases hb : Nat.ble (off + i.size) n with
  | false => rw [hb] at he; cases he
  | true =>
   rw [hb] at he
   cases he
   have hle : off + i.size ≤ n := Nat.le_of_ble_eq_true hb
   let f : Nat → Value := fun j => (w.cell? ⟨b, o1 + j, none⟩).getD undef
   refine q2d hT ha ho hi hx (d := .t (.a (fwd c off i.size))) (v := .agg ((List.range' off i.size).map f).toArray) ⟨_, rfl, qeW _ _ fun j hj => ?_⟩ (Or.inl ⟨hg, _, rfl, by simp, fun j u hj => ?_⟩)
   ·obtain ⟨u, h1, h2⟩ := hcell (off + j) (by omega)
    have : f (off + j) = u := by simp only [f, h1]; rfl
    rw [this]; exact RelC.ofF h2
   ·by_cases hlt : j < i.size
    ·obtain ⟨u', h1, h2⟩ := hcell (off + j) (by omega)
     rw [List.getElem?_map, List.getElem?_eq_getElem (by simpa using hlt), List.getElem_range'] at hj
     simp only [Option.map_some, Option.some.injEq, Nat.one_mul] at hj
     rw [← hj, show o1 + off + j = o1 + (off + j) by omega, h1]
     simp only [f, h1]; rfl
    ·rw [List.getElem?_eq_none (by simpa using hlt)] at hj; cases hj
 | false =>
  rw [hg] at he
  simp only [cond_false] at he
  cases hb : Nat.blt off n with
  | false => rw [hb] at he; cases he
  | true =>
   rw [hb] at he
   cases he
   obtain ⟨u, h1, h2⟩ := hcell off (Nat.le_of_ble_eq_true hb)
   exact q2d hT ha ho hi hx (d := .t (.c (c off))) (v := u) (RelC.ofF h2) (Or.inr ⟨hg, h1⟩)
theorem q7c {α : Type} {sz : Nat} : ∀ {l : List (List α)} {i : Nat} {e : List α} {j : Nat}, (∀ e ∈ l, e.length = sz) → l[i]? = some e → j < sz → l.flatten[i * sz + j]? = e[j]?
 | [], i, e, j, _, h, _ => by simp at h
 | x :: l, 0, e, j, hl, h, hj => by
  simp at h; subst h
  have := hl x (by simp)
  rw [Nat.zero_mul, Nat.zero_add, List.flatten_cons, List.getElem?_append_left (by omega)]
 | x :: l, i + 1, e, j, hl, h, hj => by
  simp at h
  have h1 := hl x (by simp)
  rw [List.flatten_cons, List.getElem?_append_right (by rw [h1, Nat.succ_mul]; omega), h1, show (i + 1) * sz + j - sz = i * sz + j by rw [Nat.succ_mul]; omega]
  exact q7c (fun e he => hl e (by simp [he])) h hj
theorem qjn {base : Nat} {e : TypeId} {sz : Nat} {v : Value} {n : Nat} {xs : List Value} (h : w.ownsRow base e sz v n xs) {j : Nat} {u : Value} (hj : xs[j]? = some u) : ∃ b cap, v = .slice (some ⟨b, 0, none⟩) n cap ∧ w.cell? ⟨b, j, none⟩ = some u := by
 obtain ⟨h1, h2⟩ := h
 rcases h2 with ⟨rfl, h3⟩ | ⟨g, cap, cur, rfl, hb, hg, hn, hm, hs, ht⟩
 ·rw [h3, Nat.zero_mul] at h1
  rw [List.eq_nil_of_length_eq_zero h1] at hj; simp at hj
 ·refine ⟨g, cap, rfl, ?_⟩
  rw [cell_of_row w g j cur e (0, 0) hg]
  rw [← ht, List.getElem?_take] at hj
  split at hj
  ·simpa using hj
  ·cases hj
theorem qeE : ∀ {z : List Value} {c : Nat → CV} {off : Nat} {xs : List CV} {p : Prop}, q8S z c off = some (xs, p) → p → xs = fwd c off z.length
 | [], c, off, xs, p, h, _ => by simp only [q8S, Option.some.injEq, Prod.mk.injEq] at h; rw [← h.1]; rfl
 | z :: zs, c, off, xs, p, h, hp => by
  simp only [q8S] at h
  split at h
  ·rename_i x p1 xs' p2 h1 h2
   simp only [Option.some.injEq, Prod.mk.injEq] at h
   obtain ⟨rfl, rfl⟩ := h
   have e := qeE h2 hp.2
   have e1 : x = c off := by
    cases z <;> first | (simp only [qhT, Option.some.injEq, Prod.mk.injEq] at h1; obtain ⟨rfl, rfl⟩ := h1; exact hp.1.symm) | (simp [qhT] at h1; done)
   rw [e, e1]; rfl
  ·cases h
theorem qjo {l : List (List CV)} {j : Nat} {el : List CV} (h : l[j]? = some el) : ∀ (n off : Nat), off + n ≤ el.length → fwd (genC l j) off n = sub el off n
 | 0, off, _ => by simp [fwd, sub]
 | n + 1, off, hl => by
  have hlt : off < el.length := by omega
  have ih := qjo h n (off + 1) (by omega)
  unfold sub at ih ⊢
  rw [List.drop_eq_getElem_cons hlt, List.take_succ_cons, ← ih]
  simp only [fwd]
  congr 1
  simp [genC, List.getD, h, hlt]
theorem loadG_red {i : TyI} {sz j off : Nat} {l : List (List CV)} {e : Eff} (h : loadG i sz l j off = some e) (hp : e.pre) (hl : ∀ el ∈ l, el.length = sz) : ∃ el, l[j]? = some el ∧ q6k i el off = some (val e.v) ∧ e.up = [] := by
 unfold loadG at h
 split at h
 ·rename_i xs p hn
  cases hb : (Nat.ble (off + i.size) sz && Nat.beq i.zero.length i.size) with
  | false => rw [hb] at h; cases h
  | true =>
   rw [hb] at h
   simp only [cond_true] at h
   simp only [Bool.and_eq_true] at hb
   have b1 := Nat.le_of_ble_eq_true hb.1
   have b2 := Nat.eq_of_beq_eq_true hb.2
   have go : (j < l.length ∧ p) → ∃ el, l[j]? = some el ∧ xs = sub el off i.size ∧ off + i.size ≤ el.length := by
    rintro ⟨h1, h2⟩
    have e1 := hl l[j] (List.getElem_mem h1)
    refine ⟨l[j], List.getElem?_eq_getElem h1, ?_, by omega⟩
    rw [qeE hn h2, b2]
    exact qjo (List.getElem?_eq_getElem h1) _ _ (by omega)
   split at h
   ·rename_i xs' hag
    cases h
    obtain ⟨el, h1, h2, h3⟩ := go hp
    refine ⟨el, h1, ?_, rfl⟩
    unfold q6k
    rw [hag, cond_true, (Nat.ble_eq_true_of_le h3 : Nat.ble (off + i.size) el.length = true), cond_true, ← h2]
   ·rename_i x hag
    cases h
    obtain ⟨el, h1, h2, h3⟩ := go hp
    refine ⟨el, h1, ?_, rfl⟩
    have hs : i.size = 1 := by
     have := congrArg List.length h2
     simp only [sub, List.length_take, List.length_drop, List.length_singleton] at this
     omega
    have hlt : off < el.length := by omega
    unfold q6k
    rw [hag, cond_false]
    unfold sub at h2
    rw [hs, List.drop_eq_getElem_cons hlt] at h2
    simp only [List.take_succ_cons, List.take_zero, List.cons.injEq, and_true] at h2
    rw [List.getElem?_eq_getElem hlt, Option.map_some, h2]
   ·cases h
 ·simp only [Option.bind_eq_some_iff] at h
  obtain ⟨el, h1, h2⟩ := h
  have e2 : e = val e.v := by
   unfold q6k at h2
   cases hg : i.sh.agg with
   | true =>
    rw [hg, cond_true] at h2
    cases hb : Nat.ble (off + i.size) el.length with
    | false => rw [hb] at h2; cases h2
    | true => rw [hb] at h2; cases h2; rfl
   | false =>
    rw [hg, cond_false, Option.map_eq_some_iff] at h2
    obtain ⟨x, _, rfl⟩ := h2; rfl
  refine ⟨el, h1, by rw [h2]; exact congrArg some e2, by rw [e2]; rfl⟩
theorem load_ok (hT : TabOK P T) (ha : Abs w0 N0 Z M st a w) {t : TypeId} {x : Operand} (ho : o.op = .load t x) {e : Eff} (he : (opv st x).bind (qc0 T forb st t) = some e) (hp : e.pre) : VOk P w0 N0 M o a w e := by
 simp only [Option.bind_eq_some_iff] at he
 obtain ⟨d, hd, he⟩ := he
 have hx := qw ha hd
 unfold qc0 at he
 split at he
 ·rename_i i k off hi
  obtain ⟨b, hM, hv⟩ := hx
  split at he
  ·rename_i ty c hrow
   obtain ⟨b', cs, g1, g2, g3⟩ := ha.row k _ (rd_at hrow)
   rw [hM] at g1; cases g1
   exact qeD hT ha ho hi hv g3 (fun j u hj => by rw [cell_of_row w b (off + j) cs ty (0, 0) g2]; simpa using hj) he
  ·cases he
 ·rename_i i n off c hi
  obtain ⟨b, o1, hv, _, _, hc⟩ := hx
  exact qkJ hT ha ho hi hv hc he
 ·rename_i i k j sz off hi
  obtain ⟨b, n, cap, hM, hv⟩ := hx
  split at he
  ·rename_i ty sz' l hrow
   cases hq : Nat.beq sz sz' with
   | false => rw [hq] at he; cases he
   | true =>
    rw [hq] at he
    obtain rfl := Nat.eq_of_beq_eq_true hq
    simp only [cond_true] at he
    obtain ⟨v', xs, g1, g2, g3, g4⟩ := ha.row k _ (rd_at hrow)
    rw [hM] at g1; cases g1
    obtain ⟨el, hel, he, hup⟩ := loadG_red he hp g3
    have hsz : el.length = sz := g3 el (List.mem_of_getElem? hel)
    have hsub : All2 (RelC w (fgn w0 N0 M) M) el ((xs.drop (j * sz)).take sz) := by
     have h1 := (g4.drop (j * sz)).take sz
     have h2 : (l.flatten.drop (j * sz)).take sz = el := by
      apply List.ext_getElem?
      intro q
      rw [List.getElem?_take]
      split
      ·rename_i hq; rw [List.getElem?_drop, q7c g3 hel hq]
      ·rename_i hq; rw [List.getElem?_eq_none (by omega)]
     rw [h2] at h1
     exact h1.mono fun _ _ g => RelC.ofF g
    have fin := qeD hT ha ho hi hv hsub (fun q u hq => by
     rw [List.getElem?_take] at hq
     split at hq
     ·rw [List.getElem?_drop] at hq
      obtain ⟨b', cap', e1, e2⟩ := qjn g2 hq
      cases e1
      rw [← e2]; congr 2; omega
     ·cases hq) he
    exact ⟨hup, fin.2⟩
  ·rename_i ty kd l hrow
   cases hq : (Nat.beq sz 1 && Nat.beq off 0 && !i.sh.agg) with
   | false => rw [hq] at he; cases he
   | true =>
    rw [hq] at he
    cases he
    simp only [Bool.and_eq_true, Bool.not_eq_true'] at hq
    obtain ⟨⟨q1, q2⟩, q3⟩ := hq
    obtain rfl := Nat.eq_of_beq_eq_true q1
    obtain rfl := Nat.eq_of_beq_eq_true q2
    obtain ⟨v', g1, g2⟩ := ha.row k _ (rd_at hrow)
    rw [hM] at g1; cases g1
    have hj : j < l.length := hp
    obtain ⟨b', cap', e1, e2⟩ := qjn g2 (j := j) (u := .int kd (l.getD j 0)) (by simp [List.getElem?_map, hj])
    cases e1
    exact q2d hT ha ho hi hv (d := dInt kd (l.getD j 0)) (v := .int kd (l.getD j 0)) ⟨rfl, rfl⟩ (Or.inr ⟨q3, by rw [← e2]; congr 2; omega⟩)
  ·cases he
 ·cases he
theorem well_load (hT : TabOK P T) (ha : Abs w0 N0 Z M st a w) {t : TypeId} {x : Operand} (ho : o.op = .load t x) {e : Eff} (he : (opv st x).bind (qc0 T forb st t) = some e) (hp : e.pre) : Well P w0 N0 Z o a w (st.app o.dst e) :=
 (load_ok hT ha ho he hp).well ha
end Go.Proofs.YtfadkjcfjkmalaaGreatDoor.Ev
