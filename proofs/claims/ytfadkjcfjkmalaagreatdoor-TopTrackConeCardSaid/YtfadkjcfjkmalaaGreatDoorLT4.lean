/- Texts of this claim, together. -/
import Derived.Test.YtfadkjcfjkmalaaGreatDoorLT3
import Derived.LoopN
import Derived.RangeFuncWrites
import Derived.RangeFuncLeaves

set_option maxRecDepth 100000
set_option linter.unusedVariables false
set_option linter.unusedSimpArgs false
namespace Go.Proofs.YtfadkjcfjkmalaaGreatDoor.Ev
open Go.RowKit
variable {w0 : World} {N0 : Nat → Prop} {Z : Pins} {P : Program} {T : Tab} {S : Sum} {M : Map} {a : Act} {w : World}
structure Hd where
 keepT : List Nat
 keepH : List Nat
 accs : List (Nat × Row)
def refC : CV → Option Nat
 | .os k | .p k _ | .pe k _ _ _ | .ob k _ _ _ => some k
 | _ => none
def okC (keep : List Nat) (x : CV) : Bool := match refC x with
 | some k => memN k keep
 | none => true
def okCs (keep : List Nat) : List CV → Bool
 | [] => true
 | x :: l => okC keep x && okCs keep l
def okT (keep : List Nat) : TV → Bool
 | .c x => okC keep x
 | .a l => okCs keep l
 | .fn _ l => okCs keep l
 | .fb _ l => okCs keep l
def okTs (keep : List Nat) : List TV → Bool
 | [] => true
 | x :: l => okT keep x && okTs keep l
def okD (keep : List Nat) : DV → Bool
 | .t x => okT keep x
 | .tu l => okTs keep l
def okR (keep : List Nat) : Row → Bool
 | .box _ c => okCs keep c
 | _ => true
def q4U (st : DS) (i : Nat) : Option (Option Nat) := match st.tm i with
 | some (.t (.c (.os k))) => some (some k)
 | some (.t (.c (.v (.slice none 0 0)))) => some none
 | _ => none
def qh7 : Row → Bool
 | .gen _ _ [] => true
 | .num _ _ [] => true
 | _ => false
def sliR : Row → Bool
 | .gen _ _ _ => true
 | .num _ _ _ => true
 | _ => false
def q8W (st : DS) (i : Nat) (proto : Row) : Option Row := match q4U st i with
 | some (some k) => (st.at k).bind fun r => bif sliR r then some r else none
 | some none => bif qh7 proto then some proto else none
 | none => none
def qdE (st : DS) (keepH : List Nat) : List Nat → List (Nat × Row) → Bool
 | _, [] => true
 | seen, (i, r) :: l => (match q4U st i with
  | some (some k) => !memN k seen && !memN k keepH
  | some none => true
  | none => false) && !memN i keepH && Nat.blt i st.t.length && Nat.blt i st.h.length && qdE st keepH ((match q4U st i with | some (some k) => [k] | _ => []) ++ seen) l
def q1E (i : Nat) : List (Nat × Row) → Option Row
 | [] => none
 | (j, r) :: l => bif Nat.beq i j then some r else q1E i l
def q7g (st : DS) (hd : Hd) : Nat → List (Option DV) → List (Option DV)
 | _, [] => []
 | i, x :: l => (match q1E i hd.accs with
  | some _ => some (.t (.c (.os i)))
  | none => bif memN i hd.keepT then x else none) :: q7g st hd (i + 1) l
def q9F (st : DS) (hd : Hd) : Nat → List (Option Row) → List (Option Row)
 | _, [] => []
 | i, x :: l => (match q1E i hd.accs with
  | some r => q8W st i r
  | none => bif memN i hd.keepH then x else none) :: q9F st hd (i + 1) l
def allT (st : DS) (keepH : List Nat) : List Nat → Bool
 | [] => true
 | i :: l => (match st.tm i with | some d => okD keepH d | none => true) && allT st keepH l
def allH (st : DS) (keepH : List Nat) : List Nat → Bool
 | [] => true
 | k :: l => (match st.at k with | some r => okR keepH r | none => true) && allH st keepH l
def allA (st : DS) : List (Nat × Row) → Bool
 | [] => true
 | (i, r) :: l => (q8W st i r).isSome && allA st l
def tidy (hd : Hd) (st : DS) : Option DS :=
 bif qdE st hd.keepH [] hd.accs && allT st hd.keepH hd.keepT && allH st hd.keepH hd.keepH && allA st hd.accs then some ⟨q7g st hd 0 st.t, q9F st hd 0 st.h⟩ else none
theorem qcL : ∀ {l : List Nat} {i : Nat}, i ∈ l → memN i l = true
 | x :: l, i, h => by
  simp only [memN, Bool.or_eq_true]
  rcases List.mem_cons.1 h with rfl | h
  ·exact Or.inl (Nat.beq_refl _)
  ·exact Or.inr (qcL h)
theorem qih (st : DS) (hd : Hd) : ∀ (l : List (Option DV)) (k i : Nat), ((q7g st hd k l)[i]?).join = if i < l.length then (match q1E (k + i) hd.accs with | some _ => some (.t (.c (.os (k + i)))) | none => bif memN (k + i) hd.keepT then (l[i]?).join else none) else none
 | [], k, i => by simp [q7g]
 | x :: l, k, 0 => by
  simp only [q7g, List.getElem?_cons_zero, Nat.add_zero, List.length_cons, Nat.zero_lt_succ, if_true]
  split <;> simp
 | x :: l, k, i + 1 => by
  simp only [q7g, List.getElem?_cons_succ, qih st hd l (k + 1) i, List.length_cons, Nat.add_lt_add_iff_right]
  rw [show k + 1 + i = k + (i + 1) by omega]
theorem qii (st : DS) (hd : Hd) : ∀ (l : List (Option DV)) (k : Nat), (q7g st hd k l).length = l.length
 | [], k => rfl
 | x :: l, k => by simp [q7g, qii st hd l]
theorem qij (st : DS) (hd : Hd) : ∀ (l : List (Option Row)) (k i : Nat), ((q9F st hd k l)[i]?).join = if i < l.length then (match q1E (k + i) hd.accs with | some r => q8W st (k + i) r | none => bif memN (k + i) hd.keepH then (l[i]?).join else none) else none
 | [], k, i => by simp [q9F]
 | x :: l, k, 0 => by
  simp only [q9F, List.getElem?_cons_zero, Nat.add_zero, List.length_cons, Nat.zero_lt_succ, if_true]
  split <;> simp
 | x :: l, k, i + 1 => by
  simp only [q9F, List.getElem?_cons_succ, qij st hd l (k + 1) i, List.length_cons, Nat.add_lt_add_iff_right]
  rw [show k + 1 + i = k + (i + 1) by omega]
theorem q2e : ∀ {l : List (Nat × Row)} {i : Nat} {r : Row}, q1E i l = some r → (i, r) ∈ l
 | [], i, r, h => by simp [q1E] at h
 | (j, r') :: l, i, r, h => by
  simp only [q1E] at h
  cases e : Nat.beq i j with
  | true =>
   rw [e] at h
   simp only [cond_true, Option.some.injEq] at h
   rw [Nat.eq_of_beq_eq_true e, h]; simp
  | false =>
   rw [e] at h
   exact List.mem_cons_of_mem _ (q2e h)
theorem qik {st : DS} {keepH : List Nat} : ∀ {l : List (Nat × Row)} {seen : List Nat}, qdE st keepH seen l = true →
  (∀ i r, (i, r) ∈ l → i ∉ keepH ∧ i < st.t.length ∧ i < st.h.length ∧ ∃ s, q4U st i = some s ∧ ∀ k, s = some k → k ∉ keepH ∧ k ∉ seen) ∧
  ∀ i r j r' k, (i, r) ∈ l → (j, r') ∈ l → q4U st i = some (some k) → q4U st j = some (some k) → i = j
 | [], seen, _ => ⟨fun i r h => by simp at h, fun i r j r' k h => by simp at h⟩
 | (i, r) :: l, seen, h => by
  simp only [qdE, Bool.and_eq_true] at h
  obtain ⟨⟨⟨⟨h1, h2⟩, h3⟩, h4⟩, h5⟩ := h
  obtain ⟨g1, g2⟩ := qik h5
  have hi : i ∉ keepH := q6B (by simpa using h2)
  have hs : ∃ s, q4U st i = some s ∧ ∀ k, s = some k → k ∉ keepH ∧ k ∉ seen := by
   cases e : q4U st i with
   | none => rw [e] at h1; cases h1
   | some s =>
    refine ⟨s, rfl, fun k hk => ?_⟩
    subst hk
    rw [e] at h1
    simp only [Bool.and_eq_true, Bool.not_eq_true'] at h1
    exact ⟨q6B h1.2, q6B h1.1⟩
  refine ⟨fun j r' hj => ?_, fun j r1 j' r2 k hj hj' e1 e2 => ?_⟩
  ·rcases List.mem_cons.1 hj with e | hj
   ·cases e
    exact ⟨hi, Nat.le_of_ble_eq_true h3, Nat.le_of_ble_eq_true h4, hs⟩
   ·obtain ⟨q1, q2, q3, s, q4, q5⟩ := g1 j r' hj
    exact ⟨q1, q2, q3, s, q4, fun k hk => ⟨(q5 k hk).1, fun hm => (q5 k hk).2 (List.mem_append_right _ hm)⟩⟩
  ·rcases List.mem_cons.1 hj with e | hj
   ·cases e
    rcases List.mem_cons.1 hj' with e' | hj'
    ·cases e'; rfl
    ·exfalso
     obtain ⟨_, _, _, s, q4, q5⟩ := g1 j' r2 hj'
     rw [e2] at q4; cases q4
     refine (q5 k rfl).2 (List.mem_append_left _ ?_)
     rw [e1]; simp
   ·rcases List.mem_cons.1 hj' with e' | hj'
    ·cases e'
     exfalso
     obtain ⟨_, _, _, s, q4, q5⟩ := g1 j r1 hj
     rw [e1] at q4; cases q4
     refine (q5 k rfl).2 (List.mem_append_left _ ?_)
     rw [e2]; simp
    ·exact g2 j r1 j' r2 k hj hj' e1 e2
def q2v (st : DS) (hd : Hd) (M : Map) : Map := fun k =>
 match q1E k hd.accs with
 | some _ => match q4U st k with
  | some (some j) => M j
  | some none => some (.row (.slice none 0 0))
  | none => none
 | none => bif memN k hd.keepH then M k else none
theorem okC_rel {M' : Map} {N N' : Nat → Prop} {keep : List Nat} (hN : ∀ b, N b → N' b) (hM : ∀ k, k ∈ keep → M' k = M k) : ∀ {x : CV} {v : Value}, okC keep x = true → RelC w N M x v → RelC w N' M' x v
 | .v x, v, _, g => g
 | .sl sz n c, v, _, g => RelF.all (x := .sl sz n c) g hN
 | .px n off c, v, _, g => RelF.all (x := .px n off c) g hN
 | .er b, v, _, g => RelF.all (w := w) (x := .er b) g hN
 | .any, v, _, g => RelF.all (w := w) (x := .any) g hN
 | .os k, v, h, g => ⟨by rw [hM k (q1d h)]; exact g.1, g.2⟩
 | .p k off, v, h, g => by obtain ⟨b, g1, g2⟩ := g; exact ⟨b, by rw [hM k (q1d h)]; exact g1, g2⟩
 | .pe k i sz off, v, h, g => by obtain ⟨b, n, cap, g1, g2⟩ := g; exact ⟨b, n, cap, by rw [hM k (q1d h)]; exact g1, g2⟩
 | .ob k off sz n, v, h, g => by
  rcases g with ⟨b, cap, g1, g2⟩ | ⟨b, c, o, cap, g1, g2⟩
  ·exact Or.inl ⟨b, cap, by rw [hM k (q1d h)]; exact g1, g2⟩
  ·exact Or.inr ⟨b, c, o, cap, by rw [hM k (q1d h)]; exact g1, g2⟩
theorem q8n {M' : Map} {N N' : Nat → Prop} {keep : List Nat} (hN : ∀ b, N b → N' b) (hM : ∀ k, k ∈ keep → M' k = M k) : ∀ {l : List CV} {vs : List Value}, okCs keep l = true → All2 (RelC w N M) l vs → All2 (RelC w N' M') l vs
 | [], [], _, _ => trivial
 | x :: l, v :: vs, h, g => by
  simp only [okCs, Bool.and_eq_true] at h
  exact ⟨okC_rel hN hM h.1 g.1, q8n hN hM h.2 g.2⟩
 | [], _ :: _, _, g => g.elim
 | _ :: _, [], _, g => g.elim
theorem okT_rel {M' : Map} {N N' : Nat → Prop} {keep : List Nat} (hN : ∀ b, N b → N' b) (hM : ∀ k, k ∈ keep → M' k = M k) {x : TV} {v : Value} (h : okT keep x = true) (g : RelT (RelC w N M) x v) : RelT (RelC w N' M') x v := by
 cases x with
 | c x => exact okC_rel hN hM h g
 | a l => obtain ⟨vs, e, g⟩ := g; exact ⟨vs, e, q8n hN hM h g⟩
 | fn f l => obtain ⟨vs, e, g⟩ := g; exact ⟨vs, e, q8n hN hM h g⟩
 | fb f l => obtain ⟨vs, e, g⟩ := g; exact ⟨vs, e, q8n hN hM h g⟩
theorem qjB {M' : Map} {N N' : Nat → Prop} {keep : List Nat} (hN : ∀ b, N b → N' b) (hM : ∀ k, k ∈ keep → M' k = M k) : ∀ {l : List TV} {vs : List Value}, okTs keep l = true → All2 (RelT (RelC w N M)) l vs → All2 (RelT (RelC w N' M')) l vs
 | [], [], _, _ => trivial
 | x :: l, v :: vs, h, g => by
  simp only [okTs, Bool.and_eq_true] at h
  exact ⟨okT_rel hN hM h.1 g.1, qjB hN hM h.2 g.2⟩
 | [], _ :: _, _, g => g.elim
 | _ :: _, [], _, g => g.elim
theorem okD_rel {M' : Map} {N N' : Nat → Prop} {keep : List Nat} (hN : ∀ b, N b → N' b) (hM : ∀ k, k ∈ keep → M' k = M k) {x : DV} {v : Value} (h : okD keep x = true) (g : RelD (RelC w N M) x v) : RelD (RelC w N' M') x v := by
 cases x with
 | t x => exact okT_rel hN hM h g
 | tu l => obtain ⟨vs, e, g⟩ := g; exact ⟨vs, e, qjB hN hM h g⟩
theorem qjC {st : DS} {keepH : List Nat} : ∀ {l : List Nat}, allT st keepH l = true → ∀ i ∈ l, ∀ d, st.tm i = some d → okD keepH d = true
 | [], _, i, hi, _, _ => by simp at hi
 | j :: l, h, i, hi, d, hd => by
  simp only [allT, Bool.and_eq_true] at h
  rcases List.mem_cons.1 hi with rfl | hi
  ·rw [hd] at h; exact h.1
  ·exact qjC h.2 i hi d hd
theorem qjD {st : DS} {keepH : List Nat} : ∀ {l : List Nat}, allH st keepH l = true → ∀ i ∈ l, ∀ d, st.at i = some d → okR keepH d = true
 | [], _, i, hi, _, _ => by simp at hi
 | j :: l, h, i, hi, d, hd => by
  simp only [allH, Bool.and_eq_true] at h
  rcases List.mem_cons.1 hi with rfl | hi
  ·rw [hd] at h; exact h.1
  ·exact qjD h.2 i hi d hd
theorem qjE {st : DS} : ∀ {l : List (Nat × Row)}, allA st l = true → ∀ i r, (i, r) ∈ l → ∃ r', q8W st i r = some r'
 | [], _, i, r, hi => by simp at hi
 | (j, r') :: l, h, i, r, hi => by
  simp only [allA, Bool.and_eq_true] at h
  rcases List.mem_cons.1 hi with e | hi
  ·cases e; exact Option.isSome_iff_exists.1 h.1
  ·exact qjE h.2 i r hi
theorem Abs.tidy {hd : Hd} {st st' : DS} (ha : Abs w0 N0 Z M st a w) (hkp : ∀ k l, Z.key k = some l → k ∈ hd.keepH) (h : tidy hd st = some st') : ∃ M', Abs w0 N0 Z M' st' a w := by
 unfold Ev.tidy at h
 cases hq : (qdE st hd.keepH [] hd.accs && allT st hd.keepH hd.keepT && allH st hd.keepH hd.keepH && allA st hd.accs) with
 | false => rw [hq] at h; cases h
 | true =>
 rw [hq] at h
 cases h
 simp only [Bool.and_eq_true] at hq
 obtain ⟨⟨⟨q1, q2⟩, q3⟩, q4⟩ := hq
 obtain ⟨s1, s2⟩ := qik q1
 have hT := qjC q2
 have hH := qjD q3
 have hA := qjE q4
 have hMk : ∀ k, k ∈ hd.keepH → q2v st hd M k = M k := by
  intro k hk
  unfold q2v
  cases e : q1E k hd.accs with
  | some r => exact ((s1 k r (q2e e)).1 hk).elim
  | none => simp only [qcL hk, cond_true]
 have hMM : ∀ k l, q2v st hd M k = some l → l.block = none ∨ ∃ j, M j = some l ∧ ((∃ r, q1E k hd.accs = some r ∧ q4U st k = some (some j)) ∨ (q1E k hd.accs = none ∧ k ∈ hd.keepH ∧ j = k)) := by
  intro k l h
  unfold q2v at h
  cases e : q1E k hd.accs with
  | some r =>
   rw [e] at h
   simp only at h
   split at h
   ·rename_i j hj; exact Or.inr ⟨j, h, Or.inl ⟨r, rfl, hj⟩⟩
   ·cases h; exact Or.inl rfl
   ·cases h
  | none =>
   rw [e] at h
   simp only at h
   cases e2 : memN k hd.keepH with
   | true => rw [e2] at h; exact Or.inr ⟨k, h, Or.inr ⟨rfl, q1d e2, rfl⟩⟩
   | false => rw [e2] at h; cases h
 have hN : ∀ b, fgn w0 N0 M b → fgn w0 N0 (q2v st hd M) b := by
  intro b hb
  refine ⟨hb.1, fun k l h1 h2 => ?_⟩
  rcases hMM k l h1 with h | ⟨j, h, _⟩
  ·rw [h] at h2; cases h2
  ·exact hb.2 j l h h2
 have hnn : ∀ b, nown M b → nown (q2v st hd M) b := by
  intro b hb k l h1 h2
  rcases hMM k l h1 with h | ⟨j, h, _⟩
  ·rw [h] at h2; cases h2
  ·exact hb j l h h2
 have hat : ∀ k, (⟨q7g st hd 0 st.t, q9F st hd 0 st.h⟩ : DS).at k = if k < st.h.length then (match q1E k hd.accs with | some r => q8W st k r | none => bif memN k hd.keepH then st.at k else none) else none := by
  intro k
  unfold DS.at
  rw [qij]
  simp only [Nat.zero_add]
 have hsl : ∀ {r : Row}, sliR r = true → ∀ {k k' : Nat}, q2v st hd M k' = M k → RelR w w0.heap.size (fgn w0 N0 M) M k r → RelR w w0.heap.size (fgn w0 N0 (q2v st hd M)) (q2v st hd M) k' r := by
  intro r hr k k' hk g
  cases r with
  | box _ _ => cases hr
  | dead => cases hr
  | gen ty sz l => obtain ⟨v, xs, g1, g2, g3, g4⟩ := g; exact ⟨v, xs, hk.trans g1, g2, g3, g4.mono fun _ _ g => g.all hN⟩
  | num ty kd l => obtain ⟨v, g1, g2⟩ := g; exact ⟨v, hk.trans g1, g2⟩
 refine ⟨q2v st hd M, ⟨ha.below, by simp [qii, ha.fits], ha.defs.mono fun b h1 _ => ⟨rfl, hnn b h1⟩, fun i dv h => ?_, fun k r h => ?_, fun k h => ?_, fun k l b h1 h2 => ?_, fun k k' r r' l l' b h1 h2 h3 h4 h5 h6 h7 h8 => ?_, fun b o h => ⟨(ha.pinB b o h).1, hnn b (ha.pinB b o h).2⟩, fun b h => ⟨(ha.pinN b h).1, hnn b (ha.pinN b h).2⟩, fun k l h => (hMk k (hkp k l h)).trans (ha.pinK k l h), ha.lim⟩⟩
 ·unfold DS.tm at h
  simp only at h
  rw [qih] at h
  simp only [Nat.zero_add] at h
  split at h
  ·rename_i hlt
   cases e : q1E i hd.accs with
   | some r =>
    rw [e] at h
    cases h
    obtain ⟨_, _, _, s, g1, g2⟩ := s1 i r (q2e e)
    have hs := g1
    unfold q4U at g1
    split at g1
    ·rename_i k htm
     cases g1
     obtain ⟨v, h1, h2⟩ := ha.tmp i _ htm
     exact ⟨v, h1, by unfold q2v; rw [e]; simp only; rw [hs]; exact h2.1, h2.2⟩
    ·rename_i htm
     cases g1
     obtain ⟨v, h1, h2⟩ := ha.tmp i _ htm
     rw [h2.1] at h1
     exact ⟨_, h1, by unfold q2v; rw [e]; simp only; rw [hs], Or.inl rfl⟩
    ·cases g1
   | none =>
    rw [e] at h
    simp only at h
    cases e2 : memN i hd.keepT with
    | false => rw [e2] at h; cases h
    | true =>
     rw [e2] at h
     obtain ⟨v, h1, h2⟩ := ha.tmp i dv h
     exact ⟨v, h1, okD_rel hN hMk (hT i (q1d e2) dv h) h2⟩
  ·cases h
 ·rw [hat] at h
  split at h
  ·rename_i hlt
   cases e : q1E k hd.accs with
   | some p =>
    rw [e] at h
    simp only at h
    unfold q8W at h
    split at h
    ·rename_i j hs
     simp only [Option.bind_eq_some_iff] at h
     obtain ⟨r2, g1, g2⟩ := h
     cases e2 : sliR r2 with
     | false => rw [e2] at g2; cases g2
     | true =>
      rw [e2] at g2; cases g2
      exact hsl e2 (by unfold q2v; rw [e]; simp only; rw [hs]) (ha.row j _ g1)
    ·rename_i hs
     cases e2 : qh7 p with
     | false => rw [e2] at h; cases h
     | true =>
      rw [e2] at h; cases h
      have hMn : q2v st hd M k = some (.row (.slice none 0 0)) := by unfold q2v; rw [e]; simp only; rw [hs]
      match r, e2 with
      | .gen ty sz [], _ => exact ⟨_, [], hMn, ⟨by simp, Or.inl ⟨rfl, rfl⟩⟩, by simp, trivial⟩
      | .num ty kd [], _ => exact ⟨_, hMn, ⟨by simp, Or.inl ⟨rfl, rfl⟩⟩⟩
    ·cases h
   | none =>
    rw [e] at h
    simp only at h
    cases e2 : memN k hd.keepH with
    | false => rw [e2] at h; cases h
    | true =>
     rw [e2] at h
     have hk := q1d e2
     have g := ha.row k r h
     have ho := hH k hk r h
     cases r with
     | box ty c => obtain ⟨b, cs, g1, g2, g3⟩ := g; exact ⟨b, cs, (hMk k hk).trans g1, g2, q8n hN hMk ho g3⟩
     | dead => trivial
     | gen ty sz l => exact hsl rfl (hMk k hk) g
     | num ty kd l => exact hsl rfl (hMk k hk) g
  ·cases h
 ·rw [hat] at h
  unfold q2v
  cases e : q1E k hd.accs with
  | some p =>
   exfalso
   obtain ⟨_, _, hl, _⟩ := s1 k p (q2e e)
   rw [if_pos hl, e] at h
   obtain ⟨r', hr'⟩ := hA k p (q2e e)
   simp only [hr'] at h
   cases h
  | none =>
   simp only
   cases e2 : memN k hd.keepH with
   | false => rfl
   | true =>
    simp only [cond_true]
    rw [e] at h
    simp only [e2, cond_true] at h
    apply ha.dom k
    split at h
    ·exact h
    ·rename_i hl
     unfold DS.at
     rw [List.getElem?_eq_none (by omega)]; rfl
 ·rcases hMM k l h1 with h | ⟨j, h, _⟩
  ·rw [h] at h2; cases h2
  ·exact ha.own j l b h h2
 ·rcases hMM k l h5 with h | ⟨j, hj, hj2⟩
  ·rw [h] at h7; cases h7
  ·rcases hMM k' l' h6 with h' | ⟨j', hj', hj2'⟩
   ·rw [h'] at h8; cases h8
   ·have alive : ∀ k j r, (⟨q7g st hd 0 st.t, q9F st hd 0 st.h⟩ : DS).at k = some r → r.alive = true → ((∃ r, q1E k hd.accs = some r ∧ q4U st k = some (some j)) ∨ (q1E k hd.accs = none ∧ k ∈ hd.keepH ∧ j = k)) → ∃ r0, st.at j = some r0 ∧ r0.alive = true := by
     intro k j r g1 g2 g3
     rw [hat] at g1
     split at g1
     ·rcases g3 with ⟨p, e, hs⟩ | ⟨e, hk, rfl⟩
      ·rw [e] at g1
       simp only at g1
       unfold q8W at g1
       rw [hs] at g1
       simp only [Option.bind_eq_some_iff] at g1
       obtain ⟨r2, q1, q2⟩ := g1
       cases e2 : sliR r2 with
       | false => rw [e2] at q2; cases q2
       | true => rw [e2] at q2; cases q2; exact ⟨_, q1, g2⟩
      ·rw [e] at g1
       simp only [qcL hk, cond_true] at g1
       exact ⟨r, g1, g2⟩
     ·cases g1
    obtain ⟨r0, a1, a2⟩ := alive k j r h1 h2 hj2
    obtain ⟨r0', a1', a2'⟩ := alive k' j' r' h3 h4 hj2'
    have hjj := ha.apart j j' r0 r0' l l' b a1 a2 a1' a2' hj hj' h7 h8
    subst hjj
    rcases hj2 with ⟨p, e, hs⟩ | ⟨e, hk, rfl⟩
    ·rcases hj2' with ⟨p', e', hs'⟩ | ⟨e', hk', rfl⟩
     ·exact s2 k p k' p' j (q2e e) (q2e e') hs hs'
     ·exfalso
      obtain ⟨_, _, _, s, g1, g2⟩ := s1 k p (q2e e)
      rw [hs] at g1; cases g1
      exact (g2 _ rfl).1 hk'
    ·rcases hj2' with ⟨p', e', hs'⟩ | ⟨e', hk', e2⟩
     ·exfalso
      obtain ⟨_, _, _, s, g1, g2⟩ := s1 k' p' (q2e e')
      rw [hs'] at g1; cases g1
      exact (g2 _ rfl).1 hk
     ·exact e2
end Go.Proofs.YtfadkjcfjkmalaaGreatDoor.Ev
namespace Go.Proofs.YtfadkjcfjkmalaaGreatDoor.Ev
open Go.RowKit
variable {w0 : World} {N0 : Nat → Prop} {Z : Pins} {P : Program} {T : Tab} {S : Sum} {M : Map} {a : Act} {w : World}
def bx1 (k j K : Nat) (proto : Row) (st : DS) : Option DS := match st.at k with
 | some (.box ty c) => match c[j]? with
  | some (.os k1) => bif Nat.beq k1 K then some st else (match st.at k1, st.at K with
   | some r, none => bif sliR r && Nat.blt K st.h.length then some ⟨st.t, ((st.h.set k1 (some .dead)).set k (some (.box ty (c.set j (.os K))))).set K (some r)⟩ else none
   | _, _ => none)
  | some (.v (.slice none 0 0)) => (match st.at K with
   | none => bif qh7 proto && Nat.blt K st.h.length then some ⟨st.t, (st.h.set k (some (.box ty (c.set j (.os K))))).set K (some proto)⟩ else none
   | _ => none)
  | _ => none
 | _ => none
@[reducible] def Bx := Nat × Nat × Nat × Row
def bxs : List Bx → DS → Option DS
 | [], st => some st
 | (k, j, K, p) :: l, st => match bx1 k j K p st with
  | some s => bxs l s
  | none => none
def bxSrc (st : DS) : List Bx → List Nat
 | [] => []
 | (k, j, _, _) :: l => (match st.at k with
  | some (.box _ c) => match c[j]? with
   | some (.os k1) => [k1]
   | _ => []
  | _ => []) ++ bxSrc st l
def bxNew : List Bx → List Nat
 | [] => []
 | (_, _, K, _) :: l => K :: bxNew l
def accsI : List (Nat × Row) → List Nat
 | [] => []
 | (i, _) :: l => i :: accsI l
def tidyB (hd : Hd) (bx : List Bx) (st : DS) : Option DS := match bx with
 | [] => tidy hd st
 | _ => match tidy ⟨hd.keepT, hd.keepH ++ bxSrc st bx, hd.accs⟩ st with
  | some s => match bxs bx s with
   | some s => tidy ⟨hd.keepT ++ accsI hd.accs, hd.keepH ++ (accsI hd.accs ++ bxNew bx), []⟩ s
   | none => none
  | none => none
theorem setSelf {α : Type} {l : List α} {j : Nat} {v : α} (h : l[j]? = some v) : l.set j v = l := by
 apply List.ext_getElem?
 intro i
 rw [List.getElem?_set]
 split
 ·rename_i e; subst e
  rw [if_pos (List.getElem?_eq_some_iff.1 h).1, h]
 ·rfl
theorem at_lt {st : DS} {k : Nat} {r : Row} (h : st.at k = some r) : k < st.h.length := by
 unfold DS.at at h
 cases e : st.h[k]? with
 | none => rw [e] at h; cases h
 | some x => exact (List.getElem?_eq_some_iff.1 e).1
theorem RelR.move {r : Row} (hr : sliR r = true) {N : Nat → Prop} {M' : Map} {k k' : Nat} (hk : M' k' = M k) (g : RelR w w0.heap.size N M k r) : RelR w w0.heap.size N M' k' r := by
 cases r with
 | box _ _ => cases hr
 | dead => cases hr
 | gen ty sz l => obtain ⟨v, xs, g1, g2⟩ := g; exact ⟨v, xs, hk.trans g1, g2⟩
 | num ty kd l => obtain ⟨v, g1, g2⟩ := g; exact ⟨v, hk.trans g1, g2⟩
theorem Abs.bx1 {k j K : Nat} {proto : Row} {st st' : DS} (ha : Abs w0 N0 Z M st a w) (h : bx1 k j K proto st = some st') : ∃ M', Abs w0 N0 Z M' st' a w := by
 unfold Ev.bx1 at h
 split at h
 case h_2 => cases h
 rename_i ty c hk
 have hkl := at_lt hk
 obtain ⟨b, cs, hMk, hhp, hcs⟩ := ha.row k _ hk
 split at h
 case h_3 => cases h
 ·rename_i k1 hj
  cases e1 : Nat.beq k1 K with
  | true => rw [e1] at h; cases h; exact ⟨M, ha⟩
  | false =>
   rw [e1] at h
   simp only [cond_false] at h
   split at h
   case h_2 => cases h
   rename_i r hk1 hK
   cases e2 : (sliR r && Nat.blt K st.h.length) with
   | false => rw [e2] at h; cases h
   | true =>
    rw [e2] at h
    cases h
    simp only [Bool.and_eq_true] at e2
    have hKl : K < st.h.length := Nat.le_of_ble_eq_true e2.2
    have hk1l := at_lt hk1
    have hMK : M K = none := ha.dom K hK
    have hne : k1 ≠ K := fun e => by rw [e, Nat.beq_refl] at e1; cases e1
    have hkK : k ≠ K := fun e => by rw [e] at hk; rw [hk] at hK; cases hK
    have hk1k : k1 ≠ k := fun e => by rw [e, hk] at hk1; cases hk1; cases e2.1
    obtain ⟨vj, hvj, hrel⟩ := hcs.get hj
    have hMk1 : M k1 = some (.row vj) := hrel.1
    let M' : Map := fun q => if q = K then M k1 else M q
    have hM'K : M' K = M k1 := by simp [M']
    have hM' : ∀ q, q ≠ K → M' q = M q := fun q hq => by simp [M', hq]
    have stp : Stp w0 N0 M M' w w := by
     refine ⟨Nat.le_refl _, fun _ _ _ => rfl, fun q l hq => ?_, fun q l b h1 h2 => ?_⟩
     ·rw [hM' q (fun e => by rw [e, hMK] at hq; cases hq)]; exact hq
     ·by_cases e : q = K
      ·rw [e, hM'K] at h1; exact Or.inl ⟨k1, l, h1, h2⟩
      ·rw [hM' q e] at h1; exact Or.inl ⟨q, l, h1, h2⟩
    have hat : ∀ q, (⟨st.t, ((st.h.set k1 (some .dead)).set k (some (.box ty (c.set j (.os K))))).set K (some r)⟩ : DS).at q = if K = q then some r else if k = q then some (.box ty (c.set j (.os K))) else if k1 = q then some .dead else st.at q := by
     intro q
     unfold DS.at
     simp only
     rw [getset, getset, getset]
     simp only [List.length_set, hKl, hkl, hk1l, and_true]
    refine ⟨M', ha.step stp (Below.refl _ _) ha.fits rfl (fun i dv h => Or.inl ⟨h, rfl⟩) (fun q r2 h => ?_) (fun q h => ?_) (fun q l b h1 h2 => ?_) (fun q q' r1 r2 l1 l2 b h1 h2 h3 h4 h5 h6 h7 h8 => ?_)⟩
    ·rw [hat] at h
     by_cases q1 : K = q
     ·rw [if_pos q1] at h; cases h; subst q1
      exact Or.inr (RelR.move e2.1 (hM'K.trans (hM' k1 hne).symm) (stp.relR (ha.row k1 _ hk1) fun _ _ _ _ _ => rfl))
     ·rw [if_neg q1] at h
      by_cases q2 : k = q
      ·rw [if_pos q2] at h; cases h; subst q2
       refine Or.inr ⟨b, cs, by rw [hM' k hkK]; exact hMk, hhp, ?_⟩
       have g := (hcs.mono fun _ _ g => stp.relC g).set (i := j) (a := CV.os K) (b := vj) ⟨hM'K.trans hMk1, hrel.2⟩
       rwa [setSelf hvj] at g
      ·rw [if_neg q2] at h
       by_cases q3 : k1 = q
       ·rw [if_pos q3] at h; cases h; exact Or.inr trivial
       ·rw [if_neg q3] at h; exact Or.inl ⟨h, fun _ _ _ _ _ => rfl⟩
    ·rw [hat] at h
     by_cases q1 : K = q
     ·rw [if_pos q1] at h; cases h
     ·rw [if_neg q1] at h
      by_cases q2 : k = q
      ·rw [if_pos q2] at h; cases h
      ·rw [if_neg q2] at h
       by_cases q3 : k1 = q
       ·rw [if_pos q3] at h; cases h
       ·rw [if_neg q3] at h; rw [hM' q (fun e => q1 e.symm)]; exact ha.dom q h
    ·by_cases e : q = K
     ·rw [e, hM'K] at h1; exact ha.own k1 l b h1 h2
     ·rw [hM' q e] at h1; exact ha.own q l b h1 h2
    ·have back : ∀ q r2 l, (⟨st.t, ((st.h.set k1 (some .dead)).set k (some (.box ty (c.set j (.os K))))).set K (some r)⟩ : DS).at q = some r2 → r2.alive = true → M' q = some l → ∃ q0 r0, st.at q0 = some r0 ∧ r0.alive = true ∧ M q0 = some l ∧ (q0 = k1 ∧ q = K ∨ q0 = q ∧ q ≠ K ∧ q ≠ k1) := by
      intro q r2 l g1 g2 g3
      rw [hat] at g1
      by_cases q1 : K = q
      ·rw [if_pos q1] at g1; cases g1
       subst q1
       exact ⟨k1, r, hk1, g2, by rw [← hM'K]; exact g3, Or.inl ⟨rfl, rfl⟩⟩
      ·rw [if_neg q1] at g1
       have e : M q = some l := by rw [← hM' q (fun e => q1 e.symm)]; exact g3
       by_cases q2 : k = q
       ·subst q2; exact ⟨k, _, hk, rfl, e, Or.inr ⟨rfl, fun e => q1 e.symm, fun e => hk1k e.symm⟩⟩
       ·rw [if_neg q2] at g1
        by_cases q3 : k1 = q
        ·rw [if_pos q3] at g1; cases g1; cases g2
        ·rw [if_neg q3] at g1; exact ⟨q, r2, g1, g2, e, Or.inr ⟨rfl, fun e => q1 e.symm, fun e => q3 e.symm⟩⟩
     obtain ⟨p, s, p1, p2, p3, p4⟩ := back q r1 l1 h1 h2 h5
     obtain ⟨p', s', p1', p2', p3', p4'⟩ := back q' r2 l2 h3 h4 h6
     have he := ha.apart p p' s s' l1 l2 b p1 p2 p1' p2' p3 p3' h7 h8
     rcases p4 with ⟨x1, x2⟩ | ⟨x1, x2, x3⟩ <;> rcases p4' with ⟨y1, y2⟩ | ⟨y1, y2, y3⟩
     ·rw [x2, y2]
     ·exact (y3 (by rw [← y1, ← he, x1])).elim
     ·exact (x3 (by rw [← x1, he, y1])).elim
     ·rw [← x1, ← y1, he]
 ·rename_i hj
  split at h
  case h_2 => cases h
  rename_i hK
  cases e2 : (qh7 proto && Nat.blt K st.h.length) with
  | false => rw [e2] at h; cases h
  | true =>
   rw [e2] at h
   cases h
   simp only [Bool.and_eq_true] at e2
   have hKl : K < st.h.length := Nat.le_of_ble_eq_true e2.2
   have hMK : M K = none := ha.dom K hK
   have hkK : k ≠ K := fun e => by rw [e] at hk; rw [hk] at hK; cases hK
   obtain ⟨vj, hvj, hrel⟩ := hcs.get hj
   have hvn : vj = .slice none 0 0 := hrel.1
   let M' : Map := fun q => if q = K then some (.row (.slice none 0 0)) else M q
   have hM'K : M' K = some (.row (.slice none 0 0)) := by simp [M']
   have hM' : ∀ q, q ≠ K → M' q = M q := fun q hq => by simp [M', hq]
   have stp : Stp w0 N0 M M' w w := by
    refine ⟨Nat.le_refl _, fun _ _ _ => rfl, fun q l hq => ?_, fun q l b h1 h2 => ?_⟩
    ·rw [hM' q (fun e => by rw [e, hMK] at hq; cases hq)]; exact hq
    ·by_cases e : q = K
     ·rw [e, hM'K] at h1; cases h1; cases h2
     ·rw [hM' q e] at h1; exact Or.inl ⟨q, l, h1, h2⟩
   have hat : ∀ q, (⟨st.t, (st.h.set k (some (.box ty (c.set j (.os K))))).set K (some proto)⟩ : DS).at q = if K = q then some proto else if k = q then some (.box ty (c.set j (.os K))) else st.at q := by
    intro q
    unfold DS.at
    simp only
    rw [getset, getset]
    simp only [List.length_set, hKl, hkl, and_true]
   refine ⟨M', ha.step stp (Below.refl _ _) ha.fits rfl (fun i dv h => Or.inl ⟨h, rfl⟩) (fun q r2 h => ?_) (fun q h => ?_) (fun q l b h1 h2 => ?_) (fun q q' r1 r2 l1 l2 b h1 h2 h3 h4 h5 h6 h7 h8 => ?_)⟩
   ·rw [hat] at h
    by_cases q1 : K = q
    ·rw [if_pos q1] at h; cases h; subst q1
     right
     match proto, e2.1 with
     | .gen ty sz [], _ => exact ⟨_, [], hM'K, ⟨by simp, Or.inl ⟨rfl, rfl⟩⟩, by simp, trivial⟩
     | .num ty kd [], _ => exact ⟨_, hM'K, ⟨by simp, Or.inl ⟨rfl, rfl⟩⟩⟩
    ·rw [if_neg q1] at h
     by_cases q2 : k = q
     ·rw [if_pos q2] at h; cases h; subst q2
      refine Or.inr ⟨b, cs, by rw [hM' k hkK]; exact hMk, hhp, ?_⟩
      have g := (hcs.mono fun _ _ g => stp.relC g).set (i := j) (a := CV.os K) (b := vj) ⟨by rw [hM'K, hvn], Or.inl hvn⟩
      rwa [setSelf hvj] at g
     ·rw [if_neg q2] at h; exact Or.inl ⟨h, fun _ _ _ _ _ => rfl⟩
   ·rw [hat] at h
    by_cases q1 : K = q
    ·rw [if_pos q1] at h; cases h
    ·rw [if_neg q1] at h
     by_cases q2 : k = q
     ·rw [if_pos q2] at h; cases h
     ·rw [if_neg q2] at h; rw [hM' q (fun e => q1 e.symm)]; exact ha.dom q h
   ·by_cases e : q = K
    ·rw [e, hM'K] at h1; cases h1; cases h2
    ·rw [hM' q e] at h1; exact ha.own q l b h1 h2
   ·have back : ∀ q r2 l, (⟨st.t, (st.h.set k (some (.box ty (c.set j (.os K))))).set K (some proto)⟩ : DS).at q = some r2 → r2.alive = true → M' q = some l → l.block = some b → ∃ r0, st.at q = some r0 ∧ r0.alive = true ∧ M q = some l := by
     intro q r2 l g1 g2 g3 g4
     rw [hat] at g1
     by_cases q1 : K = q
     ·subst q1; rw [hM'K] at g3; cases g3; cases g4
     ·rw [if_neg q1] at g1
      have e : M q = some l := by rw [← hM' q (fun e => q1 e.symm)]; exact g3
      by_cases q2 : k = q
      ·subst q2; exact ⟨_, hk, rfl, e⟩
      ·rw [if_neg q2] at g1; exact ⟨r2, g1, g2, e⟩
    obtain ⟨s, p1, p2, p3⟩ := back q r1 l1 h1 h2 h5 h7
    obtain ⟨s', p1', p2', p3'⟩ := back q' r2 l2 h3 h4 h6 h8
    exact ha.apart q q' s s' l1 l2 b p1 p2 p1' p2' p3 p3' h7 h8
theorem Abs.bxs : ∀ {l : List Bx} {M : Map} {st st' : DS}, Abs w0 N0 Z M st a w → bxs l st = some st' → ∃ M', Abs w0 N0 Z M' st' a w
 | [], M, st, st', ha, h => by cases h; exact ⟨M, ha⟩
 | (k, j, K, p) :: l, M, st, st', ha, h => by
  simp only [Ev.bxs] at h
  split at h
  ·rename_i s hs
   obtain ⟨M1, h1⟩ := ha.bx1 hs
   exact Abs.bxs h1 h
  ·cases h
theorem Abs.tidyB {hd : Hd} {bx : List Bx} {st st' : DS} (ha : Abs w0 N0 Z M st a w) (hkp : ∀ k l, Z.key k = some l → k ∈ hd.keepH) (h : tidyB hd bx st = some st') : ∃ M', Abs w0 N0 Z M' st' a w := by
 unfold Ev.tidyB at h
 split at h
 ·exact ha.tidy hkp h
 ·split at h
  ·rename_i s h1
   split at h
   ·rename_i s2 h2
    obtain ⟨M1, a1⟩ := ha.tidy (fun k l hk => List.mem_append_left _ (hkp k l hk)) h1
    obtain ⟨M2, a2⟩ := a1.bxs h2
    exact a2.tidy (fun k l hk => List.mem_append_left _ (hkp k l hk)) h
   ·cases h
  ·cases h
end Go.Proofs.YtfadkjcfjkmalaaGreatDoor.Ev
namespace Go.Proofs.YtfadkjcfjkmalaaGreatDoor.Ev
open Go.RowKit
variable {w0 : World} {N0 : Nat → Prop} {Z : Pins} {P : Program} {T : Tab} {S : Sum} {M : Map} {a : Act} {w : World}
theorem RelF.mono2 {w w' : World} {N N' : Nat → Prop} (hs : w.heap.size ≤ w'.heap.size) (hc : ∀ b, N b → b < w.heap.size → ∀ off x, w.cell? ⟨b, off, none⟩ = some x → w'.cell? ⟨b, off, none⟩ = some x) (hN : ∀ b, N b → b < w.heap.size → N' b) :
  ∀ (x : CV) {v : Value}, RelF w N x v → RelF w' N' x v
 | .v x, v, h => h
 | .sl sz n c, v, h => by
  obtain ⟨ao, cap, h1, h2, h3, h4, h5⟩ := h
  refine ⟨ao, cap, h1, h2, h3, h4, fun h0 => ?_⟩
  obtain ⟨b, off, g1, g2, g3, g4⟩ := h5 h0
  refine ⟨b, off, g1, Nat.lt_of_lt_of_le g2 hs, hN b g3 g2, fun i j hi hj => ?_⟩
  obtain ⟨x, e1, e2⟩ := g4 i j hi hj
  exact ⟨x, hc b g3 g2 _ _ e1, RelF.mono2 hs hc hN (c i j) e2⟩
 | .px n off c, v, h => by
  obtain ⟨b, o, g1, g2, g3, g4⟩ := h
  refine ⟨b, o, g1, Nat.lt_of_lt_of_le g2 hs, hN b g3 g2, fun j hj => ?_⟩
  obtain ⟨x, e1, e2⟩ := g4 j hj
  exact ⟨x, hc b g3 g2 _ _ e1, RelF.mono2 hs hc hN (c j) e2⟩
 | .er _, _, h => h
 | .any, _, h => h
 | .os _, _, h => h.elim
 | .p _ _, _, h => h.elim
 | .pe _ _ _ _, _, h => h.elim
 | .ob _ _ _ _, _, h => h.elim
theorem qho {w w' : World} {N N' : Nat → Prop} {M M' : Map} (hs : w.heap.size ≤ w'.heap.size) (hc : ∀ b, N b → b < w.heap.size → ∀ off x, w.cell? ⟨b, off, none⟩ = some x → w'.cell? ⟨b, off, none⟩ = some x) (hN : ∀ b, N b → b < w.heap.size → N' b) (hM : ∀ k l, M k = some l → M' k = some l) :
  ∀ {x : CV} {v : Value}, RelC w N M x v → RelC w' N' M' x v
 | .v x, v, g => RelF.mono2 hs hc hN (.v x) g
 | .sl sz n c, v, g => RelF.mono2 hs hc hN (.sl sz n c) g
 | .px n off c, v, g => RelF.mono2 hs hc hN (.px n off c) g
 | .er b, v, g => RelF.mono2 hs hc hN (.er b) g
 | .any, v, g => RelF.mono2 hs hc hN .any g
 | .os k, v, g => ⟨hM _ _ g.1, g.2⟩
 | .p k off, v, g => by obtain ⟨b, g1, g2⟩ := g; exact ⟨b, hM _ _ g1, g2⟩
 | .pe k i sz off, v, g => by obtain ⟨b, n, cap, g1, g2⟩ := g; exact ⟨b, n, cap, hM _ _ g1, g2⟩
 | .ob k off sz n, v, g => by
  rcases g with ⟨b, cap, g1, g2⟩ | ⟨b, c, o, cap, g1, g2⟩
  ·exact Or.inl ⟨b, cap, hM _ _ g1, g2⟩
  ·exact Or.inr ⟨b, c, o, cap, hM _ _ g1, g2⟩
theorem cells_obj {w : World} {b off : Nat} {x : Value} (h : w.cell? ⟨b, off, none⟩ = some x) : ∃ o, w.heap[b]? = some o ∧ o.isCells = true := cells_of_cell (a := ⟨b, off, none⟩) h
theorem qg3 {base : Nat} {N : Nat → Prop} {k : Nat} {r : Row} (hr : r.alive = true) (h : RelR w base N M k r) {l : Loc} {b : Nat} (h1 : M k = some l) (h2 : l.block = some b) : ∃ o, w.heap[b]? = some o ∧ o.isCells = true := by
 have own : ∀ {ty sz : Nat} {v : Value} {n : Nat} {xs : List Value}, w.ownsRow base ty sz v n xs → v.ownBlock = some b → ∃ o, w.heap[b]? = some o ∧ o.isCells = true := by
  intro ty sz v n xs g e
  rcases g.2 with ⟨rfl, _⟩ | ⟨g, cap, cur, hv, _, hh, _⟩
  ·cases e
  ·rw [hv] at e
   have e2 : g = b := by simpa [Value.ownBlock] using e
   subst e2
   exact ⟨_, hh, rfl⟩
 cases r with
 | dead => cases hr
 | box ty c =>
  obtain ⟨b', cs, g1, g2, _⟩ := h
  rw [h1] at g1; cases g1; cases h2
  exact ⟨_, g2, rfl⟩
 | gen ty sz l' => obtain ⟨v, xs, g1, g2, _⟩ := h; rw [h1] at g1; cases g1; exact own g2 h2
 | num ty kd l' => obtain ⟨v, g1, g2⟩ := h; rw [h1] at g1; cases g1; exact own g2 h2
theorem relR_up {w w' : World} {base : Nat} {N N' : Nat → Prop} {M M' : Map} (hs : w.heap.size ≤ w'.heap.size) (hc : ∀ b, N b → b < w.heap.size → ∀ off x, w.cell? ⟨b, off, none⟩ = some x → w'.cell? ⟨b, off, none⟩ = some x) (hN : ∀ b, N b → b < w.heap.size → N' b) (hM : ∀ k l, M k = some l → M' k = some l) {k : Nat} :
  ∀ {r : Row}, RelR w base N M k r → (r.alive = true → ∀ l b, M k = some l → l.block = some b → w'.heap[b]? = w.heap[b]?) → RelR w' base N' M' k r
 | .box ty c, g, hb => by
  obtain ⟨b, cs, g1, g2, g3⟩ := g
  exact ⟨b, cs, hM _ _ g1, (hb rfl _ _ g1 rfl).trans g2, g3.mono fun _ _ g => qho hs hc hN hM g⟩
 | .gen ty sz l, g, hb => by
  obtain ⟨v, xs, g1, g2, g3, g4⟩ := g
  exact ⟨v, xs, hM _ _ g1, q5G g2 (fun b e => hb rfl _ _ g1 e), g3, g4.mono fun x _ g => RelF.mono2 hs hc hN x g⟩
 | .num ty kd l, g, hb => by
  obtain ⟨v, g1, g2⟩ := g
  exact ⟨v, hM _ _ g1, q5G g2 (fun b e => hb rfl _ _ g1 e)⟩
 | .dead, _, _ => trivial
theorem Abs.grownN {st : DS} {w' : World} {row : Option Nat} (ha : Abs w0 N0 Z M st a w) (hg : w.grownBy w' row) (hr : ∀ r, row = some r → w0.heap.size ≤ r ∧ (∃ o : Obj, w.heap[r]? = some o ∧ o.isCells = false) ∧ (∀ o, ¬ Z.blk r o) ∧ ∀ d ∈ a.defers, d ≠ { target := .collected r, args := #[] }) : Abs w0 N0 Z M st a w' := by
 have hne : ∀ b : Nat, (∃ o : Obj, w.heap[b]? = some o ∧ o.isCells = true) → w'.heap[b]? = w.heap[b]? := by
  rintro b ⟨o, h1, h2⟩
  refine hg.block b (Array.getElem?_eq_some_iff.1 h1).1 fun e => ?_
  obtain ⟨_, ⟨o', g1, g2⟩, _⟩ := hr b e.symm
  rw [h1] at g1; cases g1; rw [h2] at g2; cases g2
 have hc : ∀ b, fgn w0 N0 M b → b < w.heap.size → ∀ off x, w.cell? ⟨b, off, none⟩ = some x → w'.cell? ⟨b, off, none⟩ = some x := fun b _ _ off x h => (World.cell?_of_block (w := w) (a := ⟨b, off, none⟩) (hne b (cells_obj h))).trans h
 refine ⟨ha.below.trans ⟨hg.os, hg.tape, hg.output, hg.size, fun j hj => hg.block j (by have := ha.below.size; omega) fun e => ?_⟩, ha.fits, ⟨fun d hd => ?_, ha.defs.2⟩, fun i dv h => ?_, fun k r h => ?_, ha.dom, fun k l b h1 h2 => ?_, ha.apart, fun b o h => ?_, fun b h => ?_, ha.pinK, ha.lim⟩
 ·have := (hr j e.symm).1; omega
 ·obtain ⟨D, h1, h2, h3, h4⟩ := ha.defs.1 d hd
  refine ⟨D, h1, h2, (hg.block D (Array.getElem?_eq_some_iff.1 h3).1 fun e => ?_).trans h3, h4⟩
  exact (hr D e.symm).2.2.2 d hd h1
 ·obtain ⟨v, h1, h2⟩ := ha.tmp i dv h
  exact ⟨v, h1, RelD.mono (fun _ _ g => qho hg.size hc (fun _ h _ => h) (fun _ _ h => h) g) h2⟩
 ·exact relR_up hg.size hc (fun _ h _ => h) (fun _ _ h => h) (ha.row k r h) fun hal l b h1 h2 => hne b (qg3 hal (ha.row k r h) h1 h2)
 ·exact ⟨(ha.own k l b h1 h2).1, Nat.lt_of_lt_of_le (ha.own k l b h1 h2).2 hg.size⟩
 ·obtain ⟨h1, h2⟩ := ha.pinB b o h
  exact ⟨(hg.block b (Array.getElem?_eq_some_iff.1 h1).1 fun e => (hr b e.symm).2.2.1 o h).trans h1, h2⟩
 ·exact ⟨Nat.lt_of_lt_of_le (ha.pinN b h).1 hg.size, (ha.pinN b h).2⟩
def q1K (w : World) (M : Map) : Pins := ⟨fun b o => w.heap[b]? = some o ∧ nown M b, fun _ => False, M, 0⟩
theorem Abs.pin {st : DS} (ha : Abs w0 N0 Z M st a w) : Abs w0 N0 (q1K w M) M st a w :=
 ⟨ha.below, ha.fits, ha.defs, ha.tmp, ha.row, ha.dom, ha.own, ha.apart, fun _ _ h => h, fun _ h => h.elim, fun _ _ h => h, fun _ _ _ _ => Nat.zero_le _⟩
theorem Abs.pinned {st : DS} {M2 : Map} {a2 : Act} {w2 : World} (he : Abs w0 N0 (q1K w M) M2 st a2 w2) {b : Nat} (hb : b < w.heap.size) (hn : nown M b) : w2.heap[b]? = w.heap[b]? ∧ nown M2 b := by
 obtain ⟨h1, h2⟩ := he.pinB b w.heap[b] ⟨by simp [hb], hn⟩
 exact ⟨by rw [h1]; simp [hb], h2⟩
theorem Abs.pinSize {st st2 : DS} {M2 : Map} {a2 : Act} {w2 : World} {Z2 : Pins} (hh : Abs w0 N0 Z2 M st a w) (he : Abs w0 N0 (q1K w M) M2 st2 a2 w2) : w.heap.size ≤ w2.heap.size := by
 rcases Nat.lt_or_ge w2.heap.size w.heap.size with h | h
 ·exfalso
  by_cases hn : nown M w2.heap.size
  ·have := (he.pinned h hn).1
   rw [Array.getElem?_eq_none (Nat.le_refl _)] at this
   simp [h] at this
  ·unfold nown at hn
   simp only [Classical.not_forall, Classical.not_not] at hn
   obtain ⟨k, l, h1, h2⟩ := hn
   have := he.own k l _ (he.pinK k l h1) h2
   omega
 ·exact h
theorem Abs.back {st st2 : DS} {M2 : Map} {a2 : Act} {w2 : World} (hh : Abs w0 N0 Z M st a w) (he : Abs w0 N0 (q1K w M) M2 st2 a2 w2) : Abs w0 N0 Z M2 ⟨st.t, st2.h⟩ a w2 := by
 have hs := hh.pinSize he
 have hp : ∀ b, nown M b → b < w.heap.size → w2.heap[b]? = w.heap[b]? ∧ nown M2 b := fun b h1 h2 => he.pinned h2 h1
 refine ⟨he.below, hh.fits, hh.defs.mono hp, fun i dv h => ?_, he.row, he.dom, he.own, he.apart, fun b o h => ?_, fun b h => ?_, fun k l h => he.pinK k l (hh.pinK k l h), hh.lim⟩
 ·obtain ⟨v, h1, h2⟩ := hh.tmp i dv h
  refine ⟨v, h1, RelD.mono (fun _ _ g => qho hs (fun b hb hlt off x hx => ?_) (fun b hb hlt => ⟨hb.1, (hp b hb.2 hlt).2⟩) (fun k l h => he.pinK k l h) g) h2⟩
  exact (World.cell?_of_block (w := w) (a := ⟨b, off, none⟩) (hp b hb.2 hlt).1).trans hx
 ·obtain ⟨h1, h2⟩ := hh.pinB b o h
  obtain ⟨g1, g2⟩ := hp b h2 (Array.getElem?_eq_some_iff.1 h1).1
  exact ⟨g1.trans h1, g2⟩
 ·obtain ⟨h1, h2⟩ := hh.pinN b h
  exact ⟨Nat.lt_of_lt_of_le h1 hs, (hp b h2 h1).2⟩
theorem Abs.repin {st : DS} {Z2 : Pins} (ha : Abs w0 N0 Z M st a w) (h1 : ∀ b o, Z2.blk b o → w.heap[b]? = some o ∧ nown M b) (h2 : ∀ b, Z2.non b → b < w.heap.size ∧ nown M b) (h3 : ∀ k l, Z2.key k = some l → M k = some l) (h4 : Z2.lim = 0 := by rfl) : Abs w0 N0 Z2 M st a w :=
 ⟨ha.below, ha.fits, ha.defs, ha.tmp, ha.row, ha.dom, ha.own, ha.apart, h1, h2, h3, fun _ _ _ _ => by rw [h4]; exact Nat.zero_le _⟩
def Row.ty? : Row → Option TypeId
 | .box ty _ => some ty
 | .gen ty _ _ => some ty
 | .num ty _ _ => some ty
 | .dead => none
theorem relR_type {base : Nat} {N : Nat → Prop} {k : Nat} {r : Row} (hr : r.alive = true) (h : RelR w base N M k r) {l : Loc} {b : Nat} (h1 : M k = some l) (h2 : l.block = some b) : ∃ cs ty p, w.heap[b]? = some (.cells cs ty p) ∧ r.ty? = some ty := by
 have own : ∀ {ty sz : Nat} {v : Value} {n : Nat} {xs : List Value}, w.ownsRow base ty sz v n xs → v.ownBlock = some b → ∃ cs p, w.heap[b]? = some (.cells cs ty p) := by
  intro ty sz v n xs g e
  rcases g.2 with ⟨rfl, _⟩ | ⟨g, cap, cur, hv, _, hh, _⟩
  ·cases e
  ·rw [hv] at e
   have e2 : g = b := by simpa [Value.ownBlock] using e
   subst e2
   exact ⟨_, _, hh⟩
 cases r with
 | dead => cases hr
 | box ty c =>
  obtain ⟨b', cs, g1, g2, _⟩ := h
  rw [h1] at g1; cases g1; cases h2
  exact ⟨_, _, _, g2, rfl⟩
 | gen ty sz l' => obtain ⟨v, xs, g1, g2, _⟩ := h; rw [h1] at g1; cases g1; obtain ⟨cs, p, h⟩ := own g2 h2; exact ⟨_, _, _, h, rfl⟩
 | num ty kd l' => obtain ⟨v, g1, g2⟩ := h; rw [h1] at g1; cases g1; obtain ⟨cs, p, h⟩ := own g2 h2; exact ⟨_, _, _, h, rfl⟩
def noTyR (T : TypeId) : Option Row → Bool
 | some (.box ty _) => !Nat.beq ty T
 | some (.gen ty _ _) => !Nat.beq ty T
 | some (.num ty _ _) => !Nat.beq ty T
 | _ => true
def qdW (T : TypeId) : List (Option Row) → Bool
 | [] => true
 | r :: l => noTyR T r && qdW T l
def noTy : Option TypeId → List (Option Row) → Bool
 | none, _ => true
 | some T, l => qdW T l
theorem qil {T : TypeId} : ∀ {l : List (Option Row)} {k : Nat} {r : Row}, qdW T l = true → (l[k]?).join = some r → r.ty? ≠ some T
 | [], k, r, _, h => by simp at h
 | x :: l, 0, r, hn, h => by
  simp only [qdW, Bool.and_eq_true] at hn
  simp at h; subst h
  intro e
  cases r with
  | dead => cases e
  | box ty c => cases e; simp [noTyR] at hn
  | gen ty c d => cases e; simp [noTyR] at hn
  | num ty c d => cases e; simp [noTyR] at hn
 | x :: l, k + 1, r, hn, h => by
  simp only [qdW, Bool.and_eq_true] at hn
  exact qil (k := k) hn.2 (by simpa using h)
def qZ : List (Option Row) → Bool
 | [] => true
 | some .dead :: _ => false
 | _ :: l => qZ l
theorem qbj : ∀ {l : List (Option Row)} {k : Nat} {r : Row}, qZ l = true → (l[k]?).join = some r → r.alive = true
 | [], k, r, _, h => by simp at h
 | x :: l, 0, r, hn, h => by
  simp at h; subst h
  cases r with
  | dead => simp [qZ] at hn
  | _ => rfl
 | x :: l, k + 1, r, hn, h => by
  have : qZ l = true := by
   cases x with
   | none => exact hn
   | some y => cases y <;> first | exact hn | (simp [qZ] at hn; done)
  exact qbj (k := k) this (by simpa using h)
theorem Abs.clean {st : DS} (ha : Abs w0 N0 Z M st a w) (hd : qZ st.h = true) {D : Nat} {o : Obj} (h : w.heap[D]? = some o) (ho : o.isCells = false) : nown M D := by
 intro k l h1 h2
 cases e : st.at k with
 | none => rw [ha.dom k e] at h1; cases h1
 | some r =>
  obtain ⟨o', g1, g2⟩ := qg3 (qbj hd e) (ha.row k r e) h1 h2
  rw [h] at g1; cases g1; rw [ho] at g2; cases g2
theorem Abs.cleanTy {st : DS} (ha : Abs w0 N0 Z M st a w) (hd : qZ st.h = true) {T : TypeId} (hT : qdW T st.h = true) {b : Nat} {cs : Array Value} {p : Nat × Nat} (h : w.heap[b]? = some (.cells cs T p)) : nown M b := by
 intro k l h1 h2
 cases e : st.at k with
 | none => rw [ha.dom k e] at h1; cases h1
 | some r =>
  obtain ⟨cs', ty, p', g1, g2⟩ := relR_type (qbj hd e) (ha.row k r e) h1 h2
  rw [h] at g1; cases g1
  exact qil hT e g2
def putL : List Tmp → List TV → DS → DS
 | p :: ps, y :: ys, st => putL ps ys (st.putO (some p) (some (.t y)))
 | _, _, st => st
theorem Abs.putL : ∀ {ps : List Tmp} {ys : List TV} {vs : List Value} {st : DS} {a : Act}, Abs w0 N0 Z M st a w → All2 (RelT (RelC w (fgn w0 N0 M) M)) ys vs → Abs w0 N0 Z M (putL ps ys st) { a with tmps := (ps.zip vs).foldl (fun t (p, v) => t.setIfInBounds p v) a.tmps } w
 | [], ys, vs, st, a, ha, h => by cases ys <;> exact ha
 | p :: ps, [], [], st, a, ha, h => ha
 | p :: ps, y :: ys, v :: vs, st, a, ha, h => Abs.putL (ps := ps) (ha.putV (some p) (x := .t y) h.1) h.2
 | p :: ps, [], _ :: _, st, a, ha, h => h.elim
 | p :: ps, _ :: _, [], st, a, ha, h => h.elim
theorem Abs.frame {st : DS} (ha : Abs w0 N0 Z M st a w) : Abs w0 N0 Z M st { a with defers := [] } w :=
 ⟨ha.below, ha.fits, Marks.nil ha.defs.2.2, ha.tmp, ha.row, ha.dom, ha.own, ha.apart, ha.pinB, ha.pinN, ha.pinK, fun _ h => by cases h⟩
def SeqIt (P : Program) (gf : FuncId) (fb lb : Array Value) (n : Nat) (enc : Nat → Array Value) (Kp : World → World → Prop) (w : World) : Prop :=
 ∀ (l : Nat) (J : Nat → World → Prop) (Jx : Unit → World → Prop) (W : World), Below w.heap.size w W → AbidesFrom W.heap.size J → AbidesFrom W.heap.size Jx → (∀ i W, J i W → Gd W) → (∀ W, Jx () W → Gd W) →
  (∀ i W1, i < n → J i W1 → YieldAt Fence.wide 0 P l (enc i) W1 fun e W' => (e = .returned (.bool true) ∧ J (i + 1) W' ∧ Kp W1 W') ∨ (e = .returned (.bool false) ∧ Jx () W')) →
  J 0 W →
  CallsIn Fence.wide 0 P gf (fb ++ #[.func (.yield l) #[] #[]] ++ lb) W fun e W' => (∃ v, e = .returned v) ∧ (J n W' ∨ Jx () W')
theorem SeqIt.weak {P : Program} {gf : FuncId} {fb lb : Array Value} {n : Nat} {enc : Nat → Array Value} {Kp Kp' : World → World → Prop} (h : SeqIt P gf fb lb n enc Kp w) (hk : ∀ A B, Kp' A B → Kp A B) : SeqIt P gf fb lb n enc Kp' w :=
 fun l J Jx W hb hJ hJx hgJ hgX hY h0 => h l J Jx W hb hJ hJx hgJ hgX (fun i W1 hi hj => by
  obtain ⟨fn, tmps, assign, body, h1, h2⟩ := hY i W1 hi hj
  exact ⟨fn, tmps, assign, body, h1, h2.mono fun e W' h' => h'.imp (fun ⟨a, b, c⟩ => ⟨a, b, hk _ _ c⟩) id⟩) h0
def tyKept (ty : Option TypeId) (A B : World) : Prop := match ty with
 | none => True
 | some T => ∀ (b : Nat) (cs : Array Value) (p : Nat × Nat), A.heap[b]? = some (Obj.cells cs T p) → B.heap[b]? = A.heap[b]?
def KpI (w : World) (N : Nat → Prop) (ty : Option TypeId) (A B : World) : Prop := (A.heap.size ≤ B.heap.size ∧ ∀ b, b < w.heap.size → N b → B.heap[b]? = A.heap[b]?) ∧ tyKept ty A B
theorem wp_rf {g : Operand} {ps : Array Tmp} {assign body : Code} {Q : Exit → Act → World → Prop} {gf : FuncId} {fb lb : Array Value} (hg : a.eval g = .func (.func gf) fb lb) (eg : Enters P gf) {n : Nat} {enc : Nat → Array Value} {Kp : World → World → Prop} (hseq : SeqIt P gf fb lb n enc Kp w)
  (hps : ∀ i, i < n → (enc i).size = ps.size) (I : Nat → World → Prop) (Ix : Code → World → Prop) (hI : OwnFrom w.heap.size I) (hIx : ∀ c, OwnFrom w.heap.size (fun (_ : Unit) => Ix c)) (hgI : ∀ i W, I i W → Gd W) (hgX : ∀ c W, Ix c W → Gd W) (h0 : I 0 w)
  (hround : ∀ (i : Nat) (W : World) (r : Loop), i < n → I i W → w.heap.size + 1 < W.heap.size → W.heap[w.heap.size + 1]? = some (.loop r) → W.heap[w.heap.size]? = some (.deferred (some [])) →
   assign.wpIn (Fence.wide.inRound (w.heap.size + 1)) 0 P (Exit.then (fun a1 W1 => W1.heap[w.heap.size + 1]? = some (.loop r) ∧ ∀ r', body.wpIn (Fence.wide.inRound (w.heap.size + 1)) 0 P
     (fun e _ W3 => W3.heap[w.heap.size + 1]? = some (.loop r') ∧ W3.heap[w.heap.size]? = some (.deferred (some [])) ∧ (∀ o, Kp W (W3.putObj (w.heap.size + 1) o)) ∧ (match e with
      | .normal => I (i + 1) W3
      | .ret => Ix .ret W3
      | .exit id => Ix (.exit id) W3
      | _ => False)) a1 (W1.putObj (w.heap.size + 1) (.loop r'))) (fun _ _ _ => False))
    { tmps := (ps.zip (enc i)).foldl (fun t (p, v) => t.setIfInBounds p v) a.tmps, defers := [] } W)
  (hdone : ∀ W, I n W → W.heap[w.heap.size]? = some (.deferred (some [])) → Q .normal { a with defers := { target := .collected w.heap.size, args := #[] } :: a.defers } W)
  (hstop : ∀ (c : Code) (W : World), Ix c W → W.heap[w.heap.size]? = some (.deferred (some [])) → c.wpIn Fence.wide 0 P Q { a with defers := { target := .collected w.heap.size, args := #[] } :: a.defers } W) :
  (Code.rangeFunc g ps assign body).wpIn Fence.wide 0 P Q a w := by
 refine wpIn_rangeFunc ?_
 intro fn hfn
 obtain ⟨rec, hrec⟩ : ∃ rec : LoopState → Option Code → Loop, rec = fun st pe => { state := st, pending := pe, fn, tmps := a.tmps, params := ps, assign, body, defers := w.heap.size } := ⟨_, rfl⟩
 obtain ⟨W1, hW1⟩ : ∃ W1, (w.alloc (.deferred (some []))).alloc (.loop (rec .ready none)) = W1 := ⟨_, rfl⟩
 have hs1 : W1.heap.size = w.heap.size + 2 := by rw [← hW1]; simp
 have hL1 : W1.heap[w.heap.size + 1]? = some (.loop (rec .ready none)) := by
  rw [← hW1]; have := World.alloc_heap_new (w.alloc (.deferred (some []))) (.loop (rec .ready none)); rwa [World.size_alloc] at this
 have hK1 : W1.heap[w.heap.size]? = some (.deferred (some [])) := by
  rw [← hW1]; exact (Below.heap_alloc _ _ _ (by simp)).trans (World.alloc_heap_new w _)
 have hI1 : I 0 W1 := by rw [← hW1]; exact hI.alloc _ (hI.alloc _ h0)
 have hb1 : Below w.heap.size w W1 := by
  rw [← hW1]; exact ((Below.refl _ w).alloc (Nat.le_refl _) _).alloc (by simp) _
 refine ⟨w.heap.size + 1, [{ target := .collected w.heap.size, args := #[] }], W1, { target := .fn (.func gf) lb, args := fb ++ #[.func (.yield (w.heap.size + 1)) #[] #[]] }, W1, gf,
  fb ++ #[.func (.yield (w.heap.size + 1)) #[] #[]] ++ lb, W1, ?_, ?_, ?_, ?_, (fun h => by cases h), ?_⟩
 ·rw [← hW1, hrec]; exact run_enterLoop_outer _ _ _ _ _
 ·simp only [resolve, hg]
  simp [go_sem]
 ·intro f' _; trivial
 ·simp only [invoke, go_sem]
  exact eg _ _
 have hwalk : ∀ {A : World} {row : Option Nat}, (∀ r, row = some r → W1.heap.size ≤ r ∧ ∃ o : Obj, A.heap[r]? = some o ∧ o.isWalk = true) → (∀ r, row = some r → w.heap.size ≤ r ∧ ∃ o : Obj, A.heap[r]? = some o ∧ o.isCells = false) :=
  fun hr r e => by obtain ⟨hB, o, ho, hw⟩ := hr r e; exact ⟨by omega, o, ho, Obj.not_cells_of_walk hw⟩
 have hkeep : ∀ {A B : World} {row : Option Nat} {k : Nat} {o : Obj}, A.grownBy B row → (∀ r, row = some r → W1.heap.size ≤ r ∧ ∃ o : Obj, A.heap[r]? = some o ∧ o.isWalk = true) → A.heap[k]? = some o → k < w.heap.size + 2 → B.heap[k]? = some o := by
  intro A B row k o hg' hr h hk
  refine (hg'.block k (Array.getElem?_eq_some_iff.1 h).1 fun e => ?_).trans h
  have := (hr k e.symm).1; omega
 refine (hseq (w.heap.size + 1)
  (fun i W => I i W ∧ W.heap[w.heap.size + 1]? = some (.loop (rec .ready none)) ∧ W.heap[w.heap.size]? = some (.deferred (some [])))
  (fun _ W => ∃ c, Ix c W ∧ W.heap[w.heap.size + 1]? = some (.loop (rec .done (some c))) ∧ W.heap[w.heap.size]? = some (.deferred (some [])))
  W1 hb1
  (fun s A B row hs hg' hr => ⟨hI s A B row hs.1 hg' (hwalk hr), hkeep hg' hr hs.2.1 (by omega), hkeep hg' hr hs.2.2 (by omega)⟩)
  (fun s A B row hs hg' hr => by
   obtain ⟨c, hc, hl, hk⟩ := hs
   exact ⟨c, hIx c s A B row hc hg' (hwalk hr), hkeep hg' hr hl (by omega), hkeep hg' hr hk (by omega)⟩)
  (fun i W h => hgI i W h.1) (fun W h => by obtain ⟨c, hc, _⟩ := h; exact hgX c W hc) ?_ ⟨hI1, hL1, hK1⟩).mono ?_
 ·-- one round
  rintro i W hlt ⟨hi, hl, hk⟩
  have hlt2 : w.heap.size + 1 < W.heap.size := (Array.getElem?_eq_some_iff.1 hl).1
  have hy := run_yield (P := P) (args := enc i) hl (by rw [hrec]; exact hps i hlt)
  rw [hrec] at hy
  refine ⟨fn, _, assign, body, hy, roundIn_of_wpIn hfn ?_⟩
  refine wpIn_mono (hround i W _ hlt hi hlt2 hl hk) ?_
  intro e a1 V hV
  cases e with
  | normal =>
   obtain ⟨hl1, hb⟩ := hV
   refine ⟨_, run_beginRound hl1 (by rw [hrec]), wpIn_mono (hb _) ?_⟩
   rintro e a3 W3 ⟨hl3, hk3, hkp, hp⟩
   have hlt3 : w.heap.size + 1 < W3.heap.size := (Array.getElem?_eq_some_iff.1 hl3).1
   have fin : ∀ (jump : Option Code), (Instr.endRound (w.heap.size + 1) jump).run P W3 = .ok (.bool jump.isNone) (W3.putObj (w.heap.size + 1) (.loop (rec (if jump.isNone then .ready else .done) jump))) ∧
     (W3.putObj (w.heap.size + 1) (.loop (rec (if jump.isNone then .ready else .done) jump))).heap[w.heap.size + 1]? = some (.loop (rec (if jump.isNone then .ready else .done) jump)) ∧
     (W3.putObj (w.heap.size + 1) (.loop (rec (if jump.isNone then .ready else .done) jump))).heap[w.heap.size]? = some (.deferred (some [])) := fun jump => by
    have := run_endRound (P := P) jump hl3
    rw [hrec] at this ⊢
    exact ⟨this, World.putObj_heap_same hlt3, (World.putObj_heap_other (by omega)).trans hk3⟩
   cases e with
   | normal =>
    obtain ⟨hr, h4, h5⟩ := fin none
    exact ⟨_, _, hr, .inl ⟨rfl, ⟨hI.putObj _ hp (by omega) hl3 rfl, h4, h5⟩, hkp _⟩⟩
   | ret =>
    obtain ⟨hr, h4, h5⟩ := fin (some .ret)
    exact ⟨_, _, hr, .inr ⟨rfl, .ret, (hIx _).putObj (s := ()) _ hp (by omega) hl3 rfl, h4, h5⟩⟩
   | exit id =>
    obtain ⟨hr, h4, h5⟩ := fin (some (.exit id))
    exact ⟨_, _, hr, .inr ⟨rfl, .exit id, (hIx _).putObj (s := ()) _ hp (by omega) hl3 rfl, h4, h5⟩⟩
   | goto t => exact hp.elim
   | panic ch => exact hp.elim
   | outgrown => exact hp.elim
  | ret => exact hV.elim
  | exit id => exact hV.elim
  | goto t => exact hV.elim
  | panic ch => exact hV.elim
  | outgrown => exact hV.elim
 ·-- behind the iterator
  rintro e W2 ⟨⟨v, rfl⟩, ⟨hi, hl, hk⟩ | ⟨c, hi, hl, hk⟩⟩
  ·exact ⟨none, _, by have := run_endLoop (P := P) hl (by rw [hrec]; simp); rw [hrec] at this; exact this, hdone _ (hI.putObj _ hi (by omega) hl rfl) ((World.putObj_heap_other (by omega)).trans hk)⟩
  ·exact ⟨some c, _, by have := run_endLoop (P := P) hl (by rw [hrec]; simp); rw [hrec] at this; exact this, hstop c _ ((hIx c).putObj (s := ()) _ hi (by omega) hl rfl) ((World.putObj_heap_other (by omega)).trans hk)⟩
end Go.Proofs.YtfadkjcfjkmalaaGreatDoor.Ev
namespace Go.Proofs.YtfadkjcfjkmalaaGreatDoor.Ev
open Go.RowKit
variable {w0 : World} {N0 : Nat → Prop} {Z : Pins} {P : Program} {T : Tab} {S : Sum} {M : Map} {a : Act} {w : World}
def mixC (b : Bool) : CV → CV → Option CV
 | .v (.int k n), .v (.int k' m) => bif decide (k = k') then some (.v (.int k (cond b n m))) else none
 | .v (.bool x), .v (.bool y) => some (.v (.bool (cond b x y)))
 | _, _ => none
def mixCs (b : Bool) : List CV → List CV → Option (List CV)
 | [], [] => some []
 | x :: l, y :: m => match mixC b x y, mixCs b l m with
  | some z, some r => some (z :: r)
  | _, _ => none
 | _, _ => none
def mixD (b : Bool) : DV → DV → Option DV
 | .t (.c x), .t (.c y) => (mixC b x y).map fun z => .t (.c z)
 | .t (.a l), .t (.a m) => (mixCs b l m).map fun z => .t (.a z)
 | _, _ => none
def mixL (b : Bool) : List DV → List DV → Option (List DV)
 | [], [] => some []
 | x :: l, y :: m => match mixD b x y, mixL b l m with
  | some z, some r => some (z :: r)
  | _, _ => none
 | _, _ => none
def mixO (b : Bool) : Option (List DV) → Option (List DV) → Option (List DV)
 | some x, some y => mixL b x y
 | _, _ => none
theorem mixC_eq {b : Bool} {x y z : CV} (h : mixC b x y = some z) : z = cond b x y := by
 unfold mixC at h
 split at h
 ·rename_i k n k' m
  cases e : decide (k = k') with
  | true => rw [e] at h; cases h; have := of_decide_eq_true e; subst this; cases b <;> rfl
  | false => rw [e] at h; cases h
 ·cases h; cases b <;> rfl
 ·cases h
theorem qjF {b : Bool} : ∀ {l m r : List CV}, mixCs b l m = some r → r = cond b l m
 | [], [], r, h => by cases h; cases b <;> rfl
 | x :: l, y :: m, r, h => by
  simp only [mixCs] at h
  split at h
  ·rename_i z r' h1 h2
   cases h
   rw [mixC_eq h1, qjF h2]; cases b <;> rfl
  ·cases h
 | [], _ :: _, r, h => by cases h
 | _ :: _, [], r, h => by cases h
theorem mixD_eq {b : Bool} {x y z : DV} (h : mixD b x y = some z) : z = cond b x y := by
 unfold mixD at h
 split at h
 ·simp only [Option.map_eq_some_iff] at h
  obtain ⟨z', h1, rfl⟩ := h
  rw [mixC_eq h1]; cases b <;> rfl
 ·simp only [Option.map_eq_some_iff] at h
  obtain ⟨z', h1, rfl⟩ := h
  rw [qjF h1]; cases b <;> rfl
 ·cases h
theorem qhp {b : Bool} : ∀ {l m r : List DV}, mixL b l m = some r → r = cond b l m
 | [], [], r, h => by cases h; cases b <;> rfl
 | x :: l, y :: m, r, h => by
  simp only [mixL] at h
  split at h
  ·rename_i z r' h1 h2
   cases h
   rw [mixD_eq h1, qhp h2]; cases b <;> rfl
  ·cases h
 | [], _ :: _, r, h => by cases h
 | _ :: _, [], r, h => by cases h
theorem qcM {x y : Option (List DV)} {r : List DV} (h : mixO true x y = some r) : x = some r := by
 cases x with
 | none => cases y <;> cases h
 | some x =>
  cases y with
  | none => cases h
  | some y => rw [qhp h]; rfl
theorem qbk {x y : Option (List DV)} {r : List DV} (h : mixO false x y = some r) : y = some r := by
 cases x with
 | none => cases y <;> cases h
 | some x =>
  cases y with
  | none => cases h
  | some y => rw [qhp h]; rfl
def outs (st : DS) : List Tmp → Option (List DV)
 | [] => some []
 | t :: ts => match st.tm t, outs st ts with
  | some x, some l => some (x :: l)
  | _, _ => none
def Sm (L : List Tmp) (st s : DS) : Prop := s.h = st.h ∧ s.t.length = st.t.length ∧ ∀ i, i ∉ L → s.tm i = st.tm i
theorem Sm.refl (L : List Tmp) (st : DS) : Sm L st st := ⟨rfl, rfl, fun _ _ => rfl⟩
theorem Sm.trans {L L' : List Tmp} {a b c : DS} (h : Sm L a b) (g : Sm L' b c) : Sm (L ++ L') a c := ⟨g.1.trans h.1, g.2.1.trans h.2.1, fun i hi => by
 simp only [List.mem_append, not_or] at hi
 exact (g.2.2 i hi.2).trans (h.2.2 i hi.1)⟩
theorem Sm.mono {L L' : List Tmp} {a b : DS} (h : Sm L a b) (hl : ∀ i ∈ L, i ∈ L') : Sm L' a b := ⟨h.1, h.2.1, fun i hi => h.2.2 i fun q => hi (hl i q)⟩
theorem Sm.put {st : DS} {d : Option Tmp} {x : Option DV} {L : List Tmp} (hd : ∀ i, d = some i → i ∈ L) : Sm L st (st.putO d x) := ⟨qac _ _ _, q4W _ _ _, fun i hi => by
 rw [qab, if_neg]
 rintro ⟨h, _⟩
 exact hi (hd i h)⟩
def runV (P : Program) (T : Tab) (S : Sum) (forb : Nat → Bool) (o : Oper) (st : DS) (k : DS → Option (List DV)) : Option (List DV) := match exec P T S forb st o with
 | some e => bif e.up.isEmpty then k (st.app o.dst e) else none
 | none => none
def valOp0 (P : Program) (T : Tab) (S : Sum) (ops : List Oper) (seen : List Nat) (forb : Nat → Bool) (o : Oper) (st : DS) (k : DS → Option (List DV)) : Option (List DV) := match o.guard with
 | none => runV P T S forb o st k
 | some (j, want) => match (ops[j]?).bind (·.dst) with
  | none => k (st.putO o.dst (some noV))
  | some g => match st.tm g with
   | some (.t (.c (.v (.bool b)))) => bif memN j seen
    then cond b (cond want (runV P T S forb o st k) (k (st.putO o.dst (some noV)))) (cond want (k (st.putO o.dst (some noV))) (runV P T S forb o st k))
    else mixO b
     (cond want (runV P T S forb o (st.putO (some g) (some (dB true))) k) (k ((st.putO (some g) (some (dB true))).putO o.dst (some noV))))
     (cond want (k ((st.putO (some g) (some (dB false))).putO o.dst (some noV))) (runV P T S forb o (st.putO (some g) (some (dB false))) k))
   | some (.tu []) => k (st.putO o.dst (some noV))
   | _ => none
def valOp (P : Program) (T : Tab) (S : Sum) (ops : List Oper) (seen : List Nat) (forb : Nat → Bool) (o : Oper) (st : DS) (k : DS → Option (List DV)) : Option (List DV) := valOp0 P T S ops seen forb o st fun s => qh6 s k
def seenN (seen : List Nat) (o : Oper) : List Nat := match o.guard with
 | some (j, _) => j :: seen
 | none => seen
def valI (P : Program) (T : Tab) (S : Sum) (ops : List Oper) : List Nat → List Item → DS → (DS → Option (List DV)) → Option (List DV)
 | _, [], st, k => k st
 | seen, (_, o, f) :: l, st, k => valOp P T S ops seen f o st fun s => valI P T S ops (seenN seen o) l s k
theorem val_step {ops : List Oper} {seen : List Nat} {forb : Nat → Bool} {o : Oper} {st st' : DS} {k : DS → Option (List DV)} {vs : List DV} {p : Prop} (h : valOp P T S ops seen forb o st k = some vs) (h2 : step P T S ops forb o st = some (p, st')) : k st' = some vs ∧ ∀ L, (∀ i, o.dst = some i → i ∈ L) → Sm L st st' := by
 have hrun : ∀ {st : DS}, runV P T S forb o st k = some vs → q0O ops st o = some true → step P T S ops forb o st = some (p, st') → k st' = some vs ∧ ∀ L, (∀ i, o.dst = some i → i ∈ L) → Sm L st st' := by
  intro st h hw h2
  unfold step at h2
  rw [hw] at h2
  simp only [Option.map_eq_some_iff, Prod.mk.injEq] at h2
  obtain ⟨e, h3, _, rfl⟩ := h2
  unfold runV at h
  rw [h3] at h
  simp only at h
  cases hu : e.up with
  | cons x l => rw [hu] at h; cases h
  | nil =>
   rw [hu] at h
   refine ⟨h, fun L hd => ?_⟩
   unfold DS.app
   rw [hu]
   exact Sm.put hd
 have hskip : ∀ {st : DS}, k (st.putO o.dst (some noV)) = some vs → q0O ops st o = some false → step P T S ops forb o st = some (p, st') → k st' = some vs ∧ ∀ L, (∀ i, o.dst = some i → i ∈ L) → Sm L st st' := by
  intro st h hw h2
  unfold step at h2
  rw [hw] at h2
  cases h2
  exact ⟨h, fun L hd => Sm.put hd⟩
 unfold valOp at h
 simp only [qib] at h
 unfold valOp0 at h
 split at h
 ·rename_i hg; exact hrun h (by unfold q0O; rw [hg]) h2
 ·rename_i j want hg
  split at h
  ·rename_i hd; exact hskip h (by unfold q0O; rw [hg]; simp only; rw [hd]) h2
  ·rename_i g hd
   split at h
   ·rename_i b hb
    have hw : q0O ops st o = some (b == want) := by unfold q0O; rw [hg]; simp only; rw [hd]; simp only; rw [hb]
    cases hs : memN j seen with
    | true =>
     rw [hs] at h
     simp only [cond_true] at h
     cases b with
     | true =>
      cases want with
      | true => exact hrun h hw h2
      | false => exact hskip h hw h2
     | false =>
      cases want with
      | true => exact hskip h hw h2
      | false => exact hrun h hw h2
    | false =>
     rw [hs] at h
     simp only [cond_false] at h
     cases b with
     | true =>
      have h := qcM h
      rw [show st.putO (some g) (some (dB true)) = st from qbg hb] at h
      cases want with
      | true => exact hrun h hw h2
      | false => exact hskip h hw h2
     | false =>
      have h := qbk h
      rw [show st.putO (some g) (some (dB false)) = st from qbg hb] at h
      cases want with
      | true => exact hskip h hw h2
      | false => exact hrun h hw h2
   ·rename_i hb; exact hskip h (by unfold q0O; rw [hg]; simp only; rw [hd]; simp only; rw [hb]) h2
   ·cases h
def isCl : Op → Bool
 | .call _ => true
 | _ => false
def noUp (o : Oper) : Bool := !isWr o.op && (!isAl o.op || isCl o.op)
def qdX : List Item → Bool
 | [] => true
 | (_, o, _) :: l => noUp o && qdX l
def q6n : List Item → List Tmp
 | [] => []
 | (_, o, _) :: l => match o.dst with
  | some d => d :: q6n l
  | none => q6n l
theorem qmh {k : Nat} {o : Oper} {f : Nat → Bool} {l : List Item} {i : Tmp} (h : o.dst = some i) : i ∈ q6n ((k, o, f) :: l) := by simp [q6n, h]
theorem qmi {x : Item} {l : List Item} {i : Tmp} (h : i ∈ q6n l) : i ∈ q6n (x :: l) := by
 obtain ⟨k, o, f⟩ := x
 simp only [q6n]
 cases o.dst with
 | none => exact h
 | some d => exact List.mem_cons_of_mem _ h
theorem qcN {ops : List Oper} {k : DS → Option (List DV)} {R : DS → Prop} {vs : List DV} : ∀ (l : List Item) {seen : List Nat} {st : DS}, qdX l = true → valI P T S ops seen l st k = some vs → q0d P T S ops l st R → q0d P T S ops l st fun s => R s ∧ k s = some vs ∧ Sm (q6n l) st s
 | [], seen, st, _, h, g => ⟨g, h, Sm.refl _ _⟩
 | (j, o, f) :: l, seen, st, hn, h, g => by
  simp only [qdX, Bool.and_eq_true] at hn
  simp only [valI] at h
  simp only [q0d] at g ⊢
  rw [q1M] at g ⊢
  obtain ⟨p, s, h1, h2, h3⟩ := g
  obtain ⟨h4, h6⟩ := val_step h h1
  refine ⟨p, s, h1, h2, q3Q (fun s2 h5 => ⟨h5.1, h5.2.1, ?_⟩) l (qcN l hn.2 h4 h3)⟩
  exact (Sm.trans (h6 (q6n ((j, o, f) :: l)) fun i hi => qmh hi) h5.2.2).mono fun i hi => by
   rcases List.mem_append.1 hi with hi | hi
   ·exact hi
   ·exact qmi hi
theorem q9K {ops : List Oper} {k : DS → Prop} : ∀ (l : List Oper) {st : DS}, q0d P T S ops (l.map fun o => (0, o, q6m)) st k ↔ qc2 P T S ops l st k
 | [], st => Iff.rfl
 | o :: l, st => by
  simp only [List.map_cons, q0d, qc2, q1M, q9K l]
def q6Y : List Tmp → DS → DS
 | [], st => st
 | i :: l, st => q6Y l (st.putO (some i) none)
def putTs : List Tmp → List DV → DS → DS
 | t :: ts, x :: xs, st => putTs ts xs (st.putO (some t) (some x))
 | _, _, st => st
def Le (σ s : DS) : Prop := σ.h = s.h ∧ σ.t.length = s.t.length ∧ ∀ i d, σ.tm i = some d → s.tm i = some d
theorem Le.put {σ s : DS} (h : Le σ s) {t : Tmp} {x : DV} (hx : s.tm t = some x) : Le (σ.putO (some t) (some x)) s := ⟨(qac _ _ _).trans h.1, (q4W _ _ _).trans h.2.1, fun i d hi => by
 rw [qab] at hi
 split at hi
 ·rename_i e
  have : i = t := by have := e.1; injection this with this; exact this.symm
  rw [this, ← hi]; exact hx
 ·exact h.2.2 i d hi⟩
theorem Le.puts : ∀ {ts : List Tmp} {vs : List DV} {σ s : DS}, Le σ s → outs s ts = some vs → Le (putTs ts vs σ) s
 | [], vs, σ, s, h, _ => h
 | t :: ts, [], σ, s, h, _ => h
 | t :: ts, x :: xs, σ, s, h, g => by
  simp only [outs] at g
  split at g
  ·rename_i y l h1 h2
   cases g
   show Le (putTs ts xs (σ.putO (some t) (some x))) s
   exact Le.puts (h.put h1) h2
  ·cases g
theorem qim : ∀ {L : List Tmp} {st : DS}, (q6Y L st).h = st.h ∧ (q6Y L st).t.length = st.t.length ∧ ∀ i d, (q6Y L st).tm i = some d → st.tm i = some d ∧ i ∉ L
 | [], st => ⟨rfl, rfl, fun i d h => ⟨h, by simp⟩⟩
 | j :: L, st => by
  obtain ⟨h1, h2, h3⟩ := qim (L := L) (st := st.putO (some j) none)
  refine ⟨h1.trans (qac _ _ _), h2.trans (q4W _ _ _), fun i d h => ?_⟩
  obtain ⟨g1, g2⟩ := h3 i d h
  rw [qab] at g1
  split at g1
  ·cases g1
  ·rename_i e
   refine ⟨g1, fun hm => ?_⟩
   rcases List.mem_cons.1 hm with rfl | hm
   ·refine e ⟨rfl, ?_⟩
    rcases Nat.lt_or_ge i st.t.length with q | q
    ·exact q
    ·unfold DS.tm at g1; rw [List.getElem?_eq_none q] at g1; cases g1
   ·exact g2 hm
theorem Le.of_sm {L : List Tmp} {st s : DS} (h : Sm L st s) : Le (q6Y L st) s := by
 obtain ⟨h1, h2, h3⟩ := qim (L := L) (st := st)
 exact ⟨h1.trans h.1.symm, h2.trans h.2.1.symm, fun i d hi => by rw [h.2.2 i (h3 i d hi).2]; exact (h3 i d hi).1⟩
theorem Abs.le {st σ : DS} (ha : Abs w0 N0 Z M st a w) (h : Le σ st) : Abs w0 N0 Z M σ a w :=
 have e : ∀ k, σ.at k = st.at k := fun k => by unfold DS.at; rw [h.1]
 ⟨ha.below, ha.fits.trans h.2.1.symm, ha.defs, fun i dv hi => ha.tmp i dv (h.2.2 i dv hi), fun k r hk => ha.row k r (by rwa [e k] at hk), fun k hk => ha.dom k (by rwa [e k] at hk), ha.own,
  fun k k' r r' l l' b h1 h2 h3 h4 h5 h6 h7 h8 => ha.apart k k' r r' l l' b (by rwa [e k] at h1) h2 (by rwa [e k'] at h3) h4 h5 h6 h7 h8, ha.pinB, ha.pinN, ha.pinK, ha.lim⟩
def joinK (L ts : List Tmp) (st : DS) (o : Option (List DV)) (kn : DS → Prop) : Prop := match o with
 | some vs => kn (putTs ts vs (q6Y L st))
 | none => False
def evCut (P : Program) (T : Tab) (S : Sum) (ops : List Oper) (l : List Item) (p : Nat) (ts : List Tmp) (st : DS) (kn : DS → Prop) : Prop :=
 q0d P T S ops (l.take p) st fun s => bif qdX (l.drop p) then q0d P T S ops (l.drop p) s (fun _ => True) ∧ joinK (q6n (l.drop p)) ts s (valI P T S ops [] (l.drop p) s fun s => outs s ts) kn else False
theorem qkO {ops : List Oper} {l : List Item} {p : Nat} {ts : List Tmp} {st : DS} {kn : DS → Prop} (h : evCut P T S ops l p ts st kn) : q0d P T S ops l st fun s => ∃ σ, kn σ ∧ Le σ s := by
 unfold evCut at h
 rw [show l = l.take p ++ l.drop p from (List.take_append_drop p l).symm, q4o]
 refine q3Q (fun s hs => ?_) _ h
 cases hn : qdX (l.drop p) with
 | false => rw [hn] at hs; exact hs.elim
 | true =>
  rw [hn] at hs
  obtain ⟨h1, h2⟩ := hs
  unfold joinK at h2
  split at h2
  ·rename_i vs hv
   refine q3Q (fun s2 h3 => ⟨_, h2, ?_⟩) _ (qcN (l.drop p) hn hv h1)
   exact (Le.of_sm h3.2.2).puts h3.2.1
  ·exact h2.elim
end Go.Proofs.YtfadkjcfjkmalaaGreatDoor.Ev
namespace Go.Proofs.YtfadkjcfjkmalaaGreatDoor.Ev
open Go.RowKit
variable {w0 : World} {N0 : Nat → Prop} {Z : Pins} {P : Program} {T : Tab} {S : Sum} {M : Map} {a : Act} {w : World}
def SeqItM (P : Program) (gf : FuncId) (fb lb : Array Value) (B : Nat) (ty : TypeId) (D : Nat → Value) (n : Nat) (enc : Nat → Array Value) (N : Nat → Prop) (w : World) : Prop :=
 ∀ (l : Nat) (J Jb : Nat → World → Prop) (Jx : Unit → World → Prop) (W : World), Below w.heap.size w W → AbidesFrom W.heap.size J → AbidesFrom W.heap.size Jb → AbidesFrom W.heap.size Jx → (∀ i W, J i W → Gd W) → (∀ i W, Jb i W → Gd W) → (∀ W, Jx () W → Gd W) →
  (∀ i W1, J i W1 → W1.heap[B]? = some (.cells #[D i] ty (0, 0))) → (∀ i W1, Jb i W1 → W1.heap[B]? = some (.cells #[D i] ty (0, 0))) →
  (∀ i W1, i < n → J i W1 → YieldAt Fence.wide 0 P l (enc i) W1 fun e W' => (e = .returned (.bool true) ∧ Jb i W' ∧ KpI w N none W1 W') ∨ (e = .returned (.bool false) ∧ Jx () W')) →
  (∀ i W1, i + 1 < n → Jb i W1 → J (i + 1) (W1.setRow B #[D (i + 1)])) →
  J 0 W →
  CallsIn Fence.wide 0 P gf (fb ++ #[.func (.yield l) #[] #[]] ++ lb) W fun e W' => (∃ v, e = .returned v) ∧ (Jb (n - 1) W' ∨ Jx () W')
theorem wp_rfM {g : Operand} {ps : Array Tmp} {assign body : Code} {Q : Exit → Act → World → Prop} {gf : FuncId} {fb lb : Array Value} (hg : a.eval g = .func (.func gf) fb lb) (eg : Enters P gf) {B : Nat} {ty : TypeId} {D : Nat → Value} {n : Nat} {enc : Nat → Array Value} {N : Nat → Prop} (hseq : SeqItM P gf fb lb B ty D n enc N w) (hB : B < w.heap.size) (hn0 : 0 < n)
  (hps : ∀ i, i < n → (enc i).size = ps.size) (I Ib : Nat → World → Prop) (Ix : Code → World → Prop) (hI : OwnFrom w.heap.size I) (hIb : OwnFrom w.heap.size Ib) (hIx : ∀ c, OwnFrom w.heap.size (fun (_ : Unit) => Ix c)) (hgI : ∀ i W, I i W → Gd W) (hgB : ∀ i W, Ib i W → Gd W) (hgX : ∀ c W, Ix c W → Gd W) (h0 : I 0 w) (hc : ∀ i W, I i W → W.heap[B]? = some (.cells #[D i] ty (0, 0))) (hcb : ∀ i W, Ib i W → W.heap[B]? = some (.cells #[D i] ty (0, 0)))
  (hround : ∀ (i : Nat) (W : World) (r : Loop), i < n → I i W → w.heap.size + 1 < W.heap.size → W.heap[w.heap.size + 1]? = some (.loop r) → W.heap[w.heap.size]? = some (.deferred (some [])) →
   assign.wpIn (Fence.wide.inRound (w.heap.size + 1)) 0 P (Exit.then (fun a1 W1 => W1.heap[w.heap.size + 1]? = some (.loop r) ∧ ∀ r', body.wpIn (Fence.wide.inRound (w.heap.size + 1)) 0 P
     (fun e _ W3 => W3.heap[w.heap.size + 1]? = some (.loop r') ∧ W3.heap[w.heap.size]? = some (.deferred (some [])) ∧ (∀ o, KpI w N none W (W3.putObj (w.heap.size + 1) o)) ∧ (match e with
      | .normal => Ib i W3
      | .ret => Ix .ret W3
      | .exit id => Ix (.exit id) W3
      | _ => False)) a1 (W1.putObj (w.heap.size + 1) (.loop r'))) (fun _ _ _ => False))
    { tmps := (ps.zip (enc i)).foldl (fun t (p, v) => t.setIfInBounds p v) a.tmps, defers := [] } W)
  (hnext : ∀ i W, i + 1 < n → Ib i W → I (i + 1) (W.setRow B #[D (i + 1)]))
  (hdone : ∀ W, Ib (n - 1) W → W.heap[w.heap.size]? = some (.deferred (some [])) → Q .normal { a with defers := { target := .collected w.heap.size, args := #[] } :: a.defers } W)
  (hstop : ∀ (c : Code) (W : World), Ix c W → W.heap[w.heap.size]? = some (.deferred (some [])) → c.wpIn Fence.wide 0 P Q { a with defers := { target := .collected w.heap.size, args := #[] } :: a.defers } W) :
  (Code.rangeFunc g ps assign body).wpIn Fence.wide 0 P Q a w := by
 refine wpIn_rangeFunc ?_
 intro fn hfn
 obtain ⟨rec, hrec⟩ : ∃ rec : LoopState → Option Code → Loop, rec = fun st pe => { state := st, pending := pe, fn, tmps := a.tmps, params := ps, assign, body, defers := w.heap.size } := ⟨_, rfl⟩
 obtain ⟨W1, hW1⟩ : ∃ W1, (w.alloc (.deferred (some []))).alloc (.loop (rec .ready none)) = W1 := ⟨_, rfl⟩
 have hs1 : W1.heap.size = w.heap.size + 2 := by rw [← hW1]; simp
 have hL1 : W1.heap[w.heap.size + 1]? = some (.loop (rec .ready none)) := by
  rw [← hW1]; have := World.alloc_heap_new (w.alloc (.deferred (some []))) (.loop (rec .ready none)); rwa [World.size_alloc] at this
 have hK1 : W1.heap[w.heap.size]? = some (.deferred (some [])) := by
  rw [← hW1]; exact (Below.heap_alloc _ _ _ (by simp)).trans (World.alloc_heap_new w _)
 have hI1 : I 0 W1 := by rw [← hW1]; exact hI.alloc _ (hI.alloc _ h0)
 have hb1 : Below w.heap.size w W1 := by
  rw [← hW1]; exact ((Below.refl _ w).alloc (Nat.le_refl _) _).alloc (by simp) _
 refine ⟨w.heap.size + 1, [{ target := .collected w.heap.size, args := #[] }], W1, { target := .fn (.func gf) lb, args := fb ++ #[.func (.yield (w.heap.size + 1)) #[] #[]] }, W1, gf,
  fb ++ #[.func (.yield (w.heap.size + 1)) #[] #[]] ++ lb, W1, ?_, ?_, ?_, ?_, (fun h => by cases h), ?_⟩
 ·rw [← hW1, hrec]; exact run_enterLoop_outer _ _ _ _ _
 ·simp only [resolve, hg]
  simp [go_sem]
 ·intro f' _; trivial
 ·simp only [invoke, go_sem]
  exact eg _ _
 have hwalk : ∀ {A : World} {row : Option Nat}, (∀ r, row = some r → W1.heap.size ≤ r ∧ ∃ o : Obj, A.heap[r]? = some o ∧ o.isWalk = true) → (∀ r, row = some r → w.heap.size ≤ r ∧ ∃ o : Obj, A.heap[r]? = some o ∧ o.isCells = false) :=
  fun hr r e => by obtain ⟨hB, o, ho, hw⟩ := hr r e; exact ⟨by omega, o, ho, Obj.not_cells_of_walk hw⟩
 have hkeep : ∀ {A B : World} {row : Option Nat} {k : Nat} {o : Obj}, A.grownBy B row → (∀ r, row = some r → W1.heap.size ≤ r ∧ ∃ o : Obj, A.heap[r]? = some o ∧ o.isWalk = true) → A.heap[k]? = some o → k < w.heap.size + 2 → B.heap[k]? = some o := by
  intro A B row k o hg' hr h hk
  refine (hg'.block k (Array.getElem?_eq_some_iff.1 h).1 fun e => ?_).trans h
  have := (hr k e.symm).1; omega
 refine (hseq (w.heap.size + 1)
  (fun i W => I i W ∧ W.heap[w.heap.size + 1]? = some (.loop (rec .ready none)) ∧ W.heap[w.heap.size]? = some (.deferred (some [])))
  (fun i W => Ib i W ∧ W.heap[w.heap.size + 1]? = some (.loop (rec .ready none)) ∧ W.heap[w.heap.size]? = some (.deferred (some [])))
  (fun _ W => ∃ c, Ix c W ∧ W.heap[w.heap.size + 1]? = some (.loop (rec .done (some c))) ∧ W.heap[w.heap.size]? = some (.deferred (some [])))
  W1 hb1
  (fun s A B row hs hg' hr => ⟨hI s A B row hs.1 hg' (hwalk hr), hkeep hg' hr hs.2.1 (by omega), hkeep hg' hr hs.2.2 (by omega)⟩)
  (fun s A B row hs hg' hr => ⟨hIb s A B row hs.1 hg' (hwalk hr), hkeep hg' hr hs.2.1 (by omega), hkeep hg' hr hs.2.2 (by omega)⟩)
  (fun s A B row hs hg' hr => by
   obtain ⟨c, hc, hl, hk⟩ := hs
   exact ⟨c, hIx c s A B row hc hg' (hwalk hr), hkeep hg' hr hl (by omega), hkeep hg' hr hk (by omega)⟩)
  (fun i W h => hgI i W h.1) (fun i W h => hgB i W h.1) (fun W h => by obtain ⟨c, hc, _⟩ := h; exact hgX c W hc) (fun i W h => hc i W h.1) (fun i W h => hcb i W h.1) ?_ (fun i W1 h1 h => ⟨hnext i W1 h1 h.1, by rw [setRow_other _ _ _ _ (by omega)]; exact h.2.1, by rw [setRow_other _ _ _ _ (by omega)]; exact h.2.2⟩) ⟨hI1, hL1, hK1⟩).mono ?_
 ·-- one round
  rintro i W hlt ⟨hi, hl, hk⟩
  have hlt2 : w.heap.size + 1 < W.heap.size := (Array.getElem?_eq_some_iff.1 hl).1
  have hy := run_yield (P := P) (args := enc i) hl (by rw [hrec]; exact hps i hlt)
  rw [hrec] at hy
  refine ⟨fn, _, assign, body, hy, roundIn_of_wpIn hfn ?_⟩
  refine wpIn_mono (hround i W _ hlt hi hlt2 hl hk) ?_
  intro e a1 V hV
  cases e with
  | normal =>
   obtain ⟨hl1, hb⟩ := hV
   refine ⟨_, run_beginRound hl1 (by rw [hrec]), wpIn_mono (hb _) ?_⟩
   rintro e a3 W3 ⟨hl3, hk3, hkp, hp⟩
   have hlt3 : w.heap.size + 1 < W3.heap.size := (Array.getElem?_eq_some_iff.1 hl3).1
   have fin : ∀ (jump : Option Code), (Instr.endRound (w.heap.size + 1) jump).run P W3 = .ok (.bool jump.isNone) (W3.putObj (w.heap.size + 1) (.loop (rec (if jump.isNone then .ready else .done) jump))) ∧
     (W3.putObj (w.heap.size + 1) (.loop (rec (if jump.isNone then .ready else .done) jump))).heap[w.heap.size + 1]? = some (.loop (rec (if jump.isNone then .ready else .done) jump)) ∧
     (W3.putObj (w.heap.size + 1) (.loop (rec (if jump.isNone then .ready else .done) jump))).heap[w.heap.size]? = some (.deferred (some [])) := fun jump => by
    have := run_endRound (P := P) jump hl3
    rw [hrec] at this ⊢
    exact ⟨this, World.putObj_heap_same hlt3, (World.putObj_heap_other (by omega)).trans hk3⟩
   cases e with
   | normal =>
    obtain ⟨hr, h4, h5⟩ := fin none
    exact ⟨_, _, hr, .inl ⟨rfl, ⟨hIb.putObj _ hp (by omega) hl3 rfl, h4, h5⟩, hkp _⟩⟩
   | ret =>
    obtain ⟨hr, h4, h5⟩ := fin (some .ret)
    exact ⟨_, _, hr, .inr ⟨rfl, .ret, (hIx _).putObj (s := ()) _ hp (by omega) hl3 rfl, h4, h5⟩⟩
   | exit id =>
    obtain ⟨hr, h4, h5⟩ := fin (some (.exit id))
    exact ⟨_, _, hr, .inr ⟨rfl, .exit id, (hIx _).putObj (s := ()) _ hp (by omega) hl3 rfl, h4, h5⟩⟩
   | goto t => exact hp.elim
   | panic ch => exact hp.elim
   | outgrown => exact hp.elim
  | ret => exact hV.elim
  | exit id => exact hV.elim
  | goto t => exact hV.elim
  | panic ch => exact hV.elim
  | outgrown => exact hV.elim
 ·-- behind the iterator
  rintro e W2 ⟨⟨v, rfl⟩, ⟨hi, hl, hk⟩ | ⟨c, hi, hl, hk⟩⟩
  ·exact ⟨none, _, by have := run_endLoop (P := P) hl (by rw [hrec]; simp); rw [hrec] at this; exact this, hdone _ (hIb.putObj _ hi (by omega) hl rfl) ((World.putObj_heap_other (by omega)).trans hk)⟩
  ·exact ⟨some c, _, by have := run_endLoop (P := P) hl (by rw [hrec]; simp); rw [hrec] at this; exact this, hstop c _ ((hIx c).putObj (s := ()) _ hi (by omega) hl rfl) ((World.putObj_heap_other (by omega)).trans hk)⟩
end Go.Proofs.YtfadkjcfjkmalaaGreatDoor.Ev
