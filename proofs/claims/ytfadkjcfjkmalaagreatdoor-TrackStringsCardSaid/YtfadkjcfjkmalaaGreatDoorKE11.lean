/- Texts of this claim, together. -/
import Derived.Lib.AtoiAllCases
import Derived.Lib.AtoiTie
import Derived.Lib.ItoaNum
import Derived.Lib.Split
import Derived.Lib.Join
import Derived.Laws.StructEq
import Derived.Test.YtfadkjcfjkmalaaGreatDoorKE6
import Derived.Test.YtfadkjcfjkmalaaGreatDoorKE1
import Derived.Lib.SmallJoins
import Derived.RangeFuncLeaves
import Derived.OwnWalkIn
import Derived.TacticsInMore
import Derived.LoopNIn
import Derived.LoopIn
import Derived.Laws.BytesArg
import Derived.Test.YtfadkjcfjkmalaaGreatDoorKE7

set_option linter.unusedVariables false
set_option linter.unusedSimpArgs false
namespace Go.Proofs.YtfadkjcfjkmalaaGreatDoor
open Go.Lib
theorem decFrom_append : ∀ (l m : List UInt8) (a : Nat), decFrom a (l ++ m) = (decFrom a l).bind fun n => decFrom n m
 | [], m, a => rfl
 | b :: l, m, a => by
  simp only [List.cons_append, decFrom]
  cases digitVal b with
  | none => rfl
  | some d => exact decFrom_append l m _
theorem digitVal_of {d : Nat} (h : d < 10) : digitVal (UInt8.ofNat (48 + d)) = some d := by
 unfold digitVal
 have e : (UInt8.ofNat (48 + d)).toNat = 48 + d := by rw [UInt8.toNat_ofNat']; omega
 rw [e, if_pos (by omega)]
 congr 1
 omega
theorem digitVal_back {b : UInt8} {d : Nat} (h : digitVal b = some d) : d < 10 ∧ b = UInt8.ofNat (48 + d) ∧ b.toNat = 48 + d := by
 unfold digitVal at h
 split at h
 ·rename_i hb
  cases h
  refine ⟨by omega, ?_, by omega⟩
  apply UInt8.toNat_inj.1
  rw [UInt8.toNat_ofNat']; omega
 ·cases h
theorem dec_small {u : Nat} (h : u < 10) : decDigits u = [UInt8.ofNat (48 + u)] := by rw [decDigits, dif_pos h]
theorem dec_big {u : Nat} (h : ¬ u < 10) : decDigits u = decDigits (u / 10) ++ [UInt8.ofNat (48 + u % 10)] := by rw [decDigits, dif_neg h]
theorem dec_ne (u : Nat) : decDigits u ≠ [] := by
 by_cases h : u < 10
 ·rw [dec_small h]; simp
 ·rw [dec_big h]; simp
theorem dec_val (u : Nat) : decFrom 0 (decDigits u) = some u := by
 induction u using Nat.strongRecOn with
 | _ u ih =>
  by_cases h : u < 10
  ·rw [dec_small h]
   simp only [decFrom, digitVal_of h]
   congr 1
   omega
  ·rw [dec_big h, decFrom_append, ih (u / 10) (by omega)]
   simp only [Option.bind_some, decFrom, digitVal_of (show u % 10 < 10 by omega)]
   congr 1
   omega
theorem dec_dig (u : Nat) : ∀ b ∈ decDigits u, 48 ≤ b.toNat ∧ b.toNat ≤ 57 := by
 induction u using Nat.strongRecOn with
 | _ u ih =>
  intro b hb
  by_cases h : u < 10
  ·rw [dec_small h] at hb
   obtain rfl := List.mem_singleton.1 hb
   rw [UInt8.toNat_ofNat']; omega
  ·rw [dec_big h] at hb
   rcases List.mem_append.1 hb with hb | hb
   ·exact ih (u / 10) (by omega) b hb
   ·obtain rfl := List.mem_singleton.1 hb
    rw [UInt8.toNat_ofNat']; omega
theorem dec_head {u : Nat} (h : 1 ≤ u) : ∀ b, (decDigits u).head? = some b → b.toNat ≠ 48 := by
 induction u using Nat.strongRecOn with
 | _ u ih =>
  intro b hb
  by_cases h10 : u < 10
  ·rw [dec_small h10] at hb
   simp only [List.head?_cons, Option.some.injEq] at hb
   subst hb
   rw [UInt8.toNat_ofNat']; omega
  ·rw [dec_big h10] at hb
   have hne := dec_ne (u / 10)
   obtain ⟨x, r, e⟩ := List.exists_cons_of_ne_nil hne
   rw [e] at hb
   simp only [List.cons_append, List.head?_cons, Option.some.injEq] at hb
   subst hb
   exact ih (u / 10) (by omega) (by omega) x (by rw [e]; rfl)
theorem dec_canon : ∀ (k : Nat) (r : List UInt8) (m : Nat), r.length = k → r ≠ [] → decFrom 0 r = some m → (r.length = 1 ∨ ∀ b, r.head? = some b → b.toNat ≠ 48) → decDigits m = r := by
 intro k
 induction k with
 | zero => intro r m hk hr; exact absurd (List.eq_nil_of_length_eq_zero hk) hr
 | succ k ih =>
  intro r m hk hr hd hc
  obtain ⟨r', b, rfl⟩ : ∃ r' b, r = r' ++ [b] := ⟨r.dropLast, r.getLast hr, (List.dropLast_concat_getLast hr).symm⟩
  rw [decFrom_append] at hd
  cases h1 : decFrom 0 r' with
  | none => rw [h1] at hd; cases hd
  | some m' =>
   rw [h1] at hd
   simp only [Option.bind_some, decFrom] at hd
   cases h2 : digitVal b with
   | none => rw [h2] at hd; cases hd
   | some d =>
    rw [h2] at hd
    simp only [Option.some.injEq] at hd
    obtain ⟨hd10, hb, _⟩ := digitVal_back h2
    by_cases h0 : r' = []
    ·subst h0
     have : m' = 0 := by simp only [decFrom, Option.some.injEq] at h1; exact h1.symm
     subst this
     rw [← hd, Nat.zero_mul, Nat.zero_add, dec_small hd10, hb]
     rfl
    ·have hl : 1 ≤ r'.length := by cases r' with
      | nil => exact absurd rfl h0
      | cons _ _ => simp
     have hc : ∀ b, r'.head? = some b → b.toNat ≠ 48 := by
      rcases hc with hc | hc
      ·rw [List.length_append, List.length_singleton] at hc; omega
      ·intro x hx
       refine hc x ?_
       cases r' with
       | nil => cases hx
       | cons y r'' => exact hx
     have hi := ih r' m' (by simpa using hk) h0 h1 (Or.inr hc)
     have hm : 1 ≤ m' := by
      rcases Nat.eq_zero_or_pos m' with e | e
      ·exfalso
       rw [e, dec_small (u := 0) (by omega)] at hi
       exact hc (UInt8.ofNat (48 + 0)) (by rw [← hi]; rfl) (by decide)
      ·exact e
     rw [← hd, dec_big (u := m' * 10 + d) (by omega), show (m' * 10 + d) / 10 = m' by omega, show (m' * 10 + d) % 10 = d by omega, hi, hb]
theorem decFrom_lt : ∀ (r : List UInt8) (a m : Nat), decFrom a r = some m → m < (a + 1) * 10 ^ r.length
 | [], a, m, h => by simp only [decFrom, Option.some.injEq] at h; subst h; simp
 | b :: r, a, m, h => by
  simp only [decFrom] at h
  cases hd : digitVal b with
  | none => rw [hd] at h; cases h
  | some d =>
   rw [hd] at h
   have h2 := decFrom_lt r _ _ h
   have h3 := (digitVal_back hd).1
   rw [List.length_cons, Nat.pow_succ, Nat.mul_comm (10 ^ r.length) 10, ← Nat.mul_assoc]
   refine Nat.lt_of_lt_of_le h2 (Nat.mul_le_mul_right _ ?_)
   omega
def numR (l : List UInt8) (dg : Nat) : Option Int :=
 if l.head? = some 45 then (if l.drop 1 = [] ∨ (l.drop 1).length > dg ∨ (l.drop 1).head? = some 48 then none else (decFrom 0 (l.drop 1)).map fun m : Nat => -(m : Int))
 else (if l = [] ∨ l.length > dg ∨ (l.head? = some 48 ∧ 1 < l.length) then none else (decFrom 0 l).map fun m : Nat => (m : Int))
def numG (l : List UInt8) (dg : Nat) : Option Int := match atoiAll l with
 | .ok v => if itoa v = l ∧ (if l.head? = some 45 then l.drop 1 else l).length ≤ dg then some v else none
 | _ => none
theorem itoa_neg {n : Int} (h : n < 0) : itoa n = 45 :: decDigits n.natAbs := if_pos h
theorem itoa_pos {n : Int} (h : 0 ≤ n) : itoa n = decDigits n.toNat := if_neg (by omega)
theorem dec_head45 (u : Nat) : (decDigits u).head? ≠ some 45 := by
 intro h
 have : (45 : UInt8) ∈ decDigits u := List.mem_of_head? h
 have := dec_dig u 45 this
 have e : (45 : UInt8).toNat = 45 := by decide
 omega
theorem dec_len48 {u : Nat} (h : (decDigits u).head? = some 48) : decDigits u = [48] := by
 rcases Nat.eq_zero_or_pos u with e | e
 ·subst e; rw [dec_small (by omega)]; rfl
 ·exact absurd (by decide) (dec_head e 48 h)
theorem numR_itoa {v : Int} {dg : Nat} (h : (if (itoa v).head? = some 45 then (itoa v).drop 1 else itoa v).length ≤ dg) : numR (itoa v) dg = some v := by
 unfold numR
 by_cases hv : v < 0
 ·rw [itoa_neg hv] at h ⊢
  simp only [List.head?_cons, List.drop_succ_cons, List.drop_zero, if_true] at h ⊢
  rw [if_neg, dec_val]
  ·simp only [Option.map_some, Option.some.injEq]; omega
  ·rintro (c | c | c)
   ·exact dec_ne _ c
   ·omega
   ·exact dec_head (show 1 ≤ v.natAbs by omega) 48 c (by decide)
 ·have hv : 0 ≤ v := by omega
  rw [itoa_pos hv] at h ⊢
  rw [if_neg (dec_head45 _)] at h ⊢
  rw [if_neg, dec_val]
  ·simp only [Option.map_some, Option.some.injEq]; omega
  ·rintro (c | c | ⟨c, d⟩)
   ·exact dec_ne _ c
   ·omega
   ·rw [dec_len48 c] at d; simp at d
theorem numR_some {l : List UInt8} {dg : Nat} {v : Int} (h : numR l dg = some v) : itoa v = l ∧ (if l.head? = some 45 then l.drop 1 else l).length ≤ dg ∧ ∃ m, decFrom 0 (if l.head? = some 45 then l.drop 1 else l) = some m ∧ (if l.head? = some 45 then l.drop 1 else l) ≠ [] ∧ v = (if l.head? = some 45 then -(m : Int) else m) := by
 unfold numR at h
 split at h
 ·rename_i hh
  split at h
  ·cases h
  ·rename_i hc
   simp only [not_or] at hc
   obtain ⟨c1, c2, c3⟩ := hc
   simp only [Option.map_eq_some_iff] at h
   obtain ⟨m, h1, rfl⟩ := h
   have hcan := dec_canon _ _ m rfl c1 h1 (Or.inr fun b hb e => c3 (by rw [hb]; exact congrArg some (UInt8.toNat_inj.1 (by rw [e]; decide))))
   have hm : 1 ≤ m := by
    rcases Nat.eq_zero_or_pos m with e | e
    ·exfalso
     rw [e, dec_small (u := 0) (by omega)] at hcan
     exact c3 (by rw [← hcan]; rfl)
    ·exact e
   obtain ⟨r, rfl⟩ : ∃ r, l = 45 :: r := by
    cases l with
    | nil => cases hh
    | cons b r => simp only [List.head?_cons, Option.some.injEq] at hh; exact ⟨r, by rw [hh]⟩
   simp only [List.drop_succ_cons, List.drop_zero, List.head?_cons, if_true] at *
   refine ⟨?_, by omega, m, h1, c1, rfl⟩
   rw [itoa_neg (by omega), show (-(m : Int)).natAbs = m by omega, hcan]
 ·rename_i hh
  split at h
  ·cases h
  ·rename_i hc
   simp only [not_or] at hc
   obtain ⟨c1, c2, c3⟩ := hc
   simp only [Option.map_eq_some_iff] at h
   obtain ⟨m, h1, rfl⟩ := h
   have hcan := dec_canon _ _ m rfl c1 h1 (by
    by_cases e1 : l.length = 1
    ·exact Or.inl e1
    ·refine Or.inr fun b hb e => c3 ⟨by rw [hb]; exact congrArg some (UInt8.toNat_inj.1 (by rw [e]; decide)), ?_⟩
     cases l with
     | nil => exact absurd rfl c1
     | cons x r => simp only [List.length_cons] at e1 ⊢; omega)
   simp only [if_neg hh]
   exact ⟨by rw [itoa_pos (by omega), Int.toNat_natCast, hcan], by omega, m, h1, c1, rfl⟩
theorem atoi_of {l : List UInt8} {m : Nat} (h1 : decFrom 0 (if l.head? = some 45 then l.drop 1 else l) = some m) (h2 : (if l.head? = some 45 then l.drop 1 else l) ≠ []) (h43 : l.head? ≠ some 43) : atoi l = some (if l.head? = some 45 then -(m : Int) else m) := by
 cases l with
 | nil => simp at h2
 | cons b r =>
  simp only [List.head?_cons, Option.some.injEq, List.drop_succ_cons, List.drop_zero] at *
  rw [show atoi (b :: r) = if (b == 45) = true then (decNat r).map (fun m : Nat => -(m : Int)) else if (b == 43) = true then (decNat r).map (fun m : Nat => (m : Int)) else (decNat (b :: r)).map (fun m : Nat => (m : Int)) from rfl]
  by_cases e : b = 45
  ·rw [if_pos e] at h1 h2 ⊢
   rw [if_pos (by rw [e]; rfl)]
   unfold decNat
   rw [if_neg (by simpa using h2), h1]
   rfl
  ·rw [if_neg e] at h1 h2 ⊢
   rw [if_neg (by simpa using e), if_neg (by simpa using h43)]
   unfold decNat
   rw [if_neg (by simp), h1]
   rfl
theorem numG_eq {l : List UInt8} {dg : Nat} (hd : dg ≤ 17) : numG l dg = numR l dg := by
 cases h : numR l dg with
 | some v =>
  obtain ⟨a1, a2, m, a3, a4, a5⟩ := numR_some h
  have hl : l.length ≤ 18 := by
   by_cases e : l.head? = some 45
   ·rw [if_pos e] at a2
    simp at a2; omega
   ·rw [if_neg e] at a2
    omega
  have h43 : l.head? ≠ some 43 := by
   intro e
   have e2 : l.head? ≠ some 45 := by rw [e]; decide
   rw [if_neg e2] at a3 a4
   cases l with
   | nil => cases e
   | cons b r =>
    simp only [List.head?_cons, Option.some.injEq] at e
    subst e
    simp only [decFrom, show digitVal 43 = none from by decide] at a3
    cases a3
  have e1 := atoi_of a3 a4 h43
  unfold numG
  rw [atoiAll_short l hl, e1, ← a5]
  show (if itoa v = l ∧ _ then some v else none) = some v
  rw [if_pos ⟨a1, a2⟩]
 | none =>
  unfold numG
  cases h2 : atoiAll l with
  | ok v =>
   by_cases c : itoa v = l ∧ (if l.head? = some 45 then l.drop 1 else l).length ≤ dg
   ·obtain ⟨c1, c2⟩ := c
    rw [← c1] at c2
    have := numR_itoa c2
    rw [c1, h] at this
    cases this
   ·show (if _ then some v else none) = none
    rw [if_neg c]
  | range => rfl
  | _ => rfl
def hasC (c : UInt8) (l : List UInt8) : Bool := l.contains c
def befC (c : UInt8) (l : List UInt8) : List UInt8 := l.takeWhile (· != c)
def aftC (c : UInt8) (l : List UInt8) : List UInt8 := (l.dropWhile (· != c)).drop 1
def pcs (c : UInt8) : List UInt8 → List (List UInt8)
 | [] => [[]]
 | b :: l => if b = c then [] :: pcs c l else match pcs c l with
  | h :: t => (b :: h) :: t
  | [] => [[b]]
theorem pcs_ne (c : UInt8) : ∀ l, pcs c l ≠ []
 | [] => by simp [pcs]
 | b :: l => by
  unfold pcs
  split
  ·simp
  ·split <;> simp
theorem pcs_eq (c : UInt8) : ∀ l, pcs c l = if hasC c l = true then befC c l :: pcs c (aftC c l) else [l]
 | [] => rfl
 | b :: l => by
  rw [show pcs c (b :: l) = if b = c then [] :: pcs c l else match pcs c l with
   | h :: t => (b :: h) :: t
   | [] => [[b]] from rfl]
  by_cases h : b = c
  ·subst h
   rw [if_pos rfl, if_pos (by simp [hasC])]
   simp [befC, aftC]
  ·rw [if_neg h, pcs_eq c l]
   have hb : (b != c) = true := by simpa using h
   have e1 : hasC c (b :: l) = hasC c l := by
    unfold hasC
    rw [List.contains_cons, show (c == b) = false from by simpa using fun e => h e.symm, Bool.false_or]
   rw [e1]
   by_cases h2 : hasC c l = true
   ·rw [if_pos h2, if_pos h2]
    have e2 : befC c (b :: l) = b :: befC c l := by simp [befC, hb]
    have e3 : aftC c (b :: l) = aftC c l := by simp [aftC, hb]
    rw [e2, e3]
   ·rw [if_neg h2, if_neg h2]
theorem bef_aft {c : UInt8} {l : List UInt8} (h : hasC c l = true) : l = befC c l ++ c :: aftC c l := by
 induction l with
 | nil => simp [hasC] at h
 | cons b l ih =>
  by_cases e : b = c
  ·subst e; simp [befC, aftC]
  ·have hb : (b != c) = true := by simpa using e
   have h2 : hasC c l = true := by
    unfold hasC at h ⊢
    rw [List.contains_cons, show (c == b) = false from by simpa using fun x => e x.symm, Bool.false_or] at h
    exact h
   have := ih h2
   simp only [befC, aftC, List.takeWhile_cons, List.dropWhile_cons, hb, if_true] at this ⊢
   rw [List.cons_append]
   congr 1
theorem aft_len {c : UInt8} {l : List UInt8} (h : hasC c l = true) : (aftC c l).length < l.length := by
 have := congrArg List.length (bef_aft h)
 rw [List.length_append, List.length_cons] at this
 omega
theorem pcs_len (c : UInt8) : ∀ l, (pcs c l).length = l.count c + 1
 | [] => rfl
 | b :: l => by
  have := pcs_len c l
  unfold pcs
  by_cases h : b = c
  ·subst h
   rw [if_pos rfl, List.length_cons, this, List.count_cons_self]
  ·rw [if_neg h, List.count_cons_of_ne h]
   split
   ·rename_i x t e; rw [e] at this; simpa using this
   ·rename_i e; exact absurd e (pcs_ne c l)
theorem pcs_part {c : UInt8} {l : List UInt8} {p : List UInt8} (h : p ∈ pcs c l) : p.length ≤ l.length := by
 have key : ∀ l, ∀ p ∈ pcs c l, p.length ≤ l.length := by
  intro l
  induction l with
  | nil => intro p h; simp [pcs] at h; subst h; simp
  | cons b l ih =>
   intro p h
   unfold pcs at h
   by_cases e : b = c
   ·rw [if_pos e] at h
    rcases List.mem_cons.1 h with rfl | h
    ·simp
    ·have := ih p h; simp; omega
   ·rw [if_neg e] at h
    split at h
    ·rename_i x t ex
     rcases List.mem_cons.1 h with rfl | h
     ·have := ih x (by rw [ex]; simp); simp; omega
     ·have := ih p (by rw [ex]; simp [h]); simp; omega
    ·rename_i ex; exact absurd ex (pcs_ne c l)
 exact key l p h
def jnC (c : UInt8) : List (List UInt8) → List UInt8
 | [] => []
 | [p] => p
 | p :: q :: r => p ++ c :: jnC c (q :: r)
theorem jn_join (c : UInt8) : ∀ ps, join ps [c] = jnC c ps
 | [] => rfl
 | [p] => by rw [join_one]; rfl
 | p :: q :: r => by
  have ih := jn_join c (q :: r)
  rw [join_cons] at ih ⊢
  unfold jnC
  rw [← ih]
  simp [joinTail]
theorem pcs_app {c : UInt8} : ∀ {p : List UInt8} (l : List UInt8), hasC c p = false → pcs c (p ++ c :: l) = p :: pcs c l
 | [], l, _ => by rw [List.nil_append, pcs, if_pos rfl]
 | b :: p, l, h => by
  unfold hasC at h
  rw [List.contains_cons, Bool.or_eq_false_iff] at h
  have hb : ¬ b = c := fun e => by have := h.1; rw [e] at this; simp at this
  rw [List.cons_append, pcs, if_neg hb, pcs_app l h.2]
theorem pcs_one {c : UInt8} {p : List UInt8} (h : hasC c p = false) : pcs c p = [p] := by
 rw [pcs_eq, if_neg (by rw [h]; simp)]
theorem pcs_jn {c : UInt8} : ∀ {ps : List (List UInt8)}, ps ≠ [] → (∀ p ∈ ps, hasC c p = false) → pcs c (jnC c ps) = ps
 | [], h, _ => absurd rfl h
 | [p], _, h => pcs_one (h p (by simp))
 | p :: q :: r, _, h => by
  unfold jnC
  rw [pcs_app _ (h p (by simp)), pcs_jn (by simp) fun x hx => h x (List.mem_cons_of_mem _ hx)]
theorem idx_has (c : UInt8) : ∀ l, (index l [c] = -1 ∧ hasC c l = false) ∨ (hasC c l = true ∧ index l [c] = (befC c l).length) := by
 intro l
 rw [index_one]
 induction l with
 | nil => exact Or.inl ⟨rfl, rfl⟩
 | cons b l ih =>
  unfold indexByte
  by_cases e : b = c
  ·subst e
   right
   simp [hasC, befC]
  ·have hb : (b == c) = false := by simpa using e
   have hb2 : (b != c) = true := by simpa using e
   have e1 : hasC c (b :: l) = hasC c l := by
    unfold hasC
    rw [List.contains_cons, show (c == b) = false from by simpa using fun z => e z.symm, Bool.false_or]
   have e2 : befC c (b :: l) = b :: befC c l := by simp [befC, hb2]
   rw [hb, e1, e2]
   rcases ih with ⟨h1, h2⟩ | ⟨h1, h2⟩
   ·left; rw [h1]; exact ⟨rfl, h2⟩
   ·right
    rw [h2]
    have : (((befC c l).length : Int) == -1) = false := by rw [beq_eq_false_iff_ne]; omega
    refine ⟨h1, ?_⟩
    rw [this]
    simp
theorem cut_one (c : UInt8) (l : List UInt8) : cut l [c] = if hasC c l = true then (befC c l, aftC c l, true) else (l, [], false) := by
 unfold cut
 rcases idx_has c l with ⟨h1, h2⟩ | ⟨h1, h2⟩
 ·rw [h1, h2, if_neg (by omega), if_neg (by simp)]
 ·rw [h2, h1, if_pos (by omega), if_pos rfl]
  have e := bef_aft h1
  have e3 : l.take (befC c l).length = befC c l := by
   have h := congrArg (List.take (befC c l).length) e
   rwa [List.take_left] at h
  have e4 : l.drop ((befC c l).length + 1) = aftC c l := by
   have h := congrArg (List.drop ((befC c l).length + 1)) e
   rw [h, List.drop_append]
   simp
  rw [Int.toNat_natCast, List.length_singleton, e3, e4]
theorem trim_one (l : List UInt8) : trimPrefix l [45] = if l.head? = some 45 then l.drop 1 else l := by
 unfold trimPrefix hasPrefix
 cases l with
 | nil => rfl
 | cons b r =>
  simp only [List.head?_cons, Option.some.injEq]
  by_cases e : b = 45
  ·subst e; simp [List.isPrefixOf]
  ·rw [if_neg e, if_neg]
   simp [List.isPrefixOf]
   exact fun h => e h.symm
end Go.Proofs.YtfadkjcfjkmalaaGreatDoor
set_option linter.unusedVariables false
set_option linter.unusedSimpArgs false
namespace Go.Proofs.YtfadkjcfjkmalaaGreatDoor
open Go.RowKit Ev
def txAt (l : List ByteArray) (i : Nat) : ByteArray := l.getD i ByteArray.empty
instance lawfulBytes : LawfulBEq ByteArray where
 eq_of_beq {a b} h := by
  rw [beq_toListBytes, ByteArray.toList_eq, ByteArray.toList_eq] at h
  exact ByteArray.ext (Array.toList_inj.1 (eq_of_beq h))
 rfl {a} := by rw [beq_toListBytes]; simp
def cvStr : CV → ByteArray
 | .v (.string s) => s
 | _ => ByteArray.empty
def txsC (l : List ByteArray) : Nat → Nat → CV := fun i _ => .v (.string (txAt l i))
def txOf (n : Nat) (c : Nat → Nat → CV) : List ByteArray := (List.range n).map fun i => cvStr (c i 0)
def txP (n : Nat) (c : Nat → Nat → CV) : Prop := ∀ i, i < n → c i 0 = .v (.string (cvStr (c i 0)))
theorem txOf_len {n : Nat} {c : Nat → Nat → CV} : (txOf n c).length = n := by simp [txOf]
theorem leSlT {sz n : Nat} {c c' : Nat → Nat → CV} (h : ∀ i j, i < n → j < sz → LeC1 (c i j) (c' i j)) : LeC1 (.sl sz n c) (.sl sz n c') := by
 rintro w N v ⟨ao, cap, h1, h2, h3, h4, h5⟩
 refine ⟨ao, cap, h1, h2, h3, h4, fun h0 => ?_⟩
 obtain ⟨b, off, g1, g2, g3, g4⟩ := h5 h0
 refine ⟨b, off, g1, g2, g3, fun i j hi hj => ?_⟩
 obtain ⟨x, e1, e2⟩ := g4 i j hi hj
 exact ⟨x, e1, h i j hi hj _ _ _ e2⟩
theorem plain_str (l : List ByteArray) (i j : Nat) : ∃ y, txsC l i j = .v y := ⟨_, rfl⟩
end Go.Proofs.YtfadkjcfjkmalaaGreatDoor
set_option linter.unusedVariables false
set_option linter.unusedSimpArgs false
namespace Go.Proofs.YtfadkjcfjkmalaaGreatDoor
open Go.RowKit Ev
def ofL (l : List UInt8) : ByteArray := ⟨l.toArray⟩
theorem ofL_data (l : List UInt8) : (ofL l).data.toList = l := rfl
theorem ofL_back (s : ByteArray) : ofL s.data.toList = s := by
 obtain ⟨⟨l⟩⟩ := s
 rfl
theorem ofL_size (l : List UInt8) : (ofL l).size = l.length := by
 show l.toArray.size = _
 simp
theorem ofL_inj {l m : List UInt8} (h : ofL l = ofL m) : l = m := by rw [← ofL_data l, h, ofL_data]
theorem size_data (s : ByteArray) : s.data.toList.length = s.size := Array.length_toList
def itoaB (n : Int) : ByteArray := ofL (Lib.itoa n)
def joinB (l : List ByteArray) (sep : ByteArray) : ByteArray := ofL (Lib.join (l.map (·.data.toList)) sep.data.toList)
def trimB (s p : ByteArray) : ByteArray := ofL (Lib.trimPrefix s.data.toList p.data.toList)
def cutA (s sep : ByteArray) : ByteArray := ofL (Lib.cut s.data.toList sep.data.toList).1
def cutZ (s sep : ByteArray) : ByteArray := ofL (Lib.cut s.data.toList sep.data.toList).2.1
def cutH (s sep : ByteArray) : Bool := (Lib.cut s.data.toList sep.data.toList).2.2
def splB (s sep : ByteArray) : List ByteArray := Lib.splitB sep 0 (Lib.countB s sep) s
def atoB (s : ByteArray) : Bool := match Lib.atoiAll s.data.toList with
 | .ok _ => true
 | _ => false
def atoV (s : ByteArray) : Int := match Lib.atoiAll s.data.toList with
 | .ok v => v
 | .range => Lib.atoiSat s.data.toList
 | _ => 0
theorem pow_is {W : World} (h : Gd W) : Lib.TabIs Tryz.prog W "internal/strconv.uint64pow10" .u64 Lib.pow10Tab := by
 unfold Lib.TabIs World.var?
 rw [show Tryz.prog.globalNamed "internal/strconv.uint64pow10" = some 5 from by kernel_rfl]
 exact h.2.pow
theorem below_grow (w : World) (os : Array Obj) : Below w.heap.size w (Go.Sort.grow w os) :=
 ⟨rfl, rfl, rfl, by simp, fun k hk => by simp [Go.Sort.grow, Array.getElem?_append_left hk]⟩
theorem below_dn (w : World) (n : Nat) : Below w.heap.size w (w.drewN n) := ⟨rfl, rfl, rfl, Nat.le_refl _, fun _ _ => rfl⟩
def con_Itoa : Con := fun args => match args with
 | [.t (.c (.v (.int .i64 n)))] => some (.t (.c (.v (.string (itoaB n)))), some (-9223372036854775808 ≤ n ∧ n ≤ 9223372036854775807), .no)
 | _ => none
theorem ok_Itoa : Ok Tryz.prog 78 con_Itoa := by
 refine Ok.oldGd (Enters.of (fn := Tryz.f78) (by kernel_rfl) (by kernel_rfl) (by kernel_rfl)) fun args r pre fresh h hp => ?_
 unfold con_Itoa at h
 split at h
 ·rename_i n
  cases h
  refine ⟨rfl, _, rfl, fun W N vs hG hv => ?_⟩
  obtain ⟨u0, ws0, rfl, g0, hv0⟩ := hv.cons_inv
  obtain rfl := hv0.nil_inv
  obtain rfl : u0 = .int .i64 n := g0.1
  refine (Tryz.strconv_Itoa n hp.1 hp.2 W (pow_is hG)).mono ?_
  rintro e w' ⟨rfl, k, os, rfl⟩
  exact ⟨rfl, (below_dn W k).trans ((below_grow (W.drewN k) os).mono (Nat.le_refl _))⟩
 ·cases h
def con_Trim : Con := fun args => match args with
 | [.t (.c (.v (.string s))), .t (.c (.v (.string p)))] => some (.t (.c (.v (.string (trimB s p)))), none, .no)
 | _ => none
theorem ok_Trim : Ok Tryz.prog 85 con_Trim := by
 refine Ok.oldGd (Enters.of (fn := Tryz.f85) (by kernel_rfl) (by kernel_rfl) (by kernel_rfl)) fun args r pre fresh h hp => ?_
 unfold con_Trim at h
 split at h
 ·rename_i s p
  cases h
  refine ⟨rfl, _, rfl, fun W N vs hG hv => ?_⟩
  obtain ⟨u0, ws0, rfl, g0, hv0⟩ := hv.cons_inv
  obtain ⟨u1, ws1, rfl, g1, hv1⟩ := hv0.cons_inv
  obtain rfl := hv1.nil_inv
  obtain rfl : u0 = .string s := g0.1
  obtain rfl : u1 = .string p := g1.1
  refine (Tryz.strings_TrimPrefix s p W).mono ?_
  rintro e w' ⟨rfl, rfl⟩
  exact ⟨rfl, Below.refl _ _⟩
 ·cases h
def con_Atoi : Con := fun args => match args with
 | [.t (.c (.v (.string s)))] => some (.tu [.c (.v (.int .i64 (atoV s))), .c (.er (atoB s))], some (s.size ≤ 1000000000), .no)
 | _ => none
theorem ok_Atoi : Ok Tryz.prog 84 con_Atoi := by
 intro args r pre fresh h hp
 unfold con_Atoi at h
 split at h
 ·rename_i s
  cases h
  refine ⟨Enters.of (fn := Tryz.f84) (by kernel_rfl) (by kernel_rfl) (by kernel_rfl), fun W N vs hG hv => ?_⟩
  have hv : All2 (RelD (RelF W N)) [.t (.c (.v (.string s)))] vs := hv
  obtain ⟨u0, ws0, rfl, g0, hv0⟩ := hv.cons_inv
  obtain rfl := hv0.nil_inv
  obtain rfl : u0 = .string s := g0.1
  have hp : s.size ≤ 1000000000 := hp
  cases ha : Lib.atoiAll s.data.toList with
  | ok v =>
   refine (Tryz.strconv_Atoi_ok s (by omega) v ha W).mono ?_
   rintro e w' ⟨rfl, hw⟩
   have e1 : atoB s = true := by unfold atoB; rw [ha]
   have e2 : atoV s = v := by unfold atoV; rw [ha]
   refine ⟨_, rfl, ⟨[_, _], rfl, ⟨by rw [e2], rfl⟩, Or.inl ⟨e1, rfl⟩, trivial⟩, ?_⟩
   rcases hw with rfl | ⟨t, rfl⟩
   ·exact Below.refl _ _
   ·exact Go.Joins.below_bytesWorld _ _ _ _ (Nat.le_refl _)
  | range =>
   obtain ⟨t, p, hc⟩ := hG.2.rng
   refine (Tryz.strconv_Atoi_range s (by omega) ha _ W hc (Or.inr ⟨t, p, rfl⟩)).mono ?_
   rintro e w' ⟨n, rfl, _, _, hb⟩
   have e1 : atoB s = false := by unfold atoB; rw [ha]
   have e2 : atoV s = Lib.atoiSat s.data.toList := by unfold atoV; rw [ha]
   exact ⟨_, rfl, ⟨[_, _], rfl, ⟨by rw [e2], rfl⟩, Or.inr ⟨e1, _, _, rfl⟩, trivial⟩, hb⟩
  | _ =>
   obtain ⟨t, p, hc⟩ := hG.2.syn
   refine (Tryz.strconv_Atoi_syntax s (by omega) ha _ W hc (Or.inr ⟨t, p, rfl⟩)).mono ?_
   rintro e w' ⟨n, rfl, _, _, hb⟩
   have e1 : atoB s = false := by unfold atoB; rw [ha]
   have e2 : atoV s = 0 := by unfold atoV; rw [ha]
   exact ⟨_, rfl, ⟨[_, _], rfl, ⟨by rw [e2], rfl⟩, Or.inr ⟨e1, _, _, rfl⟩, trivial⟩, hb⟩
 ·cases h
def con_Join : Con := fun args => match args with
 | [.t (.c (.sl 1 n c)), .t (.c (.v (.string p)))] => some (.t (.c (.v (.string (joinB (txOf n c) p)))), some (txP n c ∧ (txOf n c).length ≤ 1000000 ∧ (joinB (txOf n c) p).size ≤ 1000000000), .no)
 | _ => none
theorem ok_Join : Ok Tryz.prog 37 con_Join := by
 refine Ok.oldGd (Enters.of (fn := Tryz.f37) (by kernel_rfl) (by kernel_rfl) (by kernel_rfl)) fun args r pre fresh h hp => ?_
 unfold con_Join at h
 split at h
 ·rename_i n c p
  cases h
  obtain ⟨hp1, hp2, hp3⟩ := hp
  refine ⟨rfl, _, rfl, fun W N vs hG hv => ?_⟩
  obtain ⟨u0, ws0, rfl, g0, hv0⟩ := hv.cons_inv
  obtain ⟨u1, ws1, rfl, g1, hv1⟩ := hv0.cons_inv
  obtain rfl := hv1.nil_inv
  obtain rfl : u1 = .string p := g1.1
  have g0 : RelF W N (.sl 1 n c) u0 := g0
  obtain ⟨ao, cap, rfl, hcap, hmx, hnil, hcells⟩ := g0
  rw [txOf_len] at hp2
  rcases Nat.eq_zero_or_pos n with rfl | hn
  ·refine (Tryz.strings_Join_none ao cap p W).mono ?_
   rintro e w' ⟨rfl, rfl⟩
   exact ⟨rfl, Below.refl _ _⟩
  ·obtain ⟨b, off, rfl, hb, hN, hc⟩ := hcells hn
   have hj : (Lib.join ((txOf n c).map (·.data.toList)) p.data.toList).length ≤ 140737488355328 := by
    unfold joinB at hp3
    rw [ofL_size] at hp3
    omega
   have hq := Tryz.strings_Join b off cap (txOf n c) p W (fun j x hx => by
    have hj : j < n := by have := (List.getElem?_eq_some_iff.1 hx).1; rwa [txOf_len] at this
    obtain ⟨y, y1, y2⟩ := hc j 0 hj (by omega)
    rw [hp1 j hj] at y2
    rw [show off + j = off + j * 1 + 0 by omega, y1, y2.1]
    have : (txOf n c)[j]? = some (cvStr (c j 0)) := by simp [txOf, hj]
    rw [this] at hx
    cases hx
    rfl) hb (by rw [txOf_len]; omega) (by rw [txOf_len]; exact hcap) hj
   rw [txOf_len] at hq
   refine hq.mono ?_
   rintro e w' ⟨rfl, hb⟩
   exact ⟨rfl, hb⟩
 ·cases h
def con_Split : Con := fun args => match args with
 | [.t (.c (.v (.string s))), .t (.c (.v (.string p)))] => some (.t (.c (.sl 1 (splB s p).length (txsC (splB s p)))), some (s.size ≤ 1000000000 ∧ 1 ≤ p.size ∧ (splB s p).length = Lib.countB s p + 1), .new)
 | _ => none
theorem ok_Split : Ok Tryz.prog 83 con_Split := by
 intro args r pre fresh h hp
 unfold con_Split at h
 split at h
 ·rename_i s p
  cases h
  obtain ⟨hp1, hp2, hp3⟩ := hp
  refine ⟨Enters.of (fn := Tryz.f83) (by kernel_rfl) (by kernel_rfl) (by kernel_rfl), fun W N vs hG hv => ?_⟩
  have hv : All2 (RelD (RelF W N)) [.t (.c (.v (.string s))), .t (.c (.v (.string p)))] vs := hv
  obtain ⟨u0, ws0, rfl, g0, hv0⟩ := hv.cons_inv
  obtain ⟨u1, ws1, rfl, g1, hv1⟩ := hv0.cons_inv
  obtain rfl := hv1.nil_inv
  obtain rfl : u0 = .string s := g0.1
  obtain rfl : u1 = .string p := g1.1
  obtain ⟨m, hm⟩ := hG.2.len
  refine (Tryz.strings_Split s p m W (by omega) hm hp2).mono ?_
  rintro e w' ⟨rfl, rfl⟩
  refine ⟨_, rfl, ?_, (Below.refl _ _).alloc (Nat.le_refl _) _⟩
  show RelF _ _ (.sl 1 (splB s p).length (txsC (splB s p))) _
  rw [hp3]
  refine ⟨_, _, rfl, Nat.le_refl _, ?_, (fun h => by cases h), fun _ => ⟨W.heap.size, 0, rfl, by simp, Or.inr (Nat.le_refl _), fun i j hi hj => ?_⟩⟩
  ·have : Lib.countB s p ≤ s.size + 1 := by have := Lib.count_le s.data.toList p.data.toList; rw [size_data] at this; exact this
   unfold maxLen; omega
  ·obtain rfl : j = 0 := by omega
   refine ⟨.string (txAt (splB s p) i), ?_, rfl, rfl⟩
   have hi' : i < (splB s p).length := by rw [hp3]; exact hi
   have hnew : (W.alloc (.cells ((splB s p).map Value.string).toArray 9)).heap[W.heap.size]? = some (.cells ((splB s p).map Value.string).toArray 9) := World.alloc_heap_new W _
   have e : (((splB s p).map Value.string).toArray)[0 + i * 1 + 0]? = some (.string (txAt (splB s p) i)) := by
    simp [txAt, List.getD, hi']
   show World.cell? (W.alloc (.cells ((splB s p).map Value.string).toArray 9)) _ = _
   simp only [World.cell?, hnew]
   exact e
 ·cases h
end Go.Proofs.YtfadkjcfjkmalaaGreatDoor
set_option linter.unusedVariables false
set_option linter.unusedSimpArgs false
namespace Go.Proofs.YtfadkjcfjkmalaaGreatDoor
open Go.RowKit Ev
def remC (c : UInt8) (l : List UInt8) : Nat → List UInt8
 | 0 => l
 | i + 1 => aftC c (remC c l i)
theorem rem_pcs (c : UInt8) (l : List UInt8) : ∀ i, i < (pcs c l).length → (pcs c (remC c l i)).length + i = (pcs c l).length
 | 0, _ => rfl
 | i + 1, h => by
  have ih := rem_pcs c l i (by omega)
  have e := pcs_eq c (remC c l i)
  by_cases hh : hasC c (remC c l i) = true
  ·rw [if_pos hh] at e
   rw [e, List.length_cons] at ih
   show (pcs c (aftC c (remC c l i))).length + (i + 1) = _
   omega
  ·rw [if_neg hh] at e
   rw [e, List.length_singleton] at ih
   omega
theorem rem_has {c : UInt8} {l : List UInt8} {i : Nat} (h : i < (pcs c l).length) : hasC c (remC c l i) = true ↔ i + 1 < (pcs c l).length := by
 have ih := rem_pcs c l i h
 have e := pcs_eq c (remC c l i)
 by_cases hh : hasC c (remC c l i) = true
 ·rw [if_pos hh] at e
  rw [e, List.length_cons] at ih
  have := List.length_pos_iff.2 (pcs_ne c (aftC c (remC c l i)))
  exact ⟨fun _ => by omega, fun _ => hh⟩
 ·rw [if_neg hh] at e
  rw [e, List.length_singleton] at ih
  exact ⟨fun h => absurd h hh, fun _ => by omega⟩
theorem rem_len (c : UInt8) (l : List UInt8) : ∀ i, (remC c l i).length ≤ l.length
 | 0 => Nat.le_refl _
 | i + 1 => by
  have := rem_len c l i
  show (aftC c (remC c l i)).length ≤ _
  unfold aftC
  have h1 := (List.dropWhile_sublist (l := remC c l i) (· != c)).length_le
  rw [List.length_drop]
  omega
theorem rem_at {c : UInt8} {l : List UInt8} {i : Nat} (h : i < (pcs c l).length) : (pcs c l).drop i = pcs c (remC c l i) := by
 induction i with
 | zero => rfl
 | succ i ih =>
  have hi := ih (by omega)
  have hh := (rem_has (show i < (pcs c l).length by omega)).2 h
  rw [← List.drop_drop, hi, pcs_eq c (remC c l i), if_pos hh]
  rfl
theorem cutA_one (c : UInt8) (l : List UInt8) : cutA (ofL l) ⟨#[c]⟩ = ofL (if hasC c l = true then befC c l else l) := by
 unfold cutA
 rw [ofL_data, show (⟨#[c]⟩ : ByteArray).data.toList = [c] from rfl, cut_one]
 split <;> rfl
theorem cutZ_one (c : UInt8) (l : List UInt8) : cutZ (ofL l) ⟨#[c]⟩ = ofL (if hasC c l = true then aftC c l else []) := by
 unfold cutZ
 rw [ofL_data, show (⟨#[c]⟩ : ByteArray).data.toList = [c] from rfl, cut_one]
 split <;> rfl
theorem cutH_one (c : UInt8) (l : List UInt8) : cutH (ofL l) ⟨#[c]⟩ = hasC c l := by
 unfold cutH
 rw [ofL_data, show (⟨#[c]⟩ : ByteArray).data.toList = [c] from rfl, cut_one]
 split
 ·rename_i h; rw [h]
 ·rename_i h; simpa using h
def strAt (w : World) (B : Nat) : Nat := match w.cell? ⟨B, 0, none⟩ with
 | some (.string s) => s.size
 | _ => 0
theorem strAt_of {w : World} {B : Nat} {s : ByteArray} {ty : TypeId} {p : Nat × Nat} (h : w.heap[B]? = some (.cells #[.string s] ty p)) : strAt w B = s.size := by
 unfold strAt World.cell?
 simp [h]
theorem ext_take (l : List UInt8) (a : Nat) : (ofL l).extract 0 a = ofL (l.take a) := by
 rw [← ofL_back ((ofL l).extract 0 a), Lib.extract_from_zero, ofL_data]
theorem ext_drop (l : List UInt8) (a : Nat) : (ofL l).extract a (ofL l).size = ofL (l.drop a) := by
 rw [← ofL_back ((ofL l).extract a (ofL l).size), Lib.extract_to_end, ofL_data]
theorem take_bef {c : UInt8} {l : List UInt8} (h : hasC c l = true) : befC c l = l.take (befC c l).length := by
 have e := congrArg (List.take (befC c l).length) (bef_aft h)
 rw [List.take_left] at e
 exact e.symm
theorem drop_bef {c : UInt8} {l : List UInt8} (h : hasC c l = true) : l.drop ((befC c l).length + 1) = aftC c l := by
 have e := congrArg (List.drop ((befC c l).length + 1)) (bef_aft h)
 rw [e, List.drop_append]
 simp
theorem setCell_row {w : World} {B : Nat} {x v : Value} {ty : TypeId} {p : Nat × Nat} (h : w.heap[B]? = some (.cells #[x] ty p)) : w.setCell ⟨B, 0, none⟩ v = w.setRow B #[v] := by
 unfold World.setCell World.setRow
 congr 1
 apply Array.ext_getElem?
 intro i
 rw [Array.getElem?_modify, Array.getElem?_modify]
 by_cases e : B = i
 ·subst e
  simp [h]
 ·simp [e]
set_option maxRecDepth 100000 in
set_option maxHeartbeats 4000000 in
theorem seq_split (w : World) (N : Nat → Prop) (us vs : List Value) (B : Nat) (c : UInt8) (l : List UInt8) (hl : l.length ≤ 1000000000)
  (hu : All2 (RelF w N) [.px 1 0 (fun _ => .v (.string ⟨#[c]⟩))] us) (hv : All2 (RelF w N) [.px 1 0 (fun _ => .v (.int .i64 0))] vs) (hB : w.heap[B]? = some (.cells #[.string (ofL l)] 9 (0, 0))) (hNB : ¬ N B) :
  SeqItM Tryz.prog 108 #[] (us ++ .pointer (some ⟨B, 0, none⟩) :: vs).toArray B 9 (fun i => .string (ofL (remC c l i))) (pcs c l).length (fun i => #[.string (cutA (ofL (remC c l i)) ⟨#[c]⟩)]) N w := by
 intro ly J Jb Jx W hb hJ hJb hJx hgJ hgB hgX hc hcb hY hnext h0
 refine callsIn_of_wp Tryz.func108 rfl trivial ?_ rfl
 obtain ⟨v0, us0, rfl, r0, hu0⟩ := hu.cons_inv
 obtain rfl := hu0.nil_inv
 obtain ⟨v2, vs0, rfl, r2, hv0⟩ := hv.cons_inv
 obtain rfl := hv0.nil_inv
 obtain ⟨b0, o0, rfl, hb0, hN0, hc0⟩ := r0
 obtain ⟨b2, o2, rfl, hb2, hN2, hc2⟩ := r2
 obtain ⟨x0, hx0, rfl, _⟩ := hc0 0 (by omega)
 obtain ⟨x2, hx2, rfl, _⟩ := hc2 0 (by omega)
 rw [Nat.add_zero] at hx0 hx2
 simp only [Nat.add_zero]
 simp only [Tryz.ntmps108, List.size_toArray, List.length_cons, List.length_nil, Nat.reduceAdd, Nat.reduceSub, Array.replicate_succ, Array.replicate_zero, List.push_toArray, List.append_toArray, List.nil_append, List.cons_append]
 have hW := hb.size
 have cell0 : ∀ wr : World, (∀ b, b < w.heap.size → N b → wr.heap[b]? = W.heap[b]?) → wr.cell? ⟨b0, o0, none⟩ = some (.string ⟨#[c]⟩) := fun wr h => (World.cell?_of_block (w := w) (a := ⟨b0, o0, none⟩) ((h b0 hb0 hN0).trans (hb.block b0 hb0))).trans hx0
 have cell2 : ∀ wr : World, (∀ b, b < w.heap.size → N b → wr.heap[b]? = W.heap[b]?) → wr.cell? ⟨b2, o2, none⟩ = some (.int .i64 0) := fun wr h => (World.cell?_of_block (w := w) (a := ⟨b2, o2, none⟩) ((h b2 hb2 hN2).trans (hb.block b2 hb2))).trans hx2
 have cellW := cell0 W (fun _ _ _ => rfl)
 have HC0 := hid cell0
 have HC2 := hid cell2
 have HY := hid hY
 have HJ := hid hJ
 have HG := hid hgJ
 have HCC := hid hc
 have HCB2 := hid hcb
 have HNX := hid hnext
 have HL := hid hl
 clear cell0 cell2 hY hl hJ hJb hgJ hgB hgX hJx hc0 hc2 hu hv hu0 hv0 hc hcb hnext hx0 hx2 hB
 gi_wp2
 gi_loopw [7] (fun iv wr => ∃ k : Nat, k < (pcs c l).length ∧ J k wr ∧ W.heap.size ≤ wr.heap.size ∧ Hid (∀ b, b < w.heap.size → N b → wr.heap[b]? = W.heap[b]?)) (fun _ wr => strAt wr B)
 case atStart => exact ⟨0, List.length_pos_iff.2 (pcs_ne c l), h0, Nat.le_refl _, hid fun b hb0 _ => rfl⟩
 case round =>
  obtain ⟨k, hk, hJs, hsz, HK⟩ := hrel
  have hcB := HCC.out k wr hJs
  have cB : wr.cell? ⟨B, 0, none⟩ = some (.string (ofL (remC c l k))) := by simp [World.cell?, hcB]
  have c0 := HC0.out wr HK.out
  have c2 := HC2.out wr HK.out
  obtain ⟨mx, hmx⟩ := (HG.out k wr hJs).2.len
  have hr9 : (remC c l k).length ≤ 1000000000 := Nat.le_trans (rem_len c l k) HL.out
  have HIX := hid (Tryz.strings_Index (ofL (remC c l k)) ⟨#[c]⟩ mx wr (by rw [ofL_size]; omega) hmx)
  have hst : strAt wr B = (remC c l k).length := by rw [strAt_of hcB, ofL_size]
  have HST := hid hst
  have HCB := hid hcB
  clear hmx hst hcB
  rw [ofL_data, show (⟨#[c]⟩ : ByteArray).data.toList = [c] from rfl] at HIX
  have hcA := cutA_one c (remC c l k)
  have HRM := hid (rem_has hk)
  have hnx : remC c l (k + 1) = aftC c (remC c l k) := rfl
  have HRN := hid hnx
  clear hnx
  obtain ⟨fn, tmps, assign, body, hy, hR⟩ := HY.out k wr hk hJs
  have HK2 := hid hk
  clear hk
  generalize hr : remC c l k = r at HIX HST HCB HRM HRN hy hR cB hcA hr9
  have HR := hid hr
  clear hr
  rcases idx_has c r with ⟨h1, h2⟩ | ⟨h2, h1⟩
  ·rw [h2, if_neg (by simp)] at hcA
   rw [h1] at HIX
   have hkn : k + 1 = (pcs c l).length := by
    have h3 := HK2.out
    rcases Nat.lt_or_ge (k + 1) (pcs c l).length with h | h
    ·have := (HRM.out).2 h; rw [h2] at this; cases this
    ·omega
   have HKN := hid hkn
   rw [hcA] at hy
   clear h1 h2 hcA hkn
   gi_wp2
   refine ⟨trivial, rfl, callsIn_wide.2 (HIX.out.mono ?_)⟩
   rintro _ w1 ⟨rfl, rfl⟩
   gi_wp2
   refine ⟨rfl, hR.mono ?_⟩
   rintro e W3 (⟨rfl, hJ3, ⟨hs3, hk3⟩, _⟩ | ⟨rfl, hJx3⟩)
   ·gi_wp2
    go_end0
    refine ⟨⟨_, rfl⟩, .inl ?_⟩
    rw [← HKN.out]
    exact hJ3
   ·gi_wp2
    go_end0
    exact ⟨⟨_, rfl⟩, .inr hJx3⟩
  ·rw [h2, if_pos rfl] at hcA
   rw [h1] at HIX
   have he := bef_aft h2
   obtain ⟨m, hm⟩ : ∃ m, m = (befC c r).length := ⟨_, rfl⟩
   rw [← hm] at HIX
   have HM := hid hm
   have hrl : m + 1 + (aftC c r).length = r.length := by
    have := congrArg List.length he
    rw [List.length_append, List.length_cons] at this
    omega
   have HRL := hid hrl
   have HE := hid he
   have HCA := hid hcA
   have HH := hid h2
   clear hm he hcA h2 h1 hrl
   gi_wp2
   refine ⟨trivial, rfl, callsIn_wide.2 (HIX.out.mono ?_)⟩
   rintro _ w1 ⟨rfl, rfl⟩
   have hm9 : m + 1 ≤ 1000000000 := by have := HRL.out; omega
   have hw : wrap64 (m : Int) = m := IntWalk.wrap64_in _ (by omega)
   have hmr : m ≤ (ofL r).size := by rw [ofL_size]; have := HRL.out; omega
   have hx : cutA (ofL r) ⟨#[c]⟩ = (ofL r).extract 0 m := by rw [HCA.out, HM.out, ext_take, ← take_bef HH.out]
   rw [hx] at hy
   have hx2 : (ofL r).extract (m + 1) (ofL r).size = ofL (remC c l (k + 1)) := by rw [HRN.out, HM.out, ext_drop, drop_bef HH.out]
   have HX2 := hid hx2
   have hw1 : wrap64 ((m : Int) + 1) = (m : Int) + 1 := IntWalk.wrap64_in _ (by omega)
   have hmr1 : m + 1 ≤ (ofL r).size := by rw [ofL_size]; have := HRL.out; omega
   clear hx hx2
   gi_wp2
   refine ⟨rfl, hR.mono ?_⟩
   rintro e W3 (⟨rfl, hJ3, ⟨hs3, hk3⟩, _⟩ | ⟨rfl, hJx3⟩)
   ·have hb3 := HCB2.out k W3 hJ3
    rw [HR.out] at hb3
    have d1 : W3.cell? ⟨B, 0, none⟩ = some (.string (ofL r)) := by simp [World.cell?, hb3]
    have d2 : W3.frozen? ⟨B, 0, none⟩ = false := by simp [World.frozen?, hb3]
    have hkW : ∀ b, b < w.heap.size → N b → W3.heap[b]? = W.heap[b]? := fun b h1 h2 => (hk3 b h1 h2).trans (HK.out b h1 h2)
    have d0 := HC0.out W3 hkW
    have HB3 := hid hb3
    have HKW := hid hkW
    have HS3 := hid hs3
    clear hb3 hkW hk3 hs3
    gi_wp2
    go_roundw
    case rel =>
     have e1 := (HRM.out).1 HH.out
     have e2 := HNX.out k W3 e1 hJ3
     rw [← setCell_row HB3.out, ← HX2.out] at e2
     refine ⟨k + 1, e1, e2, ?_, hid fun b h1 h2 => ?_⟩
     ·have := HS3.out
      rw [World.size_setCell]
      omega
     ·rw [Below.heap_setCell _ _ _ _ (fun e => hNB (by have e : b = B := e; rw [← e]; exact h2)), HKW.out b h1 h2]
    case measure =>
     have e3 : (W3.setCell ⟨B, 0, none⟩ (Value.string ((ofL r).extract (m + 1) (ofL r).size))).heap[B]? = some (.cells #[Value.string ((ofL r).extract (m + 1) (ofL r).size)] 9 (0, 0)) := by
      rw [setCell_row HB3.out]; exact setRow_heap _ _ _ _ _ _ HB3.out
     rw [strAt_of e3, HST.out, HX2.out, HRN.out, ofL_size]
     exact aft_len HH.out
   ·gi_wp2
    refine bodyPost_ret (results_none rfl _ _ _) rfl ?_
    exact ⟨⟨_, rfl⟩, .inr hJx3⟩
end Go.Proofs.YtfadkjcfjkmalaaGreatDoor
set_option linter.unusedVariables false
set_option linter.unusedSimpArgs false
namespace Go.Proofs.YtfadkjcfjkmalaaGreatDoor
open Go.RowKit Ev
set_option maxRecDepth 100000 in
theorem walk_SplitSeq (W : World) (s p : ByteArray) : Calls Tryz.prog 38 #[.string s, .string p] W fun e w' => e = .returned (.func (.func 108) #[] #[.pointer (some ⟨W.heap.size + 1, 0, none⟩), .pointer (some ⟨W.heap.size, 0, none⟩), .pointer (some ⟨W.heap.size + 2, 0, none⟩)]) ∧ w' = ((W.alloc (.cells #[.string s] 9)).alloc (.cells #[.string p] 9)).alloc (.cells #[.int .i64 0] 3) := by
 go_enter Tryz.func38, Tryz.ntmps38
 go_wp2
 go_ret
 exact ⟨rfl, rfl⟩
def con_SplitSeq : Con := fun args => match args with
 | [.t (.c (.v (.string s))), .t (.c (.v (.string p)))] => some (.t (.fn 108 [.px 1 0 (fun _ => .v (.string p)), .p 0 0, .px 1 0 (fun _ => .v (.int .i64 0))]), none, .clo 9 [.v (.string s)])
 | _ => none
theorem ok_SplitSeq : Ok Tryz.prog 38 con_SplitSeq := by
 intro args r pre fresh h hp
 unfold con_SplitSeq at h
 split at h
 ·rename_i s p
  cases h
  refine ⟨Enters.of (fn := Tryz.f38) (by kernel_rfl) (by kernel_rfl) (by kernel_rfl), fun W N vs hG hv => ?_⟩
  have hv : All2 (RelD (RelF W N)) [.t (.c (.v (.string s))), .t (.c (.v (.string p)))] vs := hv
  obtain ⟨u0, ws0, rfl, g0, hv0⟩ := hv.cons_inv
  obtain ⟨u1, ws1, rfl, g1, hv1⟩ := hv0.cons_inv
  obtain rfl := hv1.nil_inv
  obtain rfl : u0 = .string s := g0.1
  obtain rfl : u1 = .string p := g1.1
  refine (walk_SplitSeq W s p).mono ?_
  rintro e w' ⟨rfl, rfl⟩
  obtain ⟨W1, hW1⟩ : ∃ W1, W1 = W.alloc (.cells #[.string s] 9) := ⟨_, rfl⟩
  obtain ⟨W2, hW2⟩ : ∃ W2, W2 = W1.alloc (.cells #[.string p] 9) := ⟨_, rfl⟩
  obtain ⟨W3, hW3⟩ : ∃ W3, W3 = W2.alloc (.cells #[.int .i64 0] 3) := ⟨_, rfl⟩
  rw [← hW1, ← hW2, ← hW3]
  have s1 : W1.heap.size = W.heap.size + 1 := by rw [hW1]; simp
  have s2 : W2.heap.size = W.heap.size + 2 := by rw [hW2]; simp [s1]
  have s3 : W3.heap.size = W.heap.size + 3 := by rw [hW3]; simp [s2]
  have b1 : W1.heap[W.heap.size]? = some (.cells #[.string s] 9) := by rw [hW1]; exact World.alloc_heap_new W _
  have b2 : W2.heap[W.heap.size + 1]? = some (.cells #[.string p] 9) := by rw [hW2, ← s1]; exact World.alloc_heap_new W1 _
  have b3 : W3.heap[W.heap.size + 2]? = some (.cells #[.int .i64 0] 3) := by rw [hW3, ← s2]; exact World.alloc_heap_new W2 _
  have b1' : W3.heap[W.heap.size]? = some (.cells #[.string s] 9) := by rw [hW3, Below.heap_alloc _ _ _ (by omega), hW2, Below.heap_alloc _ _ _ (by omega)]; exact b1
  have b2' : W3.heap[W.heap.size + 1]? = some (.cells #[.string p] 9) := by rw [hW3, Below.heap_alloc _ _ _ (by omega)]; exact b2
  have hbl : Below W.heap.size W W3 := by
   rw [hW3, hW2, hW1]
   exact (((Below.refl _ _).alloc (Nat.le_refl _) _).alloc (by simp) _).alloc (by simp; omega) _
  refine ⟨_, rfl, ⟨W.heap.size, _, Nat.le_refl _, b1', ⟨⟨rfl, rfl⟩, trivial⟩, ⟨_, rfl, ?_, ⟨W.heap.size, rfl, rfl⟩, ?_, trivial⟩⟩, hbl⟩
  ·refine ⟨W.heap.size + 1, 0, rfl, by omega, ⟨by omega, by omega⟩, fun j hj => ⟨.string p, ?_, rfl, rfl⟩⟩
   obtain rfl : j = 0 := by omega
   simp [World.cell?, b2']
  ·refine ⟨W.heap.size + 2, 0, rfl, by omega, ⟨by omega, by omega⟩, fun j hj => ⟨.int .i64 0, ?_, rfl, rfl⟩⟩
   obtain rfl : j = 0 := by omega
   simp [World.cell?, b3]
 ·cases h
def sepP (x : CV) : Prop := ∃ c, x = .v (.string ⟨#[c]⟩)
def it_Split : ItC := fun l => match l with
 | [.px 1 0 c1, .px 1 0 c2, .px 1 0 c3] => some ⟨1, 1, fun _ => [.c (.v (.string (cutA (cvStr (c2 0)) (cvStr (c1 0)))))], some (sepP (c1 0) ∧ c2 0 = .v (.string (cvStr (c2 0))) ∧ (cvStr (c2 0)).size ≤ 1000000000 ∧ c3 0 = .v (.int .i64 0)), false, none, some ⟨1, 9, cutH (cvStr (c2 0)) (cvStr (c1 0)), .string (cutZ (cvStr (c2 0)) (cvStr (c1 0)))⟩⟩
 | _ => none
theorem ok_itSplit : OkItM Tryz.prog 108 it_Split := by
 intro l R h hp
 unfold it_Split at h
 split at h
 rotate_left
 ·cases h
 rename_i c1 c2 c3
 cases h
 obtain ⟨⟨c, h1⟩, h2, h3, h4⟩ := hp
 refine ⟨Enters.of (fn := Tryz.f108) (by kernel_rfl) (by kernel_rfl) (by kernel_rfl), _, rfl, fun x a l' ha he => ?_⟩
 have ha : a.length = 1 := ha
 obtain ⟨y, rfl⟩ : ∃ y, a = [y] := by
  match a, ha with
  | [y], _ => exact ⟨y, rfl⟩
 simp only [List.cons_append, List.nil_append, List.cons.injEq, CV.px.injEq, true_and] at he
 obtain ⟨rfl, rfl, rfl⟩ := he
 have h2 : CV.v x = .v (.string (cvStr (.v x))) := h2
 obtain ⟨s, rfl⟩ : ∃ s, x = .string s := ⟨_, by injection h2⟩
 have h3 : s.size ≤ 1000000000 := h3
 have hl : s.data.toList.length ≤ 1000000000 := by rw [size_data]; exact h3
 have hs : ofL s.data.toList = s := ofL_back s
 refine ⟨(pcs c s.data.toList).length, fun i => .string (ofL (remC c s.data.toList i)), fun i => [.c (.v (.string (cutA (ofL (remC c s.data.toList i)) ⟨#[c]⟩)))], List.length_pos_iff.2 (pcs_ne _ _), by rw [← hs]; rfl, fun i hi => ?_, fun w N us vs B hB hNB hu hv => ?_⟩
 ·have e1 : cvStr (c1 0) = ⟨#[c]⟩ := by rw [h1]; rfl
  refine ⟨_, _, rfl, rfl, rfl, rfl, ⟨rfl, rfl⟩, ?_, rfl, fun w N => ⟨⟨rfl, rfl⟩, trivial⟩, fun hm => ?_, fun hm => ?_⟩
  ·show [TV.c (.v (.string (cutA (ofL (remC c s.data.toList i)) (cvStr (c1 0)))))] = _
   rw [e1]
  ·have hm : cutH (ofL (remC c s.data.toList i)) (cvStr (c1 0)) = true := hm
   rw [e1, cutH_one] at hm
   refine ⟨(rem_has hi).1 hm, ?_, rfl⟩
   show Value.string (cutZ (ofL (remC c s.data.toList i)) (cvStr (c1 0))) = _
   rw [e1, cutZ_one, if_pos hm]
   rfl
  ·have hm : cutH (ofL (remC c s.data.toList i)) (cvStr (c1 0)) = false := hm
   rw [e1, cutH_one] at hm
   have := rem_has hi
   rw [hm] at this
   have : ¬ i + 1 < (pcs c s.data.toList).length := fun h => by have := this.2 h; cases this
   omega
 ·have hu : All2 (RelF w N) [.px 1 0 (fun _ => .v (.string ⟨#[c]⟩))] us := by
   obtain ⟨v0, us0, rfl, r0, hu0⟩ := hu.cons_inv
   exact ⟨RelF.px_eq (fun j hj => by obtain rfl : j = 0 := (by omega); exact h1) r0, hu0⟩
  have hv : All2 (RelF w N) [.px 1 0 (fun _ => .v (.int .i64 0))] vs := by
   obtain ⟨v0, us0, rfl, r0, hu0⟩ := hv.cons_inv
   exact ⟨RelF.px_eq (fun j hj => by obtain rfl : j = 0 := (by omega); exact h4) r0, hu0⟩
  rw [← hs] at hB
  exact seq_split w N us vs B c s.data.toList hl hu hv hB hNB
end Go.Proofs.YtfadkjcfjkmalaaGreatDoor
set_option linter.unusedVariables false
set_option linter.unusedSimpArgs false
namespace Go.Proofs.YtfadkjcfjkmalaaGreatDoor
open Go.RowKit Ev
theorem beq_txt (a b : ByteArray) : (a.toList == b.toList) = decide (a = b) := by
 rw [← beq_toListBytes]
 by_cases h : a = b
 ·subst h; simp
 ·rw [decide_eq_false h]; exact beq_eq_false_iff_ne.2 h
theorem ofL_eq {l m : List UInt8} : ofL l = ofL m ↔ l = m := ⟨ofL_inj, fun h => by rw [h]⟩
def wAt (c : UInt8) (s : ByteArray) (i : Nat) : List UInt8 := (pcs c s.data.toList).getD i []
def nPc (c : UInt8) (s : ByteArray) : Nat := (pcs c s.data.toList).length
def goodW (s : ByteArray) (dg sg i : Nat) : Bool := match numR (wAt 32 s i) dg with
 | some v => !(decide (v < 0) && decide (i < sg))
 | none => false
def valW (s : ByteArray) (dg i : Nat) : Int := (numR (wAt 32 s i) dg).getD 0
def valsW (s : ByteArray) (dg n : Nat) : List Int := (List.range n).map (valW s dg)
def allW (s : ByteArray) (dg sg : Nat) : Bool := (List.range (nPc 32 s)).all (goodW s dg sg)
def okW (s : ByteArray) (cnt dg sg : Nat) : Bool := allW s dg sg && Nat.beq (nPc 32 s) cnt
theorem valsW_len {s : ByteArray} {dg n : Nat} : (valsW s dg n).length = n := by simp [valsW]
theorem valsW_succ {s : ByteArray} {dg n : Nat} : valsW s dg (n + 1) = valsW s dg n ++ [valW s dg n] := by simp [valsW, List.range_succ]
theorem valsW_at {s : ByteArray} {dg n i : Nat} (h : i < n) : (valsW s dg n).getD i 0 = valW s dg i := by simp [valsW, List.getD, h]
theorem nPc_le (c : UInt8) (s : ByteArray) : nPc c s ≤ s.size + 1 := by
 unfold nPc
 rw [pcs_len, ← size_data]
 have := List.count_le_length (a := c) (l := s.data.toList)
 omega
theorem rem_head {c : UInt8} {s : ByteArray} {i : Nat} (h : i < nPc c s) : (if hasC c (remC c s.data.toList i) = true then befC c (remC c s.data.toList i) else remC c s.data.toList i) = wAt c s i := by
 have e := rem_at (c := c) (l := s.data.toList) h
 have g : wAt c s i = ((pcs c s.data.toList).drop i).head?.getD [] := by
  unfold wAt
  rw [List.head?_drop]
  simp [List.getD]
 rw [g, e, pcs_eq c (remC c s.data.toList i)]
 split <;> rfl
theorem cutA_rem {c : UInt8} {s : ByteArray} {i : Nat} (h : i < nPc c s) : cutA (ofL (remC c s.data.toList i)) ⟨#[c]⟩ = ofL (wAt c s i) := by
 rw [cutA_one, rem_head h]
theorem cutH_rem {c : UInt8} {s : ByteArray} {i : Nat} (h : i < nPc c s) : cutH (ofL (remC c s.data.toList i)) ⟨#[c]⟩ = decide (i + 1 < nPc c s) := by
 rw [cutH_one]
 have := rem_has h
 unfold nPc
 by_cases g : i + 1 < (pcs c s.data.toList).length
 ·rw [decide_eq_true g]; exact this.2 g
 ·rw [decide_eq_false g]
  cases e : hasC c (remC c s.data.toList i)
  ·rfl
  ·exact absurd (this.1 e) g
theorem cutZ_rem {c : UInt8} {s : ByteArray} {i : Nat} (h : i + 1 < nPc c s) : cutZ (ofL (remC c s.data.toList i)) ⟨#[c]⟩ = ofL (remC c s.data.toList (i + 1)) := by
 have := (rem_has (c := c) (l := s.data.toList) (i := i) (by unfold nPc at h; omega)).2 h
 rw [cutZ_one, if_pos this]
 rfl
theorem wAt_len {c : UInt8} {s : ByteArray} {i : Nat} : (wAt c s i).length ≤ s.size := by
 by_cases h : i < nPc c s
 ·unfold wAt
  rw [← size_data]
  refine pcs_part (c := c) ?_
  have h : i < (pcs c s.data.toList).length := h
  have e : (pcs c s.data.toList).getD i [] = (pcs c s.data.toList)[i] := by simp [List.getD, h]
  rw [e]
  exact List.getElem_mem h
 ·unfold wAt
  unfold nPc at h
  simp [List.getD, List.getElem?_eq_none (Nat.le_of_not_lt h)]
theorem ato_bd {w : List UInt8} (h : atoB (ofL w) = true) : -9223372036854775808 ≤ atoV (ofL w) ∧ atoV (ofL w) ≤ 9223372036854775807 := by
 unfold atoB at h
 unfold atoV
 split at h
 ·rename_i v e
  rw [e]
  exact Lib.atoiAll_bounds e
 ·cases h
theorem test_w (w : List UInt8) {dg : Nat} (h : dg ≤ 17) : (bif atoB (ofL w) then (bif ((itoaB (atoV (ofL w))).toList == (ofL w).toList) then decide ((((trimB (ofL w) ⟨#[45]⟩).size : Nat) : Int) ≤ (dg : Int)) else false) else false) = (numR w dg).isSome ∧ ∀ v, numR w dg = some v → atoV (ofL w) = v := by
 rw [← numG_eq h]
 have e45 : (trimB (ofL w) ⟨#[45]⟩).size = (if w.head? = some 45 then w.drop 1 else w).length := by
  unfold trimB
  rw [ofL_size, ofL_data]
  rw [show (⟨#[45]⟩ : ByteArray).data.toList = [45] from rfl, trim_one]
 rw [e45]
 unfold numG atoB
 rw [ofL_data]
 generalize (if w.head? = some 45 then w.drop 1 else w).length = q
 cases e : Lib.atoiAll w with
 | ok v =>
  have ev : atoV (ofL w) = v := by unfold atoV; rw [ofL_data, e]
  rw [ev, beq_txt]
  simp only [cond_true]
  have ed : decide (itoaB v = ofL w) = decide (Lib.itoa v = w) := by
   unfold itoaB
   by_cases g : Lib.itoa v = w
   ·rw [decide_eq_true g, decide_eq_true (ofL_eq.2 g)]
   ·rw [decide_eq_false g, decide_eq_false (fun q => g (ofL_eq.1 q))]
  rw [ed]
  by_cases g : Lib.itoa v = w
  ·by_cases g2 : q ≤ dg
   ·rw [if_pos ⟨g, g2⟩, decide_eq_true g, decide_eq_true (by omega)]
    exact ⟨rfl, fun x hx => by injection hx⟩
   ·rw [if_neg (fun z => g2 z.2), decide_eq_true g, decide_eq_false (by omega)]
    exact ⟨rfl, fun x hx => by cases hx⟩
  ·rw [if_neg (fun z => g z.1), decide_eq_false g]
   exact ⟨rfl, fun x hx => by cases hx⟩
 | range => exact ⟨rfl, fun x hx => by cases hx⟩
 | _ => exact ⟨rfl, fun x hx => by cases hx⟩
def ttCv (t : ByteArray) : List CV := [.v (.string t)]
theorem ttg_cell (l : List ByteArray) {i j : Nat} (hi : i < (l.map ttCv).length) (hj : j < 1) : genC (l.map ttCv) i j = .v (.string (txAt l i)) := by
 obtain rfl : j = 0 := by omega
 rw [List.length_map] at hi
 simp [genC, ttCv, txAt, List.getD, hi]
theorem txP_ttg (l : List ByteArray) : txP (l.map ttCv).length (genC (l.map ttCv)) := fun i hi => by rw [ttg_cell l hi (by omega)]; rfl
theorem ttg_of (l : List ByteArray) : txOf (l.map ttCv).length (genC (l.map ttCv)) = l := by
 apply List.ext_getElem?
 intro i
 by_cases hi : i < l.length
 ·simp [txOf, genC, ttCv, List.getD, hi, cvStr]
 ·rw [List.getElem?_eq_none (by simp [txOf]; omega), List.getElem?_eq_none (by omega)]
theorem le_ttg (l : List ByteArray) : LeD (.t (.c (.sl 1 (l.map ttCv).length (genC (l.map ttCv))))) (.t (.c (.sl 1 l.length (txsC l)))) := by
 rw [List.length_map]
 refine leT_c (leSlT fun i j hi hj => ?_)
 rw [ttg_cell l (by rw [List.length_map]; exact hi) hj]
 exact LeC1.refl _
theorem map_snoc {α β : Type} (f : α → β) (l : List α) (x : α) : l.map f ++ [f x] = (l ++ [x]).map f := by simp
theorem ttCv_snoc (l : List ByteArray) (x : ByteArray) : l.map ttCv ++ [[.v (.string x)]] = (l ++ [x]).map ttCv := by simp [ttCv]
theorem dec_len : ∀ (k u : Nat), u < 10 ^ (k + 1) → (Lib.decDigits u).length ≤ k + 1
 | 0, u, h => by rw [dec_small (by simpa using h)]; simp
 | k + 1, u, h => by
  by_cases g : u < 10
  ·rw [dec_small g]; simp
  ·rw [dec_big g, List.length_append, List.length_singleton]
   have := dec_len k (u / 10) (by rw [Nat.div_lt_iff_lt_mul (by decide)]; rw [Nat.pow_succ] at h; exact h)
   omega
theorem itoa_len {n : Int} (h : -9223372036854775808 ≤ n ∧ n ≤ 9223372036854775807) : (Lib.itoa n).length ≤ 20 := by
 by_cases g : n < 0
 ·rw [itoa_neg g, List.length_cons]
  have := dec_len 18 n.natAbs (by omega)
  omega
 ·rw [itoa_pos (by omega)]
  have := dec_len 18 n.toNat (by omega)
  omega
theorem jn_len {c : UInt8} {m : Nat} : ∀ (ps : List (List UInt8)), (∀ p ∈ ps, p.length ≤ m) → (jnC c ps).length ≤ ps.length * (m + 1)
 | [], _ => by simp [jnC]
 | [p], h => by have := h p (by simp); simp [jnC]; omega
 | p :: q :: r, h => by
  have h1 := h p (by simp)
  have h2 := jn_len (c := c) (q :: r) (fun x hx => h x (by simp [hx]))
  have e : (jnC c (p :: q :: r)).length = p.length + 1 + (jnC c (q :: r)).length := by simp [jnC]; omega
  rw [e, List.length_cons, Nat.succ_mul]
  omega
theorem joinB_one (l : List ByteArray) (c : UInt8) : joinB l ⟨#[c]⟩ = ofL (jnC c (l.map (·.data.toList))) := by
 unfold joinB
 rw [show (⟨#[c]⟩ : ByteArray).data.toList = [c] from rfl, jn_join]
theorem joinB_len (l : List ByteArray) (c : UInt8) {m : Nat} (h : ∀ t ∈ l, t.size ≤ m) : (joinB l ⟨#[c]⟩).size ≤ l.length * (m + 1) := by
 rw [joinB_one, ofL_size]
 have := jn_len (c := c) (m := m) (l.map (·.data.toList)) (fun p hp => by obtain ⟨t, ht, rfl⟩ := List.mem_map.1 hp; rw [size_data]; exact h t ht)
 rwa [List.length_map] at this
def wordsB (l : List Int) : ByteArray := joinB (l.map itoaB) ⟨#[32]⟩
theorem itoaB_len {n : Int} (h : -9223372036854775808 ≤ n ∧ n ≤ 9223372036854775807) : (itoaB n).size ≤ 20 := by
 unfold itoaB
 rw [ofL_size]; exact itoa_len h
theorem wordsB_len {l : List Int} (h : ∀ i, i < l.length → -9223372036854775808 ≤ l.getD i 0 ∧ l.getD i 0 ≤ 9223372036854775807) : (wordsB l).size ≤ l.length * 21 := by
 have := joinB_len (l.map itoaB) 32 (m := 20) (fun t ht => by
  obtain ⟨n, hn, rfl⟩ := List.mem_map.1 ht
  obtain ⟨i, hi, e⟩ := List.mem_iff_getElem.1 hn
  have := h i hi
  rw [show l.getD i 0 = n by simp [List.getD, hi, e]] at this
  exact itoaB_len this)
 rwa [List.length_map] at this
theorem take_snoc {α : Type} (l : List α) (d : α) {k : Nat} (h : k < l.length) : l.take (k + 1) = l.take k ++ [l.getD k d] := by
 rw [List.take_add_one, List.getElem?_eq_getElem h]
 simp [List.getD, h]
end Go.Proofs.YtfadkjcfjkmalaaGreatDoor
set_option linter.unusedVariables false
set_option linter.unusedSimpArgs false
namespace Go.Proofs.YtfadkjcfjkmalaaGreatDoor
open Go.RowKit Ev
theorem splK_one (c : UInt8) : ∀ (k : Nat) (l : List UInt8), (pcs c l).length ≤ k + 1 → Lib.splitK [c] 0 k l = pcs c l
 | 0, l, h => by
  have e := pcs_eq c l
  by_cases g : hasC c l = true
  ·rw [if_pos g] at e
   have := List.length_pos_iff.2 (pcs_ne c (aftC c l))
   rw [e, List.length_cons] at h
   omega
  ·rw [if_neg g] at e
   rw [e]; rfl
 | k + 1, l, h => by
  have e := pcs_eq c l
  unfold Lib.splitK
  rcases idx_has c l with ⟨h1, h2⟩ | ⟨h1, h2⟩
  ·rw [h1, if_pos (by rfl), e, if_neg (by rw [h2]; simp)]
  ·rw [if_pos h1] at e
   rw [h2, if_neg (by simp [beq_iff_eq]), e]
   have t := take_bef h1
   have d := drop_bef h1
   simp only [Int.toNat_natCast, Nat.add_zero, List.length_singleton]
   rw [← t, d, splK_one c k (aftC c l) (by rw [e, List.length_cons] at h; omega)]
theorem cnt_one (c : UInt8) : ∀ (n : Nat) (l : List UInt8), l.length ≤ n → Lib.countB (ofL l) ⟨#[c]⟩ + 1 = (pcs c l).length := by
 intro n
 induction n with
 | zero =>
  intro l h
  have e : l = [] := List.length_eq_zero_iff.1 (by omega)
  subst e
  rw [Lib.countB_miss _ _ (by rfl)]; rfl
 | succ n ih =>
  intro l h
  have e := pcs_eq c l
  rcases idx_has c l with ⟨h1, h2⟩ | ⟨h1, h2⟩
  ·rw [Lib.countB_miss _ _ h1, e, if_neg (by rw [h2]; simp)]; rfl
  ·rw [Lib.countB_hit (ofL l) ⟨#[c]⟩ _ (Nat.le_refl 1) h2]
   have d := drop_bef h1
   rw [show (⟨#[c]⟩ : ByteArray).size = 1 from rfl, ext_drop, d, e, if_pos h1, List.length_cons]
   have := ih (aftC c l) (by have := aft_len h1; omega)
   omega
theorem splB_one (c : UInt8) (l : List UInt8) : splB (ofL l) ⟨#[c]⟩ = (pcs c l).map ofL := by
 have h := Lib.splitB_data ⟨#[c]⟩ 0 (Lib.countB (ofL l) ⟨#[c]⟩) (ofL l)
 have n := cnt_one c _ l (Nat.le_refl _)
 rw [ofL_data, show (⟨#[c]⟩ : ByteArray).data.toList = [c] from rfl, splK_one c _ l (by omega)] at h
 unfold splB
 rw [← h, List.map_map]
 conv => lhs; rw [← List.map_id (Lib.splitB _ _ _ _)]
 exact List.map_congr_left fun s _ => (ofL_back s).symm
theorem splB_count (s : ByteArray) (c : UInt8) : (splB s ⟨#[c]⟩).length = Lib.countB s ⟨#[c]⟩ + 1 := by
 have e := ofL_back s
 rw [← e, splB_one, List.length_map, cnt_one c _ _ (Nat.le_refl _)]
def inI (n : Int) : Prop := -9223372036854775808 ≤ n ∧ n ≤ 9223372036854775807
theorem nPc_pos (c : UInt8) (s : ByteArray) : 0 < nPc c s := List.length_pos_iff.2 (pcs_ne _ _)
end Go.Proofs.YtfadkjcfjkmalaaGreatDoor
set_option linter.unusedVariables false
set_option linter.unusedSimpArgs false
namespace Go.Proofs.YtfadkjcfjkmalaaGreatDoor
open Go.RowKit Ev
open Lib (decFrom digitVal)
theorem dget (s : ByteArray) (i : Nat) : s.data.getD i 0 = s.data.toList.getD i 0 := by
 obtain ⟨⟨l⟩⟩ := s
 simp [Array.getD, List.getD]
 split <;> rename_i h
 ·simp [h]
 ·simp [Nat.le_of_not_lt h]
theorem ext_mid (l : List UInt8) (a b : Nat) : (ofL l).extract a b = ofL ((l.drop a).take (b - a)) := by
 rw [← ofL_back ((ofL l).extract a b), ByteArray.data_extract, Array.toList_extract, ofL_data]
def cutL (s : ByteArray) (c : UInt8) : List ByteArray := (pcs c s.data.toList).map ofL
theorem cutL_len {s : ByteArray} {c : UInt8} : (cutL s c).length = nPc c s := by simp [cutL, nPc]
theorem cutL_at {s : ByteArray} {c : UInt8} {i : Nat} (h : i < nPc c s) : txAt (cutL s c) i = ofL (wAt c s i) := by
 have h : i < (pcs c s.data.toList).length := h
 simp [txAt, cutL, wAt, List.getD, h]
def CutI (s : ByteArray) (c : UInt8) (rows : List (List CV)) (a i : Nat) : Prop :=
 a ≤ i ∧ ∃ os : List (List UInt8), pcs c s.data.toList = os ++ pcs c (s.data.toList.drop a) ∧ hasC c ((s.data.toList.drop a).take (i - a)) = false ∧ rows = (os.map ofL).map ttCv ∧ os.length ≤ a
theorem cut_0 (s : ByteArray) (c : UInt8) : CutI s c [] 0 0 := ⟨Nat.le_refl _, [], rfl, rfl, rfl, Nat.le_refl _⟩
theorem drop_split {l : List UInt8} {a i : Nat} (ha : a ≤ i) (hi : i < l.length) : l.drop a = (l.drop a).take (i - a) ++ l.getD i 0 :: l.drop (i + 1) := by
 conv => lhs; rw [← List.take_append_drop (i - a) (l.drop a)]
 rw [List.drop_drop, show a + (i - a) = i by omega, List.drop_eq_getElem_cons hi]
 simp [List.getD, hi]
theorem take_split {l : List UInt8} {a i : Nat} (ha : a ≤ i) (hi : i < l.length) : (l.drop a).take (i + 1 - a) = (l.drop a).take (i - a) ++ [l.getD i 0] := by
 rw [show i + 1 - a = (i - a) + 1 by omega, List.take_add_one, List.getElem?_drop, show a + (i - a) = i by omega, List.getElem?_eq_getElem hi]
 simp [List.getD, hi]
theorem cut_miss {s : ByteArray} {c : UInt8} {rows : List (List CV)} {a i : Nat} (h : CutI s c rows a i) (hi : i < s.size) (hc : s.data.toList.getD i 0 ≠ c) : CutI s c rows a (i + 1) := by
 obtain ⟨h1, os, h2, h3, h4, h5⟩ := h
 have hi : i < s.data.toList.length := by rw [size_data]; exact hi
 refine ⟨by omega, os, h2, ?_, h4, h5⟩
 rw [take_split h1 hi]
 unfold hasC at h3 ⊢
 simp only [List.elem_eq_mem, decide_eq_false_iff_not, List.mem_append, List.mem_singleton, List.contains_eq_mem] at h3 ⊢
 rintro (q | q)
 ·exact h3 q
 ·exact hc q.symm
theorem cut_hit {s : ByteArray} {c : UInt8} {rows : List (List CV)} {a i : Nat} (h : CutI s c rows a i) (hi : i < s.size) (hc : s.data.toList.getD i 0 = c) : CutI s c (rows ++ [[.v (.string (s.extract a i))]]) (i + 1) (i + 1) := by
 obtain ⟨h1, os, h2, h3, h4, h5⟩ := h
 have hi : i < s.data.toList.length := by rw [size_data]; exact hi
 have e := drop_split h1 hi
 rw [hc] at e
 refine ⟨Nat.le_refl _, os ++ [(s.data.toList.drop a).take (i - a)], ?_, by simp [hasC], ?_, by simp; omega⟩
 ·have p := pcs_app (s.data.toList.drop (i + 1)) h3
  rw [← e] at p
  rw [h2, p, List.append_assoc]; rfl
 ·have x := ext_mid s.data.toList a i
  rw [ofL_back] at x
  rw [h4, x, ttCv_snoc, map_snoc]
theorem cut_end {s : ByteArray} {c : UInt8} {rows : List (List CV)} {a : Nat} (h : CutI s c rows a s.size) : rows ++ [[.v (.string (s.extract a s.size))]] = (cutL s c).map ttCv := by
 obtain ⟨h1, os, h2, h3, h4, h5⟩ := h
 have x := ext_drop s.data.toList a
 rw [ofL_back] at x
 rw [List.take_of_length_le (by rw [List.length_drop, size_data]; omega)] at h3
 unfold cutL
 rw [h2, h4, x, ttCv_snoc, map_snoc, pcs_one h3]
def numAt (l : List UInt8) : Nat := if l.head? = some 45 then 1 else 0
def numBad (l : List UInt8) (dg : Nat) : Prop := l.length = numAt l ∨ l.length - numAt l > dg ∨ (l.getD (numAt l) 0 = 48 ∧ 1 < l.length)
theorem numAt_le (l : List UInt8) : numAt l ≤ l.length := by
 unfold numAt
 cases l with
 | nil => simp
 | cons b r => split <;> simp
theorem numR_bad {l : List UInt8} {dg : Nat} (h : numBad l dg) : numR l dg = none := by
 unfold numBad at h
 unfold numR
 by_cases e : l.head? = some 45
 ·rw [show numAt l = 1 from if_pos e] at h
  rw [if_pos e, if_pos]
  obtain ⟨r, rfl⟩ : ∃ r, l = 45 :: r := by
   cases l with
   | nil => cases e
   | cons b r => exact ⟨r, by simpa using e⟩
  rcases h with h | h | ⟨h, g⟩
  ·exact .inl (List.length_eq_zero_iff.1 (by simpa using h))
  ·exact .inr (.inl (by simpa using h))
  ·refine .inr (.inr ?_)
   cases r with
   | nil => simp at g
   | cons x r => simpa [List.getD] using h
 ·rw [show numAt l = 0 from if_neg e] at h
  rw [if_neg e, if_pos]
  rcases h with h | h | ⟨h, g⟩
  ·exact .inl (List.length_eq_zero_iff.1 h)
  ·exact .inr (.inl (by simpa using h))
  ·refine .inr (.inr ⟨?_, g⟩)
   cases l with
   | nil => simp at g
   | cons x r => simpa [List.getD] using h
theorem numR_ok {l : List UInt8} {dg : Nat} (h : ¬ numBad l dg) : numR l dg = (decFrom 0 (l.drop (numAt l))).map fun m : Nat => if numAt l = 1 then -(m : Int) else m := by
 unfold numBad at h
 unfold numR
 by_cases e : l.head? = some 45
 ·rw [show numAt l = 1 from if_pos e] at h ⊢
  rw [if_pos e, if_neg]
  ·rfl
  ·obtain ⟨r, rfl⟩ : ∃ r, l = 45 :: r := by
    cases l with
    | nil => cases e
    | cons b r => exact ⟨r, by simpa using e⟩
   rintro (g | g | g)
   ·exact h (.inl (by simpa using g))
   ·exact h (.inr (.inl (by simpa using g)))
   ·refine h (.inr (.inr ?_))
    cases r with
    | nil => simp at g
    | cons x r => simpa [List.getD] using g
 ·rw [show numAt l = 0 from if_neg e] at h ⊢
  rw [if_neg e, if_neg]
  ·simp
  ·rintro (g | g | ⟨g, g2⟩)
   ·exact h (.inl (by rw [g]; rfl))
   ·exact h (.inr (.inl (by simpa using g)))
   ·refine h (.inr (.inr ⟨?_, g2⟩))
    cases l with
    | nil => simp at g
    | cons x r => simpa [List.getD] using g
theorem dec_stop {l : List UInt8} {a i : Nat} (ha : a ≤ i) (hi : i < l.length) (h : digitVal (l.getD i 0) = none) : decFrom 0 (l.drop a) = none := by
 rw [drop_split ha hi, decFrom_append]
 generalize l.getD i 0 = b at h ⊢
 cases decFrom 0 ((l.drop a).take (i - a)) with
 | none => rfl
 | some m => simp [decFrom, h]
theorem dec_step {l : List UInt8} {a i m d : Nat} (ha : a ≤ i) (hi : i < l.length) (h : digitVal (l.getD i 0) = some d) (g : decFrom 0 ((l.drop a).take (i - a)) = some m) : decFrom 0 ((l.drop a).take (i + 1 - a)) = some (m * 10 + d) := by
 rw [take_split ha hi, decFrom_append, g]
 generalize l.getD i 0 = b at h ⊢
 simp [decFrom, h]
end Go.Proofs.YtfadkjcfjkmalaaGreatDoor
set_option linter.unusedVariables false
set_option linter.unusedSimpArgs false
namespace Go.Proofs.YtfadkjcfjkmalaaGreatDoor
open Go.RowKit Ev
def decT (u : Nat) (t : List UInt8) : List UInt8 := if u = 0 then t else Lib.decDigits u ++ t
theorem decT_step {u : Nat} (h : u ≠ 0) (t : List UInt8) : decT u t = decT (u / 10) (UInt8.ofNat (48 + u % 10) :: t) := by
 unfold decT
 rw [if_neg h]
 by_cases g : u < 10
 ·rw [if_pos (by omega), dec_small g, show u % 10 = u by omega]; rfl
 ·rw [if_neg (by omega), dec_big g, List.append_assoc]; rfl
theorem decT_len {u : Nat} {t : List UInt8} {u0 : Nat} (h : decT u t = Lib.decDigits u0) (hu : u0 ≤ 9223372036854775808) : (ofL t).size ≤ 30 := by
 have a := dec_len 18 u0 (by omega)
 rw [← h] at a
 unfold decT at a
 rw [ofL_size]
 split at a
 ·omega
 ·rw [List.length_append] at a; omega
theorem app_ofL (l m : List UInt8) : ofL l ++ ofL m = ofL (l ++ m) := by
 rw [← ofL_back (ofL l ++ ofL m), ByteArray.data_append, Array.toList_append]
 rfl
theorem str_one {d : Nat} (h : d < 256) : strOfNums [(d : Int)] = ofL [UInt8.ofNat d] := by
 unfold strOfNums ofL
 simp
theorem size_w (n : Int) (w : World) (h : -9223372036854775807 ≤ n) (h' : n ≤ 9223372036854775807) :
  Calls Tryz.prog 117 #[.int .i64 n] w fun e w' => e = .returned (.int .i64 (n.natAbs : Int)) ∧ w = w' := by
 go_enter Tryz.func117, Tryz.ntmps117
 go_wp2_with fail
 all_goals
  go_ret
  exact ⟨ret_int (by omega), rfl⟩
set_option maxRecDepth 100000 in
set_option maxHeartbeats 2000000 in
theorem walk_Decimal (w : World) (n : Int) (hn : -9223372036854775808 ≤ n ∧ n ≤ 9223372036854775807) :
  Calls Tryz.prog 89 #[.int .i64 n] w fun e w' => e = .returned (.string (itoaB n)) ∧ Below w.heap.size w w' := by
 rcases (by omega : n = 0 ∨ n < 0 ∨ 0 < n) with rfl | hl | hl
 ·go_enter Tryz.func89, Tryz.ntmps89
  go_wp2_with fail
  go_ret
  exact ⟨by rw [show itoaB 0 = ofL [48] by unfold itoaB; rw [itoa_pos (by omega), dec_small (by decide)]; rfl]; rfl, Below.refl _ _⟩
 ·obtain ⟨u0, hu0⟩ : ∃ u : Nat, u = n.natAbs := ⟨_, rfl⟩
  have hn0 : ¬ n = 0 := by omega
  have HI : Hid (itoaB n = ofL (45 :: Lib.decDigits u0)) := hid (by unfold itoaB; rw [itoa_neg hl, hu0])
  go_enter Tryz.func89, Tryz.ntmps89
  go_wp2_with fail
  have hq : (n == 0) = false := by simpa using hn0
  rw [hq]; clear hq
  go_loopw [0, 3] (fun a s wr => ∃ (u : Nat) (t : List UInt8), a = .int .i64 (-(u : Int)) ∧ u ≤ u0 ∧ s = .string (ofL t) ∧ Hid (decT u t = Lib.decDigits u0) ∧ Below w.heap.size w wr) (fun a _ _ => (intOf a).natAbs)
  case atStart => exact ⟨u0, [], by rw [hu0]; congr 1; omega, Nat.le_refl _, rfl, hid (by unfold decT; rw [if_neg (by omega)]; simp), Below.refl _ _⟩
  case round =>
   obtain ⟨u, t, rfl, hu, rfl, HD, HB⟩ := hrel
   have hs := decT_len HD.out (by omega)
   by_cases z : u = 0
   ·subst z
    have e : ¬ (-((0 : Nat) : Int)) ≠ 0 := by simp
    go_wp2_with fail
    go_ret
    have hd : Lib.decDigits u0 = t := by rw [← HD.out]; rfl
    refine ⟨?_, HB⟩
    rw [HI.out, hd]
    rfl
   ·have e : (-(u : Int)) ≠ 0 := by omega
    obtain ⟨x, hx0⟩ : ∃ x, UInt8.ofNat (48 + u % 10) = x := ⟨_, rfl⟩
    have HX := hid hx0
    clear hx0
    have hx : (ofL [x]).size = 1 := rfl
    go_wp2_with fail
    refine (size_w _ _ (by omega) (by omega)).mono ?_
    rintro e w' ⟨rfl, rfl⟩
    go_wp2_with fail
    rw [run_convert_bytes_arg _ _ 5 (by kernel_rfl) (by kernel_rfl) wr.heap.size 0 1 1 [48 + ((u : Int) % 10).natAbs] rfl (by
     intro i hi
     obtain rfl : i = 0 := by omega
     simp) _ (by kernel_rfl), show strOfNums [48 + (((u : Int) % 10).natAbs : Int)] = ofL [x] from by rw [show (48 + (((u : Int) % 10).natAbs : Int)) = ((48 + u % 10 : Nat) : Int) by omega, str_one (by omega), HX.out]]
    go_wp2_with fail
    go_roundw
    case rel => exact ⟨u / 10, x :: t, by trivial, by omega, by rw [app_ofL]; rfl, hid (by rw [← HD.out, decT_step z, HX.out]), Below_alloc HB _⟩
    case measure => simp [intOf]; omega
 ·obtain ⟨u0, hu0⟩ : ∃ u : Nat, u = n.natAbs := ⟨_, rfl⟩
  have hn0 : ¬ n = 0 := by omega
  have HI : Hid (itoaB n = ofL (Lib.decDigits u0)) := hid (by unfold itoaB; rw [itoa_pos (by omega), hu0, show n.toNat = n.natAbs by omega])
  go_enter Tryz.func89, Tryz.ntmps89
  go_wp2_with fail
  have hq : (n == 0) = false := by simpa using hn0
  rw [hq]; clear hq
  go_loopw [0, 3] (fun a s wr => ∃ (u : Nat) (t : List UInt8), a = .int .i64 ((u : Int)) ∧ u ≤ u0 ∧ s = .string (ofL t) ∧ Hid (decT u t = Lib.decDigits u0) ∧ Below w.heap.size w wr) (fun a _ _ => (intOf a).natAbs)
  case atStart => exact ⟨u0, [], by rw [hu0]; congr 1; omega, Nat.le_refl _, rfl, hid (by unfold decT; rw [if_neg (by omega)]; simp), Below.refl _ _⟩
  case round =>
   obtain ⟨u, t, rfl, hu, rfl, HD, HB⟩ := hrel
   have hs := decT_len HD.out (by omega)
   by_cases z : u = 0
   ·subst z
    have e : ¬ (((0 : Nat) : Int)) ≠ 0 := by simp
    go_wp2_with fail
    go_ret
    have hd : Lib.decDigits u0 = t := by rw [← HD.out]; rfl
    refine ⟨?_, HB⟩
    rw [HI.out, hd]
    rfl
   ·have e : ((u : Int)) ≠ 0 := by omega
    obtain ⟨x, hx0⟩ : ∃ x, UInt8.ofNat (48 + u % 10) = x := ⟨_, rfl⟩
    have HX := hid hx0
    clear hx0
    have hx : (ofL [x]).size = 1 := rfl
    go_wp2_with fail
    refine (size_w _ _ (by omega) (by omega)).mono ?_
    rintro e w' ⟨rfl, rfl⟩
    go_wp2_with fail
    rw [run_convert_bytes_arg _ _ 5 (by kernel_rfl) (by kernel_rfl) wr.heap.size 0 1 1 [48 + ((u : Int) % 10).natAbs] rfl (by
     intro i hi
     obtain rfl : i = 0 := by omega
     simp) _ (by kernel_rfl), show strOfNums [48 + (((u : Int) % 10).natAbs : Int)] = ofL [x] from by rw [show (48 + (((u : Int) % 10).natAbs : Int)) = ((48 + u % 10 : Nat) : Int) by omega, str_one (by omega), HX.out]]
    go_wp2_with fail
    go_roundw
    case rel => exact ⟨u / 10, x :: t, by trivial, by omega, by rw [app_ofL]; rfl, hid (by rw [← HD.out, decT_step z, HX.out]), Below_alloc HB _⟩
    case measure => simp [intOf]; omega
end Go.Proofs.YtfadkjcfjkmalaaGreatDoor
set_option linter.unusedVariables false
set_option linter.unusedSimpArgs false
namespace Go.Proofs.YtfadkjcfjkmalaaGreatDoor
open Go.RowKit Ev
theorem jn_snoc (c : UInt8) (p : List UInt8) : ∀ ps : List (List UInt8), ps ≠ [] → jnC c (ps ++ [p]) = jnC c ps ++ c :: p
 | [], h => (h rfl).elim
 | [q], _ => by simp [jnC]
 | q :: r :: s, _ => by
  have ih := jn_snoc c p (r :: s) (by simp)
  have e1 : jnC c (q :: r :: s ++ [p]) = q ++ c :: jnC c (r :: s ++ [p]) := rfl
  have e2 : jnC c (q :: r :: s) = q ++ c :: jnC c (r :: s) := rfl
  rw [e1, e2, ih]; simp
theorem joinB_snoc (c : UInt8) (t : ByteArray) {l : List ByteArray} (h : l ≠ []) : joinB (l ++ [t]) ⟨#[c]⟩ = (joinB l ⟨#[c]⟩ ++ ⟨#[c]⟩) ++ t := by
 rw [joinB_one, joinB_one, List.map_append, List.map_singleton, jn_snoc c _ _ (by simpa using h)]
 rw [show (⟨#[c]⟩ : ByteArray) = ofL [c] from rfl, app_ofL]
 conv => rhs; rw [← ofL_back t]
 rw [app_ofL]; simp
theorem joinB_single (c : UInt8) (t : ByteArray) : joinB [t] ⟨#[c]⟩ = t := by
 rw [joinB_one]; exact ofL_back t
theorem empty_app (t : ByteArray) : (⟨#[]⟩ : ByteArray) ++ t = t := by
 rw [← ofL_back t, show (⟨#[]⟩ : ByteArray) = ofL [] from rfl, app_ofL]; rfl
theorem words_snoc {l : List Int} {k : Nat} (h : k < l.length) (h0 : 0 < k) : (wordsB (l.take k) ++ ⟨#[32]⟩) ++ itoaB (l.getD k 0) = wordsB (l.take (k + 1)) := by
 unfold wordsB
 rw [take_snoc l 0 h, List.map_append, List.map_singleton, joinB_snoc _ _ (by intro e; have := congrArg List.length e; rw [List.length_map, List.length_take, List.length_nil] at this; omega)]
theorem words_one {l : List Int} (h : 0 < l.length) : (⟨#[]⟩ : ByteArray) ++ itoaB (l.getD 0 0) = wordsB (l.take 1) := by
 rw [empty_app]
 unfold wordsB
 rw [take_snoc l 0 h, List.take_zero, List.nil_append, List.map_singleton, joinB_single]
theorem words_take {l : List Int} {k : Nat} (hl : l.length ≤ 100) (h : ∀ i, i < l.length → -9223372036854775808 ≤ l.getD i 0 ∧ l.getD i 0 ≤ 9223372036854775807) : (wordsB (l.take k)).size ≤ 2100 := by
 have := wordsB_len (l := l.take k) (fun i hi => by
  rw [List.length_take] at hi
  have := h i (by omega)
  rwa [show (l.take k).getD i 0 = l.getD i 0 by simp [List.getD, List.getElem?_take, show i < k by omega]])
 rw [List.length_take] at this
 omega
end Go.Proofs.YtfadkjcfjkmalaaGreatDoor
set_option linter.unusedVariables false
set_option linter.unusedSimpArgs false
namespace Go.Proofs.YtfadkjcfjkmalaaGreatDoor
open Go.RowKit Ev
theorem hasC_no {c : UInt8} {l : List UInt8} (h : ∀ x ∈ l, x ≠ c) : hasC c l = false := by
 unfold hasC
 rw [Bool.eq_false_iff]
 intro q
 exact h c (List.contains_iff_mem.1 q) rfl
theorem hasC_not {c : UInt8} {l : List UInt8} (h : hasC c l = false) : ∀ x ∈ l, x ≠ c := by
 rintro x hx rfl
 unfold hasC at h
 rw [List.contains_iff_mem.2 hx] at h; cases h
theorem itoa_no {c : UInt8} (h : ¬ (48 ≤ c.toNat ∧ c.toNat ≤ 57)) (h2 : c ≠ 45) (n : Int) : hasC c (Lib.itoa n) = false := by
 refine hasC_no fun x hx => ?_
 rintro rfl
 by_cases g : n < 0
 ·rw [itoa_neg g] at hx
  rcases List.mem_cons.1 hx with q | q
  ·exact h2 q
  ·exact h (dec_dig _ _ q)
 ·rw [itoa_pos (by omega)] at hx
  exact h (dec_dig _ _ hx)
theorem hasC_jn {c d : UInt8} (hd : d ≠ c) : ∀ {ps : List (List UInt8)}, (∀ p ∈ ps, hasC d p = false) → hasC d (jnC c ps) = false
 | [], _ => rfl
 | [p], h => h p (by simp)
 | p :: q :: r, h => by
  have ih := hasC_jn hd (ps := q :: r) (fun x hx => h x (by simp [hx]))
  have hp := h p (by simp)
  refine hasC_no fun x hx => ?_
  have e : jnC c (p :: q :: r) = p ++ c :: jnC c (q :: r) := rfl
  rw [e, List.mem_append, List.mem_cons] at hx
  rcases hx with g | rfl | g
  ·exact hasC_not hp x g
  ·exact fun e => hd e.symm
  ·exact hasC_not ih x g
theorem words_data (l : List Int) : (wordsB l).data.toList = jnC 32 (l.map Lib.itoa) := by
 unfold wordsB
 rw [joinB_one, ofL_data, List.map_map]; rfl
theorem words_pcs {l : List Int} (h : l ≠ []) : pcs 32 (wordsB l).data.toList = l.map Lib.itoa := by
 rw [words_data]
 exact pcs_jn (by simpa using h) fun p hp => by
  obtain ⟨n, _, rfl⟩ := List.mem_map.1 hp
  exact itoa_no (by decide) (by decide) n
theorem words_wAt {l : List Int} (h : l ≠ []) {i : Nat} (hi : i < l.length) : wAt 32 (wordsB l) i = Lib.itoa (l.getD i 0) := by
 unfold wAt
 rw [words_pcs h]
 simp [List.getD, hi]
theorem num_back {v : Int} {dg : Nat} (h0 : 1 ≤ dg) (h : v.natAbs < 10 ^ dg) : numR (Lib.itoa v) dg = some v := by
 have e : dg - 1 + 1 = dg := by omega
 refine numR_itoa ?_
 by_cases g : v < 0
 ·rw [itoa_neg g, if_pos (by rfl)]
  have := dec_len (dg - 1) v.natAbs (by rw [e]; exact h)
  show (Lib.decDigits v.natAbs).length ≤ dg
  omega
 ·rw [itoa_pos (by omega), if_neg (dec_head45 _)]
  have := dec_len (dg - 1) v.toNat (by rw [e]; omega)
  omega
theorem four {a b c d : Int} {P : Int → Prop} (h1 : P a) (h2 : P b) (h3 : P c) (h4 : P d) : ∀ i, i < [a, b, c, d].length → P ([a, b, c, d].getD i 0) := by
 intro i hi
 have hi : i < 4 := hi
 rcases (by omega : i = 0 ∨ i = 1 ∨ i = 2 ∨ i = 3) with rfl | rfl | rfl | rfl
 ·exact h1
 ·exact h2
 ·exact h3
 ·exact h4
end Go.Proofs.YtfadkjcfjkmalaaGreatDoor
set_option linter.unusedVariables false
set_option linter.unusedSimpArgs false
namespace Go.Proofs.YtfadkjcfjkmalaaGreatDoor
open Go.RowKit Ev
theorem bad_w (w : List UInt8) : (bif (!(atoB (ofL w))) then true else (bif (!(((itoaB (atoV (ofL w))) : ByteArray).toList == ((ofL w) : ByteArray).toList)) then true else decide (((((trimB (ofL w) (⟨#[45]⟩)) : ByteArray).size : Nat) : Int) > (5 : Int)))) = !(numR w 5).isSome := by
 have t := (test_w w (dg := 5) (by decide)).1
 rw [← t]
 have e : decide (((((trimB (ofL w) (⟨#[45]⟩)) : ByteArray).size : Nat) : Int) > (5 : Int)) = !decide (((((trimB (ofL w) (⟨#[45]⟩)) : ByteArray).size : Nat) : Int) ≤ ((5 : Nat) : Int)) := by
  by_cases g : (((trimB (ofL w) ⟨#[45]⟩).size : Nat) : Int) ≤ ((5 : Nat) : Int)
  ·rw [decide_eq_true g, decide_eq_false (by omega)]; rfl
  ·rw [decide_eq_false g, decide_eq_true (by omega)]; rfl
 rw [e]
 have key : ∀ a b c : Bool, (bif (!a) then true else (bif (!b) then true else !c)) = !(bif a then (bif b then c else false) else false) := by decide
 exact key _ _ _
theorem val_w {s : ByteArray} {i : Nat} (h : (numR (wAt 32 s i) 5).isSome = true) : atoV (ofL (wAt 32 s i)) = valW s 5 i := by
 unfold valW
 cases e : numR (wAt 32 s i) 5 with
 | none => rw [e] at h; cases h
 | some v => exact (test_w _ (by decide)).2 v e
def okTo (s : ByteArray) (n k : Nat) : Bool := Nat.beq (nPc 32 s) n && (List.range k).all fun j => (numR (wAt 32 s j) 5).isSome
def wrC (s : ByteArray) (n i : Nat) (b : Int) : Int := if okTo s n (i + 1) = true then valW s 5 i else b
theorem okTo_succ (s : ByteArray) (n k : Nat) : okTo s n (k + 1) = (okTo s n k && (numR (wAt 32 s k) 5).isSome) := by
 unfold okTo
 rw [List.range_succ, List.all_append, Bool.and_assoc]
 simp
theorem okTo_no {s : ByteArray} {n : Nat} (h : nPc 32 s ≠ n) (k : Nat) : okTo s n k = false := by
 unfold okTo
 cases hb : Nat.beq (nPc 32 s) n with
 | false => rfl
 | true => exact absurd (Nat.eq_of_beq_eq_true hb) h
theorem okTo_zero {s : ByteArray} {n : Nat} (h : nPc 32 s = n) : okTo s n 0 = true := by
 unfold okTo
 rw [h]
 simp
theorem okTo_mono {s : ByteArray} {n j k : Nat} (h : okTo s n j = false) (hj : j ≤ k) : okTo s n k = false := by
 have key : ∀ d, okTo s n (j + d) = false := fun d => by
  induction d with
  | zero => exact h
  | succ d ih => rw [← Nat.add_assoc, okTo_succ, ih]; rfl
 have := key (k - j)
 rwa [show j + (k - j) = k by omega] at this
theorem okTo_yes {s : ByteArray} {n k : Nat} (h : nPc 32 s = n) (g : ∀ j, j < k → (numR (wAt 32 s j) 5).isSome = true) : okTo s n k = true := by
 unfold okTo
 rw [h, Bool.and_eq_true]
 exact ⟨by simp, List.all_eq_true.2 fun j hj => g j (List.mem_range.1 hj)⟩
theorem okTo_all {s : ByteArray} {n k : Nat} (h : okTo s n k = true) : nPc 32 s = n ∧ ∀ j, j < k → (numR (wAt 32 s j) 5).isSome = true := by
 unfold okTo at h
 rw [Bool.and_eq_true] at h
 exact ⟨Nat.eq_of_beq_eq_true h.1, fun j hj => List.all_eq_true.1 h.2 j (List.mem_range.2 hj)⟩
theorem wrC_no {s : ByteArray} {n i : Nat} {b : Int} (h : okTo s n (i + 1) = false) : wrC s n i b = b := if_neg (by rw [h]; simp)
theorem wrC_yes {s : ByteArray} {n i : Nat} {b : Int} (h : okTo s n (i + 1) = true) : wrC s n i b = valW s 5 i := if_pos h
theorem wrC_all {s : ByteArray} {n i : Nat} {b : Int} (h : okTo s n n = true) (hi : i < n) : wrC s n i b = valW s 5 i := by
 obtain ⟨h1, h2⟩ := okTo_all h
 exact wrC_yes (okTo_yes h1 fun j hj => h2 j (by omega))
def hitN (h : THit) : List Int := [h.p.x, h.p.y, h.p.z, h.t, h.w]
def hitW (h : THit) : ByteArray := wordsB (hitN h)
def hitsT (l : List THit) : ByteArray := joinB (l.map hitW) ⟨#[59]⟩
def rgH (h : THit) : Prop := inI h.p.x ∧ inI h.p.y ∧ inI h.p.z ∧ inI h.t ∧ inI h.w
theorem fiv {h : THit} {P : Int → Prop} (h1 : P h.p.x) (h2 : P h.p.y) (h3 : P h.p.z) (h4 : P h.t) (h5 : P h.w) : ∀ i, i < 5 → P ((hitN h).getD i 0) := by
 intro i hi
 rcases (by omega : i = 0 ∨ i = 1 ∨ i = 2 ∨ i = 3 ∨ i = 4) with rfl | rfl | rfl | rfl | rfl
 ·exact h1
 ·exact h2
 ·exact h3
 ·exact h4
 ·exact h5
theorem in5 {h : THit} (g : rgH h) : ∀ i, i < (hitN h).length → -9223372036854775808 ≤ (hitN h).getD i 0 ∧ (hitN h).getD i 0 ≤ 9223372036854775807 := by
 obtain ⟨h1, h2, h3, h4, h5⟩ := g
 exact fiv (P := inI) h1 h2 h3 h4 h5
theorem hitW_len {h : THit} (g : rgH h) : (hitW h).size ≤ 105 := wordsB_len (l := hitN h) (in5 g)
theorem hitsT_len {l : List THit} (h1 : l.length ≤ 14) (h2 : ∀ k, k < l.length → rgH (hitAt l k)) : (hitsT l).size ≤ 1484 := by
 have := joinB_len (l.map hitW) 59 (m := 105) (fun t ht => by
  obtain ⟨x, hx, rfl⟩ := List.mem_map.1 ht
  obtain ⟨i, hi, rfl⟩ := List.mem_iff_getElem.1 hx
  have g := h2 i hi
  rw [show hitAt l i = l[i] by simp [hitAt, List.getD, hi]] at g
  exact hitW_len g)
 rw [List.length_map] at this
 unfold hitsT
 omega
def hitOf (s : ByteArray) : THit := ⟨⟨valW s 5 0, valW s 5 1, valW s 5 2⟩, valW s 5 3, valW s 5 4⟩
def hitB (s : ByteArray) : Bool := okTo s 5 5
def partB (s : ByteArray) (i : Nat) : ByteArray := ofL (wAt 59 s i)
theorem partB_size {s : ByteArray} {i : Nat} : (partB s i).size ≤ s.size := by unfold partB; rw [ofL_size]; exact wAt_len
def hsK (s : ByteArray) (k : Nat) : List THit := (List.range k).map fun i => hitOf (partB s i)
def synH (s : ByteArray) : Bool := (List.range (nPc 59 s)).all fun i => hitB (partB s i)
def phE (s : ByteArray) : Int := if s.size > 60000 then 8 else if s.size = 0 then 0 else if synH s = false then 7 else hitsE (hsK s (nPc 59 s))
def phL (s : ByteArray) : List THit := if s.size ≠ 0 ∧ phE s = 0 then hsK s (nPc 59 s) else []
theorem hsK_len {s : ByteArray} {k : Nat} : (hsK s k).length = k := by simp [hsK]
theorem hsK_succ {s : ByteArray} {k : Nat} : hsK s (k + 1) = hsK s k ++ [hitOf (partB s k)] := by simp [hsK, List.range_succ]
theorem synH_no {s : ByteArray} {i : Nat} (h : i < nPc 59 s) (g : hitB (partB s i) = false) : synH s = false := by
 unfold synH
 rw [Bool.eq_false_iff]
 intro q
 have := List.all_eq_true.1 q i (List.mem_range.2 h)
 rw [g] at this; cases this
theorem synH_yes {s : ByteArray} (h : ∀ i, i < nPc 59 s → hitB (partB s i) = true) : synH s = true := List.all_eq_true.2 fun i hi => h i (List.mem_range.1 hi)
theorem phL_len (s : ByteArray) (h : s.size ≤ 100000) : (phL s).length ≤ 100001 := by
 unfold phL
 have := nPc_le 59 s
 split
 ·rw [hsK_len]; omega
 ·simp
theorem phE_syn {s : ByteArray} (h1 : s.size ≤ 60000) (h2 : s.size ≠ 0) (h : synH s = false) : phE s = 7 ∧ phL s = [] := by
 have e : phE s = 7 := by unfold phE; rw [if_neg (by omega), if_neg h2, if_pos h]
 exact ⟨e, if_neg (by rw [e]; simp)⟩
theorem phE_ok {s : ByteArray} (h1 : s.size ≤ 60000) (h2 : s.size ≠ 0) (h : synH s = true) : phE s = hitsE (hsK s (nPc 59 s)) := by
 unfold phE; rw [if_neg (by omega), if_neg h2, if_neg (by rw [h]; simp)]
theorem phL_ok {s : ByteArray} (h2 : s.size ≠ 0) (h : phE s = 0) : phL s = hsK s (nPc 59 s) := if_pos ⟨h2, h⟩
theorem phL_no {s : ByteArray} (h : phE s ≠ 0) : phL s = [] := if_neg (fun q => h q.2)
theorem words_rd {l : List Int} {n : Nat} (hl : l.length = n) (hn : 0 < n) (h : ∀ i, i < n → (l.getD i 0).natAbs < 10 ^ 5) : okTo (wordsB l) n n = true ∧ ∀ i, i < n → valW (wordsB l) 5 i = l.getD i 0 := by
 have ne : l ≠ [] := fun e => by rw [e] at hl; simp at hl; omega
 have n5 : nPc 32 (wordsB l) = n := by unfold nPc; rw [words_pcs ne, List.length_map]; exact hl
 have w : ∀ i, i < n → numR (wAt 32 (wordsB l) i) 5 = some (l.getD i 0) := fun i hi => by
  rw [words_wAt ne (by omega)]
  exact num_back (by decide) (h i hi)
 refine ⟨okTo_yes n5 fun j hj => by rw [w j hj]; rfl, fun i hi => ?_⟩
 unfold valW
 rw [w i hi]; rfl
theorem hit_back {h : THit} (e : h.Ok) : hitB (hitW h) = true ∧ hitOf (hitW h) = h := by
 obtain ⟨p, t, w⟩ := e
 obtain ⟨a, b, c⟩ := inS_iff.1 p
 obtain ⟨h1, h2⟩ := words_rd (l := hitN h) (n := 5) rfl (by decide) (fiv (h := h) (P := fun x => x.natAbs < 10 ^ 5) (by omega) (by omega) (by omega) (by omega) (by omega))
 refine ⟨h1, ?_⟩
 unfold hitOf hitW
 rw [h2 0 (by omega), h2 1 (by omega), h2 2 (by omega), h2 3 (by omega), h2 4 (by omega)]
 rfl
theorem jn_pos {c : UInt8} {p : List UInt8} {ps : List (List UInt8)} (h : p ≠ []) : jnC c (p :: ps) ≠ [] := by
 cases ps with
 | nil => exact h
 | cons q r => intro e; have : (jnC c (p :: q :: r)) = p ++ c :: jnC c (q :: r) := rfl; rw [this] at e; simp at e
theorem itoa_ne (n : Int) : Lib.itoa n ≠ [] := by
 by_cases g : n < 0
 ·rw [itoa_neg g]; simp
 ·rw [itoa_pos (by omega)]; exact dec_ne _
theorem hits_back {l : List THit} (h : hitsE l = 0) : phE (hitsT l) = 0 ∧ phL (hitsT l) = l := by
 obtain ⟨l1, h2⟩ := hitsE_ok h
 by_cases h0 : l = []
 ·subst h0
  have z : (hitsT []).size = 0 := rfl
  exact ⟨by unfold phE; rw [if_neg (by omega), if_pos z], if_neg fun q => q.1 z⟩
 have hr : ∀ k, k < l.length → rgH (hitAt l k) := fun k hk => by
  obtain ⟨p, t, w⟩ := h2 k hk
  obtain ⟨a, b, c⟩ := inS_iff.1 p
  unfold rgH inI
  omega
 have hs := hitsT_len (by omega) hr
 have hd : (hitsT l).data.toList = jnC 59 (l.map fun x => (hitW x).data.toList) := by
  unfold hitsT
  rw [joinB_one, ofL_data, List.map_map]; rfl
 have hp : pcs 59 (hitsT l).data.toList = l.map fun x => (hitW x).data.toList := by
  rw [hd]
  refine pcs_jn (by simpa using h0) fun p hp => ?_
  obtain ⟨x, _, rfl⟩ := List.mem_map.1 hp
  unfold hitW
  rw [words_data]
  refine hasC_jn (by decide) fun q hq => ?_
  obtain ⟨n, _, rfl⟩ := List.mem_map.1 hq
  exact itoa_no (by decide) (by decide) n
 have z : (hitsT l).size ≠ 0 := by
  rw [← size_data, hd]
  obtain ⟨x, r, rfl⟩ := List.exists_cons_of_ne_nil h0
  intro e
  refine jn_pos (c := 59) (p := (hitW x).data.toList) (ps := r.map fun x => (hitW x).data.toList) ?_ (List.length_eq_zero_iff.1 e)
  unfold hitW
  rw [words_data]
  exact jn_pos (itoa_ne _)
 have np : nPc 59 (hitsT l) = l.length := by unfold nPc; rw [hp]; simp
 have hq : ∀ i, i < l.length → partB (hitsT l) i = hitW (hitAt l i) := fun i hi => by
  unfold partB wAt
  rw [hp, show (l.map fun x => (hitW x).data.toList).getD i [] = (hitW (hitAt l i)).data.toList by simp [hitAt, List.getD, hi]]
  exact ofL_back _
 have hw : ∀ i, i < l.length → hitB (partB (hitsT l) i) = true ∧ hitOf (partB (hitsT l) i) = hitAt l i := fun i hi => by
  rw [hq i hi]; exact hit_back (h2 i hi)
 have hk : hsK (hitsT l) l.length = l := by
  refine List.ext_getElem hsK_len fun i h4 h5 => ?_
  have e : (hsK (hitsT l) l.length)[i] = hitOf (partB (hitsT l) i) := by simp [hsK]
  rw [e, (hw i h5).2]
  simp [hitAt, List.getD, h5]
 have sy : synH (hitsT l) = true := synH_yes fun i hi => (hw i (by omega)).1
 have e : phE (hitsT l) = 0 := by
  rw [phE_ok (by omega) z sy, np, hk]
  exact h
 exact ⟨e, by rw [phL_ok z e, np, hk]⟩
def boxN (b : TBox) : List Int := [b.lo.x, b.lo.y, b.lo.z, b.hi.x, b.hi.y, b.hi.z]
def boxT (b : TBox) : ByteArray := wordsB (boxN b)
def rgB (b : TBox) : Prop := inI b.lo.x ∧ inI b.lo.y ∧ inI b.lo.z ∧ inI b.hi.x ∧ inI b.hi.y ∧ inI b.hi.z
theorem six {b : TBox} {P : Int → Prop} (h1 : P b.lo.x) (h2 : P b.lo.y) (h3 : P b.lo.z) (h4 : P b.hi.x) (h5 : P b.hi.y) (h6 : P b.hi.z) : ∀ i, i < 6 → P ((boxN b).getD i 0) := by
 intro i hi
 rcases (by omega : i = 0 ∨ i = 1 ∨ i = 2 ∨ i = 3 ∨ i = 4 ∨ i = 5) with rfl | rfl | rfl | rfl | rfl | rfl
 ·exact h1
 ·exact h2
 ·exact h3
 ·exact h4
 ·exact h5
 ·exact h6
theorem in6 {b : TBox} (g : rgB b) : ∀ i, i < (boxN b).length → -9223372036854775808 ≤ (boxN b).getD i 0 ∧ (boxN b).getD i 0 ≤ 9223372036854775807 := by
 obtain ⟨h1, h2, h3, h4, h5, h6⟩ := g
 exact six (P := inI) h1 h2 h3 h4 h5 h6
theorem boxT_len {b : TBox} (g : rgB b) : (boxT b).size ≤ 126 := wordsB_len (l := boxN b) (in6 g)
def boxOf (s : ByteArray) : TBox := ⟨⟨valW s 5 0, valW s 5 1, valW s 5 2⟩, ⟨valW s 5 3, valW s 5 4, valW s 5 5⟩⟩
def boxB (s : ByteArray) : Bool := okTo s 6 6
def pbE (s : ByteArray) : Int := if boxB s = false then 7 else (boxOf s).err
def pbX (s : ByteArray) : TBox := if pbE s = 0 then boxOf s else ⟨⟨0, 0, 0⟩, ⟨0, 0, 0⟩⟩
theorem pb_syn {s : ByteArray} (h : boxB s = false) : pbE s = 7 ∧ pbX s = ⟨⟨0, 0, 0⟩, ⟨0, 0, 0⟩⟩ := by
 have e : pbE s = 7 := if_pos h
 exact ⟨e, if_neg (by rw [e]; decide)⟩
theorem pb_ok {s : ByteArray} (h : boxB s = true) : pbE s = (boxOf s).err := if_neg (by rw [h]; simp)
theorem pbX_no {s : ByteArray} (h : pbE s ≠ 0) : pbX s = ⟨⟨0, 0, 0⟩, ⟨0, 0, 0⟩⟩ := if_neg h
theorem pbX_yes {s : ByteArray} (h : pbE s = 0) : pbX s = boxOf s := if_pos h
theorem box_rg {b : TBox} (h : b.err = 0) : b.lo.inS 20 = true ∧ b.hi.inS 20 = true := by
 unfold TBox.err at h
 rw [firstNZ_cons] at h
 have h1 := h.1
 rw [unl_zero (by decide)] at h1
 simpa using h1
theorem box_back {b : TBox} (h : b.err = 0) : pbE (boxT b) = 0 ∧ pbX (boxT b) = b := by
 obtain ⟨k1, k2⟩ := box_rg h
 obtain ⟨a1, a2, a3⟩ := inS_iff.1 k1
 obtain ⟨c1, c2, c3⟩ := inS_iff.1 k2
 obtain ⟨h1, h2⟩ := words_rd (l := boxN b) (n := 6) rfl (by decide) (six (b := b) (P := fun x => x.natAbs < 10 ^ 5) (by omega) (by omega) (by omega) (by omega) (by omega) (by omega))
 have e : boxOf (boxT b) = b := by
  unfold boxOf boxT
  rw [h2 0 (by omega), h2 1 (by omega), h2 2 (by omega), h2 3 (by omega), h2 4 (by omega), h2 5 (by omega)]
  rfl
 have e2 : pbE (boxT b) = 0 := by rw [pb_ok (s := boxT b) h1, e]; exact h
 exact ⟨e2, by rw [pbX_yes e2, e]⟩
end Go.Proofs.YtfadkjcfjkmalaaGreatDoor