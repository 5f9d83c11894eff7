/- Texts of this claim, together. -/
import Derived.Test.YtdkpgodakmailaaGreatDoorHC10
import Derived.Test.YtdkpgodakmailaaGreatDoorHC5
import Derived.ProofKit
import Derived.OpenShut
import Derived.ShutString
import Derived.ChangeOld
import Derived.Below
import Derived.Lib.SmallJoins
import Derived.Shelf.Strings.Builder1
import Derived.Shelf.Strings.Builder2
import Derived.Shelf.Strings.OnBuilder
import Derived.Shelf.Strconv.Atoi
import Derived.Shelf.Strconv.Itoa0
import Derived.Shelf.Strconv.Itoa1
import Derived.Shelf.LaysM
import Derived.Shelf.Strconv.Itoa2
import Derived.Shelf.Strconv.Itoa3
import Derived.Shelf.Strconv.AtoiErrFast
import Derived.Shelf.Strconv.ParseIntEmpty
import Derived.Shelf.Strconv.AtoiFail
import Derived.Shelf.Strconv.Clone
import Derived.Shelf.Strconv.SyntaxError
import Derived.Shelf.LaysC
import Derived.Shelf.Strconv.ToError
import Derived.Shelf.Strconv.Lower
import Derived.Shelf.Strconv.ParseUint10
import Derived.Shelf.Strconv.ParseUint10Empty
import Derived.Shelf.Strconv.ParseUint10Any
import Derived.Shelf.Strconv.ParseInt10
import Derived.Shelf.Strconv.AtoiLong
import Derived.Shelf.Strconv.AtoiInnerAll
import Derived.Shelf.Strconv.RangeError
import Derived.Shelf.Strconv.ToErrorRange
import Derived.Shelf.Strconv.AtoiAll
import Derived.Shelf.Strings.Search1
import Derived.Shelf.Strings.Search2
import Derived.Shelf.Strings.Search3
import Derived.Shelf.Strings.Count
import Derived.Shelf.Strings.Shaped
import Derived.Shelf.Strings.Prefix
import Derived.Shelf.Strings.Split
import Derived.Shelf.Strings.SplitShaped
import Derived.Shelf.Unicode.DecodeSlow
import Derived.Ground.Names2Prog
import Derived.Shelf.Slices.SearchI
import Derived.Test.YtdkpgodakmailaaGreatDoorProg

set_option linter.unusedVariables false
set_option linter.unusedSimpArgs false
namespace Go.Proofs.YtdkpgodakmailaaGreatDoor
open Go.RowKit Ev
def hasB (r : Rg) (t : Int) : Bool := inB t r.lo r.hi
theorem hasB_iff {r : Rg} {t : Int} : hasB r t = true ↔ r.lo ≤ t ∧ t ≤ r.hi := inB_true
def okT (a b : List Rg) (s t : Int) : Prop := ∀ i, i < a.length → hasB (rgAt a i) s = true ∨ hasB (rgAt b i) t = true
def restR (a b : List Rg) (s : Int) : List Rg := ((List.range a.length).filter fun i => !hasB (rgAt a i) s).map fun i => rgAt b i
def minR (b : List Rg) (k : Nat) : Rg := ((b.drop 1).take k).foldl (fun m r => if r.lo - m.lo < 0 then r else m) (rgAt b 0)
def secT (a b : List Rg) (s : Int) : Option Int := if (restR a b s).length = 0 then some (minR b b.length).lo else if (comm (restR a b s)).lo ≤ (comm (restR a b s)).hi then some (comm (restR a b s)).lo else none
def tmStep (a b : List Rg) (o : Option (Int × Int)) (r : Rg) : Option (Int × Int) := if (o.isSome && decide (r.lo ≥ (o.getD (0, 0)).1)) = true then o else match secT a b r.lo with
 | some t => some (r.lo, t)
 | none => o
def timK (a b : List Rg) (k : Nat) : Option (Int × Int) := (a.take k).foldl (tmStep a b) none
def timF (a b : List Rg) : Option (Int × Int) := timK a b a.length
def losP (l : List Rg) (t : Int) : Prop := ∃ i, i < l.length ∧ (rgAt l i).lo = t
theorem timK_succ {a b : List Rg} {k : Nat} (hk : k < a.length) : timK a b (k + 1) = tmStep a b (timK a b k) (rgAt a k) := by
 unfold timK
 rw [List.take_succ_eq_append_getElem hk, List.foldl_append]
 simp [rgAt, List.getD, hk]
def isT (a b : List Rg) : Option (Int × Int) → Prop
 | none => ∀ s t, losP a s → losP b t → ¬ okT a b s t
 | some (s, t) => losP a s ∧ losP b t ∧ okT a b s t ∧ ∀ s' t', losP a s' → losP b t' → okT a b s' t' → s < s' ∨ (s = s' ∧ t ≤ t')
theorem minR_ok {b : List Rg} : ∀ k, k < b.length → ∃ i, i ≤ k ∧ minR b k = rgAt b i ∧ ∀ j, j ≤ k → (minR b k).lo ≤ (rgAt b j).lo := by
 intro k
 induction k with
 | zero => intro hk; exact ⟨0, Nat.le_refl _, rfl, fun j hj => by
   have : j = 0 := by omega
   rw [this]; exact Int.le_refl _⟩
 | succ k ih =>
  intro hk
  obtain ⟨i, i1, i2, i3⟩ := ih (by omega)
  have hd : k < (b.drop 1).length := by rw [List.length_drop]; omega
  have e : minR b (k + 1) = if (rgAt b (k + 1)).lo - (minR b k).lo < 0 then rgAt b (k + 1) else minR b k := by
   unfold minR
   rw [List.take_succ_eq_append_getElem hd, List.foldl_append]
   simp [rgAt, List.getD, Nat.add_comm 1 k, hk]
  rw [e]
  split
  ·refine ⟨k + 1, Nat.le_refl _, rfl, fun j hj => ?_⟩
   by_cases q : j = k + 1
   ·rw [q]; exact Int.le_refl _
   ·have := i3 j (by omega); omega
  ·refine ⟨i, by omega, i2, fun j hj => ?_⟩
   by_cases q : j = k + 1
   ·rw [q]; omega
   ·exact i3 j (by omega)
theorem minR_end {b : List Rg} (h : 0 < b.length) : minR b b.length = minR b (b.length - 1) := by
 unfold minR
 rw [List.take_of_length_le (by rw [List.length_drop]; omega), List.take_of_length_le (by rw [List.length_drop]; omega)]
theorem comm_lo {l : List Rg} (h0 : 0 < l.length) : ∃ i, i < l.length ∧ (comm l).lo = (rgAt l i).lo := by
 have key : ∀ (m : List Rg) (a : Rg), (m.foldl meetR a).lo = a.lo ∨ ∃ g ∈ m, (m.foldl meetR a).lo = g.lo := by
  intro m
  induction m with
  | nil => intro a; exact Or.inl rfl
  | cons g m ih =>
   intro a
   rw [List.foldl_cons]
   rcases ih (meetR a g) with h | ⟨y, hy, h⟩
   ·rw [h]
    have : (meetR a g).lo = max a.lo g.lo := rfl
    rcases Int.le_total a.lo g.lo with q | q
    ·exact Or.inr ⟨g, by simp, by rw [this]; omega⟩
    ·left; rw [this]; omega
   ·exact Or.inr ⟨y, by simp [hy], h⟩
 rcases key (l.drop 1) (rgAt l 0) with h | ⟨g, hg, h⟩
 ·exact ⟨0, h0, h⟩
 ·obtain ⟨i, hi, rfl⟩ := List.getElem_of_mem hg
  rw [List.length_drop] at hi
  refine ⟨1 + i, by omega, h.trans ?_⟩
  simp [rgAt, List.getD, show i + 1 < l.length by omega, Nat.add_comm 1 i]
theorem mem_rest {a b : List Rg} {s : Int} {g : Rg} : g ∈ restR a b s ↔ ∃ i, i < a.length ∧ hasB (rgAt a i) s = false ∧ rgAt b i = g := by
 unfold restR
 constructor
 ·intro h
  obtain ⟨i, hi, e⟩ := List.mem_map.1 h
  obtain ⟨h1, h2⟩ := List.mem_filter.1 hi
  exact ⟨i, List.mem_range.1 h1, by simpa using h2, e⟩
 ·rintro ⟨i, h1, h2, h3⟩
  exact List.mem_map.2 ⟨i, List.mem_filter.2 ⟨List.mem_range.2 h1, by simpa using h2⟩, h3⟩
theorem okT_rest {a b : List Rg} {s t : Int} : okT a b s t ↔ ∀ g ∈ restR a b s, g.lo ≤ t ∧ t ≤ g.hi := by
 constructor
 ·intro h g hg
  obtain ⟨i, h1, h2, rfl⟩ := mem_rest.1 hg
  rcases h i h1 with q | q
  ·rw [h2] at q; cases q
  ·exact hasB_iff.1 q
 ·intro h i hi
  cases hq : hasB (rgAt a i) s with
  | true => exact Or.inl rfl
  | false => exact Or.inr (hasB_iff.2 (h _ (mem_rest.2 ⟨i, hi, hq, rfl⟩)))
theorem secT_ok {a b : List Rg} {s : Int} (hl : a.length = b.length) (h0 : 0 < a.length) : (secT a b s = none ∧ ∀ t, ¬ okT a b s t) ∨ ∃ t, secT a b s = some t ∧ losP b t ∧ okT a b s t ∧ ∀ t', losP b t' → okT a b s t' → t ≤ t' := by
 unfold secT
 by_cases h : (restR a b s).length = 0
 ·rw [if_pos h]
  right
  obtain ⟨i, i1, i2, i3⟩ := minR_ok (b := b) (b.length - 1) (by omega)
  rw [← minR_end (by omega)] at i2 i3
  refine ⟨_, rfl, ⟨i, by omega, by rw [i2]⟩, okT_rest.2 fun g hg => ?_, fun t' ⟨j, j1, j2⟩ _ => ?_⟩
  ·rw [List.length_eq_zero_iff.1 h] at hg; cases hg
  ·rw [← j2]; exact i3 j (by omega)
 ·rw [if_neg h]
  have hp : 0 < (restR a b s).length := by omega
  by_cases hc : (comm (restR a b s)).lo ≤ (comm (restR a b s)).hi
  ·rw [if_pos hc]
   right
   obtain ⟨i, i1, i2⟩ := comm_lo hp
   have hg : rgAt (restR a b s) i ∈ restR a b s := by rw [show rgAt (restR a b s) i = (restR a b s)[i] by simp [rgAt, List.getD, i1]]; exact List.getElem_mem i1
   obtain ⟨j, j1, j2, j3⟩ := mem_rest.1 hg
   refine ⟨_, rfl, ⟨j, by omega, by rw [i2, j3]⟩, okT_rest.2 ((comm_iff hp).1 ⟨Int.le_refl _, hc⟩), fun t' _ ht => ?_⟩
   exact ((comm_iff hp).2 (okT_rest.1 ht)).1
  ·rw [if_neg hc]
   left
   refine ⟨rfl, fun t ht => ?_⟩
   have := (comm_iff hp).2 (okT_rest.1 ht)
   omega
theorem timK_ok {a b : List Rg} (hl : a.length = b.length) : ∀ k, k ≤ a.length → match timK a b k with
  | none => ∀ i, i < k → ∀ t, losP b t → ¬ okT a b (rgAt a i).lo t
  | some (s, t) => losP a s ∧ losP b t ∧ okT a b s t ∧ (∀ t', losP b t' → okT a b s t' → t ≤ t') ∧ ∀ i, i < k → ∀ t', losP b t' → okT a b (rgAt a i).lo t' → s ≤ (rgAt a i).lo := by
 intro k
 induction k with
 | zero => intro _; exact fun i hi => by omega
 | succ k ih =>
  intro hk
  have i0 := ih (by omega)
  rw [timK_succ (by omega)]
  unfold tmStep
  cases ho : timK a b k with
  | none =>
   rw [ho] at i0
   simp only [Option.isSome_none, Bool.false_and, if_neg (show ¬ (false = true) by simp)]
   rcases secT_ok (s := (rgAt a k).lo) hl (by omega) with ⟨e, h⟩ | ⟨t, e, h1, h2, h3⟩
   ·rw [e]
    intro i hi t ht
    by_cases q : i = k
    ·rw [q]; exact h t
    ·exact i0 i (by omega) t ht
   ·rw [e]
    refine ⟨⟨k, by omega, rfl⟩, h1, h2, h3, fun i hi t' ht hok => ?_⟩
    by_cases q : i = k
    ·rw [q]; exact Int.le_refl _
    ·exact (i0 i (by omega) t' ht hok).elim
  | some q =>
   obtain ⟨s, t⟩ := q
   rw [ho] at i0
   obtain ⟨j1, j2, j3, j4, j5⟩ := i0
   simp only [Option.isSome_some, Bool.true_and, Option.getD_some]
   by_cases hs : (rgAt a k).lo ≥ s
   ·rw [if_pos (decide_eq_true hs)]
    refine ⟨j1, j2, j3, j4, fun i hi t' ht hok => ?_⟩
    by_cases q : i = k
    ·rw [q]; omega
    ·exact j5 i (by omega) t' ht hok
   ·rw [if_neg (by rw [decide_eq_false hs]; simp)]
    rcases secT_ok (s := (rgAt a k).lo) hl (by omega) with ⟨e, h⟩ | ⟨u, e, h1, h2, h3⟩
    ·rw [e]
     refine ⟨j1, j2, j3, j4, fun i hi t' ht hok => ?_⟩
     by_cases q : i = k
     ·rw [q] at hok; exact (h t' hok).elim
     ·exact j5 i (by omega) t' ht hok
    ·rw [e]
     refine ⟨⟨k, by omega, rfl⟩, h1, h2, h3, fun i hi t' ht hok => ?_⟩
     by_cases q : i = k
     ·rw [q]; exact Int.le_refl _
     ·have := j5 i (by omega) t' ht hok; omega
theorem timF_ok {a b : List Rg} (hl : a.length = b.length) : isT a b (timF a b) := by
 have h := timK_ok hl a.length (Nat.le_refl _)
 unfold timF
 cases ho : timK a b a.length with
 | none =>
  rw [ho] at h
  rintro s t ⟨i, i1, rfl⟩ ht
  exact h i i1 t ht
 | some q =>
  obtain ⟨s, t⟩ := q
  rw [ho] at h
  obtain ⟨j1, j2, j3, j4, j5⟩ := h
  refine ⟨j1, j2, j3, ?_⟩
  rintro s' t' ⟨i, i1, rfl⟩ ht hok
  have := j5 i i1 t' ht hok
  rcases (by omega : s < (rgAt a i).lo ∨ s = (rgAt a i).lo) with q | q
  ·exact Or.inl q
  ·right
   refine ⟨q, j4 t' ht ?_⟩
   rw [q]; exact hok
def prB (sp : List (List Rg)) (q : Nat) : Bool := decide (q / sp.length ≤ q % sp.length) && (timF (rlAt sp (q / sp.length)) (rlAt sp (q % sp.length))).isSome
def prN (sp : List (List Rg)) : Nat := (List.range (sp.length * sp.length)).findIdx (prB sp)
theorem pr_code {n i k : Nat} (hk : k < n) : (i * n + k) / n = i ∧ (i * n + k) % n = k := by
 rw [Nat.mul_comm]
 exact ⟨by rw [Nat.mul_add_div (by omega), Nat.div_eq_of_lt hk, Nat.add_zero], by rw [Nat.mul_add_mod, Nat.mod_eq_of_lt hk]⟩
theorem pr_lt {n i k : Nat} (hi : i < n) (hk : k < n) : i * n + k < n * n := by
 have := Nat.mul_le_mul_right n (show i + 1 ≤ n by omega)
 rw [Nat.add_mul] at this
 omega
theorem prN_at {sp : List (List Rg)} {q : Nat} (hq : q < sp.length * sp.length) (h : prB sp q = true) (hz : ∀ j, j < q → prB sp j = false) : prN sp = q := by
 unfold prN
 rw [List.findIdx_eq (by rw [List.length_range]; exact hq)]
 refine ⟨by rw [List.getElem_range]; exact h, fun j hj => by rw [List.getElem_range]; exact hz j hj⟩
theorem prN_none {sp : List (List Rg)} (hz : ∀ j, j < sp.length * sp.length → prB sp j = false) : prN sp = sp.length * sp.length := by
 unfold prN
 have := List.findIdx_le_length (p := prB sp) (xs := List.range (sp.length * sp.length))
 rw [List.length_range] at this
 rcases Nat.lt_or_ge ((List.range (sp.length * sp.length)).findIdx (prB sp)) (sp.length * sp.length) with h | h
 ·have h2 := List.findIdx_getElem (w := (by rw [List.length_range]; exact h : (List.range (sp.length * sp.length)).findIdx (prB sp) < (List.range (sp.length * sp.length)).length))
  rw [List.getElem_range, hz _ h] at h2
  cases h2
 ·omega
def hasP (sp : List (List Rg)) : Bool := decide (prN sp < sp.length * sp.length)
def prT (sp : List (List Rg)) : Int × Int := (timF (rlAt sp (prN sp / sp.length)) (rlAt sp (prN sp % sp.length))).getD (0, 0)
structure Pr4 where
 (a b s t : Int)
def prV (sp : List (List Rg)) : Pr4 := if hasP sp = true then ⟨(prN sp / sp.length : Nat), (prN sp % sp.length : Nat), (prT sp).1, (prT sp).2⟩ else ⟨0, 0, 0, 0⟩
theorem prV_at {sp : List (List Rg)} {i k : Nat} {s t : Int} (hi : i < sp.length) (hk : k < sp.length) (hik : i ≤ k) (h : timF (rlAt sp i) (rlAt sp k) = some (s, t)) (hz : ∀ j, j < i * sp.length + k → prB sp j = false) : hasP sp = true ∧ prV sp = ⟨i, k, s, t⟩ := by
 obtain ⟨c1, c2⟩ := pr_code (i := i) hk
 have hq := pr_lt hi hk
 have hb : prB sp (i * sp.length + k) = true := by
  unfold prB
  rw [c1, c2, h, decide_eq_true hik]; rfl
 have e := prN_at hq hb hz
 have hp : hasP sp = true := by unfold hasP; rw [e]; exact decide_eq_true hq
 refine ⟨hp, ?_⟩
 rw [show prV sp = _ from if_pos hp]
 unfold prT
 rw [e, c1, c2, h]; rfl
theorem prV_none {sp : List (List Rg)} (hz : ∀ j, j < sp.length * sp.length → prB sp j = false) : hasP sp = false ∧ prV sp = ⟨0, 0, 0, 0⟩ := by
 have hp : hasP sp = false := by unfold hasP; rw [prN_none hz]; exact decide_eq_false (by omega)
 exact ⟨hp, if_neg (by rw [hp]; simp)⟩
theorem prB_low {sp : List (List Rg)} {i k : Nat} (hki : k < i) (hk : k < sp.length) : prB sp (i * sp.length + k) = false := by
 obtain ⟨c1, c2⟩ := pr_code (i := i) hk
 unfold prB
 rw [c1, c2, decide_eq_false (by omega)]; rfl
theorem prB_none {sp : List (List Rg)} {i k : Nat} (hk : k < sp.length) (h : timF (rlAt sp i) (rlAt sp k) = none) : prB sp (i * sp.length + k) = false := by
 obtain ⟨c1, c2⟩ := pr_code (i := i) hk
 unfold prB
 rw [c1, c2, h]; simp
theorem prB_row {sp : List (List Rg)} {i : Nat} (hi : i < sp.length) (h : ∀ j, j < i * sp.length + sp.length → prB sp j = false) : ∀ j, j < (i + 1) * sp.length + (i + 1) → j < sp.length * sp.length → prB sp j = false := by
 intro j hj hj2
 rcases Nat.lt_or_ge j (i * sp.length + sp.length) with q | q
 ·exact h j q
 ·have e : (i + 1) * sp.length = i * sp.length + sp.length := by rw [Nat.add_mul, Nat.one_mul]
  obtain ⟨k, rfl⟩ : ∃ k, j = (i + 1) * sp.length + k := ⟨j - (i + 1) * sp.length, by omega⟩
  rcases Nat.lt_or_ge k sp.length with h1 | h1
  ·exact prB_low (by omega) h1
  ·exfalso
   have : (i + 1) * sp.length + sp.length = (i + 1 + 1) * sp.length := by rw [Nat.add_mul (i + 1), Nat.one_mul]
   omega
end Go.Proofs.YtdkpgodakmailaaGreatDoor
set_option linter.unusedVariables false
set_option linter.unusedSimpArgs false
namespace Go.Proofs.YtdkpgodakmailaaGreatDoor
open Go.RowKit Ev
def loOk (c : List Rg) : Prop := 0 < c.length ∧ c.length ≤ 1000000 ∧ ∀ g ∈ c, -2000000000 ≤ g.lo ∧ g.lo ≤ 2000000000
def tmOk (a c : List Rg) : Prop := a.length = c.length ∧ 0 < a.length ∧ a.length ≤ 1000 ∧ loOk c
theorem minR_succ {b : List Rg} {k : Nat} (hk : k + 1 < b.length) : minR b (k + 1) = if (rgAt b (k + 1)).lo - (minR b k).lo < 0 then rgAt b (k + 1) else minR b k := by
 have hd : k < (b.drop 1).length := by rw [List.length_drop]; omega
 unfold minR
 rw [List.take_succ_eq_append_getElem hd, List.foldl_append]
 simp [rgAt, List.getD, Nat.add_comm 1 k, hk]
def restK (a b : List Rg) (s : Int) (k : Nat) : List Rg := ((List.range k).filter fun i => !hasB (rgAt a i) s).map fun i => rgAt b i
theorem restK_succ (a b : List Rg) (s : Int) (k : Nat) : restK a b s (k + 1) = restK a b s k ++ (if (!hasB (rgAt a k) s) = true then [rgAt b k] else []) := by
 unfold restK
 rw [List.range_succ, List.filter_append, List.map_append]
 congr 1
 rw [List.filter_cons]
 cases hasB (rgAt a k) s <;> rfl
theorem restK_len (a b : List Rg) (s : Int) (k : Nat) : (restK a b s k).length ≤ k := by
 unfold restK
 rw [List.length_map]
 have := List.length_filter_le (fun i => !hasB (rgAt a i) s) (List.range k)
 rwa [List.length_range] at this
def prOk (sp : List (List Rg)) : Prop := spOk sp ∧ ∀ i j, i < sp.length → j < sp.length → (rlAt sp i).length = (rlAt sp j).length
theorem prOk_tm {sp : List (List Rg)} {i j : Nat} (h : prOk sp) (hi : i < sp.length) (hj : j < sp.length) : tmOk (rlAt sp i) (rlAt sp j) := by
 obtain ⟨⟨h1, h2⟩, h3⟩ := h
 obtain ⟨a1, a2, a3⟩ := h2 i hi
 obtain ⟨b1, b2, b3⟩ := h2 j hj
 exact ⟨h3 i j hi hj, a1, by omega, b1, by omega, fun g hg => ⟨(b3 g hg).1, (b3 g hg).2.1⟩⟩
def prO (l : List FHit) (x : Lat) : Pr4 := if bothE l x = 0 then prV (allS l x) else ⟨0, 0, 0, 0⟩
def pairE (l : List FHit) (x : Lat) : Int := if bothE l x ≠ 0 then bothE l x else unl (hasP (allS l x)) 12
def dblB (l : List FHit) (x : Lat) : Bool := decide (bothE l x = 0) && (decide ((vtxR l x).length = 0) && hasP (allS l x))
theorem prOk_opn {l : List FHit} {x : Lat} (h : bothE l x = 0) : prOk (opnS l x) := by
 refine ⟨spOk_opn h, fun i j hi hj => ?_⟩
 rw [opnS_all h, allS_len] at hi hj
 rw [opnS_all h, rlAt_all hi, rlAt_all hj, sts_len, sts_len]
def vc_flash_times_1 (a0 a1 : Int) (b0 b1 : Int) (post : DV → Prop) : Prop := lt (IntKind.i64.wrap (a0 - b0)) fun x1 => post (.t (.c (.v (.int .i64 x1))))
def ann_flash_times_1 : Ann := ⟨fun _ => none, fun _ => none, fun _ => [], I1, false, fun _ => none, fun _ => none⟩
theorem ev_flash_times_1 (J : Inv) (a0 a1 : Int) (b0 b1 : Int) (post : DV → Prop) : evFn Tryz.prog tab Sz109 ann_flash_times_1 J Tryz.f175 [.t (.a [.v (.int .i64 a0), .v (.int .i64 a1)]), .t (.a [.v (.int .i64 b0), .v (.int .i64 b1)])] post = vc_flash_times_1 a0 a1 b0 b1 post := by kernel_rfl
theorem fit_flash_times_1 : okFn ann_flash_times_1 Tryz.f175 = true := by kernel_rfl
theorem lp_flash_times_1 (J : Inv) (post : DV → Prop) : AllG J (loopsFn Tryz.prog tab Sz109 ann_flash_times_1 J Tryz.f175 post) = (True) := by kernel_rfl
theorem spec_flash_times_1 (a0 a1 : Int) (b0 b1 : Int) (hp : (-2000000000 ≤ a0 ∧ a0 ≤ 2000000000) ∧ -2000000000 ≤ b0 ∧ b0 ≤ 2000000000) : vc_flash_times_1 a0 a1 b0 b1 (fun r => LeD r (.t (.c (.v (.int .i64 (a0 - b0)))))) := by
 unfold vc_flash_times_1
 exact lt_i fun x h => leI (by rw [wi (by omega)] at h; exact h.symm)
def con_flash_times_1 : Con := fun args => match args with
 | [.t (.a [.v (.int .i64 a0), .v (.int .i64 a1)]), .t (.a [.v (.int .i64 b0), .v (.int .i64 b1)])] => some (.t (.c (.v (.int .i64 (a0 - b0)))), some ((-2000000000 ≤ a0 ∧ a0 ≤ 2000000000) ∧ -2000000000 ≤ b0 ∧ b0 ≤ 2000000000), false)
 | _ => none
theorem ok_flash_times_1 : Ok Tryz.prog 175 con_flash_times_1 := by
 refine Ok.fn (ann := ann_flash_times_1) mixed tabOK VSz109 VI1 (fn := Tryz.f175) (by kernel_rfl) (by kernel_rfl) fit_flash_times_1 fun args r pre fresh h hp => ?_
 unfold con_flash_times_1 at h
 split at h
 ·rename_i a0 a1 b0 b1
  cases h
  refine ⟨rfl, fun _ _ _ => False, _, LeA.refl _, Nat.le_of_ble_eq_true (by kernel_rfl), ?_, ?_⟩
  ·rw [ev_flash_times_1]; exact spec_flash_times_1 a0 a1 b0 b1 hp
  ·rw [lp_flash_times_1]; trivial
 ·cases h
noncomputable def Sf110 : Sum := addS Sz109 175 con_flash_times_1
theorem VSf110 : Valid Tryz.prog Sf110 := Valid.add VSz109 ok_flash_times_1
def mk_slices_MinFunc_cherenkov_api_Range_cherenkov_api_Range_0 (a : List Rg) (v0_0 : Int) (v0_1 : Int) (v0_2 : Int) : DS := ⟨[some (.t (.c (.sl 2 a.length (rgsC a)))), some (.t (.fn 175 [])), none, none, some (.t (.c (.p 4 0))), some (.t (.c (.p 5 0))), some (.t (.c (.v (.int .i64 v0_2)))), none, none, none, none, none, none, none, none, none, none, none, none, none, none, none, none, none, none, none, none, none, none, none, none, none, none], [none, none, none, none, some (.box 94 [.v (.int .i64 0), .v (.int .i64 0)]), some (.box 94 [.v (.int .i64 v0_0), .v (.int .i64 v0_1)]), none, none, none, none, none, none, none, none, none, none, none, none, none, none, none, none, none, none, none, none, none, none, none, none, none, none, none]⟩
def vc_slices_MinFunc_cherenkov_api_Range_cherenkov_api_Range (J : Inv) (a : List Rg) (post : DV → Prop) : Prop := cond (decide (((a.length : Nat) : Int) < (1 : Int))) (False) ((0 ≤ (0 : Int) ∧ (0 : Int) < ((a.length : Nat) : Int)) ∧ (∃ n, J 0 (n :: []) (mk_slices_MinFunc_cherenkov_api_Range_cherenkov_api_Range_0 a ((rgAt a 0).lo) ((rgAt a 0).hi) 1)))
def ann_slices_MinFunc_cherenkov_api_Range_cherenkov_api_Range : Ann := ⟨fun r => lookA r [(7, ([[], [], [], [1, 2], [1, 2, 3], [], [0, 1, 2, 3, 4, 5], [0, 1, 2, 3, 4, 5, 6]], [[26], [26], [26], [26], [26], [26], [], []]))], fun b => lookA b [(0, (none, some ⟨[0, 1, 4, 5, 6], [4, 5], []⟩))], fun _ => [], I1, false, fun _ => none, fun _ => none⟩
theorem ev_slices_MinFunc_cherenkov_api_Range_cherenkov_api_Range (J : Inv) (a : List Rg) (post : DV → Prop) : evFn Tryz.prog tab Sf110 ann_slices_MinFunc_cherenkov_api_Range_cherenkov_api_Range J Tryz.f174 [.t (.c (.sl 2 a.length (rgsC a))), .t (.fn 175 [])] post = vc_slices_MinFunc_cherenkov_api_Range_cherenkov_api_Range J a post := by kernel_rfl
theorem fit_slices_MinFunc_cherenkov_api_Range_cherenkov_api_Range : okFn ann_slices_MinFunc_cherenkov_api_Range_cherenkov_api_Range Tryz.f174 = true := by kernel_rfl
def rd_slices_MinFunc_cherenkov_api_Range_cherenkov_api_Range_0 (J : Inv) (a : List Rg) (v0_0 : Int) (v0_1 : Int) (v0_2 : Int) (nn0 : Nat) (post : DV → Prop) : Prop := cond (decide (v0_2 < ((a.length : Nat) : Int))) ((0 ≤ v0_2 ∧ v0_2 < ((a.length : Nat) : Int)) ∧ (((-2000000000 ≤ ((rgAt a v0_2.toNat).lo) ∧ ((rgAt a v0_2.toNat).lo) ≤ 2000000000) ∧ -2000000000 ≤ v0_0 ∧ v0_0 ≤ 2000000000) ∧ (cond (decide ((((rgAt a v0_2.toNat).lo) - v0_0) < (0 : Int))) ((0 ≤ v0_2 ∧ v0_2 < ((a.length : Nat) : Int)) ∧ (lt (IntKind.i64.wrap (v0_2 + (1 : Int))) fun x1 => J 0 (nn0 :: []) (mk_slices_MinFunc_cherenkov_api_Range_cherenkov_api_Range_0 a ((rgAt a v0_2.toNat).lo) ((rgAt a v0_2.toNat).hi) x1))) (lt (IntKind.i64.wrap (v0_2 + (1 : Int))) fun x2 => J 0 (nn0 :: []) (mk_slices_MinFunc_cherenkov_api_Range_cherenkov_api_Range_0 a v0_0 v0_1 x2))))) (post (.t (.a [.v (.int .i64 v0_0), .v (.int .i64 v0_1)])))
theorem er_slices_MinFunc_cherenkov_api_Range_cherenkov_api_Range_0 (J : Inv) (a : List Rg) (v0_0 : Int) (v0_1 : Int) (v0_2 : Int) (nn0 : Nat) (post : DV → Prop) : round Tryz.prog tab Sf110 ann_slices_MinFunc_cherenkov_api_Range_cherenkov_api_Range J Tryz.f174 post 0 (nn0 :: []) (mk_slices_MinFunc_cherenkov_api_Range_cherenkov_api_Range_0 a v0_0 v0_1 v0_2) = rd_slices_MinFunc_cherenkov_api_Range_cherenkov_api_Range_0 J a v0_0 v0_1 v0_2 nn0 post := by kernel_rfl
theorem lp_slices_MinFunc_cherenkov_api_Range_cherenkov_api_Range (J : Inv) (post : DV → Prop) : AllG J (loopsFn Tryz.prog tab Sf110 ann_slices_MinFunc_cherenkov_api_Range_cherenkov_api_Range J Tryz.f174 post) = (((∀ F s, ¬ J 0 (0 :: F) s) ∧ ∀ n F s, J 0 ((n + 1) :: F) s → round Tryz.prog tab Sf110 ann_slices_MinFunc_cherenkov_api_Range_cherenkov_api_Range J Tryz.f174 post 0 (n :: F) s) ∧ True) := by kernel_rfl
def J_slices_MinFunc_cherenkov_api_Range_cherenkov_api_Range (a : List Rg) : Inv := fun b F s => match b, F with
 | 0, [nn0] => ∃ (v0_0 : Int) (v0_1 : Int) (v0_2 : Int), s = mk_slices_MinFunc_cherenkov_api_Range_cherenkov_api_Range_0 a v0_0 v0_1 v0_2 ∧ (loOk a ∧ 1 ≤ v0_2 ∧ v0_2 ≤ a.length ∧ (nn0 : Int) + v0_2 = a.length + 1 ∧ (⟨v0_0, v0_1⟩ : Rg) = minR a (v0_2.toNat - 1))
 | _, _ => False
theorem rnd_slices_MinFunc_cherenkov_api_Range_cherenkov_api_Range_0 (a : List Rg) (v0_0 : Int) (v0_1 : Int) (v0_2 : Int) (nn0 : Nat) (hp : loOk a) (hi : loOk a ∧ 1 ≤ v0_2 ∧ v0_2 ≤ a.length ∧ ((nn0 + 1) : Int) + v0_2 = a.length + 1 ∧ (⟨v0_0, v0_1⟩ : Rg) = minR a (v0_2.toNat - 1)) : rd_slices_MinFunc_cherenkov_api_Range_cherenkov_api_Range_0 (J_slices_MinFunc_cherenkov_api_Range_cherenkov_api_Range a) a v0_0 v0_1 v0_2 nn0 (fun r => LeD r (.t (.a [.v (.int .i64 ((minR a (a).length).lo)), .v (.int .i64 ((minR a (a).length).hi))]))) := by
 obtain ⟨i0, i1, i2, i3, i4⟩ := hi
 obtain ⟨k, rfl⟩ : ∃ k : Nat, v0_2 = k := ⟨v0_2.toNat, by omega⟩
 have hk : (k : Int).toNat = k := rfl
 rw [hk] at i4
 have h0 := i0.1
 have h1 := i0.2.1
 unfold rd_slices_MinFunc_cherenkov_api_Range_cherenkov_api_Range_0
 rw [hk]
 refine cond_i (fun h => ?_) (fun h => ?_)
 ·have hlt : k < a.length := by have := of_decide_eq_true h; omega
  have eS := minR_succ (b := a) (k := k - 1) (by omega)
  rw [show k - 1 + 1 = k by omega, ← i4] at eS
  have b1 := i0.2.2 _ (rgAt_in hlt)
  obtain ⟨j, j1, j2, _⟩ := minR_ok (b := a) (k - 1) (by omega)
  have b2 := i0.2.2 _ (rgAt_in (l := a) (k := j) (by omega))
  rw [← j2, ← i4] at b2
  refine ⟨by omega, ⟨b1, b2⟩, cond_i (fun e => ⟨by omega, lt_i fun x hx => ?_⟩) (fun e => lt_i fun x hx => ?_)⟩
  all_goals
   rw [wi (by omega)] at hx
   subst hx
   refine ⟨_, _, _, rfl, i0, by omega, by omega, by omega, ?_⟩
   rw [show ((k : Int) + 1).toNat - 1 = k by omega, eS]
  ·rw [if_pos (of_decide_eq_true e)]
  ·rw [if_neg (of_decide_eq_false e)]
 ·have hge : k = a.length := by have := of_decide_eq_false h; omega
  rw [minR_end (by omega), ← hge, ← i4]
  exact LeD.refl _
theorem zero_slices_MinFunc_cherenkov_api_Range_cherenkov_api_Range_0 (a : List Rg) (v0_0 : Int) (v0_1 : Int) (v0_2 : Int)  (hi : loOk a ∧ 1 ≤ v0_2 ∧ v0_2 ≤ a.length ∧ (0 : Int) + v0_2 = a.length + 1 ∧ (⟨v0_0, v0_1⟩ : Rg) = minR a (v0_2.toNat - 1)) : False := by
 omega
theorem spec_slices_MinFunc_cherenkov_api_Range_cherenkov_api_Range (a : List Rg) (hp : loOk a) : vc_slices_MinFunc_cherenkov_api_Range_cherenkov_api_Range (J_slices_MinFunc_cherenkov_api_Range_cherenkov_api_Range a) a (fun r => LeD r (.t (.a [.v (.int .i64 ((minR a (a).length).lo)), .v (.int .i64 ((minR a (a).length).hi))]))) := by
 unfold vc_slices_MinFunc_cherenkov_api_Range_cherenkov_api_Range
 have h0 := hp.1
 exact cond_i (fun h => by have := of_decide_eq_true h; omega) (fun h => ⟨by omega, a.length, _, _, 1, rfl, hp, by omega, by omega, by omega, rfl⟩)
theorem all_slices_MinFunc_cherenkov_api_Range_cherenkov_api_Range (a : List Rg) (hp : loOk a) : AllG (J_slices_MinFunc_cherenkov_api_Range_cherenkov_api_Range a) (loopsFn Tryz.prog tab Sf110 ann_slices_MinFunc_cherenkov_api_Range_cherenkov_api_Range (J_slices_MinFunc_cherenkov_api_Range_cherenkov_api_Range a) Tryz.f174 (fun r => LeD r (.t (.a [.v (.int .i64 ((minR a (a).length).lo)), .v (.int .i64 ((minR a (a).length).hi))])))) := by
 rw [lp_slices_MinFunc_cherenkov_api_Range_cherenkov_api_Range]
 refine ⟨⟨?_, ?_⟩, trivial⟩
 ·intro F s h
  obtain _ | ⟨g, F⟩ := F
  case cons => exact h.elim
  obtain ⟨w0, w1, w2, rfl, hi⟩ := h
  exact zero_slices_MinFunc_cherenkov_api_Range_cherenkov_api_Range_0 a w0 w1 w2 hi
 ·intro n F s h
  obtain _ | ⟨g, F⟩ := F
  case cons => exact h.elim
  obtain ⟨w0, w1, w2, rfl, hi⟩ := h
  rw [er_slices_MinFunc_cherenkov_api_Range_cherenkov_api_Range_0]
  exact rnd_slices_MinFunc_cherenkov_api_Range_cherenkov_api_Range_0 a _ _ _ _ hp hi
def con_slices_MinFunc_cherenkov_api_Range_cherenkov_api_Range : Con := fun args => match args with
 | [.t (.c (.sl 2 n_a c_a)), .t (.fn 175 [])] => some (.t (.a [.v (.int .i64 ((minR (listC n_a mkRg c_a) ((listC n_a mkRg c_a)).length).lo)), .v (.int .i64 ((minR (listC n_a mkRg c_a) ((listC n_a mkRg c_a)).length).hi))]), some (numsP 2 n_a c_a ∧ loOk (listC n_a mkRg c_a)), false)
 | _ => none
theorem ok_slices_MinFunc_cherenkov_api_Range_cherenkov_api_Range : Ok Tryz.prog 174 con_slices_MinFunc_cherenkov_api_Range_cherenkov_api_Range := by
 refine Ok.fn (ann := ann_slices_MinFunc_cherenkov_api_Range_cherenkov_api_Range) mixed tabOK VSf110 VI1 (fn := Tryz.f174) (by kernel_rfl) (by kernel_rfl) fit_slices_MinFunc_cherenkov_api_Range_cherenkov_api_Range fun args r pre fresh h hp => ?_
 unfold con_slices_MinFunc_cherenkov_api_Range_cherenkov_api_Range at h
 split at h
 ·rename_i n_a c_a
  cases h
  obtain ⟨hp0, hp⟩ := hp
  refine ⟨rfl, J_slices_MinFunc_cherenkov_api_Range_cherenkov_api_Range (listC n_a mkRg c_a), [.t (.c (.sl 2 ((listC n_a mkRg c_a).length) (rgsC (listC n_a mkRg c_a)))), .t (.fn 175 [])], ?_, Nat.le_of_ble_eq_true (by kernel_rfl), ?_, ?_⟩
  ·exact (LeA_cons (leT_c ((leL_Rg hp0))) (LeA_cons (leT_f LeCs.nil) LeA_nil))
  ·rw [ev_slices_MinFunc_cherenkov_api_Range_cherenkov_api_Range]; exact spec_slices_MinFunc_cherenkov_api_Range_cherenkov_api_Range (listC n_a mkRg c_a) hp
  ·exact all_slices_MinFunc_cherenkov_api_Range_cherenkov_api_Range (listC n_a mkRg c_a) hp
 ·cases h
noncomputable def Sf111 : Sum := addS Sf110 174 con_slices_MinFunc_cherenkov_api_Range_cherenkov_api_Range
theorem VSf111 : Valid Tryz.prog Sf111 := Valid.add VSf110 ok_slices_MinFunc_cherenkov_api_Range_cherenkov_api_Range
def mk_flash_times_0 (a : List Rg) (c : List Rg) (v0_0 : Int) (v0_1 : Int) (v0_2 : Int) (v0_3 : Bool) : DS := ⟨[some (.t (.c (.sl 2 a.length (rgsC a)))), some (.t (.c (.sl 2 c.length (rgsC c)))), none, none, some (.t (.c (.v (.int .i64 v0_1)))), some (.t (.c (.v (.int .i64 v0_2)))), some (.t (.c (.v (.bool v0_3)))), none, none, none, none, none, none, none, some (.t (.c (.sl 2 a.length (rgsC a)))), some (.t (.c (.v (.int .i64 ((a.length : Nat) : Int))))), some (.t (.c (.v (.int .i64 v0_0)))), none, none, none, none, none, none, none, none, none, none, none, none, none, none, none, none, none, none, none, none, none, none, none, none, none, none, none, none, none, none, none, none, none, none, none, none, none, none, none, none, none, none, none, none, none, none, none, none, none, none, none, none], [none, none, none, none, none, none, none, none, none, none, none, none, none, none, none, none, none, none, none, none, none, none, none, none, none, none, none, none, none, none, none, none, none, none, none, none, none, none, none, none, none, none, none, none, none, none, none, none, none, none, none, none, none, none, none, none, none, none, none, none, none, none, none, none, none, none, none, none, none]⟩
def mk_flash_times_2 (a : List Rg) (c : List Rg) (v2_0 : Int) (v2_1 : Int) (v2_2 : List (List CV)) (v2_3 : Int) (v2_4 : Int) (v2_5 : Int) (v2_6 : Int) (v2_7 : Bool) : DS := ⟨[some (.t (.c (.sl 2 a.length (rgsC a)))), some (.t (.c (.sl 2 c.length (rgsC c)))), none, none, some (.t (.c (.v (.int .i64 v2_5)))), some (.t (.c (.v (.int .i64 v2_6)))), some (.t (.c (.v (.bool v2_7)))), none, some (.t (.c (.p 8 0))), some (.t (.c (.os 9))), none, none, none, none, some (.t (.c (.sl 2 a.length (rgsC a)))), some (.t (.c (.v (.int .i64 ((a.length : Nat) : Int))))), some (.t (.c (.v (.int .i64 v2_3)))), none, none, none, none, none, none, none, none, none, none, some (.t (.c (.sl 2 a.length (rgsC a)))), some (.t (.c (.v (.int .i64 ((a.length : Nat) : Int))))), some (.t (.c (.v (.int .i64 v2_4)))), none, none, none, none, none, none, none, none, none, none, none, none, none, none, none, none, none, none, none, none, none, none, none, none, none, none, none, none, none, none, none, none, none, none, none, none, none, none, none], [none, none, none, none, none, none, none, none, some (.box 94 [.v (.int .i64 v2_0), .v (.int .i64 v2_1)]), some (.gen 94 2 v2_2), none, none, none, none, none, none, none, none, none, none, none, none, none, none, none, none, none, none, none, none, none, none, none, none, none, none, none, none, none, none, none, none, none, none, none, none, none, none, none, none, none, none, none, none, none, none, none, none, none, none, none, none, none, none, none, none, none, none, none]⟩
def vc_flash_times (J : Inv) (a : List Rg) (c : List Rg) (post : DV → Prop) : Prop := ∃ n, J 0 (n :: []) (mk_flash_times_0 a c 0 0 0 false)
def ann_flash_times : Ann := ⟨fun _ => none, fun b => lookA b [(0, (none, some ⟨[0, 1, 4, 5, 6, 14, 15, 16], [], []⟩)), (2, (none, some ⟨[0, 1, 4, 5, 6, 8, 14, 15, 16, 27, 28, 29], [8], [(9, .gen 94 2 [])]⟩))], fun _ => [], I1, false, fun r => lookA r [(4, (2, [26]))], fun _ => none⟩
theorem ev_flash_times (J : Inv) (a : List Rg) (c : List Rg) (post : DV → Prop) : evFn Tryz.prog tab Sf111 ann_flash_times J Tryz.f149 [.t (.c (.sl 2 a.length (rgsC a))), .t (.c (.sl 2 c.length (rgsC c)))] post = vc_flash_times J a c post := by kernel_rfl
theorem fit_flash_times : okFn ann_flash_times Tryz.f149 = true := by kernel_rfl
def rd_flash_times_0 (J : Inv) (a : List Rg) (c : List Rg) (v0_0 : Int) (v0_1 : Int) (v0_2 : Int) (v0_3 : Bool) (nn0 : Nat) (post : DV → Prop) : Prop := cond (decide (v0_0 < ((a.length : Nat) : Int))) ((0 ≤ v0_0 ∧ v0_0 < ((a.length : Nat) : Int)) ∧ ((cond v0_3 (True) ((false = false) ∧ (True))) ∧ (lt ((bif v0_3 then decide (((rgAt a v0_0.toNat).lo) ≥ v0_1) else false)) fun x1 => cond x1 (lt (IntKind.i64.wrap (v0_0 + (1 : Int))) fun x2 => J 0 (nn0 :: []) (mk_flash_times_0 a c x2 v0_1 v0_2 v0_3)) (∃ n, J 2 (n :: nn0 :: []) (mk_flash_times_2 a c ((rgAt a v0_0.toNat).lo) ((rgAt a v0_0.toNat).hi) ([]) v0_0 0 v0_1 v0_2 v0_3))))) (post (.tu [.c (.v (.int .i64 v0_1)), .c (.v (.int .i64 v0_2)), .c (.v (.bool v0_3))]))
theorem er_flash_times_0 (J : Inv) (a : List Rg) (c : List Rg) (v0_0 : Int) (v0_1 : Int) (v0_2 : Int) (v0_3 : Bool) (nn0 : Nat) (post : DV → Prop) : round Tryz.prog tab Sf111 ann_flash_times J Tryz.f149 post 0 (nn0 :: []) (mk_flash_times_0 a c v0_0 v0_1 v0_2 v0_3) = rd_flash_times_0 J a c v0_0 v0_1 v0_2 v0_3 nn0 post := by kernel_rfl
def rd_flash_times_2 (J : Inv) (a : List Rg) (c : List Rg) (v2_0 : Int) (v2_1 : Int) (v2_2 : List (List CV)) (v2_3 : Int) (v2_4 : Int) (v2_5 : Int) (v2_6 : Int) (v2_7 : Bool) (nn2 nn0 : Nat) (post : DV → Prop) : Prop := cond (decide (v2_4 < ((a.length : Nat) : Int))) ((0 ≤ v2_4 ∧ v2_4 < ((a.length : Nat) : Int)) ∧ (cond (!(inB v2_0 ((rgAt a v2_4.toNat).lo) ((rgAt a v2_4.toNat).hi))) ((0 ≤ v2_4 ∧ v2_4 < ((c.length : Nat) : Int)) ∧ ((roomP 16 (v2_2.length + ([[.v (.int .i64 ((rgAt c v2_4.toNat).lo)), .v (.int .i64 ((rgAt c v2_4.toNat).hi))]] : List (List CV)).length)) ∧ (lt (IntKind.i64.wrap (v2_4 + (1 : Int))) fun x1 => J 2 (nn2 :: nn0 :: []) (mk_flash_times_2 a c v2_0 v2_1 (v2_2 ++ ([[.v (.int .i64 ((rgAt c v2_4.toNat).lo)), .v (.int .i64 ((rgAt c v2_4.toNat).hi))]] : List (List CV))) v2_3 x1 v2_5 v2_6 v2_7)))) (lt (IntKind.i64.wrap (v2_4 + (1 : Int))) fun x2 => J 2 (nn2 :: nn0 :: []) (mk_flash_times_2 a c v2_0 v2_1 v2_2 v2_3 x2 v2_5 v2_6 v2_7)))) (cond (decide (((v2_2.length : Nat) : Int) > (0 : Int))) ((numsP 2 v2_2.length (genC v2_2) ∧ 0 < ((listC v2_2.length mkRg (genC v2_2))).length ∧ ((listC v2_2.length mkRg (genC v2_2))).length ≤ 1000000) ∧ (cond (decide (((comm (listC v2_2.length mkRg (genC v2_2))).lo) > ((comm (listC v2_2.length mkRg (genC v2_2))).hi))) (lt (IntKind.i64.wrap (v2_3 + (1 : Int))) fun x3 => J 0 (nn0 :: []) (mk_flash_times_0 a c x3 v2_5 v2_6 v2_7)) (lt (IntKind.i64.wrap (v2_3 + (1 : Int))) fun x4 => J 0 (nn0 :: []) (mk_flash_times_0 a c x4 v2_0 ((comm (listC v2_2.length mkRg (genC v2_2))).lo) true)))) ((numsP 2 c.length (rgsC c) ∧ loOk (listC c.length mkRg (rgsC c))) ∧ (lt (IntKind.i64.wrap (v2_3 + (1 : Int))) fun x5 => J 0 (nn0 :: []) (mk_flash_times_0 a c x5 v2_0 ((minR (listC c.length mkRg (rgsC c)) ((listC c.length mkRg (rgsC c))).length).lo) true))))
theorem er_flash_times_2 (J : Inv) (a : List Rg) (c : List Rg) (v2_0 : Int) (v2_1 : Int) (v2_2 : List (List CV)) (v2_3 : Int) (v2_4 : Int) (v2_5 : Int) (v2_6 : Int) (v2_7 : Bool) (nn2 nn0 : Nat) (post : DV → Prop) : round Tryz.prog tab Sf111 ann_flash_times J Tryz.f149 post 1 (nn2 :: nn0 :: []) (mk_flash_times_2 a c v2_0 v2_1 v2_2 v2_3 v2_4 v2_5 v2_6 v2_7) = rd_flash_times_2 J a c v2_0 v2_1 v2_2 v2_3 v2_4 v2_5 v2_6 v2_7 nn2 nn0 post := by kernel_rfl
theorem lp_flash_times (J : Inv) (post : DV → Prop) : AllG J (loopsFn Tryz.prog tab Sf111 ann_flash_times J Tryz.f149 post) = (((∀ F s, ¬ J 0 (0 :: F) s) ∧ ∀ n F s, J 0 ((n + 1) :: F) s → round Tryz.prog tab Sf111 ann_flash_times J Tryz.f149 post 0 (n :: F) s) ∧ ((∀ F s, ¬ J 2 (0 :: F) s) ∧ ∀ n F s, J 2 ((n + 1) :: F) s → round Tryz.prog tab Sf111 ann_flash_times J Tryz.f149 post 1 (n :: F) s) ∧ True) := by kernel_rfl
def J_flash_times (a : List Rg) (c : List Rg) : Inv := fun b F s => match b, F with
 | 0, [nn0] => ∃ (v0_0 : Int) (v0_1 : Int) (v0_2 : Int) (v0_3 : Bool), s = mk_flash_times_0 a c v0_0 v0_1 v0_2 v0_3 ∧ (tmOk a c ∧ 0 ≤ v0_0 ∧ v0_0 ≤ a.length ∧ (nn0 : Int) + v0_0 = a.length + 1 ∧ v0_3 = (timK a c v0_0.toNat).isSome ∧ (v0_1, v0_2) = (timK a c v0_0.toNat).getD (0, 0))
 | 2, [nn2, nn0] => ∃ (v2_0 : Int) (v2_1 : Int) (v2_2 : List (List CV)) (v2_3 : Int) (v2_4 : Int) (v2_5 : Int) (v2_6 : Int) (v2_7 : Bool), s = mk_flash_times_2 a c v2_0 v2_1 v2_2 v2_3 v2_4 v2_5 v2_6 v2_7 ∧ (tmOk a c ∧ (0 ≤ v2_3 ∧ v2_3 < a.length ∧ (nn0 : Int) + v2_3 = a.length) ∧ (0 ≤ v2_4 ∧ v2_4 ≤ a.length ∧ (nn2 : Int) + v2_4 = a.length + 1) ∧ v2_7 = (timK a c v2_3.toNat).isSome ∧ (v2_5, v2_6) = (timK a c v2_3.toNat).getD (0, 0) ∧ (v2_0 = (rgAt a v2_3.toNat).lo ∧ ((timK a c v2_3.toNat).isSome && decide (v2_0 ≥ ((timK a c v2_3.toNat).getD (0, 0)).1)) = false) ∧ v2_2 = (restK a c v2_0 v2_4.toNat).map rgCv)
 | _, _ => False
set_option maxHeartbeats 8000000 in
set_option maxRecDepth 100000 in
theorem rnd_flash_times_0 (a : List Rg) (c : List Rg) (v0_0 : Int) (v0_1 : Int) (v0_2 : Int) (v0_3 : Bool) (nn0 : Nat) (hp : tmOk a c) (hi : tmOk a c ∧ 0 ≤ v0_0 ∧ v0_0 ≤ a.length ∧ ((nn0 + 1) : Int) + v0_0 = a.length + 1 ∧ v0_3 = (timK a c v0_0.toNat).isSome ∧ (v0_1, v0_2) = (timK a c v0_0.toNat).getD (0, 0)) : rd_flash_times_0 (J_flash_times a c) a c v0_0 v0_1 v0_2 v0_3 nn0 (fun r => LeD r (.tu [.c (.v (.int .i64 (((timF a c).getD (0, 0)).1))), .c (.v (.int .i64 (((timF a c).getD (0, 0)).2))), .c (.v (.bool ((timF a c).isSome)))])) := by
 obtain ⟨i0, i1, i2, i3, i4, i5⟩ := hi
 obtain ⟨k, rfl⟩ : ∃ k : Nat, v0_0 = k := ⟨v0_0.toNat, by omega⟩
 have hk : (k : Int).toNat = k := rfl
 rw [hk] at i4 i5
 have h0 := i0
 obtain ⟨p1, p2, p3, p4⟩ := h0
 have e1 : v0_1 = ((timK a c k).getD (0, 0)).1 := by rw [← i5]
 unfold rd_flash_times_0
 rw [hk]
 refine cond_i (fun h => ?_) (fun h => ?_)
 ·have hlt : k < a.length := by have := of_decide_eq_true h; omega
  have eS := timK_succ (b := c) hlt
  refine ⟨by omega, cond_i (fun _ => trivial) (fun _ => ⟨by trivial, trivial⟩), lt_i fun x1 h1 => cond_i (fun g => lt_i fun x hx => ?_) (fun g => ?_)⟩
  ·rw [wi (by omega)] at hx
   subst hx
   have hg : ((timK a c k).isSome && decide ((rgAt a k).lo ≥ ((timK a c k).getD (0, 0)).1)) = true := by
    rw [← i4, ← e1, ← g, ← h1]; cases v0_3 <;> rfl
   rw [show tmStep a c (timK a c k) (rgAt a k) = timK a c k from if_pos hg] at eS
   exact ⟨_, _, _, _, rfl, i0, by omega, by omega, by omega, by rw [show ((k : Int) + 1).toNat = k + 1 by omega, eS]; exact i4, by rw [show ((k : Int) + 1).toNat = k + 1 by omega, eS]; exact i5⟩
  ·refine ⟨a.length + 1, _, _, _, _, 0, _, _, _, rfl, i0, by omega, by omega, i4, i5, ⟨rfl, ?_⟩, rfl⟩
   rw [hk, ← i4, ← e1, ← g, ← h1]; cases v0_3 <;> rfl
 ·have hge : k = a.length := by have := of_decide_eq_false h; omega
  have eF : timF a c = timK a c k := by rw [hge]; rfl
  rw [eF, ← i5, ← i4]
  exact LeD.refl _
theorem zero_flash_times_0 (a : List Rg) (c : List Rg) (v0_0 : Int) (v0_1 : Int) (v0_2 : Int) (v0_3 : Bool)  (hi : tmOk a c ∧ 0 ≤ v0_0 ∧ v0_0 ≤ a.length ∧ (0 : Int) + v0_0 = a.length + 1 ∧ v0_3 = (timK a c v0_0.toNat).isSome ∧ (v0_1, v0_2) = (timK a c v0_0.toNat).getD (0, 0)) : False := by
 omega
set_option maxHeartbeats 8000000 in
set_option maxRecDepth 100000 in
theorem rnd_flash_times_2 (a : List Rg) (c : List Rg) (v2_0 : Int) (v2_1 : Int) (v2_2 : List (List CV)) (v2_3 : Int) (v2_4 : Int) (v2_5 : Int) (v2_6 : Int) (v2_7 : Bool) (nn2 nn0 : Nat) (hp : tmOk a c) (hi : tmOk a c ∧ (0 ≤ v2_3 ∧ v2_3 < a.length ∧ (nn0 : Int) + v2_3 = a.length) ∧ (0 ≤ v2_4 ∧ v2_4 ≤ a.length ∧ ((nn2 + 1) : Int) + v2_4 = a.length + 1) ∧ v2_7 = (timK a c v2_3.toNat).isSome ∧ (v2_5, v2_6) = (timK a c v2_3.toNat).getD (0, 0) ∧ (v2_0 = (rgAt a v2_3.toNat).lo ∧ ((timK a c v2_3.toNat).isSome && decide (v2_0 ≥ ((timK a c v2_3.toNat).getD (0, 0)).1)) = false) ∧ v2_2 = (restK a c v2_0 v2_4.toNat).map rgCv) : rd_flash_times_2 (J_flash_times a c) a c v2_0 v2_1 v2_2 v2_3 v2_4 v2_5 v2_6 v2_7 nn2 nn0 (fun r => LeD r (.tu [.c (.v (.int .i64 (((timF a c).getD (0, 0)).1))), .c (.v (.int .i64 (((timF a c).getD (0, 0)).2))), .c (.v (.bool ((timF a c).isSome)))])) := by
 obtain ⟨i0, i1, i2, i3, i4, ⟨i5, i6⟩, i7⟩ := hi
 obtain ⟨k, rfl⟩ : ∃ k : Nat, v2_3 = k := ⟨v2_3.toNat, by omega⟩
 have hk : (k : Int).toNat = k := rfl
 obtain ⟨j, rfl⟩ : ∃ j : Nat, v2_4 = j := ⟨v2_4.toNat, by omega⟩
 have hj : (j : Int).toNat = j := rfl
 rw [hk] at i3 i4 i5 i6
 rw [hj] at i7
 have h0 := i0
 obtain ⟨p1, p2, p3, p4⟩ := h0
 have hl := restK_len a c v2_0 j
 have hlen : v2_2.length = (restK a c v2_0 j).length := by rw [i7, List.length_map]
 unfold rd_flash_times_2
 rw [hj]
 simp only [rgs_listC]
 refine cond_i (fun h => ?_) (fun h => ?_)
 ·have hlt : j < a.length := by have := of_decide_eq_true h; omega
  have eS := restK_succ a c v2_0 j
  refine ⟨by omega, cond_i (fun e => ⟨by omega, ?_, lt_i fun x hx => ?_⟩) (fun e => lt_i fun x hx => ?_)⟩
  ·unfold roomP maxLen; simp; omega
  all_goals
   rw [wi (by omega)] at hx
   subst hx
   refine ⟨_, _, _, _, _, _, _, _, rfl, i0, i1, by omega, i3, i4, ⟨i5, i6⟩, ?_⟩
   rw [show ((j : Int) + 1).toNat = j + 1 by omega, eS, i7]
  ·have e : (!hasB (rgAt a j) v2_0) = true := e
   rw [if_pos e, List.map_append]; rfl
  ·have e : (!hasB (rgAt a j) v2_0) = false := e
   rw [if_neg (by rw [e]; simp), List.append_nil]
 ·have hge : j = a.length := by have := of_decide_eq_false h; omega
  subst hge
  have eS := timK_succ (a := a) (b := c) (k := k) (by omega)
  unfold tmStep at eS
  rw [← i5, if_neg (by rw [i6]; simp)] at eS
  have eR : restK a c v2_0 a.length = restR a c v2_0 := rfl
  rw [eR] at i7 hlen hl
  subst i7
  simp only [rgg_listC]
  have fin : ∀ s t x, IntKind.i64.wrap ((k : Int) + 1) = x → ∀ f, f = (timK a c (k + 1)).isSome → (s, t) = (timK a c (k + 1)).getD (0, 0) → J_flash_times a c 0 [nn0] (mk_flash_times_0 a c x s t f) := fun s t x hx f hf hst => by
   rw [wi (by omega)] at hx
   subst hx
   exact ⟨_, _, _, _, rfl, i0, by omega, by omega, by omega, by rw [show ((k : Int) + 1).toNat = k + 1 by omega]; exact hf, by rw [show ((k : Int) + 1).toNat = k + 1 by omega]; exact hst⟩
  refine cond_i (fun g => ⟨⟨numsP_rgg _, by have := of_decide_eq_true g; omega, by omega⟩, cond_i (fun g2 => lt_i fun x hx => ?_) (fun g2 => lt_i fun x hx => ?_)⟩) (fun g => ⟨⟨numsP_rgs c, p4⟩, lt_i fun x hx => ?_⟩)
  ·have g := of_decide_eq_true g
   have eT : secT a c v2_0 = none := by unfold secT; rw [if_neg (by omega), if_neg (by have := of_decide_eq_true g2; omega)]
   rw [eT] at eS
   exact fin _ _ x hx _ (by rw [eS]; exact i3) (by rw [eS]; exact i4)
  ·have g := of_decide_eq_true g
   have eT : secT a c v2_0 = some (comm (restR a c v2_0)).lo := by unfold secT; rw [if_neg (by omega), if_pos (by have := of_decide_eq_false g2; omega)]
   rw [eT] at eS
   exact fin _ _ x hx _ (by rw [eS]; rfl) (by rw [eS]; rfl)
  ·have g := of_decide_eq_false g
   have eT : secT a c v2_0 = some (minR c c.length).lo := by unfold secT; rw [if_pos (by omega)]
   rw [eT] at eS
   exact fin _ _ x hx _ (by rw [eS]; rfl) (by rw [eS]; rfl)
theorem zero_flash_times_2 (a : List Rg) (c : List Rg) (v2_0 : Int) (v2_1 : Int) (v2_2 : List (List CV)) (v2_3 : Int) (v2_4 : Int) (v2_5 : Int) (v2_6 : Int) (v2_7 : Bool) (nn0 : Nat) (hi : tmOk a c ∧ (0 ≤ v2_3 ∧ v2_3 < a.length ∧ (nn0 : Int) + v2_3 = a.length) ∧ (0 ≤ v2_4 ∧ v2_4 ≤ a.length ∧ (0 : Int) + v2_4 = a.length + 1) ∧ v2_7 = (timK a c v2_3.toNat).isSome ∧ (v2_5, v2_6) = (timK a c v2_3.toNat).getD (0, 0) ∧ (v2_0 = (rgAt a v2_3.toNat).lo ∧ ((timK a c v2_3.toNat).isSome && decide (v2_0 ≥ ((timK a c v2_3.toNat).getD (0, 0)).1)) = false) ∧ v2_2 = (restK a c v2_0 v2_4.toNat).map rgCv) : False := by
 omega
set_option maxHeartbeats 8000000 in
set_option maxRecDepth 100000 in
theorem spec_flash_times (a : List Rg) (c : List Rg) (hp : tmOk a c) : vc_flash_times (J_flash_times a c) a c (fun r => LeD r (.tu [.c (.v (.int .i64 (((timF a c).getD (0, 0)).1))), .c (.v (.int .i64 (((timF a c).getD (0, 0)).2))), .c (.v (.bool ((timF a c).isSome)))])) := by
 unfold vc_flash_times
 exact ⟨a.length + 1, 0, 0, 0, false, rfl, hp, by omega, by omega, by omega, rfl, rfl⟩
theorem all_flash_times (a : List Rg) (c : List Rg) (hp : tmOk a c) : AllG (J_flash_times a c) (loopsFn Tryz.prog tab Sf111 ann_flash_times (J_flash_times a c) Tryz.f149 (fun r => LeD r (.tu [.c (.v (.int .i64 (((timF a c).getD (0, 0)).1))), .c (.v (.int .i64 (((timF a c).getD (0, 0)).2))), .c (.v (.bool ((timF a c).isSome)))]))) := by
 rw [lp_flash_times]
 refine ⟨⟨?_, ?_⟩, ⟨?_, ?_⟩, trivial⟩
 ·intro F s h
  obtain _ | ⟨g, F⟩ := F
  case cons => exact h.elim
  obtain ⟨w0, w1, w2, w3, rfl, hi⟩ := h
  exact zero_flash_times_0 a c w0 w1 w2 w3 hi
 ·intro n F s h
  obtain _ | ⟨g, F⟩ := F
  case cons => exact h.elim
  obtain ⟨w0, w1, w2, w3, rfl, hi⟩ := h
  rw [er_flash_times_0]
  exact rnd_flash_times_0 a c _ _ _ _ _ hp hi
 ·intro F s h
  obtain _ | ⟨f0, F⟩ := F
  ·exact h.elim
  obtain _ | ⟨g, F⟩ := F
  case cons => exact h.elim
  obtain ⟨w0, w1, w2, w3, w4, w5, w6, w7, rfl, hi⟩ := h
  exact zero_flash_times_2 a c w0 w1 w2 w3 w4 w5 w6 w7 _ hi
 ·intro n F s h
  obtain _ | ⟨f0, F⟩ := F
  ·exact h.elim
  obtain _ | ⟨g, F⟩ := F
  case cons => exact h.elim
  obtain ⟨w0, w1, w2, w3, w4, w5, w6, w7, rfl, hi⟩ := h
  rw [er_flash_times_2]
  exact rnd_flash_times_2 a c _ _ _ _ _ _ _ _ _ _ hp hi
def con_flash_times : Con := fun args => match args with
 | [.t (.c (.sl 2 n_a c_a)), .t (.c (.sl 2 n_c c_c))] => some (.tu [.c (.v (.int .i64 (((timF (listC n_a mkRg c_a) (listC n_c mkRg c_c)).getD (0, 0)).1))), .c (.v (.int .i64 (((timF (listC n_a mkRg c_a) (listC n_c mkRg c_c)).getD (0, 0)).2))), .c (.v (.bool ((timF (listC n_a mkRg c_a) (listC n_c mkRg c_c)).isSome)))], some (numsP 2 n_a c_a ∧ numsP 2 n_c c_c ∧ tmOk (listC n_a mkRg c_a) (listC n_c mkRg c_c)), false)
 | _ => none
theorem ok_flash_times : Ok Tryz.prog 149 con_flash_times := by
 refine Ok.fn (ann := ann_flash_times) mixed tabOK VSf111 VI1 (fn := Tryz.f149) (by kernel_rfl) (by kernel_rfl) fit_flash_times fun args r pre fresh h hp => ?_
 unfold con_flash_times at h
 split at h
 ·rename_i n_a c_a n_c c_c
  cases h
  obtain ⟨hp0, hp1, hp⟩ := hp
  refine ⟨rfl, J_flash_times (listC n_a mkRg c_a) (listC n_c mkRg c_c), [.t (.c (.sl 2 ((listC n_a mkRg c_a).length) (rgsC (listC n_a mkRg c_a)))), .t (.c (.sl 2 ((listC n_c mkRg c_c).length) (rgsC (listC n_c mkRg c_c))))], ?_, Nat.le_of_ble_eq_true (by kernel_rfl), ?_, ?_⟩
  ·exact (LeA_cons (leT_c ((leL_Rg hp0))) (LeA_cons (leT_c ((leL_Rg hp1))) LeA_nil))
  ·rw [ev_flash_times]; exact spec_flash_times (listC n_a mkRg c_a) (listC n_c mkRg c_c) hp
  ·exact all_flash_times (listC n_a mkRg c_a) (listC n_c mkRg c_c) hp
 ·cases h
noncomputable def Sf112 : Sum := addS Sf111 149 con_flash_times
theorem VSf112 : Valid Tryz.prog Sf112 := Valid.add VSf111 ok_flash_times
def mk_cherenkov_flash_search_pair_0 (l : List FHit) (g0 g1 g2 g3 g4 : Int) (sp : List (List Rg)) (v0_0 : Int) : DS := ⟨[none, some (.t (.c (.p 1 0))), some (.t (.c (.p 2 0))), none, none, none, none, none, none, none, none, some (.t (.c (.sl 1 sp.length (rlsC sp)))), some (.t (.c (.v (.int .i64 ((sp.length : Nat) : Int))))), some (.t (.c (.v (.int .i64 v0_0)))), none, none, none, none, none, none, none, none, none, none, none, none, none, none, none, none, none, none, none, none, none, none, none, none, none, none, none, none, none, none, none], [none, some (.box 161 [.sl 7 l.length (hitsC l), .v (.int .i64 g0), .v (.int .i64 g1), .v (.int .i64 g2), .v (.int .i64 g3), .v (.int .i64 g4), .sl 1 sp.length (rlsC sp)]), some (.box 107 [.v (.int .i64 0), .v (.int .i64 0), .v (.int .i64 0), .v (.int .i64 0)]), none, none, none, none, none, none, none, none, none, none, none, none, none, none, none, none, none, none, none, none, none, none, none, none, none, none, none, none, none, none, none, none, none, none, none, none, none, none, none, none, none, none]⟩
def mk_cherenkov_flash_search_pair_2 (l : List FHit) (g0 g1 g2 g3 g4 : Int) (sp : List (List Rg)) (v2_0 : Int) (v2_1 : Int) (v2_2 : (List Rg)) (v2_3 : Int) : DS := ⟨[none, some (.t (.c (.p 1 0))), some (.t (.c (.p 2 0))), none, some (.t (.c (.v (.int .i64 v2_1)))), some (.t (.c (.sl 2 v2_2.length (rgsC v2_2)))), some (.t (.c (.v (.int .i64 v2_3)))), none, none, none, none, some (.t (.c (.sl 1 sp.length (rlsC sp)))), some (.t (.c (.v (.int .i64 ((sp.length : Nat) : Int))))), some (.t (.c (.v (.int .i64 v2_0)))), none, none, none, none, none, none, none, none, none, none, none, none, none, none, none, none, none, none, none, none, none, none, none, none, none, none, none, none, none, none, none], [none, some (.box 161 [.sl 7 l.length (hitsC l), .v (.int .i64 g0), .v (.int .i64 g1), .v (.int .i64 g2), .v (.int .i64 g3), .v (.int .i64 g4), .sl 1 sp.length (rlsC sp)]), some (.box 107 [.v (.int .i64 0), .v (.int .i64 0), .v (.int .i64 0), .v (.int .i64 0)]), none, none, none, none, none, none, none, none, none, none, none, none, none, none, none, none, none, none, none, none, none, none, none, none, none, none, none, none, none, none, none, none, none, none, none, none, none, none, none, none, none, none]⟩
def vc_cherenkov_flash_search_pair (J : Inv) (l : List FHit) (g0 g1 g2 g3 g4 : Int) (sp : List (List Rg)) (post : DV → Prop) : Prop := ∃ n, J 0 (n :: []) (mk_cherenkov_flash_search_pair_0 l g0 g1 g2 g3 g4 sp 0)
def ann_cherenkov_flash_search_pair : Ann := ⟨fun _ => none, fun b => lookA b [(0, (none, some ⟨[1, 2, 11, 12, 13], [1, 2], []⟩)), (2, (none, some ⟨[1, 2, 4, 5, 6, 11, 12, 13], [1, 2], []⟩))], fun _ => [], I1, false, fun _ => none, fun _ => none⟩
theorem ev_cherenkov_flash_search_pair (J : Inv) (l : List FHit) (g0 g1 g2 g3 g4 : Int) (sp : List (List Rg)) (post : DV → Prop) : evFn Tryz.prog tab Sf112 ann_cherenkov_flash_search_pair J Tryz.f107 [.t (.a [.sl 7 l.length (hitsC l), .v (.int .i64 g0), .v (.int .i64 g1), .v (.int .i64 g2), .v (.int .i64 g3), .v (.int .i64 g4), .sl 1 sp.length (rlsC sp)])] post = vc_cherenkov_flash_search_pair J l g0 g1 g2 g3 g4 sp post := by kernel_rfl
theorem fit_cherenkov_flash_search_pair : okFn ann_cherenkov_flash_search_pair Tryz.f107 = true := by kernel_rfl
def rd_cherenkov_flash_search_pair_0 (J : Inv) (l : List FHit) (g0 g1 g2 g3 g4 : Int) (sp : List (List Rg)) (v0_0 : Int) (nn0 : Nat) (post : DV → Prop) : Prop := cond (decide (v0_0 < ((sp.length : Nat) : Int))) ((0 ≤ v0_0 ∧ v0_0 < ((sp.length : Nat) : Int)) ∧ (∃ n, J 2 (n :: nn0 :: []) (mk_cherenkov_flash_search_pair_2 l g0 g1 g2 g3 g4 sp v0_0 v0_0 (rlAt sp v0_0.toNat) v0_0))) (post (.tu [.a [.v (.int .i64 0), .v (.int .i64 0), .v (.int .i64 0), .v (.int .i64 0)], .c (.v (.bool false))]))
theorem er_cherenkov_flash_search_pair_0 (J : Inv) (l : List FHit) (g0 g1 g2 g3 g4 : Int) (sp : List (List Rg)) (v0_0 : Int) (nn0 : Nat) (post : DV → Prop) : round Tryz.prog tab Sf112 ann_cherenkov_flash_search_pair J Tryz.f107 post 0 (nn0 :: []) (mk_cherenkov_flash_search_pair_0 l g0 g1 g2 g3 g4 sp v0_0) = rd_cherenkov_flash_search_pair_0 J l g0 g1 g2 g3 g4 sp v0_0 nn0 post := by kernel_rfl
def rd_cherenkov_flash_search_pair_2 (J : Inv) (l : List FHit) (g0 g1 g2 g3 g4 : Int) (sp : List (List Rg)) (v2_0 : Int) (v2_1 : Int) (v2_2 : (List Rg)) (v2_3 : Int) (nn2 nn0 : Nat) (post : DV → Prop) : Prop := cond (decide (v2_3 < ((sp.length : Nat) : Int))) ((0 ≤ v2_3 ∧ v2_3 < ((sp.length : Nat) : Int)) ∧ ((numsP 2 v2_2.length (rgsC v2_2) ∧ numsP 2 ((rlAt sp v2_3.toNat).length) (rgsC (rlAt sp v2_3.toNat)) ∧ tmOk (listC v2_2.length mkRg (rgsC v2_2)) (listC ((rlAt sp v2_3.toNat).length) mkRg (rgsC (rlAt sp v2_3.toNat)))) ∧ (cond ((timF (listC v2_2.length mkRg (rgsC v2_2)) (listC ((rlAt sp v2_3.toNat).length) mkRg (rgsC (rlAt sp v2_3.toNat)))).isSome) (post (.tu [.a [.v (.int .i64 v2_1), .v (.int .i64 v2_3), .v (.int .i64 (((timF (listC v2_2.length mkRg (rgsC v2_2)) (listC ((rlAt sp v2_3.toNat).length) mkRg (rgsC (rlAt sp v2_3.toNat)))).getD (0, 0)).1)), .v (.int .i64 (((timF (listC v2_2.length mkRg (rgsC v2_2)) (listC ((rlAt sp v2_3.toNat).length) mkRg (rgsC (rlAt sp v2_3.toNat)))).getD (0, 0)).2))], .c (.v (.bool true))])) (lt (IntKind.i64.wrap (v2_3 + (1 : Int))) fun x1 => J 2 (nn2 :: nn0 :: []) (mk_cherenkov_flash_search_pair_2 l g0 g1 g2 g3 g4 sp v2_0 v2_1 v2_2 x1))))) (lt (IntKind.i64.wrap (v2_0 + (1 : Int))) fun x2 => J 0 (nn0 :: []) (mk_cherenkov_flash_search_pair_0 l g0 g1 g2 g3 g4 sp x2))
theorem er_cherenkov_flash_search_pair_2 (J : Inv) (l : List FHit) (g0 g1 g2 g3 g4 : Int) (sp : List (List Rg)) (v2_0 : Int) (v2_1 : Int) (v2_2 : (List Rg)) (v2_3 : Int) (nn2 nn0 : Nat) (post : DV → Prop) : round Tryz.prog tab Sf112 ann_cherenkov_flash_search_pair J Tryz.f107 post 1 (nn2 :: nn0 :: []) (mk_cherenkov_flash_search_pair_2 l g0 g1 g2 g3 g4 sp v2_0 v2_1 v2_2 v2_3) = rd_cherenkov_flash_search_pair_2 J l g0 g1 g2 g3 g4 sp v2_0 v2_1 v2_2 v2_3 nn2 nn0 post := by kernel_rfl
theorem lp_cherenkov_flash_search_pair (J : Inv) (post : DV → Prop) : AllG J (loopsFn Tryz.prog tab Sf112 ann_cherenkov_flash_search_pair J Tryz.f107 post) = (((∀ F s, ¬ J 0 (0 :: F) s) ∧ ∀ n F s, J 0 ((n + 1) :: F) s → round Tryz.prog tab Sf112 ann_cherenkov_flash_search_pair J Tryz.f107 post 0 (n :: F) s) ∧ ((∀ F s, ¬ J 2 (0 :: F) s) ∧ ∀ n F s, J 2 ((n + 1) :: F) s → round Tryz.prog tab Sf112 ann_cherenkov_flash_search_pair J Tryz.f107 post 1 (n :: F) s) ∧ True) := by kernel_rfl
def J_cherenkov_flash_search_pair (l : List FHit) (g0 g1 g2 g3 g4 : Int) (sp : List (List Rg)) : Inv := fun b F s => match b, F with
 | 0, [nn0] => ∃ (v0_0 : Int), s = mk_cherenkov_flash_search_pair_0 l g0 g1 g2 g3 g4 sp v0_0 ∧ (prOk sp ∧ 0 ≤ v0_0 ∧ v0_0 ≤ sp.length ∧ (nn0 : Int) + v0_0 = sp.length + 1 ∧ ∀ j, j < v0_0.toNat * sp.length + v0_0.toNat → j < sp.length * sp.length → prB sp j = false)
 | 2, [nn2, nn0] => ∃ (v2_0 : Int) (v2_1 : Int) (v2_2 : (List Rg)) (v2_3 : Int), s = mk_cherenkov_flash_search_pair_2 l g0 g1 g2 g3 g4 sp v2_0 v2_1 v2_2 v2_3 ∧ (prOk sp ∧ v2_1 = v2_0 ∧ v2_2 = rlAt sp v2_0.toNat ∧ (0 ≤ v2_0 ∧ v2_0 < sp.length ∧ (nn0 : Int) + v2_0 = sp.length) ∧ (v2_0 ≤ v2_3 ∧ v2_3 ≤ sp.length ∧ (nn2 : Int) + v2_3 = sp.length + 1) ∧ ∀ j, j < v2_0.toNat * sp.length + v2_3.toNat → prB sp j = false)
 | _, _ => False
theorem rnd_cherenkov_flash_search_pair_0 (l : List FHit) (g0 g1 g2 g3 g4 : Int) (sp : List (List Rg)) (v0_0 : Int) (nn0 : Nat) (hp : prOk sp) (hi : prOk sp ∧ 0 ≤ v0_0 ∧ v0_0 ≤ sp.length ∧ ((nn0 + 1) : Int) + v0_0 = sp.length + 1 ∧ ∀ j, j < v0_0.toNat * sp.length + v0_0.toNat → j < sp.length * sp.length → prB sp j = false) : rd_cherenkov_flash_search_pair_0 (J_cherenkov_flash_search_pair l g0 g1 g2 g3 g4 sp) l g0 g1 g2 g3 g4 sp v0_0 nn0 (fun r => LeD r (.tu [.a [.v (.int .i64 ((prV sp).a)), .v (.int .i64 ((prV sp).b)), .v (.int .i64 ((prV sp).s)), .v (.int .i64 ((prV sp).t))], .c (.v (.bool (hasP sp)))])) := by
 obtain ⟨i0, i1, i2, i3, i4⟩ := hi
 obtain ⟨k, rfl⟩ : ∃ k : Nat, v0_0 = k := ⟨v0_0.toNat, by omega⟩
 have hk : (k : Int).toNat = k := rfl
 rw [hk] at i4
 unfold rd_cherenkov_flash_search_pair_0
 rw [hk]
 refine cond_i (fun h => ?_) (fun h => ?_)
 ·have h := of_decide_eq_true h
  refine ⟨by omega, sp.length + 1 - k, _, _, _, _, rfl, i0, rfl, by rw [hk], by omega, by omega, fun j hj => i4 j (by rw [hk] at hj; exact hj) ?_⟩
  rw [hk] at hj
  have := pr_lt (n := sp.length) (i := k) (k := k) (by omega) (by omega)
  omega
 ·have h := of_decide_eq_false h
  have e : k = sp.length := by omega
  obtain ⟨u1, u2⟩ := prV_none (sp := sp) fun j hj => i4 j (by rw [e]; omega) hj
  rw [u1, u2]
  exact LeD.refl _
theorem zero_cherenkov_flash_search_pair_0 (l : List FHit) (g0 g1 g2 g3 g4 : Int) (sp : List (List Rg)) (v0_0 : Int)  (hi : prOk sp ∧ 0 ≤ v0_0 ∧ v0_0 ≤ sp.length ∧ (0 : Int) + v0_0 = sp.length + 1 ∧ ∀ j, j < v0_0.toNat * sp.length + v0_0.toNat → j < sp.length * sp.length → prB sp j = false) : False := by
 omega
theorem rnd_cherenkov_flash_search_pair_2 (l : List FHit) (g0 g1 g2 g3 g4 : Int) (sp : List (List Rg)) (v2_0 : Int) (v2_1 : Int) (v2_2 : (List Rg)) (v2_3 : Int) (nn2 nn0 : Nat) (hp : prOk sp) (hi : prOk sp ∧ v2_1 = v2_0 ∧ v2_2 = rlAt sp v2_0.toNat ∧ (0 ≤ v2_0 ∧ v2_0 < sp.length ∧ (nn0 : Int) + v2_0 = sp.length) ∧ (v2_0 ≤ v2_3 ∧ v2_3 ≤ sp.length ∧ ((nn2 + 1) : Int) + v2_3 = sp.length + 1) ∧ ∀ j, j < v2_0.toNat * sp.length + v2_3.toNat → prB sp j = false) : rd_cherenkov_flash_search_pair_2 (J_cherenkov_flash_search_pair l g0 g1 g2 g3 g4 sp) l g0 g1 g2 g3 g4 sp v2_0 v2_1 v2_2 v2_3 nn2 nn0 (fun r => LeD r (.tu [.a [.v (.int .i64 ((prV sp).a)), .v (.int .i64 ((prV sp).b)), .v (.int .i64 ((prV sp).s)), .v (.int .i64 ((prV sp).t))], .c (.v (.bool (hasP sp)))])) := by
 obtain ⟨i0, e1, e2, i1, i2, i3⟩ := hi
 obtain ⟨k, rfl⟩ : ∃ k : Nat, v2_0 = k := ⟨v2_0.toNat, by omega⟩
 have hk : (k : Int).toNat = k := rfl
 subst e1
 subst e2
 obtain ⟨j, rfl⟩ : ∃ j : Nat, v2_3 = j := ⟨v2_3.toNat, by omega⟩
 have hj : (j : Int).toNat = j := rfl
 rw [hk, hj] at i3
 have hz := i0.1.1
 unfold rd_cherenkov_flash_search_pair_2
 simp only [rgs_listC, hk, hj]
 refine cond_i (fun h => ?_) (fun h => lt_i fun x hx => ?_)
 ·have hlt : j < sp.length := by have := of_decide_eq_true h; omega
  refine ⟨by omega, ⟨numsP_rgs _, numsP_rgs _, prOk_tm i0 (by omega) hlt⟩, cond_i (fun e => ?_) (fun e => lt_i fun x hx => ?_)⟩
  ·obtain ⟨⟨s, t⟩, ho⟩ := Option.isSome_iff_exists.1 e
   obtain ⟨u1, u2⟩ := prV_at (i := k) (k := j) (by omega) hlt (by omega) ho i3
   rw [u1, u2, ho]
   exact LeD.refl _
  ·rw [wi (by omega)] at hx
   subst hx
   have ho : timF (rlAt sp k) (rlAt sp j) = none := by
    cases q : timF (rlAt sp k) (rlAt sp j) with
    | none => rfl
    | some _ => rw [q] at e; cases e
   refine ⟨_, _, _, _, rfl, i0, rfl, rfl, i1, by omega, fun q hq => ?_⟩
   rw [hk, show ((j : Int) + 1).toNat = j + 1 by omega] at hq
   by_cases c : q = k * sp.length + j
   ·rw [c]; exact prB_none hlt ho
   ·exact i3 q (by omega)
 ·have h := of_decide_eq_false h
  have e : j = sp.length := by omega
  rw [wi (by omega)] at hx
  subst hx
  rw [e] at i3
  refine ⟨_, rfl, i0, by omega, by omega, by omega, ?_⟩
  rw [show ((k : Int) + 1).toNat = k + 1 by omega]
  exact prB_row (by omega) i3
theorem zero_cherenkov_flash_search_pair_2 (l : List FHit) (g0 g1 g2 g3 g4 : Int) (sp : List (List Rg)) (v2_0 : Int) (v2_1 : Int) (v2_2 : (List Rg)) (v2_3 : Int) (nn0 : Nat) (hi : prOk sp ∧ v2_1 = v2_0 ∧ v2_2 = rlAt sp v2_0.toNat ∧ (0 ≤ v2_0 ∧ v2_0 < sp.length ∧ (nn0 : Int) + v2_0 = sp.length) ∧ (v2_0 ≤ v2_3 ∧ v2_3 ≤ sp.length ∧ (0 : Int) + v2_3 = sp.length + 1) ∧ ∀ j, j < v2_0.toNat * sp.length + v2_3.toNat → prB sp j = false) : False := by
 omega
theorem spec_cherenkov_flash_search_pair (l : List FHit) (g0 g1 g2 g3 g4 : Int) (sp : List (List Rg)) (hp : prOk sp) : vc_cherenkov_flash_search_pair (J_cherenkov_flash_search_pair l g0 g1 g2 g3 g4 sp) l g0 g1 g2 g3 g4 sp (fun r => LeD r (.tu [.a [.v (.int .i64 ((prV sp).a)), .v (.int .i64 ((prV sp).b)), .v (.int .i64 ((prV sp).s)), .v (.int .i64 ((prV sp).t))], .c (.v (.bool (hasP sp)))])) := by
 unfold vc_cherenkov_flash_search_pair
 exact ⟨sp.length + 1, 0, rfl, hp, by omega, by omega, by omega, fun j hj _ => by simp at hj⟩
theorem all_cherenkov_flash_search_pair (l : List FHit) (g0 g1 g2 g3 g4 : Int) (sp : List (List Rg)) (hp : prOk sp) : AllG (J_cherenkov_flash_search_pair l g0 g1 g2 g3 g4 sp) (loopsFn Tryz.prog tab Sf112 ann_cherenkov_flash_search_pair (J_cherenkov_flash_search_pair l g0 g1 g2 g3 g4 sp) Tryz.f107 (fun r => LeD r (.tu [.a [.v (.int .i64 ((prV sp).a)), .v (.int .i64 ((prV sp).b)), .v (.int .i64 ((prV sp).s)), .v (.int .i64 ((prV sp).t))], .c (.v (.bool (hasP sp)))]))) := by
 rw [lp_cherenkov_flash_search_pair]
 refine ⟨⟨?_, ?_⟩, ⟨?_, ?_⟩, trivial⟩
 ·intro F s h
  obtain _ | ⟨g, F⟩ := F
  case cons => exact h.elim
  obtain ⟨w0, rfl, hi⟩ := h
  exact zero_cherenkov_flash_search_pair_0 l g0 g1 g2 g3 g4 sp w0 hi
 ·intro n F s h
  obtain _ | ⟨g, F⟩ := F
  case cons => exact h.elim
  obtain ⟨w0, rfl, hi⟩ := h
  rw [er_cherenkov_flash_search_pair_0]
  exact rnd_cherenkov_flash_search_pair_0 l g0 g1 g2 g3 g4 sp _ _ hp hi
 ·intro F s h
  obtain _ | ⟨f0, F⟩ := F
  ·exact h.elim
  obtain _ | ⟨g, F⟩ := F
  case cons => exact h.elim
  obtain ⟨w0, w1, w2, w3, rfl, hi⟩ := h
  exact zero_cherenkov_flash_search_pair_2 l g0 g1 g2 g3 g4 sp w0 w1 w2 w3 _ hi
 ·intro n F s h
  obtain _ | ⟨f0, F⟩ := F
  ·exact h.elim
  obtain _ | ⟨g, F⟩ := F
  case cons => exact h.elim
  obtain ⟨w0, w1, w2, w3, rfl, hi⟩ := h
  rw [er_cherenkov_flash_search_pair_2]
  exact rnd_cherenkov_flash_search_pair_2 l g0 g1 g2 g3 g4 sp _ _ _ _ _ _ hp hi
def con_cherenkov_flash_search_pair : Con := fun args => match args with
 | [.t (.a [.sl 7 n_l c_l, .v (.int .i64 g0), .v (.int .i64 g1), .v (.int .i64 g2), .v (.int .i64 g3), .v (.int .i64 g4), .sl 1 n_sp c_sp])] => some (.tu [.a [.v (.int .i64 ((prV (rlOf n_sp c_sp)).a)), .v (.int .i64 ((prV (rlOf n_sp c_sp)).b)), .v (.int .i64 ((prV (rlOf n_sp c_sp)).s)), .v (.int .i64 ((prV (rlOf n_sp c_sp)).t))], .c (.v (.bool (hasP (rlOf n_sp c_sp))))], some (numsP 7 n_l c_l ∧ rlP n_sp c_sp ∧ prOk (rlOf n_sp c_sp)), false)
 | _ => none
theorem ok_cherenkov_flash_search_pair : Ok Tryz.prog 107 con_cherenkov_flash_search_pair := by
 refine Ok.fn (ann := ann_cherenkov_flash_search_pair) mixed tabOK VSf112 VI1 (fn := Tryz.f107) (by kernel_rfl) (by kernel_rfl) fit_cherenkov_flash_search_pair fun args r pre fresh h hp => ?_
 unfold con_cherenkov_flash_search_pair at h
 split at h
 ·rename_i n_l c_l g0 g1 g2 g3 g4 n_sp c_sp
  cases h
  obtain ⟨hp0, hp1, hp⟩ := hp
  refine ⟨rfl, J_cherenkov_flash_search_pair (listC n_l mkHit c_l) g0 g1 g2 g3 g4 (rlOf n_sp c_sp), [.t (.a [.sl 7 ((listC n_l mkHit c_l).length) (hitsC (listC n_l mkHit c_l)), .v (.int .i64 g0), .v (.int .i64 g1), .v (.int .i64 g2), .v (.int .i64 g3), .v (.int .i64 g4), .sl 1 ((rlOf n_sp c_sp).length) (rlsC (rlOf n_sp c_sp))])], ?_, Nat.le_of_ble_eq_true (by kernel_rfl), ?_, ?_⟩
  ·exact (LeA_cons (leT_a (LeCs.cons ((leL_FHit hp0)) (LeCs.cons (LeC1.refl _) (LeCs.cons (LeC1.refl _) (LeCs.cons (LeC1.refl _) (LeCs.cons (LeC1.refl _) (LeCs.cons (LeC1.refl _) (LeCs.cons ((leL_LRg hp1)) LeCs.nil)))))))) LeA_nil)
  ·rw [ev_cherenkov_flash_search_pair]; exact spec_cherenkov_flash_search_pair (listC n_l mkHit c_l) g0 g1 g2 g3 g4 (rlOf n_sp c_sp) hp
  ·exact all_cherenkov_flash_search_pair (listC n_l mkHit c_l) g0 g1 g2 g3 g4 (rlOf n_sp c_sp) hp
 ·cases h
noncomputable def Sf113 : Sum := addS Sf112 107 con_cherenkov_flash_search_pair
theorem VSf113 : Valid Tryz.prog Sf113 := Valid.add VSf112 ok_cherenkov_flash_search_pair
def vc_flash_PairOf (l : List FHit) (g0 g1 g2 g3 g4 : Int) (post : DV → Prop) : Prop := (numsP 7 l.length (hitsC l)) ∧ (cond ((bothE (listC l.length mkHit (hitsC l)) (⟨⟨g0, g1, g2⟩, g3, g4⟩ : Lat)) != (0 : Int)) (post (.tu [.a [.v (.int .i64 0), .v (.int .i64 0), .v (.int .i64 0), .v (.int .i64 0)], .c (.v (.int .i64 (bothE (listC l.length mkHit (hitsC l)) (⟨⟨g0, g1, g2⟩, g3, g4⟩ : Lat))))])) ((numsP 7 ((opnH (listC l.length mkHit (hitsC l)) (⟨⟨g0, g1, g2⟩, g3, g4⟩ : Lat)).length) (hitsC (opnH (listC l.length mkHit (hitsC l)) (⟨⟨g0, g1, g2⟩, g3, g4⟩ : Lat))) ∧ rlP ((opnS (listC l.length mkHit (hitsC l)) (⟨⟨g0, g1, g2⟩, g3, g4⟩ : Lat)).length) (rlsC (opnS (listC l.length mkHit (hitsC l)) (⟨⟨g0, g1, g2⟩, g3, g4⟩ : Lat))) ∧ prOk (rlOf ((opnS (listC l.length mkHit (hitsC l)) (⟨⟨g0, g1, g2⟩, g3, g4⟩ : Lat)).length) (rlsC (opnS (listC l.length mkHit (hitsC l)) (⟨⟨g0, g1, g2⟩, g3, g4⟩ : Lat))))) ∧ (post (.tu [.a [.v (.int .i64 ((prV (rlOf ((opnS (listC l.length mkHit (hitsC l)) (⟨⟨g0, g1, g2⟩, g3, g4⟩ : Lat)).length) (rlsC (opnS (listC l.length mkHit (hitsC l)) (⟨⟨g0, g1, g2⟩, g3, g4⟩ : Lat))))).a)), .v (.int .i64 ((prV (rlOf ((opnS (listC l.length mkHit (hitsC l)) (⟨⟨g0, g1, g2⟩, g3, g4⟩ : Lat)).length) (rlsC (opnS (listC l.length mkHit (hitsC l)) (⟨⟨g0, g1, g2⟩, g3, g4⟩ : Lat))))).b)), .v (.int .i64 ((prV (rlOf ((opnS (listC l.length mkHit (hitsC l)) (⟨⟨g0, g1, g2⟩, g3, g4⟩ : Lat)).length) (rlsC (opnS (listC l.length mkHit (hitsC l)) (⟨⟨g0, g1, g2⟩, g3, g4⟩ : Lat))))).s)), .v (.int .i64 ((prV (rlOf ((opnS (listC l.length mkHit (hitsC l)) (⟨⟨g0, g1, g2⟩, g3, g4⟩ : Lat)).length) (rlsC (opnS (listC l.length mkHit (hitsC l)) (⟨⟨g0, g1, g2⟩, g3, g4⟩ : Lat))))).t))], .c (.v (.int .i64 (unl (hasP (rlOf ((opnS (listC l.length mkHit (hitsC l)) (⟨⟨g0, g1, g2⟩, g3, g4⟩ : Lat)).length) (rlsC (opnS (listC l.length mkHit (hitsC l)) (⟨⟨g0, g1, g2⟩, g3, g4⟩ : Lat))))) (12 : Int))))]))))
def ann_flash_PairOf : Ann := ⟨fun r => lookA r [(5, ([[], [], [1], [0, 1, 2], [0, 1, 2, 3]], [[27], [27], [], [], []]))], fun _ => none, fun _ => [], I1, false, fun _ => none, fun _ => none⟩
theorem ev_flash_PairOf (J : Inv) (l : List FHit) (g0 g1 g2 g3 g4 : Int) (post : DV → Prop) : evFn Tryz.prog tab Sf113 ann_flash_PairOf J Tryz.f56 [.t (.c (.sl 7 l.length (hitsC l))), .t (.a [.v (.int .i64 g0), .v (.int .i64 g1), .v (.int .i64 g2), .v (.int .i64 g3), .v (.int .i64 g4)])] post = vc_flash_PairOf l g0 g1 g2 g3 g4 post := by kernel_rfl
theorem fit_flash_PairOf : okFn ann_flash_PairOf Tryz.f56 = true := by kernel_rfl
theorem lp_flash_PairOf (J : Inv) (post : DV → Prop) : AllG J (loopsFn Tryz.prog tab Sf113 ann_flash_PairOf J Tryz.f56 post) = (True) := by kernel_rfl
theorem spec_flash_PairOf (l : List FHit) (g0 g1 g2 g3 g4 : Int) : vc_flash_PairOf l g0 g1 g2 g3 g4 (fun r => LeD r (.tu [.a [.v (.int .i64 ((prO l (⟨⟨g0, g1, g2⟩, g3, g4⟩ : Lat)).a)), .v (.int .i64 ((prO l (⟨⟨g0, g1, g2⟩, g3, g4⟩ : Lat)).b)), .v (.int .i64 ((prO l (⟨⟨g0, g1, g2⟩, g3, g4⟩ : Lat)).s)), .v (.int .i64 ((prO l (⟨⟨g0, g1, g2⟩, g3, g4⟩ : Lat)).t))], .c (.v (.int .i64 (pairE l (⟨⟨g0, g1, g2⟩, g3, g4⟩ : Lat))))])) := by
 unfold vc_flash_PairOf
 simp only [hits_listC, rls_of]
 refine ⟨numsP_hits l, cond_i (fun h => ?_) (fun h => ?_)⟩
 ·have h : bothE l (⟨⟨g0, g1, g2⟩, g3, g4⟩ : Lat) ≠ 0 := by simpa using h
  rw [show prO l (⟨⟨g0, g1, g2⟩, g3, g4⟩ : Lat) = ⟨0, 0, 0, 0⟩ from if_neg h, show pairE l (⟨⟨g0, g1, g2⟩, g3, g4⟩ : Lat) = bothE l (⟨⟨g0, g1, g2⟩, g3, g4⟩ : Lat) from if_pos h]
  exact LeD.refl _
 ·have h : bothE l (⟨⟨g0, g1, g2⟩, g3, g4⟩ : Lat) = 0 := by simpa using h
  rw [show prO l (⟨⟨g0, g1, g2⟩, g3, g4⟩ : Lat) = prV (allS l (⟨⟨g0, g1, g2⟩, g3, g4⟩ : Lat)) from if_pos h, show pairE l (⟨⟨g0, g1, g2⟩, g3, g4⟩ : Lat) = unl (hasP (allS l (⟨⟨g0, g1, g2⟩, g3, g4⟩ : Lat))) 12 from if_neg (by rw [h]; simp)]
  refine ⟨⟨numsP_hits _, rlP_rls _, prOk_opn h⟩, ?_⟩
  rw [opnS_all h]
  exact LeD.refl _
def con_flash_PairOf : Con := fun args => match args with
 | [.t (.c (.sl 7 n_l c_l)), .t (.a [.v (.int .i64 g0), .v (.int .i64 g1), .v (.int .i64 g2), .v (.int .i64 g3), .v (.int .i64 g4)])] => some (.tu [.a [.v (.int .i64 ((prO (listC n_l mkHit c_l) (⟨⟨g0, g1, g2⟩, g3, g4⟩ : Lat)).a)), .v (.int .i64 ((prO (listC n_l mkHit c_l) (⟨⟨g0, g1, g2⟩, g3, g4⟩ : Lat)).b)), .v (.int .i64 ((prO (listC n_l mkHit c_l) (⟨⟨g0, g1, g2⟩, g3, g4⟩ : Lat)).s)), .v (.int .i64 ((prO (listC n_l mkHit c_l) (⟨⟨g0, g1, g2⟩, g3, g4⟩ : Lat)).t))], .c (.v (.int .i64 (pairE (listC n_l mkHit c_l) (⟨⟨g0, g1, g2⟩, g3, g4⟩ : Lat))))], some (numsP 7 n_l c_l), false)
 | _ => none
theorem ok_flash_PairOf : Ok Tryz.prog 56 con_flash_PairOf := by
 refine Ok.fn (ann := ann_flash_PairOf) mixed tabOK VSf113 VI1 (fn := Tryz.f56) (by kernel_rfl) (by kernel_rfl) fit_flash_PairOf fun args r pre fresh h hp => ?_
 unfold con_flash_PairOf at h
 split at h
 ·rename_i n_l c_l g0 g1 g2 g3 g4
  cases h
  have hp0 := hp
  refine ⟨rfl, fun _ _ _ => False, [.t (.c (.sl 7 ((listC n_l mkHit c_l).length) (hitsC (listC n_l mkHit c_l)))), .t (.a [.v (.int .i64 g0), .v (.int .i64 g1), .v (.int .i64 g2), .v (.int .i64 g3), .v (.int .i64 g4)])], ?_, Nat.le_of_ble_eq_true (by kernel_rfl), ?_, ?_⟩
  ·exact (LeA_cons (leT_c ((leL_FHit hp0))) (LeA_cons (LeD.refl _) LeA_nil))
  ·rw [ev_flash_PairOf]; exact spec_flash_PairOf (listC n_l mkHit c_l) g0 g1 g2 g3 g4
  ·rw [lp_flash_PairOf]; trivial
 ·cases h
noncomputable def Sf114 : Sum := addS Sf113 56 con_flash_PairOf
theorem VSf114 : Valid Tryz.prog Sf114 := Valid.add VSf113 ok_flash_PairOf
def vc_flash_IsDouble (l : List FHit) (g0 g1 g2 g3 g4 : Int) (post : DV → Prop) : Prop := (numsP 7 l.length (hitsC l)) ∧ (cond ((bothE (listC l.length mkHit (hitsC l)) (⟨⟨g0, g1, g2⟩, g3, g4⟩ : Lat)) != (0 : Int)) ((true = true) ∧ (post (.tu [.c (.v (.bool false)), .c (.v (.int .i64 (bothE (listC l.length mkHit (hitsC l)) (⟨⟨g0, g1, g2⟩, g3, g4⟩ : Lat))))]))) ((numsP 7 ((opnH (listC l.length mkHit (hitsC l)) (⟨⟨g0, g1, g2⟩, g3, g4⟩ : Lat)).length) (hitsC (opnH (listC l.length mkHit (hitsC l)) (⟨⟨g0, g1, g2⟩, g3, g4⟩ : Lat))) ∧ rlP ((opnS (listC l.length mkHit (hitsC l)) (⟨⟨g0, g1, g2⟩, g3, g4⟩ : Lat)).length) (rlsC (opnS (listC l.length mkHit (hitsC l)) (⟨⟨g0, g1, g2⟩, g3, g4⟩ : Lat))) ∧ spOk (rlOf ((opnS (listC l.length mkHit (hitsC l)) (⟨⟨g0, g1, g2⟩, g3, g4⟩ : Lat)).length) (rlsC (opnS (listC l.length mkHit (hitsC l)) (⟨⟨g0, g1, g2⟩, g3, g4⟩ : Lat))))) ∧ (cond (decide ((((vtxL (rlOf ((opnS (listC l.length mkHit (hitsC l)) (⟨⟨g0, g1, g2⟩, g3, g4⟩ : Lat)).length) (rlsC (opnS (listC l.length mkHit (hitsC l)) (⟨⟨g0, g1, g2⟩, g3, g4⟩ : Lat))))).length : Nat) : Int) > (0 : Int))) (post (.tu [.c (.v (.bool false)), .c (.v (.int .i64 (bothE (listC l.length mkHit (hitsC l)) (⟨⟨g0, g1, g2⟩, g3, g4⟩ : Lat))))])) ((numsP 7 ((opnH (listC l.length mkHit (hitsC l)) (⟨⟨g0, g1, g2⟩, g3, g4⟩ : Lat)).length) (hitsC (opnH (listC l.length mkHit (hitsC l)) (⟨⟨g0, g1, g2⟩, g3, g4⟩ : Lat))) ∧ rlP ((opnS (listC l.length mkHit (hitsC l)) (⟨⟨g0, g1, g2⟩, g3, g4⟩ : Lat)).length) (rlsC (opnS (listC l.length mkHit (hitsC l)) (⟨⟨g0, g1, g2⟩, g3, g4⟩ : Lat))) ∧ prOk (rlOf ((opnS (listC l.length mkHit (hitsC l)) (⟨⟨g0, g1, g2⟩, g3, g4⟩ : Lat)).length) (rlsC (opnS (listC l.length mkHit (hitsC l)) (⟨⟨g0, g1, g2⟩, g3, g4⟩ : Lat))))) ∧ (post (.tu [.c (.v (.bool (hasP (rlOf ((opnS (listC l.length mkHit (hitsC l)) (⟨⟨g0, g1, g2⟩, g3, g4⟩ : Lat)).length) (rlsC (opnS (listC l.length mkHit (hitsC l)) (⟨⟨g0, g1, g2⟩, g3, g4⟩ : Lat))))))), .c (.v (.int .i64 0))]))))))
def ann_flash_IsDouble : Ann := ⟨fun _ => none, fun _ => none, fun _ => [], I1, false, fun _ => none, fun _ => none⟩
theorem ev_flash_IsDouble (J : Inv) (l : List FHit) (g0 g1 g2 g3 g4 : Int) (post : DV → Prop) : evFn Tryz.prog tab Sf114 ann_flash_IsDouble J Tryz.f55 [.t (.c (.sl 7 l.length (hitsC l))), .t (.a [.v (.int .i64 g0), .v (.int .i64 g1), .v (.int .i64 g2), .v (.int .i64 g3), .v (.int .i64 g4)])] post = vc_flash_IsDouble l g0 g1 g2 g3 g4 post := by kernel_rfl
theorem fit_flash_IsDouble : okFn ann_flash_IsDouble Tryz.f55 = true := by kernel_rfl
theorem lp_flash_IsDouble (J : Inv) (post : DV → Prop) : AllG J (loopsFn Tryz.prog tab Sf114 ann_flash_IsDouble J Tryz.f55 post) = (True) := by kernel_rfl
theorem spec_flash_IsDouble (l : List FHit) (g0 g1 g2 g3 g4 : Int) : vc_flash_IsDouble l g0 g1 g2 g3 g4 (fun r => LeD r (.tu [.c (.v (.bool (dblB l (⟨⟨g0, g1, g2⟩, g3, g4⟩ : Lat)))), .c (.v (.int .i64 (bothE l (⟨⟨g0, g1, g2⟩, g3, g4⟩ : Lat))))])) := by
 unfold vc_flash_IsDouble
 simp only [hits_listC, rls_of]
 refine ⟨numsP_hits l, cond_i (fun h => ⟨by trivial, ?_⟩) (fun h => ?_)⟩
 ·have h : bothE l (⟨⟨g0, g1, g2⟩, g3, g4⟩ : Lat) ≠ 0 := by simpa using h
  rw [show dblB l (⟨⟨g0, g1, g2⟩, g3, g4⟩ : Lat) = false by unfold dblB; rw [decide_eq_false h]; rfl]
  exact LeD.refl _
 ·have h : bothE l (⟨⟨g0, g1, g2⟩, g3, g4⟩ : Lat) = 0 := by simpa using h
  have eV : vtxL (opnS l (⟨⟨g0, g1, g2⟩, g3, g4⟩ : Lat)) = vtxR l (⟨⟨g0, g1, g2⟩, g3, g4⟩ : Lat) := by rw [opnS_all h]; rfl
  rw [eV]
  refine ⟨⟨numsP_hits _, rlP_rls _, spOk_opn h⟩, cond_i (fun e => ?_) (fun e => ⟨⟨numsP_hits _, rlP_rls _, prOk_opn h⟩, ?_⟩)⟩
  ·have e := of_decide_eq_true e
   rw [show dblB l (⟨⟨g0, g1, g2⟩, g3, g4⟩ : Lat) = false by unfold dblB; rw [decide_eq_true h, decide_eq_false (show ¬ (vtxR l (⟨⟨g0, g1, g2⟩, g3, g4⟩ : Lat)).length = 0 by omega)]; rfl]
   exact LeD.refl _
  ·have e := of_decide_eq_false e
   rw [show dblB l (⟨⟨g0, g1, g2⟩, g3, g4⟩ : Lat) = hasP (allS l (⟨⟨g0, g1, g2⟩, g3, g4⟩ : Lat)) by unfold dblB; rw [decide_eq_true h, decide_eq_true (show (vtxR l (⟨⟨g0, g1, g2⟩, g3, g4⟩ : Lat)).length = 0 by omega)]; rfl, opnS_all h, h]
   exact LeD.refl _
def con_flash_IsDouble : Con := fun args => match args with
 | [.t (.c (.sl 7 n_l c_l)), .t (.a [.v (.int .i64 g0), .v (.int .i64 g1), .v (.int .i64 g2), .v (.int .i64 g3), .v (.int .i64 g4)])] => some (.tu [.c (.v (.bool (dblB (listC n_l mkHit c_l) (⟨⟨g0, g1, g2⟩, g3, g4⟩ : Lat)))), .c (.v (.int .i64 (bothE (listC n_l mkHit c_l) (⟨⟨g0, g1, g2⟩, g3, g4⟩ : Lat))))], some (numsP 7 n_l c_l), false)
 | _ => none
theorem ok_flash_IsDouble : Ok Tryz.prog 55 con_flash_IsDouble := by
 refine Ok.fn (ann := ann_flash_IsDouble) mixed tabOK VSf114 VI1 (fn := Tryz.f55) (by kernel_rfl) (by kernel_rfl) fit_flash_IsDouble fun args r pre fresh h hp => ?_
 unfold con_flash_IsDouble at h
 split at h
 ·rename_i n_l c_l g0 g1 g2 g3 g4
  cases h
  have hp0 := hp
  refine ⟨rfl, fun _ _ _ => False, [.t (.c (.sl 7 ((listC n_l mkHit c_l).length) (hitsC (listC n_l mkHit c_l)))), .t (.a [.v (.int .i64 g0), .v (.int .i64 g1), .v (.int .i64 g2), .v (.int .i64 g3), .v (.int .i64 g4)])], ?_, Nat.le_of_ble_eq_true (by kernel_rfl), ?_, ?_⟩
  ·exact (LeA_cons (leT_c ((leL_FHit hp0))) (LeA_cons (LeD.refl _) LeA_nil))
  ·rw [ev_flash_IsDouble]; exact spec_flash_IsDouble (listC n_l mkHit c_l) g0 g1 g2 g3 g4
  ·rw [lp_flash_IsDouble]; trivial
 ·cases h
noncomputable def Sf115 : Sum := addS Sf114 55 con_flash_IsDouble
theorem VSf115 : Valid Tryz.prog Sf115 := Valid.add VSf114 ok_flash_IsDouble
end Go.Proofs.YtdkpgodakmailaaGreatDoor
set_option linter.unusedVariables false
set_option linter.unusedSimpArgs false
namespace Go.Proofs.YtdkpgodakmailaaGreatDoor
open Go.RowKit Ev
theorem cntB_pos {f : Nat → Bool} {n j : Nat} (hj : j < n) (h : f j = true) : 0 < cntB f n := by
 unfold cntB
 have : j ∈ (List.range n).filter f := List.mem_filter.2 ⟨List.mem_range.2 hj, h⟩
 have := List.length_pos_of_mem this
 omega
theorem rg_ok {l : List FHit} {p : P3} (hl : okH l) {j : Nat} (hj : j < l.length) : (rgAt (sts l p) j).lo ≤ (rgAt (sts l p) j).hi := by
 rw [sts_at hj]
 have := hit_ok (hl.2.2 (hitAt l j) (by rw [show hitAt l j = l[j] by simp [hitAt, List.getD, hj]]; exact List.getElem_mem hj))
 unfold stR
 simp only
 omega
theorem rg_bd {l : List FHit} {x : Lat} {k : Nat} (hb : bothE l x = 0) (hk : k < x.sz.toNat) {s : Int} (h : losP (rlAt (allS l x) k) s) : -2000000000 ≤ s ∧ s ≤ 2000000000 := by
 obtain ⟨j, j1, j2⟩ := h
 have := (spOk_opn hb).2 k (by rw [opnS_all hb, allS_len]; exact hk)
 rw [opnS_all hb] at this
 have := this.2.2 (rgAt (rlAt (allS l x) k) j) (by rw [show rgAt (rlAt (allS l x) k) j = (rlAt (allS l x) k)[j] by simp [rgAt, List.getD, j1]]; exact List.getElem_mem j1)
 omega
theorem chk_ok {l : List FHit} {x : Lat} {i k : Nat} {s t : Int} (hb : bothE l x = 0) (hik : i ≤ k) (hk : k < x.sz.toNat) (hs : losP (rlAt (allS l x) i) s) (ht : losP (rlAt (allS l x) k) t) (ho : okT (rlAt (allS l x) i) (rlAt (allS l x) k) s t) :
  cpE l x i k s t = 0 ∧ 1 ≤ cpV l x i k s t ∧ cpV l x i k s t ≤ l.length := by
 have hl := okH_iff.1 (fn2 (show firstNZ [hitsE l, latE x] = 0 from hb)).1
 have b1 := rg_bd hb (by omega) hs
 have b2 := rg_bd hb hk ht
 have e0 : cpF x i k s t = 0 := by
  unfold cpF
  rw [inB_true.2 (by omega), inB_true.2 (by omega), inB_true.2 (by omega), inB_true.2 (by omega), decide_eq_true (by omega)]; rfl
 have eE : cpE l x i k s t = jdE (exF l x i s) (exF l x k t) l.length := (if_neg (by rw [hb]; simp)).trans (if_neg (by rw [e0]; simp))
 have eV : cpV l x i k s t = jdV (exF l x i s) (exF l x k t) l.length := (if_neg (by rw [hb]; simp)).trans (if_neg (by rw [e0]; simp))
 rw [rlAt_all (by omega)] at hs ho
 rw [rlAt_all hk] at ht ho
 have f1 : ∀ q : Nat, ∀ u : Int, ∀ j, j < l.length → exF l x q u j = hasB (rgAt (sts l (posAt x q)) j) u := fun q u j hj => by rw [sts_at hj]; rfl
 have s0 : scan (badB (exF l x i s) (exF l x k t)) l.length = 0 := scan_end fun j hj => by
  have := ho j (by rw [sts_len]; exact hj)
  unfold badB
  rw [f1 i s j hj, f1 k t j hj]
  rcases this with h | h <;> simp [h]
 have c1 : ∀ q : Nat, ∀ u, losP (sts l (posAt x q)) u → 0 < cntB (exF l x q u) l.length := fun q u ⟨j, j1, j2⟩ => by
  rw [sts_len] at j1
  refine cntB_pos j1 ?_
  rw [f1 q u j j1]
  have := rg_ok (p := posAt x q) hl j1
  exact hasB_iff.2 (by omega)
 have p1 := c1 i s hs
 have p2 := c1 k t ht
 have r1 := cntB_rg (exF l x i s) l.length
 have hn : ¬ (cntB (exF l x i s) l.length = 0 ∨ cntB (exF l x k t) l.length = 0) := by omega
 rw [eE, eV, show jdE (exF l x i s) (exF l x k t) l.length = _ from if_neg (by rw [s0]; simp), show jdV (exF l x i s) (exF l x k t) l.length = _ from if_neg (by rw [s0]; simp), if_neg hn, if_neg hn]
 omega
theorem pr_first {sp : List (List Rg)} {i k : Nat} {s t : Int} (hsp : prOk sp) (hik : i ≤ k) (hk : k < sp.length) (hs : losP (rlAt sp i) s) (ht : losP (rlAt sp k) t) (ho : okT (rlAt sp i) (rlAt sp k) s t) :
  hasP sp = true ∧ ∃ (i' k' : Nat) (s' t' : Int), prV sp = ⟨i', k', s', t'⟩ ∧ i' ≤ k' ∧ k' < sp.length ∧ losP (rlAt sp i') s' ∧ losP (rlAt sp k') t' ∧ okT (rlAt sp i') (rlAt sp k') s' t' ∧
   (([(i' : Int), (k' : Int), s', t'] : List Int) = [(i : Int), (k : Int), s, t] ∨ befL [(i' : Int), (k' : Int), s', t'] [(i : Int), (k : Int), s, t] = true) := by
 have hl := (prOk_tm hsp (show i < sp.length by omega) hk).1
 have hT := timF_ok hl
 obtain ⟨c1, c2⟩ := pr_code (i := i) hk
 have hb : prB sp (i * sp.length + k) = true := by
  unfold prB
  rw [c1, c2, decide_eq_true hik]
  cases hq : timF (rlAt sp i) (rlAt sp k) with
  | none => rw [hq] at hT; exact (hT s t hs ht ho).elim
  | some _ => rfl
 have hlt := pr_lt (n := sp.length) (i := i) (k := k) (by omega) hk
 have hle : prN sp ≤ i * sp.length + k := by
  rcases Nat.lt_or_ge (i * sp.length + k) (prN sp) with h | h
  ·exfalso
   unfold prN at h
   have := List.not_of_lt_findIdx h
   rw [List.getElem_range, hb] at this
   cases this
  ·exact h
 have hp : hasP sp = true := decide_eq_true (by omega)
 have hn : (List.range (sp.length * sp.length)).findIdx (prB sp) < (List.range (sp.length * sp.length)).length := by rw [List.length_range]; show prN sp < _; omega
 have hq : prB sp (prN sp) = true := by
  have := List.findIdx_getElem (w := hn)
  rw [List.getElem_range] at this
  exact this
 have hpos : 0 < sp.length := by omega
 have d2 : prN sp % sp.length < sp.length := Nat.mod_lt _ hpos
 have d1 : prN sp / sp.length < sp.length := by rw [Nat.div_lt_iff_lt_mul hpos]; omega
 have d0 := Nat.div_add_mod (prN sp) sp.length
 have hq2 := hq
 unfold prB at hq2
 rw [Bool.and_eq_true, decide_eq_true_eq] at hq2
 obtain ⟨q1, q2⟩ := hq2
 obtain ⟨⟨s', t'⟩, hst⟩ := Option.isSome_iff_exists.1 q2
 have hT2 := timF_ok (prOk_tm hsp d1 d2).1
 rw [hst] at hT2
 obtain ⟨g1, g2, g3, g4⟩ := hT2
 refine ⟨hp, prN sp / sp.length, prN sp % sp.length, s', t', ?_, q1, d2, g1, g2, g3, ?_⟩
 ·rw [show prV sp = _ from if_pos hp]
  unfold prT
  rw [hst]; rfl
 ·simp only [befL, Bool.or_eq_true, Bool.and_eq_true, decide_eq_true_eq, List.cons.injEq, and_true, Bool.or_false, Bool.and_false]
  generalize prN sp / sp.length = a at *
  generalize prN sp % sp.length = c at *
  rcases Nat.lt_trichotomy a i with h | h | h
  ·right; left; omega
  ·subst h
   have e1 : sp.length * a = a * sp.length := Nat.mul_comm _ _
   rcases Nat.lt_or_ge c k with h2 | h2
   ·right; right; exact ⟨rfl, Or.inl (by omega)⟩
   ·have : c = k := by omega
    subst this
    have := g4 s t hs ht ho
    rcases this with h3 | ⟨h3, h4⟩
    ·right; right; exact ⟨rfl, Or.inr ⟨rfl, Or.inl h3⟩⟩
    ·by_cases h5 : t' = t
     ·left; exact ⟨rfl, rfl, h3, h5⟩
     ·right; right; exact ⟨rfl, Or.inr ⟨rfl, Or.inr ⟨h3, by omega⟩⟩⟩
  ·exfalso
   have e1 : sp.length * a = a * sp.length := Nat.mul_comm _ _
   have := Nat.mul_le_mul_right sp.length (show i + 1 ≤ a by omega)
   rw [Nat.add_mul, Nat.one_mul] at this
   omega
theorem two_law {x : Lat} {L : List FHit} {i k : Nat} {s t : Int} (hb : bothE L x = 0) (hik : i ≤ k) (hk : k < x.sz.toNat) (hs : losP (rlAt (allS L x) i) s) (ht : losP (rlAt (allS L x) k) t) (ho : okT (rlAt (allS L x) i) (rlAt (allS L x) k) s t) :
  pairE L x = 0 ∧ (cpE L x (prO L x).a (prO L x).b (prO L x).s (prO L x).t = 0 ∧ 1 ≤ cpV L x (prO L x).a (prO L x).b (prO L x).s (prO L x).t ∧ cpV L x (prO L x).a (prO L x).b (prO L x).s (prO L x).t ≤ L.length) ∧ dblB L x = decide ((vtxR L x).length = 0) ∧
  (([(prO L x).a, (prO L x).b, (prO L x).s, (prO L x).t] : List Int) = [(i : Int), (k : Int), s, t] ∨ befL [(prO L x).a, (prO L x).b, (prO L x).s, (prO L x).t] [(i : Int), (k : Int), s, t] = true) ∧ (cpE L x i k s t = 0 ∧ 1 ≤ cpV L x i k s t) := by
 have hsp := prOk_opn hb
 rw [opnS_all hb] at hsp
 obtain ⟨hp, i', k', s', t', e, g1, g2, g3, g4, g5, g6⟩ := pr_first hsp hik (by rw [allS_len]; exact hk) hs ht ho
 rw [allS_len] at g2
 have eO : prO L x = ⟨i', k', s', t'⟩ := (if_pos hb).trans e
 have c1 := chk_ok hb g1 g2 g3 g4 g5
 have c2 := chk_ok hb hik hk hs ht ho
 refine ⟨?_, by rw [eO]; exact c1, ?_, by rw [eO]; exact g6, c2.1, c2.2.1⟩
 ·unfold pairE
  rw [if_neg (by rw [hb]; simp), hp]; rfl
 ·unfold dblB
  rw [decide_eq_true hb, hp]; simp
end Go.Proofs.YtdkpgodakmailaaGreatDoor
set_option linter.unusedVariables false
set_option linter.unusedSimpArgs false
namespace Go.Proofs.YtdkpgodakmailaaGreatDoor
open Go.RowKit
section
variable {H : Type} {enc : TypeId × Value → H} {P : Program} {w : World} {base : Nat} {spare : Nat → Bool} {held : Bool}
theorem cell_lt {w : World} {a : Addr} {v : Value} (h : w.cell? a = some v) : a.block < w.heap.size := by
 unfold World.cell? at h
 cases e : w.heap[a.block]? with
 | none => simp [e] at h
 | some o => exact (Array.getElem?_eq_some_iff.1 e).1
theorem list_of {α : Type} (d : α) : ∀ (n : Nat) {R : Nat → α → Prop}, (∀ i, i < n → ∃ x, R i x) → ∃ l : List α, l.length = n ∧ ∀ i, i < n → R i (l.getD i d) := by
 intro n
 induction n with
 | zero => intro R _; exact ⟨[], rfl, fun i hi => absurd hi (by omega)⟩
 | succ n ih =>
  intro R h
  obtain ⟨l, hl, hr⟩ := ih (fun i hi => h i (by omega))
  obtain ⟨x, hx⟩ := h n (by omega)
  refine ⟨l ++ [x], by simp [hl], fun i hi => ?_⟩
  rcases Nat.lt_or_ge i n with h1 | h1
  ·have : (l ++ [x]).getD i d = l.getD i d := by simp [List.getD, List.getElem?_append_left (show i < l.length by omega)]
   rw [this]; exact hr i h1
  ·have e : i = n := by omega
   subst e
   have : (l ++ [x]).getD i d = x := by rw [← hl]; simp [List.getD]
   rw [this]; exact hx
theorem SlAt.congr {w : World} {v : Value} {n sz : Nat} {c d : Nat → Nat → Value} (h : SlAt w v n sz c) (e : ∀ i j, i < n → j < sz → c i j = d i j) : SlAt w v n sz d := by
 obtain ⟨ao, cap, rfl, h1, h2, h3, h4⟩ := h
 refine ⟨ao, cap, rfl, h1, h2, fun h0 => ?_, h4⟩
 obtain ⟨b, off, e1, hlt, hc⟩ := h3 h0
 exact ⟨b, off, e1, hlt, fun i j hi hj => by rw [hc i j hi hj, e i j hi hj]⟩
theorem slAt_of_trod {t e : TypeId} {sz fuel : Nat} {v : Value} {x : DataW H × List MemPlace} (ht : P.underlying t = some (.slice e)) (hc : P.cellsOf e = sz) (hsz : 0 < sz)
  (h : DataW.trod enc P w base spare held fuel t [v] = some x) :
  ∃ (n : Nat) (css : Nat → List Value), SlAt w v n sz (fun i j => (css i).getD j undef) ∧ ∀ i, i < n → (css i).length = sz ∧ ∃ m y, DataW.trod enc P w base spare held m e (css i) = some y := by
 rcases DataW.trod_slice ht h with ⟨h0, _⟩ | ⟨a, len, cap, elems, rest, m, _, h0, _, hb, hl, hm, hlen, hel, _, _⟩
 ·obtain rfl : v = .slice none 0 0 := by simpa using h0
  exact ⟨0, fun _ => [], ⟨none, 0, rfl, by simp, by simp, fun h => absurd h (by omega), fun _ => rfl⟩, fun i hi => absurd hi (by omega)⟩
 ·obtain rfl : v = .slice (some a) len cap := by simpa using h0
  have each : ∀ i, i < len → ∃ cs : List Value, w.cells? base (a.add (i * sz)) sz = some cs ∧ ∃ y, DataW.trod enc P w base spare held m e cs = some y := by
   intro i hi
   have h1 := hel i hi
   rw [hc] at h1
   have h2 : elems[i]? = some elems[i] := by simp
   rw [h2, Option.bind_eq_some_iff] at h1
   obtain ⟨cs, h3, h4⟩ := h1
   exact ⟨cs, h3, _, h4⟩
  obtain ⟨css, hcl, hcs⟩ := list_of ([] : List Value) len each
  have hcell : ∀ i j, i < len → j < sz → w.cell? ((a.add (i * sz)).add j) = some ((css.getD i []).getD j undef) := by
   intro i j hi hj
   obtain ⟨_, h2, h3⟩ := World.cells?_some (hcs i hi).1
   rw [h3 j hj]
   generalize css.getD i [] = c at h2 ⊢
   rw [List.getElem?_eq_getElem (by omega)]
   simp [List.getD, List.getElem?_eq_getElem (show j < c.length by omega)]
  refine ⟨len, fun i => css.getD i [], ⟨some a, cap, rfl, hl, hm, fun hp => ?_, fun h => by cases h⟩, fun i hi => ⟨(World.cells?_some (hcs i hi).1).2.1, m, (hcs i hi).2⟩⟩
  obtain ⟨b, off, spot⟩ := a
  have hspot : spot = none := by simpa [Addr.add] using World.cell?_spot (hcell 0 0 hp hsz)
  subst hspot
  refine ⟨b, off, rfl, by simpa [Addr.add] using cell_lt (hcell 0 0 hp hsz), fun i j hi hj => ?_⟩
  have := hcell i j hi hj
  rw [add_plain', add_plain'] at this
  exact this
end
end Go.Proofs.YtdkpgodakmailaaGreatDoor
set_option linter.unusedVariables false
set_option linter.unusedSimpArgs false
namespace Go.Proofs.YtdkpgodakmailaaGreatDoor.Ev
open Go.RowKit
inductive CK where
 | int (k : IntKind)
 | bool
 | str
 | sl (e : TypeId)
def findF (P : Program) (go : TypeId → Nat → Option CK) (j : Nat) : List Field → Option CK
 | [] => none
 | f :: l => bif Nat.ble f.offset j && Nat.blt j (f.offset + P.cellsOf f.type) then go f.type (j - f.offset) else findF P go j l
def kindAt (P : Program) : Nat → TypeId → Nat → Option CK
 | 0, _, _ => none
 | k + 1, t, j => match P.underlying t with
  | some (.int ik) => bif Nat.beq j 0 then some (.int ik) else none
  | some .bool => bif Nat.beq j 0 then some .bool else none
  | some .string => bif Nat.beq j 0 then some .str else none
  | some (.slice e) => bif Nat.beq j 0 then some (.sl e) else none
  | some (.array n e) => bif Nat.blt j (n * P.cellsOf e) then kindAt P k e (j % P.cellsOf e) else none
  | some (.struct fs) => findF P (kindAt P k) j fs.toList
  | _ => none
def kindB (P : Program) : Nat → TypeId → Bool
 | 0, _ => false
 | d + 1, t => (List.range (P.cellsOf t)).all fun j => match kindAt P 20 t j with
  | some (.sl e) => Nat.blt 0 (P.cellsOf e) && kindB P d e
  | some _ => true
  | none => false
def okK (P : Program) : Nat → CK → CV → Prop
 | _, .int ik, c => ∃ n, c = .v (.int ik n) ∧ (Lit.int ik n).wf = true
 | _, .bool, c => ∃ b, c = .v (.bool b)
 | _, .str, c => ∃ s, c = .v (.string s) ∧ s.size ≤ maxLen
 | 0, .sl e, c => False
 | d + 1, .sl e, c => ∃ n cc, c = .sl (P.cellsOf e) n cc ∧ n ≤ maxLen ∧ ∀ i j, i < n → j < P.cellsOf e → ∃ κ, kindAt P 20 e j = some κ ∧ okK P d κ (cc i j)
section
variable {H : Type} {enc : TypeId × Value → H} {P : Program} {w : World} {base : Nat} {spare : Nat → Bool} {held : Bool}
def leaf (H : Type) (enc : TypeId × Value → H) (P : Program) (w : World) (base : Nat) (spare : Nat → Bool) (held : Bool) : CK → Value → Prop
 | .int ik, u => ∃ n, u = .int ik n ∧ (Lit.int ik n).wf = true
 | .bool, u => ∃ b, u = .bool b
 | .str, u => ∃ s : ByteArray, u = .string s ∧ s.size ≤ maxLen
 | .sl e, u => ∃ t m y, P.underlying t = some (.slice e) ∧ DataW.trod enc P w base spare held m t [u] = some y
theorem leaf_of : ∀ (k : Nat) (t : TypeId) (fuel : Nat) (cs : List Value) (x : DataW H × List MemPlace) (j : Nat) (κ : CK), kindAt P k t j = some κ → DataW.trod enc P w base spare held fuel t cs = some x → ∃ u, cs[j]? = some u ∧ leaf H enc P w base spare held κ u := by
 intro k
 induction k with
 | zero => intro t fuel cs x j κ h; cases h
 | succ k ih =>
  intro t fuel cs x j κ hk h
  unfold kindAt at hk
  have zero : ∀ {κ' : CK}, (bif Nat.beq j 0 then some κ' else none) = some κ → j = 0 ∧ κ' = κ := by
   intro κ' e
   cases hb : Nat.beq j 0 with
   | false => rw [hb] at e; cases e
   | true => rw [hb] at e; cases e; exact ⟨Nat.eq_of_beq_eq_true hb, rfl⟩
  split at hk
  ·rename_i ik ht
   obtain ⟨rfl, rfl⟩ := zero hk
   obtain ⟨n, rfl, _, h2⟩ := DataW.trod_int ht h
   exact ⟨_, rfl, n, rfl, h2⟩
  ·rename_i ht
   obtain ⟨rfl, rfl⟩ := zero hk
   obtain ⟨b, rfl, _⟩ := DataW.trod_bool ht h
   exact ⟨_, rfl, b, rfl⟩
  ·rename_i ht
   obtain ⟨rfl, rfl⟩ := zero hk
   obtain ⟨s, rfl, _, h2⟩ := DataW.trod_string ht h
   exact ⟨_, rfl, s, rfl, h2⟩
  ·rename_i e ht
   obtain ⟨rfl, rfl⟩ := zero hk
   rcases DataW.trod_slice ht h with ⟨rfl, _⟩ | ⟨a, len, cap, elems, rest, m, _, rfl, _⟩
   ·exact ⟨_, rfl, t, fuel, x, ht, h⟩
   ·exact ⟨_, rfl, t, fuel, x, ht, h⟩
  ·rename_i n e ht
   cases hb : Nat.blt j (n * P.cellsOf e) with
   | false => rw [hb] at hk; cases hk
   | true =>
    rw [hb] at hk
    simp only [cond_true] at hk
    have hj : j < n * P.cellsOf e := Nat.le_of_ble_eq_true hb
    have hpos : 0 < P.cellsOf e := by
     rcases Nat.eq_zero_or_pos (P.cellsOf e) with q | q
     ·rw [q, Nat.mul_zero] at hj; omega
     ·exact q
    obtain ⟨xs, m, _, _, hl, hxs, hf⟩ := DataW.trod_array ht h
    have hi : j / P.cellsOf e < n := Nat.div_lt_of_lt_mul (by rwa [Nat.mul_comm])
    have h5 := hf _ hi
    rw [show xs[j / P.cellsOf e]? = some xs[j / P.cellsOf e] from List.getElem?_eq_getElem (by omega)] at h5
    obtain ⟨u, h6, h7⟩ := ih e _ _ _ _ _ hk h5
    refine ⟨u, ?_, h7⟩
    rw [List.getElem?_take, if_pos (Nat.mod_lt _ hpos), List.getElem?_drop] at h6
    rwa [Nat.div_add_mod' j (P.cellsOf e)] at h6
  ·rename_i fs ht
   obtain ⟨xs, m, _, _, hl, hxs, hf⟩ := DataW.trod_struct ht h
   have find : ∀ l : List Field, (∀ f ∈ l, ∃ i : Nat, fs[i]? = some f) → findF P (kindAt P k) j l = some κ → ∃ (f : Field) (i : Nat), fs[i]? = some f ∧ f.offset ≤ j ∧ j < f.offset + P.cellsOf f.type ∧ kindAt P k f.type (j - f.offset) = some κ := by
    intro l
    induction l with
    | nil => intro _ h; cases h
    | cons f l ihl =>
     intro hm h
     unfold findF at h
     cases hb : (Nat.ble f.offset j && Nat.blt j (f.offset + P.cellsOf f.type)) with
     | false => rw [hb] at h; exact ihl (fun g hg => hm g (by simp [hg])) h
     | true =>
      rw [hb] at h
      simp only [Bool.and_eq_true] at hb
      obtain ⟨i, hi⟩ := hm f (by simp)
      exact ⟨f, i, hi, Nat.le_of_ble_eq_true hb.1, Nat.le_of_ble_eq_true hb.2, h⟩
   obtain ⟨f, i, hi, h1, h2, h3⟩ := find fs.toList (fun f hf => by
    obtain ⟨i, hi, e⟩ := List.getElem_of_mem hf
    exact ⟨i, by rw [← e]; simp at hi ⊢⟩) hk
   have h5 := hf i f hi
   have hlt : i < fs.size := by
    rcases Nat.lt_or_ge i fs.size with q | q
    ·exact q
    ·rw [Array.getElem?_eq_none q] at hi; cases hi
   rw [show xs[i]? = some xs[i] from List.getElem?_eq_getElem (by omega)] at h5
   obtain ⟨u, h6, h7⟩ := ih _ _ _ _ _ _ h3 h5
   refine ⟨u, ?_, h7⟩
   rw [List.getElem?_take, if_pos (by omega), List.getElem?_drop] at h6
   rwa [show f.offset + (j - f.offset) = j by omega] at h6
  ·cases hk
theorem open_cell : ∀ (d : Nat) (t : TypeId) (fuel : Nat) (cs : List Value) (x : DataW H × List MemPlace), kindB P d t = true → DataW.trod enc P w base spare held fuel t cs = some x → ∀ j, j < P.cellsOf t → ∃ κ c u, kindAt P 20 t j = some κ ∧ cs[j]? = some u ∧ RelF w (fun _ => True) c u ∧ okK P d κ c := by
 intro d
 induction d with
 | zero => intro t fuel cs x h; cases h
 | succ d ih =>
  intro t fuel cs x hB h j hj
  have hB' := hB
  unfold kindB at hB
  have h1 := List.all_eq_true.1 hB j (List.mem_range.2 hj)
  cases hk : kindAt P 20 t j with
  | none => rw [hk] at h1; cases h1
  | some κ =>
   rw [hk] at h1
   obtain ⟨u, h2, h3⟩ := leaf_of 20 t fuel cs x j κ hk h
   cases κ with
   | int ik =>
    obtain ⟨n, rfl, hw⟩ := h3
    exact ⟨_, .v (.int ik n), _, rfl, h2, ⟨rfl, rfl⟩, by simp only [okK]; exact ⟨n, rfl, hw⟩⟩
   | bool =>
    obtain ⟨b, rfl⟩ := h3
    exact ⟨_, .v (.bool b), _, rfl, h2, ⟨rfl, rfl⟩, by simp only [okK]; exact ⟨b, rfl⟩⟩
   | str =>
    obtain ⟨s, rfl, hs⟩ := h3
    exact ⟨_, .v (.string s), _, rfl, h2, ⟨rfl, rfl⟩, by simp only [okK]; exact ⟨s, rfl, hs⟩⟩
   | sl e =>
    simp only [Bool.and_eq_true] at h1
    have hpos : 0 < P.cellsOf e := Nat.le_of_ble_eq_true h1.1
    obtain ⟨t', m, y, ht, hy⟩ := h3
    obtain ⟨n, css, ⟨ao, cap, rfl, g1, g2, g3, g4⟩, hel⟩ := slAt_of_trod ht rfl hpos hy
    have each : ∀ i j, i < n → j < P.cellsOf e → ∃ c : CV, ∃ κ u, kindAt P 20 e j = some κ ∧ (css i)[j]? = some u ∧ RelF w (fun _ => True) c u ∧ okK P d κ c := by
     intro i j hi hj
     obtain ⟨_, m', y', h6⟩ := hel i hi
     obtain ⟨κ, c, u, q⟩ := ih e m' (css i) y' h1.2 h6 j hj
     exact ⟨c, κ, u, q⟩
    classical
    let cc : Nat → Nat → CV := fun i j => if h : i < n ∧ j < P.cellsOf e then Classical.choose (each i j h.1 h.2) else .v (.bool false)
    have hcc : ∀ i j, i < n → j < P.cellsOf e → ∃ κ u, kindAt P 20 e j = some κ ∧ (css i)[j]? = some u ∧ RelF w (fun _ => True) (cc i j) u ∧ okK P d κ (cc i j) := by
     intro i j hi hj
     have : cc i j = Classical.choose (each i j hi hj) := dif_pos ⟨hi, hj⟩
     rw [this]
     exact Classical.choose_spec (each i j hi hj)
    refine ⟨_, .sl (P.cellsOf e) n cc, _, rfl, h2, ⟨ao, cap, rfl, g1, g2, g4, fun h0 => ?_⟩, by
     simp only [okK]
     exact ⟨n, cc, rfl, Nat.le_trans g1 g2, fun i j hi hj => by obtain ⟨κ, u, q1, _, _, q4⟩ := hcc i j hi hj; exact ⟨κ, q1, q4⟩⟩⟩
    obtain ⟨b, off, e1, hlt, hc⟩ := g3 h0
    refine ⟨b, off, e1, hlt, trivial, fun i j hi hj => ?_⟩
    obtain ⟨κ, u, q1, q2, q3, _⟩ := hcc i j hi hj
    refine ⟨u, ?_, q3⟩
    rw [hc i j hi hj]
    simp [List.getD, q2]
theorem open_cells {d : Nat} {t : TypeId} {fuel : Nat} {cs : List Value} {x : DataW H × List MemPlace} (hB : kindB P d t = true) (hl : cs.length = P.cellsOf t) (h : DataW.trod enc P w base spare held fuel t cs = some x) :
  ∃ l : List CV, l.length = P.cellsOf t ∧ All2 (RelF w (fun _ => True)) l cs ∧ ∀ j, j < P.cellsOf t → ∃ κ, kindAt P 20 t j = some κ ∧ okK P d κ (l.getD j (.v (.bool false))) := by
 have each := open_cell d t fuel cs x hB h
 obtain ⟨l, h1, h2⟩ := list_of (CV.v (.bool false)) (P.cellsOf t) (R := fun j c => ∃ κ u, kindAt P 20 t j = some κ ∧ cs[j]? = some u ∧ RelF w (fun _ => True) c u ∧ okK P d κ c) (fun j hj => by obtain ⟨κ, c, u, q⟩ := each j hj; exact ⟨c, κ, u, q⟩)
 refine ⟨l, h1, All2.of_get (by omega) fun i a b ha hb => ?_, fun j hj => ?_⟩
 ·have hi : i < P.cellsOf t := by
   rcases Nat.lt_or_ge i l.length with q | q
   ·omega
   ·rw [List.getElem?_eq_none q] at ha; cases ha
  obtain ⟨κ, u, _, q2, q3, _⟩ := h2 i hi
  rw [hb] at q2
  cases q2
  rw [show l.getD i (.v (.bool false)) = a by simp [List.getD, ha]] at q3
  exact q3
 ·obtain ⟨κ, u, q1, _, _, q4⟩ := h2 j hj
  exact ⟨κ, q1, q4⟩
theorem open_agg {d : Nat} {t : TypeId} {cs : Array Value} {y : DataW H} {ps : List MemPlace} (hB : kindB P d t = true) (hl : cs.size = P.cellsOf t) (h : DataW.Trod enc P w base spare held t (.agg cs) y ps) :
  ∃ l : List CV, l.length = P.cellsOf t ∧ All2 (RelF w (fun _ => True)) l cs.toList ∧ ∀ j, j < P.cellsOf t → ∃ κ, kindAt P 20 t j = some κ ∧ okK P d κ (l.getD j (.v (.bool false))) := by
 obtain ⟨fuel, hf⟩ := h
 exact open_cells hB (by simpa using hl) (by simpa [Value.cells] using hf)
end
theorem open_i64 {P : Program} {d : Nat} {t : TypeId} {j : Nat} {c : CV} (hk : kindAt P 20 t j = some (.int .i64)) (h : ∃ κ, kindAt P 20 t j = some κ ∧ okK P d κ c) : ∃ n : Int, c = .v (.int .i64 n) ∧ -9223372036854775808 ≤ n ∧ n ≤ 9223372036854775807 := by
 obtain ⟨κ, h1, h2⟩ := h
 rw [hk] at h1
 cases h1
 have h3 : ∃ n, c = .v (.int .i64 n) ∧ (Lit.int .i64 n).wf = true := by cases d <;> exact h2
 obtain ⟨n, e, hw⟩ := h3
 have := bounds_i64 hw
 exact ⟨n, e, this.1, this.2⟩
theorem open_sl {P : Program} {d : Nat} {t e : TypeId} {j : Nat} {c : CV} (hk : kindAt P 20 t j = some (.sl e)) (h : ∃ κ, kindAt P 20 t j = some κ ∧ okK P (d + 1) κ c) : ∃ n cc, c = .sl (P.cellsOf e) n cc ∧ n ≤ maxLen ∧ ∀ i j, i < n → j < P.cellsOf e → ∃ κ, kindAt P 20 e j = some κ ∧ okK P d κ (cc i j) := by
 obtain ⟨κ, h1, h2⟩ := h
 rw [hk] at h1
 cases h1
 exact h2
def allI (P : Program) (e : TypeId) : Bool := (List.range (P.cellsOf e)).all fun j => match kindAt P 20 e j with
 | some (.int .i64) => true
 | _ => false
theorem nums_of {P : Program} {d : Nat} {e : TypeId} {n : Nat} {cc : Nat → Nat → CV} (hk : allI P e = true) (h : ∀ i j, i < n → j < P.cellsOf e → ∃ κ, kindAt P 20 e j = some κ ∧ okK P d κ (cc i j)) : numsP (P.cellsOf e) n cc := by
 intro i j hi hj
 have h1 := List.all_eq_true.1 hk j (List.mem_range.2 hj)
 split at h1
 ·rename_i hq
  obtain ⟨m, e1, _⟩ := open_i64 hq (h i j hi hj)
  rw [e1]; rfl
 ·cases h1
end Go.Proofs.YtdkpgodakmailaaGreatDoor.Ev
namespace Go.Proofs
open Go.Shelf
def Tryz.lays156_ren : Go.Shelf.Ren := ⟨fun | 156 => 87 | 165 => 135 | 166 => 136 | 169 => 137 | 240 => 167 | 241 => 168 | 276 => 188 | 277 => 189 | n => n, fun | 31 => 144 | 9 => 9 | 3 => 3 | 4 => 4 | 0 => 0 | 20 => 20 | 72 => 194 | 76 => 176 | 70 => 191 | 37 => 192 | 75 => 175 | 127 => 223 | 164 => 242 | 5 => 5 | 80 => 196 | n => n, fun | n => n⟩
theorem Tryz.lays156 : Go.Proofs.Lays.n156 Tryz.prog Tryz.lays156_ren := {
 mixed := by kernel_rfl
 f156 := Tryz.func87.trans (congrArg some (by kernel_rfl))
 f165 := Tryz.func135.trans (congrArg some (by kernel_rfl))
 f166 := Tryz.func136.trans (congrArg some (by kernel_rfl))
 f169 := Tryz.func137.trans (congrArg some (by kernel_rfl))
 f240 := Tryz.func167.trans (congrArg some (by kernel_rfl))
 f241 := Tryz.func168.trans (congrArg some (by kernel_rfl))
 f276 := Tryz.func188.trans (congrArg some (by kernel_rfl))
 f277 := Tryz.func189.trans (congrArg some (by kernel_rfl))
 t0 := Tryz.underlying0
 a0 := Tryz.isAgg0
 z0 := Tryz.sizeOf0
 v0 := Tryz.zeroValue0
 t3 := Tryz.underlying3
 a3 := Tryz.isAgg3
 z3 := Tryz.sizeOf3
 v3 := Tryz.zeroValue3
 t4 := Tryz.underlying4
 a4 := Tryz.isAgg4
 z4 := Tryz.sizeOf4
 v4 := Tryz.zeroValue4
 t9 := Tryz.underlying9
 a9 := Tryz.isAgg9
 z9 := Tryz.sizeOf9
 v9 := Tryz.zeroValue9
 t20 := Tryz.underlying20
 a20 := Tryz.isAgg20
 z20 := Tryz.sizeOf20
 v20 := Tryz.zeroValue20
 t31 := Tryz.underlying144
 a31 := Tryz.isAgg144
 z31 := Tryz.sizeOf144
 v31 := Tryz.zeroValue144
 t37 := Tryz.underlying192
 a37 := Tryz.isAgg192
 z37 := Tryz.sizeOf192
 v37 := Tryz.zeroValue192
 t70 := Tryz.underlying191
 a70 := Tryz.isAgg191
 z70 := Tryz.sizeOf191
 v70 := Tryz.zeroValue191
 t72 := Tryz.underlying194
 a72 := Tryz.isAgg194
 z72 := Tryz.sizeOf194
 v72 := Tryz.zeroValue194
 t75 := Tryz.underlying175
 a75 := Tryz.isAgg175
 z75 := Tryz.sizeOf175
 v75 := Tryz.zeroValue175
 t76 := Tryz.underlying176
 a76 := Tryz.isAgg176
 z76 := Tryz.sizeOf176
 v76 := Tryz.zeroValue176
 t127 := Tryz.underlying223
 a127 := Tryz.isAgg223
 z127 := Tryz.sizeOf223
 v127 := Tryz.zeroValue223
 t164 := Tryz.underlying242
 a164 := Tryz.isAgg242
 z164 := Tryz.sizeOf242
 v164 := Tryz.zeroValue242 }
theorem Tryz.Builder_Extra_156 : Builder.Extra Tryz.prog Tryz.lays156_ren := {
 sizeBuilder := by kernel_rfl
 liesBuilder := by kernel_rfl
 t5 := Tryz.underlying5
 a5 := Tryz.isAgg5
 z5 := Tryz.sizeOf5
 v5 := Tryz.zeroValue5
 infoByte := by kernel_rfl
 cellsByte := by kernel_rfl
 sizeByte := by kernel_rfl
 neB5 := by decide }
open Go.RowKit in
theorem Tryz.strings_Join_none (a : Option Addr) (c : Nat) (sep : ByteArray) (w : World) :
  Calls Tryz.prog 87 #[.slice a 0 c, .string sep] w fun e w' => e = .returned (.string ⟨#[]⟩) ∧ w' = w := Any.strings_Join_none Tryz.lays156 Tryz.Builder_Extra_156 a c sep w
open Go.RowKit in
theorem Tryz.strings_Join (bk o c : Nat) (xs : List ByteArray) (sep : ByteArray) (w : World) (hcells : ∀ (j : Nat) x, xs[j]? = some x → w.cell? ⟨bk, o + j, none⟩ = some (.string x)) (hbk : bk < w.heap.size) (hN : xs.length ≤ 140737488355328) (hcap : xs.length ≤ c) (hlen : (Lib.join (xs.map (·.data.toList)) sep.data.toList).length ≤ 140737488355328) :
  Calls Tryz.prog 87 #[.slice (some ⟨bk, o, none⟩) xs.length c, .string sep] w fun e w' => e = .returned (.string ⟨(Lib.join (xs.map (·.data.toList)) sep.data.toList).toArray⟩) ∧ Below w.heap.size w w' := Any.strings_Join Tryz.lays156 Tryz.Builder_Extra_156 bk o c xs sep w hcells hbk hN hcap hlen
def Tryz.laysM171_ren : Go.Shelf.Ren := ⟨fun | 171 => 115 | 243 => 155 | 246 => 183 | 283 => 199 | 284 => 200 | 285 => 201 | 286 => 202 | 129 => 210 | 317 => 209 | 318 => 211 | 319 => 212 | 320 => 165 | 337 => 185 | 338 => 186 | n => n, fun | 3 => 3 | 9 => 9 | 2 => 2 | 4 => 4 | 171 => 257 | 0 => 0 | 53 => 241 | 37 => 192 | 5 => 5 | 173 => 259 | 212 => 271 | 51 => 239 | 20 => 20 | 213 => 272 | 46 => 189 | 232 => 261 | 233 => 262 | n => n, fun | 17 => 7 | 18 => 5 | 19 => 6 | n => n⟩
theorem Tryz.laysM171 : Go.Proofs.LaysM.n171 Tryz.prog Tryz.laysM171_ren := {
 mixed := by kernel_rfl
 f129 := Tryz.func210.trans (congrArg some (by kernel_rfl))
 f171 := Tryz.func115.trans (congrArg some (by kernel_rfl))
 f243 := Tryz.func155.trans (congrArg some (by kernel_rfl))
 f246 := Tryz.func183.trans (congrArg some (by kernel_rfl))
 f283 := Tryz.func199.trans (congrArg some (by kernel_rfl))
 f284 := Tryz.func200.trans (congrArg some (by kernel_rfl))
 f285 := Tryz.func201.trans (congrArg some (by kernel_rfl))
 f286 := Tryz.func202.trans (congrArg some (by kernel_rfl))
 f317 := Tryz.func209.trans (congrArg some (by kernel_rfl))
 f318 := Tryz.func211.trans (congrArg some (by kernel_rfl))
 f319 := Tryz.func212.trans (congrArg some (by kernel_rfl))
 f320 := Tryz.func165.trans (congrArg some (by kernel_rfl))
 f337 := Tryz.func185.trans (congrArg some (by kernel_rfl))
 f338 := Tryz.func186.trans (congrArg some (by kernel_rfl))
 t0 := Tryz.underlying0
 a0 := Tryz.isAgg0
 z0 := Tryz.sizeOf0
 v0 := Tryz.zeroValue0
 t2 := Tryz.underlying2
 a2 := Tryz.isAgg2
 z2 := Tryz.sizeOf2
 v2 := Tryz.zeroValue2
 t3 := Tryz.underlying3
 a3 := Tryz.isAgg3
 z3 := Tryz.sizeOf3
 v3 := Tryz.zeroValue3
 t4 := Tryz.underlying4
 a4 := Tryz.isAgg4
 z4 := Tryz.sizeOf4
 v4 := Tryz.zeroValue4
 t5 := Tryz.underlying5
 a5 := Tryz.isAgg5
 z5 := Tryz.sizeOf5
 v5 := Tryz.zeroValue5
 t9 := Tryz.underlying9
 a9 := Tryz.isAgg9
 z9 := Tryz.sizeOf9
 v9 := Tryz.zeroValue9
 t20 := Tryz.underlying20
 a20 := Tryz.isAgg20
 z20 := Tryz.sizeOf20
 v20 := Tryz.zeroValue20
 t37 := Tryz.underlying192
 a37 := Tryz.isAgg192
 z37 := Tryz.sizeOf192
 v37 := Tryz.zeroValue192
 t46 := Tryz.underlying189
 a46 := Tryz.isAgg189
 z46 := Tryz.sizeOf189
 v46 := Tryz.zeroValue189
 t51 := Tryz.underlying239
 a51 := Tryz.isAgg239
 z51 := Tryz.sizeOf239
 v51 := Tryz.zeroValue239
 t53 := Tryz.underlying241
 a53 := Tryz.isAgg241
 z53 := Tryz.sizeOf241
 v53 := Tryz.zeroValue241
 t171 := Tryz.underlying257
 a171 := Tryz.isAgg257
 z171 := Tryz.sizeOf257
 v171 := Tryz.zeroValue257
 t173 := Tryz.underlying259
 a173 := Tryz.isAgg259
 z173 := Tryz.sizeOf259
 v173 := Tryz.zeroValue259
 t212 := Tryz.underlying271
 a212 := Tryz.isAgg271
 z212 := Tryz.sizeOf271
 v212 := Tryz.zeroValue271
 t213 := Tryz.underlying272
 a213 := Tryz.isAgg272
 z213 := Tryz.sizeOf272
 t232 := Tryz.underlying261
 a232 := Tryz.isAgg261
 z232 := Tryz.sizeOf261
 v232 := Tryz.zeroValue261
 t233 := Tryz.underlying262
 a233 := Tryz.isAgg262
 z233 := Tryz.sizeOf262
 v233 := Tryz.zeroValue262
 g17 := by kernel_rfl
 g18 := by kernel_rfl
 g19 := by kernel_rfl
 i0 := by kernel_rfl
 i2 := by kernel_rfl
 i3 := by kernel_rfl
 i4 := by kernel_rfl
 i5 := by kernel_rfl
 i9 := by kernel_rfl
 i20 := by kernel_rfl
 i37 := by kernel_rfl
 i46 := by kernel_rfl
 i51 := by kernel_rfl
 i53 := by kernel_rfl
 i171 := by kernel_rfl
 i173 := by kernel_rfl
 i212 := by kernel_rfl
 i232 := by kernel_rfl
 i233 := by kernel_rfl
 m17 := by kernel_rfl
 m18 := by kernel_rfl
 m19 := by kernel_rfl }
open Go.RowKit Go.Sort Go.Lib in
theorem Tryz.strconv_Itoa (n : Int) (h0 : -9223372036854775808 ≤ n) (h1 : n ≤ 9223372036854775807) (w : World) (htab : Lib.TabIs Tryz.prog w "internal/strconv.uint64pow10" .u64 Lib.pow10Tab) :
  Calls Tryz.prog 115 #[.int .i64 n] w fun e w' => e = .returned (.string ⟨(Lib.itoa n).toArray⟩) ∧ ∃ k os, w' = grow (w.drewN k) os := Any.strconv_Itoa Tryz.laysM171 n h0 h1 w htab
def Tryz.laysC172_ren : Go.Shelf.Ren := ⟨fun | 172 => 114 | 244 => 153 | 245 => 154 | 247 => 178 | 279 => 179 | 280 => 180 | 281 => 181 | 282 => 182 | 287 => 196 | 316 => 197 | 171 => 115 | 205 => 198 | 321 => 207 | 322 => 208 | 243 => 155 | 246 => 183 | 283 => 199 | 284 => 200 | 285 => 201 | 286 => 202 | 129 => 210 | 317 => 209 | 318 => 211 | 319 => 212 | 320 => 165 | 337 => 185 | 338 => 186 | n => n, fun | 9 => 9 | 3 => 3 | 75 => 175 | 76 => 176 | 4 => 4 | 5 => 5 | 167 => 230 | 37 => 192 | 0 => 0 | 85 => 231 | 2 => 2 | 168 => 233 | 53 => 241 | 175 => 251 | 46 => 189 | 210 => 255 | 127 => 223 | 145 => 269 | 143 => 267 | 21 => 21 | 171 => 257 | 173 => 259 | 212 => 271 | 51 => 239 | 20 => 20 | 213 => 272 | 232 => 261 | 233 => 262 | 80 => 196 | n => n, fun | 15 => 3 | 16 => 4 | 17 => 7 | 18 => 5 | 19 => 6 | n => n⟩
theorem Tryz.laysC172 : Go.Proofs.LaysC.n172 Tryz.prog Tryz.laysC172_ren := {
 mixed := by kernel_rfl
 f129 := Tryz.func210.trans (congrArg some (by kernel_rfl))
 f171 := Tryz.func115.trans (congrArg some (by kernel_rfl))
 f172 := Tryz.func114.trans (congrArg some (by kernel_rfl))
 f205 := Tryz.func198.trans (congrArg some (by kernel_rfl))
 f243 := Tryz.func155.trans (congrArg some (by kernel_rfl))
 f244 := Tryz.func153.trans (congrArg some (by kernel_rfl))
 f245 := Tryz.func154.trans (congrArg some (by kernel_rfl))
 f246 := Tryz.func183.trans (congrArg some (by kernel_rfl))
 f247 := Tryz.func178.trans (congrArg some (by kernel_rfl))
 f279 := Tryz.func179.trans (congrArg some (by kernel_rfl))
 f280 := Tryz.func180.trans (congrArg some (by kernel_rfl))
 f281 := Tryz.func181.trans (congrArg some (by kernel_rfl))
 f282 := Tryz.func182.trans (congrArg some (by kernel_rfl))
 f283 := Tryz.func199.trans (congrArg some (by kernel_rfl))
 f284 := Tryz.func200.trans (congrArg some (by kernel_rfl))
 f285 := Tryz.func201.trans (congrArg some (by kernel_rfl))
 f286 := Tryz.func202.trans (congrArg some (by kernel_rfl))
 f287 := Tryz.func196.trans (congrArg some (by kernel_rfl))
 f316 := Tryz.func197.trans (congrArg some (by kernel_rfl))
 f317 := Tryz.func209.trans (congrArg some (by kernel_rfl))
 f318 := Tryz.func211.trans (congrArg some (by kernel_rfl))
 f319 := Tryz.func212.trans (congrArg some (by kernel_rfl))
 f320 := Tryz.func165.trans (congrArg some (by kernel_rfl))
 f321 := Tryz.func207.trans (congrArg some (by kernel_rfl))
 f322 := Tryz.func208.trans (congrArg some (by kernel_rfl))
 f337 := Tryz.func185.trans (congrArg some (by kernel_rfl))
 f338 := Tryz.func186.trans (congrArg some (by kernel_rfl))
 t0 := Tryz.underlying0
 a0 := Tryz.isAgg0
 z0 := Tryz.sizeOf0
 v0 := Tryz.zeroValue0
 t2 := Tryz.underlying2
 a2 := Tryz.isAgg2
 z2 := Tryz.sizeOf2
 v2 := Tryz.zeroValue2
 t3 := Tryz.underlying3
 a3 := Tryz.isAgg3
 z3 := Tryz.sizeOf3
 v3 := Tryz.zeroValue3
 t4 := Tryz.underlying4
 a4 := Tryz.isAgg4
 z4 := Tryz.sizeOf4
 v4 := Tryz.zeroValue4
 t5 := Tryz.underlying5
 a5 := Tryz.isAgg5
 z5 := Tryz.sizeOf5
 v5 := Tryz.zeroValue5
 t9 := Tryz.underlying9
 a9 := Tryz.isAgg9
 z9 := Tryz.sizeOf9
 v9 := Tryz.zeroValue9
 t20 := Tryz.underlying20
 a20 := Tryz.isAgg20
 z20 := Tryz.sizeOf20
 v20 := Tryz.zeroValue20
 t21 := Tryz.underlying21
 a21 := Tryz.isAgg21
 z21 := Tryz.sizeOf21
 v21 := Tryz.zeroValue21
 t37 := Tryz.underlying192
 a37 := Tryz.isAgg192
 z37 := Tryz.sizeOf192
 v37 := Tryz.zeroValue192
 t46 := Tryz.underlying189
 a46 := Tryz.isAgg189
 z46 := Tryz.sizeOf189
 v46 := Tryz.zeroValue189
 t51 := Tryz.underlying239
 a51 := Tryz.isAgg239
 z51 := Tryz.sizeOf239
 v51 := Tryz.zeroValue239
 t53 := Tryz.underlying241
 a53 := Tryz.isAgg241
 z53 := Tryz.sizeOf241
 v53 := Tryz.zeroValue241
 t75 := Tryz.underlying175
 a75 := Tryz.isAgg175
 z75 := Tryz.sizeOf175
 v75 := Tryz.zeroValue175
 t76 := Tryz.underlying176
 a76 := Tryz.isAgg176
 z76 := Tryz.sizeOf176
 v76 := Tryz.zeroValue176
 t85 := Tryz.underlying231
 a85 := Tryz.isAgg231
 z85 := Tryz.sizeOf231
 v85 := Tryz.zeroValue231
 t127 := Tryz.underlying223
 a127 := Tryz.isAgg223
 z127 := Tryz.sizeOf223
 v127 := Tryz.zeroValue223
 t143 := Tryz.underlying267
 a143 := Tryz.isAgg267
 z143 := Tryz.sizeOf267
 v143 := Tryz.zeroValue267
 t145 := Tryz.underlying269
 a145 := Tryz.isAgg269
 z145 := Tryz.sizeOf269
 v145 := Tryz.zeroValue269
 t167 := Tryz.underlying230
 a167 := Tryz.isAgg230
 z167 := Tryz.sizeOf230
 v167 := Tryz.zeroValue230
 t168 := Tryz.underlying233
 a168 := Tryz.isAgg233
 z168 := Tryz.sizeOf233
 v168 := Tryz.zeroValue233
 t171 := Tryz.underlying257
 a171 := Tryz.isAgg257
 z171 := Tryz.sizeOf257
 v171 := Tryz.zeroValue257
 t173 := Tryz.underlying259
 a173 := Tryz.isAgg259
 z173 := Tryz.sizeOf259
 v173 := Tryz.zeroValue259
 t175 := Tryz.underlying251
 a175 := Tryz.isAgg251
 z175 := Tryz.sizeOf251
 v175 := Tryz.zeroValue251
 t210 := Tryz.underlying255
 a210 := Tryz.isAgg255
 z210 := Tryz.sizeOf255
 v210 := Tryz.zeroValue255
 t212 := Tryz.underlying271
 a212 := Tryz.isAgg271
 z212 := Tryz.sizeOf271
 v212 := Tryz.zeroValue271
 t213 := Tryz.underlying272
 a213 := Tryz.isAgg272
 z213 := Tryz.sizeOf272
 t232 := Tryz.underlying261
 a232 := Tryz.isAgg261
 z232 := Tryz.sizeOf261
 v232 := Tryz.zeroValue261
 t233 := Tryz.underlying262
 a233 := Tryz.isAgg262
 z233 := Tryz.sizeOf262
 v233 := Tryz.zeroValue262
 g15 := by kernel_rfl
 g16 := by kernel_rfl
 g17 := by kernel_rfl
 g18 := by kernel_rfl
 g19 := by kernel_rfl
 t80 := Tryz.underlying196
 a80 := Tryz.isAgg196
 z80 := Tryz.sizeOf196
 v80 := Tryz.zeroValue196
 i0 := by kernel_rfl
 i2 := by kernel_rfl
 i3 := by kernel_rfl
 i4 := by kernel_rfl
 i5 := by kernel_rfl
 i9 := by kernel_rfl
 i20 := by kernel_rfl
 i21 := by kernel_rfl
 i37 := by kernel_rfl
 i46 := by kernel_rfl
 i51 := by kernel_rfl
 i53 := by kernel_rfl
 i75 := by kernel_rfl
 i76 := by kernel_rfl
 i80 := by kernel_rfl
 i85 := by kernel_rfl
 i127 := by kernel_rfl
 i143 := by kernel_rfl
 i145 := by kernel_rfl
 i167 := by kernel_rfl
 i168 := by kernel_rfl
 i171 := by kernel_rfl
 i173 := by kernel_rfl
 i175 := by kernel_rfl
 i210 := by kernel_rfl
 i212 := by kernel_rfl
 i232 := by kernel_rfl
 i233 := by kernel_rfl
 m15 := by kernel_rfl
 m16 := by kernel_rfl
 m17 := by kernel_rfl
 m18 := by kernel_rfl
 m19 := by kernel_rfl
 c0 := by kernel_rfl
 c2 := by kernel_rfl
 c3 := by kernel_rfl
 c4 := by kernel_rfl
 c5 := by kernel_rfl
 c9 := by kernel_rfl
 c20 := by kernel_rfl
 c21 := by kernel_rfl
 c37 := by kernel_rfl
 c46 := by kernel_rfl
 c51 := by kernel_rfl
 c53 := by kernel_rfl
 c75 := by kernel_rfl
 c76 := by kernel_rfl
 c80 := by kernel_rfl
 c85 := by kernel_rfl
 c127 := by kernel_rfl
 c143 := by kernel_rfl
 c145 := by kernel_rfl
 c167 := by kernel_rfl
 c168 := by kernel_rfl
 c171 := by kernel_rfl
 c173 := by kernel_rfl
 c175 := by kernel_rfl
 c210 := by kernel_rfl
 c212 := by kernel_rfl
 c213 := by kernel_rfl
 c232 := by kernel_rfl
 c233 := by kernel_rfl }
open Go.RowKit in
theorem Tryz.strconv_Atoi_ok (s : ByteArray) (hmax : s.size ≤ 9223372036854775806) (v : Int) (h : Lib.atoiAll s.data.toList = .ok v) (w : World) :
  Calls Tryz.prog 114 #[.string s] w fun e w' => e = .returned (.tuple #[.int .i64 v, .nilIface]) ∧ (w' = w ∨ ∃ t, w' = Lib.bytesWorld w 5 t) := Any.strconv_Atoi_ok Tryz.laysC172 s hmax v h w
open Go.RowKit in
theorem Tryz.strconv_Atoi_syntax (s : ByteArray) (hlim : s.size ≤ 281474976710656) (h : Lib.atoiAll s.data.toList = Lib.atoiAll []) (ev : Value) (w : World) (hv : w.cell? ⟨3, 0, none⟩ = some ev) (hev : ev = .nilIface ∨ ∃ te pe, ev = .iface te pe) :
  Calls Tryz.prog 114 #[.string s] w fun e w' => ∃ N, e = .returned (.tuple #[.int .i64 (0), .iface 233 (.pointer (some ⟨N, 0, none⟩))]) ∧ w.heap.size ≤ N ∧ w'.heap[N]? = some (.cells #[.string ⟨#[65, 116, 111, 105]⟩, .string s, ev] 255 (0, 0)) ∧ Below w.heap.size w w' := Any.strconv_Atoi_syntax Tryz.laysC172 s hlim h ev w hv hev
open Go.RowKit in
theorem Tryz.strconv_Atoi_range (s : ByteArray) (hlim : s.size ≤ 281474976710656) (h : Lib.atoiAll s.data.toList = .range) (ev : Value) (w : World) (hv : w.cell? ⟨4, 0, none⟩ = some ev) (hev : ev = .nilIface ∨ ∃ te pe, ev = .iface te pe) :
  Calls Tryz.prog 114 #[.string s] w fun e w' => ∃ N, e = .returned (.tuple #[.int .i64 (Lib.atoiSat s.data.toList), .iface 233 (.pointer (some ⟨N, 0, none⟩))]) ∧ w.heap.size ≤ N ∧ w'.heap[N]? = some (.cells #[.string ⟨#[65, 116, 111, 105]⟩, .string s, ev] 255 (0, 0)) ∧ Below w.heap.size w w' := Any.strconv_Atoi_range Tryz.laysC172 s hlim h ev w hv hev
def Tryz.lays143_ren : Go.Shelf.Ren := ⟨fun | 143 => 152 | 219 => 177 | 217 => 192 | 225 => 193 | 224 => 194 | 267 => 195 | 266 => 205 | 314 => 206 | n => n, fun | 9 => 9 | 3 => 3 | 4 => 4 | 5 => 5 | 46 => 189 | 146 => 264 | 51 => 239 | n => n, fun | 1 => 2 | n => n⟩
theorem Tryz.lays143 : Go.Proofs.Lays.n143 Tryz.prog Tryz.lays143_ren := {
 mixed := by kernel_rfl
 f143 := Tryz.func152.trans (congrArg some (by kernel_rfl))
 f217 := Tryz.func192.trans (congrArg some (by kernel_rfl))
 f219 := Tryz.func177.trans (congrArg some (by kernel_rfl))
 f224 := Tryz.func194.trans (congrArg some (by kernel_rfl))
 f225 := Tryz.func193.trans (congrArg some (by kernel_rfl))
 f266 := Tryz.func205.trans (congrArg some (by kernel_rfl))
 f267 := Tryz.func195.trans (congrArg some (by kernel_rfl))
 f314 := Tryz.func206.trans (congrArg some (by kernel_rfl))
 t3 := Tryz.underlying3
 a3 := Tryz.isAgg3
 z3 := Tryz.sizeOf3
 v3 := Tryz.zeroValue3
 t4 := Tryz.underlying4
 a4 := Tryz.isAgg4
 z4 := Tryz.sizeOf4
 v4 := Tryz.zeroValue4
 t5 := Tryz.underlying5
 a5 := Tryz.isAgg5
 z5 := Tryz.sizeOf5
 v5 := Tryz.zeroValue5
 t9 := Tryz.underlying9
 a9 := Tryz.isAgg9
 z9 := Tryz.sizeOf9
 v9 := Tryz.zeroValue9
 t46 := Tryz.underlying189
 a46 := Tryz.isAgg189
 z46 := Tryz.sizeOf189
 v46 := Tryz.zeroValue189
 t51 := Tryz.underlying239
 a51 := Tryz.isAgg239
 z51 := Tryz.sizeOf239
 v51 := Tryz.zeroValue239
 t146 := Tryz.underlying264
 a146 := Tryz.isAgg264
 z146 := Tryz.sizeOf264
 v146 := Tryz.zeroValue264
 g1 := by kernel_rfl }
open Go.RowKit Go.Lib in
theorem Tryz.strings_Index (s sub : ByteArray) (m : Int) (w : World) (hs : s.size < 4294967281) (hm : w.cell? ⟨2, 0, none⟩ = some (.int .i64 m)) :
  Calls Tryz.prog 152 #[.string s, .string sub] w fun e w' => e = .returned (.int .i64 (Lib.index s.data.toList sub.data.toList)) ∧ w' = w := Any.strings_Index Tryz.lays143 s sub m w hs hm
def Tryz.lays101_ren : Go.Shelf.Ren := ⟨fun | 101 => 116 | 208 => 156 | 206 => 184 | n => n, fun | 9 => 9 | 4 => 4 | 3 => 3 | n => n, fun | n => n⟩
theorem Tryz.lays101 : Go.Proofs.Lays.n101 Tryz.prog Tryz.lays101_ren := {
 mixed := by kernel_rfl
 f101 := Tryz.func116.trans (congrArg some (by kernel_rfl))
 f206 := Tryz.func184.trans (congrArg some (by kernel_rfl))
 f208 := Tryz.func156.trans (congrArg some (by kernel_rfl))
 t3 := Tryz.underlying3
 a3 := Tryz.isAgg3
 z3 := Tryz.sizeOf3
 v3 := Tryz.zeroValue3
 t4 := Tryz.underlying4
 a4 := Tryz.isAgg4
 z4 := Tryz.sizeOf4
 v4 := Tryz.zeroValue4
 t9 := Tryz.underlying9
 a9 := Tryz.isAgg9
 z9 := Tryz.sizeOf9
 v9 := Tryz.zeroValue9 }
open Go.RowKit Go.Lib in
theorem Tryz.strings_TrimPrefix (s p : ByteArray) (w : World) :
  Calls Tryz.prog 116 #[.string s, .string p] w fun e w' => e = .returned (.string ⟨(Lib.trimPrefix s.data.toList p.data.toList).toArray⟩) ∧ w' = w := Any.strings_TrimPrefix Tryz.lays101 s p w
def Tryz.lays146_ren : Go.Shelf.Ren := ⟨fun | 146 => 138 | 221 => 169 | 268 => 190 | 138 => 191 | 143 => 152 | 195 => 203 | 197 => 151 | 218 => 204 | 219 => 177 | 260 => 176 | 217 => 192 | 225 => 193 | 224 => 194 | 267 => 195 | 266 => 205 | 314 => 206 | n => n, fun | 9 => 9 | 31 => 144 | 3 => 3 | 4 => 4 | 0 => 0 | 105 => 214 | 21 => 21 | 5 => 5 | 46 => 189 | 119 => 246 | 139 => 249 | 138 => 248 | 146 => 264 | 51 => 239 | n => n, fun | 1 => 2 | 3 => 0 | 4 => 1 | n => n⟩
theorem Tryz.lays146 : Go.Proofs.Lays.n146 Tryz.prog Tryz.lays146_ren := {
 mixed := by kernel_rfl
 f138 := Tryz.func191.trans (congrArg some (by kernel_rfl))
 f143 := Tryz.func152.trans (congrArg some (by kernel_rfl))
 f146 := Tryz.func138.trans (congrArg some (by kernel_rfl))
 f195 := Tryz.func203.trans (congrArg some (by kernel_rfl))
 f197 := Tryz.func151.trans (congrArg some (by kernel_rfl))
 f217 := Tryz.func192.trans (congrArg some (by kernel_rfl))
 f218 := Tryz.func204.trans (congrArg some (by kernel_rfl))
 f219 := Tryz.func177.trans (congrArg some (by kernel_rfl))
 f221 := Tryz.func169.trans (congrArg some (by kernel_rfl))
 f224 := Tryz.func194.trans (congrArg some (by kernel_rfl))
 f225 := Tryz.func193.trans (congrArg some (by kernel_rfl))
 f260 := Tryz.func176.trans (congrArg some (by kernel_rfl))
 f266 := Tryz.func205.trans (congrArg some (by kernel_rfl))
 f267 := Tryz.func195.trans (congrArg some (by kernel_rfl))
 f268 := Tryz.func190.trans (congrArg some (by kernel_rfl))
 f314 := Tryz.func206.trans (congrArg some (by kernel_rfl))
 t0 := Tryz.underlying0
 a0 := Tryz.isAgg0
 z0 := Tryz.sizeOf0
 v0 := Tryz.zeroValue0
 t3 := Tryz.underlying3
 a3 := Tryz.isAgg3
 z3 := Tryz.sizeOf3
 v3 := Tryz.zeroValue3
 t4 := Tryz.underlying4
 a4 := Tryz.isAgg4
 z4 := Tryz.sizeOf4
 v4 := Tryz.zeroValue4
 t5 := Tryz.underlying5
 a5 := Tryz.isAgg5
 z5 := Tryz.sizeOf5
 v5 := Tryz.zeroValue5
 t9 := Tryz.underlying9
 a9 := Tryz.isAgg9
 z9 := Tryz.sizeOf9
 v9 := Tryz.zeroValue9
 t21 := Tryz.underlying21
 a21 := Tryz.isAgg21
 z21 := Tryz.sizeOf21
 v21 := Tryz.zeroValue21
 t31 := Tryz.underlying144
 a31 := Tryz.isAgg144
 z31 := Tryz.sizeOf144
 v31 := Tryz.zeroValue144
 t46 := Tryz.underlying189
 a46 := Tryz.isAgg189
 z46 := Tryz.sizeOf189
 v46 := Tryz.zeroValue189
 t51 := Tryz.underlying239
 a51 := Tryz.isAgg239
 z51 := Tryz.sizeOf239
 v51 := Tryz.zeroValue239
 t105 := Tryz.underlying214
 a105 := Tryz.isAgg214
 z105 := Tryz.sizeOf214
 v105 := Tryz.zeroValue214
 t119 := Tryz.underlying246
 a119 := Tryz.isAgg246
 z119 := Tryz.sizeOf246
 t138 := Tryz.underlying248
 a138 := Tryz.isAgg248
 z138 := Tryz.sizeOf248
 v138 := Tryz.zeroValue248
 t139 := Tryz.underlying249
 a139 := Tryz.isAgg249
 z139 := Tryz.sizeOf249
 v139 := Tryz.zeroValue249
 t146 := Tryz.underlying264
 a146 := Tryz.isAgg264
 z146 := Tryz.sizeOf264
 v146 := Tryz.zeroValue264
 g1 := by kernel_rfl
 g3 := by kernel_rfl
 g4 := by kernel_rfl }
open Go.RowKit Go.Lib in
theorem Tryz.strings_Split (s sep : ByteArray) (m : Int) (w : World) (hs : s.size < 4294967281) (hm : w.cell? ⟨2, 0, none⟩ = some (.int .i64 m)) (h1 : 1 ≤ sep.size) :
  Calls Tryz.prog 138 #[.string s, .string sep] w fun e w' =>
   e = .returned (.slice (some ⟨w.heap.size, 0, none⟩) (Lib.countB s sep + 1) (Lib.countB s sep + 1)) ∧ w' = w.alloc (.cells ((Lib.splitB sep 0 (Lib.countB s sep) s).map Value.string).toArray 9) := Any.strings_Split Tryz.lays146 (by kernel_rfl) s sep m w hs hm h1
end Go.Proofs