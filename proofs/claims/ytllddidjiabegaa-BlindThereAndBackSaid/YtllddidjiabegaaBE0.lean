/- Events scrambled and unscrambled, as lists. -/
import Derived.Test.YtllddidjiabegaaBM3
set_option linter.unusedVariables false
set_option linter.unusedSimpArgs false
namespace Go.Proofs.Ytllddidjiabegaa
open Go.RowKit

/-- an event with another time. -/
def Ev.at (x : Ev) (t : Int) : Ev := ⟨t, x.en, x.ze, x.hi⟩
/-- after k steps: each event's time is that of the event that the permutation names. -/
def scrUp (l : List Ev) (p : List Int) : Nat → List Ev
  | 0 => l
  | k + 1 => (scrUp l p k).set k ((evAt (scrUp l p k) k).at (evAt l (nth p k).toNat).t)
def unsUp (l : List Ev) (p : List Int) : Nat → List Ev
  | 0 => l
  | k + 1 => (unsUp l p k).set (nth p k).toNat ((evAt (unsUp l p k) (nth p k).toNat).at (evAt l k).t)
theorem scrUp_len (l : List Ev) (p : List Int) (k : Nat) : (scrUp l p k).length = l.length := by
  induction k with
  | zero => rfl
  | succ k ih => simp [scrUp, ih]
theorem unsUp_len (l : List Ev) (p : List Int) (k : Nat) : (unsUp l p k).length = l.length := by
  induction k with
  | zero => rfl
  | succ k ih => simp [unsUp, ih]
theorem evAt_set {l : List Ev} {i j : Nat} {x : Ev} (h : i < l.length) : evAt (l.set i x) j = if j = i then x else evAt l j := by
  unfold evAt
  by_cases e : j = i
  · subst e; simp [List.getD, h]
  · rw [if_neg e]; simp [List.getD, List.getElem?_set, Ne.symm e]
theorem scrUp_at (l : List Ev) (p : List Int) {k : Nat} (hk : k ≤ l.length) (j : Nat) : evAt (scrUp l p k) j = if j < k then (evAt l j).at (evAt l (nth p j).toNat).t else evAt l j := by
  induction k with
  | zero => simp [scrUp]
  | succ k ih =>
    rw [scrUp, evAt_set (by rw [scrUp_len]; omega)]
    by_cases e : j = k
    · subst e; rw [if_pos rfl, ih (by omega), if_neg (by omega), if_pos (by omega)]
    · rw [if_neg e, ih (by omega)]
      by_cases h : j < k
      · rw [if_pos h, if_pos (by omega)]
      · rw [if_neg h, if_neg (by omega)]
/-- .. built up by appending. -/
def scrTk (l : List Ev) (p : List Int) (k : Nat) : List Ev := (List.range k).map fun i => (evAt l i).at (evAt l (nth p i).toNat).t
theorem scrTk_succ (l : List Ev) (p : List Int) (k : Nat) : scrTk l p (k + 1) = scrTk l p k ++ [(evAt l k).at (evAt l (nth p k).toNat).t] := by
  simp [scrTk, List.range_succ]
theorem scrTk_len (l : List Ev) (p : List Int) (k : Nat) : (scrTk l p k).length = k := by simp [scrTk]
theorem scrTk_all (l : List Ev) (p : List Int) : scrTk l p l.length = scrUp l p l.length := by
  apply List.ext_getElem (by rw [scrTk_len, scrUp_len])
  intro i h1 h2
  have hi : i < l.length := by rwa [scrTk_len] at h1
  rw [← evAt_lt h2, scrUp_at l p (Nat.le_refl _), if_pos hi]
  simp [scrTk]
/-- the events scrambled with a key, and those which are scrambled to given ones. -/
def scr (l : List Ev) (k : Nat) : List Ev := scrUp l (perm l.length k) l.length
def uns (l : List Ev) (k : Nat) : List Ev := unsUp l (perm l.length k) l.length
def moveErr (l : List Ev) (key : Int) : Int := firstNZ [anyErr l, keyErrS l.length key]

/-- the error of an event in its place. -/
def plErr (l : List Ev) (i : Nat) : Int := firstNZ [evErr (evAt l i), unl (decide (i = 0) || decide ((evAt l (i - 1)).t ≤ (evAt l i).t)) 9]
def evsErr (l : List Ev) : Int := if 12 < l.length then 8 else scan (plErr l) l.length
def evsIdx (l : List Ev) : Int := if 12 < l.length then 0 else scanI (plErr l) l.length

/-- a row of events of the call's own. -/
def OwnEv (w : World) (base : Nat) (v : Value) (l : List Ev) : Prop := w.ownsRow base 89 4 v l.length (flat l.length 4 fun i j => (evAt l i).cell j)
theorem OwnEv.at {w : World} {base : Nat} {v : Value} {l : List Ev} (h : OwnEv w base v l) : EventsAt w v l := ownsRow_sl h
theorem OwnEv.below {w w' : World} {base : Nat} {v : Value} {l : List Ev} (h : OwnEv w base v l) (hb : Below w.heap.size w w') : OwnEv w' base v l := ownsRow_below h hb
theorem flat_set {n sz : Nat} {c d : Nat → Nat → Value} {i j : Nat} (hi : i < n) (hj : j < sz) (h : ∀ i' j', i' < n → j' < sz → d i' j' = if i' = i ∧ j' = j then d i j else c i' j') : (flat n sz c).set (i * sz + j) (d i j) = flat n sz d := by
  have hs : 0 < sz := by omega
  apply List.ext_getElem (by simp [flat_len])
  intro q h1 h2
  have hq : q < n * sz := by simpa [flat_len] using h1
  have e1 := flat_get (c := d) hq
  have e2 := flat_get (c := c) hq
  rw [List.getElem?_eq_getElem (by rw [flat_len]; exact hq)] at e1 e2
  rw [List.getElem_set, Option.some.inj e1]
  have hdm := Nat.div_add_mod q sz
  have hlt := Nat.mod_lt q hs
  have hqd : q / sz < n := Nat.div_lt_of_lt_mul (by rwa [Nat.mul_comm])
  rw [h _ _ hqd hlt]
  by_cases e : i * sz + j = q
  · have h3 : q / sz = i := by rw [← e, Nat.mul_comm, Nat.mul_add_div hs, Nat.div_eq_of_lt hj, Nat.add_zero]
    have h4 : q % sz = j := by rw [← e, Nat.mul_comm, Nat.mul_add_mod, Nat.mod_eq_of_lt hj]
    rw [if_pos e, if_pos ⟨h3, h4⟩]
  · have hne : ¬ (q / sz = i ∧ q % sz = j) := by
      rintro ⟨h3, h4⟩
      apply e
      rw [← h3, ← h4, Nat.mul_comm]; exact hdm
    rw [if_neg e, if_neg hne, Option.some.inj e2]
/-- one time written. -/
theorem OwnEv.setT {w : World} {base g n cap : Nat} {l : List Ev} {i : Nat} (h : OwnEv w base (.slice (some ⟨g, 0, none⟩) n cap) l) (hi : i < l.length) (t : Int) :
    OwnEv (w.setCell ⟨g, i * 4, none⟩ (.int .i64 t)) base (.slice (some ⟨g, 0, none⟩) n cap) (l.set i ((evAt l i).at t)) := by
  have hn : n = l.length := by
    rcases h.2 with ⟨h', _⟩ | ⟨g', cap', cur, h', _⟩
    · cases h'
    · simp at h'; exact h'.2.1
  subst hn
  have h2 := (World.ownsRow.stored h (i * 4) (.int .i64 t)).1
  unfold OwnEv
  rw [List.length_set]
  have := flat_set (n := l.length) (sz := 4) (c := fun i j => (evAt l i).cell j) (d := fun q j => (evAt (l.set i ((evAt l i).at t)) q).cell j) (i := i) (j := 0) hi (by omega) (fun i' j' h1 h2 => by
    simp only [evAt_set hi]
    by_cases e : i' = i
    · subst e
      simp only [if_true]
      rcases (by omega : j' = 0 ∨ j' = 1 ∨ j' = 2 ∨ j' = 3) with rfl | rfl | rfl | rfl <;> simp [Ev.cell, Ev.at]
    · simp [e])
  rw [← this]
  have e3 : (evAt (l.set i ((evAt l i).at t)) i).cell 0 = .int .i64 t := by rw [evAt_set hi, if_pos rfl]; rfl
  simp only [Nat.add_zero, e3]
  exact h2

end Go.Proofs.Ytllddidjiabegaa
