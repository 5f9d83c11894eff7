/- Scrambled and unscrambled: there and back, as lists. -/
import Derived.Test.YtllddidjiabegaaBE6
set_option linter.unusedVariables false
set_option linter.unusedSimpArgs false
namespace Go.Proofs.Ytllddidjiabegaa
open Go.RowKit

/-- a row of numbers that names each place below n once. -/
structure PermOf (n : Nat) (p : List Int) : Prop where
  rng : ∀ i, i < n → ∃ j : Nat, nth p i = j ∧ j < n
  inj : ∀ i j, i < n → j < n → nth p i = nth p j → i = j
  sur : ∀ j : Nat, j < n → ∃ i, i < n ∧ nth p i = j
theorem permOf_perm (n k : Nat) : PermOf n (perm n k) := by
  have hl := perm_len n k
  have hp := perm_perm n k
  refine ⟨fun i hi => perm_range hi, fun i j hi hj e => ?_, fun j hj => ?_⟩
  · have hnd : (perm n k).Nodup := hp.nodup_iff.2 ((upN_sorted _).imp fun {a b} hab e => by omega)
    rw [nth_lt (by omega), nth_lt (by omega)] at e
    rcases Nat.lt_trichotomy i j with h | h | h
    · exact absurd e (List.pairwise_iff_getElem.1 hnd i j (by omega) (by omega) h)
    · exact h
    · exact absurd e.symm (List.pairwise_iff_getElem.1 hnd j i (by omega) (by omega) h)
  · have hm : (j : Int) ∈ perm n k := hp.mem_iff.2 (mem_upN.2 (by omega))
    obtain ⟨i, hi, he⟩ := List.mem_iff_getElem.1 hm
    exact ⟨i, by omega, by rw [nth_lt hi, he]⟩

theorem unsUp_at {l : List Ev} {p : List Int} (hp : PermOf l.length p) {k : Nat} (hk : k ≤ l.length) :
    (∀ j, j < k → evAt (unsUp l p k) (nth p j).toNat = (evAt l (nth p j).toNat).at (evAt l j).t) ∧ ∀ i, i < l.length → (∀ j, j < k → nth p j ≠ i) → evAt (unsUp l p k) i = evAt l i := by
  induction k with
  | zero => exact ⟨fun j hj => absurd hj (by omega), fun i _ _ => rfl⟩
  | succ k ih =>
    obtain ⟨h1, h2⟩ := ih (by omega)
    obtain ⟨q, hq, hql⟩ := hp.rng k (by omega)
    have hqn : (nth p k).toNat = q := by omega
    have hk2 : evAt (unsUp l p k) q = evAt l q := h2 q hql (fun j hj e => by
      have := hp.inj j k (by omega) (by omega) (by rw [e, hq])
      omega)
    constructor
    · intro j hj
      rw [unsUp, evAt_set (by rw [unsUp_len, hqn]; exact hql)]
      by_cases e : j = k
      · subst e; rw [if_pos rfl, hqn, hk2]
      · have hne : (nth p j).toNat ≠ (nth p k).toNat := by
          intro e2
          obtain ⟨q', hq', _⟩ := hp.rng j (by omega)
          exact e (hp.inj j k (by omega) (by omega) (by omega))
        rw [if_neg hne]
        exact h1 j (by omega)
    · intro i hi hno
      rw [unsUp, evAt_set (by rw [unsUp_len, hqn]; exact hql)]
      have hne : i ≠ (nth p k).toNat := by
        intro e
        exact hno k (by omega) (by omega)
      rw [if_neg hne]
      exact h2 i hi (fun j hj => hno j (by omega))
theorem at_at (x : Ev) (s t : Int) : (x.at s).at t = x.at t := rfl
theorem at_t (x : Ev) (t : Int) : (x.at t).t = t := rfl
theorem at_self (x : Ev) : x.at x.t = x := rfl
theorem scr_len (l : List Ev) (m : Nat) : (scr l m).length = l.length := scrUp_len _ _ _
theorem uns_len (l : List Ev) (m : Nat) : (uns l m).length = l.length := unsUp_len _ _ _
theorem scr_at (l : List Ev) (m : Nat) {i : Nat} (hi : i < l.length) : evAt (scr l m) i = (evAt l i).at (evAt l (nth (perm l.length m) i).toNat).t := by
  unfold scr; rw [scrUp_at _ _ (Nat.le_refl _), if_pos hi]
theorem uns_at (l : List Ev) (m : Nat) {j : Nat} (hj : j < l.length) : evAt (uns l m) (nth (perm l.length m) j).toNat = (evAt l (nth (perm l.length m) j).toNat).at (evAt l j).t :=
  (unsUp_at (permOf_perm _ _) (Nat.le_refl _)).1 j hj
theorem uns_fields (l : List Ev) (m : Nat) {i : Nat} (hi : i < l.length) (t : Int) : (evAt (uns l m) i).at t = (evAt l i).at t := by
  obtain ⟨j, hj, he⟩ := (permOf_perm l.length m).sur i hi
  have := uns_at l m hj
  rw [he] at this
  rw [show ((i : Int)).toNat = i from rfl] at this
  rw [this, at_at]
theorem uns_scr (l : List Ev) (m : Nat) : uns (scr l m) m = l := by
  refine evAt_ext (by rw [uns_len, scr_len]) fun i hi => ?_
  rw [uns_len, scr_len] at hi
  obtain ⟨j, hj, he⟩ := (permOf_perm l.length m).sur i hi
  have h1 := uns_at (scr l m) m (j := j) (by rw [scr_len]; exact hj)
  rw [scr_len, he, show ((i : Int)).toNat = i from rfl, scr_at l m hi, scr_at l m hj, at_at, at_t, he, show ((i : Int)).toNat = i from rfl] at h1
  rw [h1, at_self]
theorem scr_uns (l : List Ev) (m : Nat) : scr (uns l m) m = l := by
  refine evAt_ext (by rw [scr_len, uns_len]) fun i hi => ?_
  rw [scr_len, uns_len] at hi
  rw [scr_at _ _ (by rw [uns_len]; exact hi), uns_len, uns_at l m hi, at_t, uns_fields l m hi, at_self]
theorem permF_zero : ∀ (n : Nat) (xs : List Int), xs.length = n → permF n xs 0 = xs := by
  intro n
  induction n with
  | zero => intro xs h; rw [List.eq_nil_of_length_eq_zero h]; rfl
  | succ n ih =>
    intro xs h
    match xs, h with
    | x :: xs, h =>
      rw [permF]
      simp only [Nat.zero_mod, Nat.zero_div, List.eraseIdx_zero, List.tail_cons]
      rw [ih xs (by simpa using h)]
      rfl
theorem scr_zero (l : List Ev) : scr l 0 = l := by
  refine evAt_ext (scr_len _ _) fun i hi => ?_
  rw [scr_len] at hi
  rw [scr_at l 0 hi]
  have : perm l.length 0 = upN l.length := permF_zero _ _ (upN_len _)
  rw [this]
  have h2 : nth (upN l.length) i = i := by rw [nth_lt (by rw [upN_len]; exact hi)]; simp [upN]
  rw [h2]; rfl

def oft (l : List Ev) (t : Int) : Nat := l.countP (fun x => x.t == t)
theorem oft_scr (l : List Ev) (m : Nat) (t : Int) : oft (scr l m) t = oft l t := by
  have e1 : ∀ l : List Ev, oft l t = (l.map Ev.t).count t := fun l => by simp [oft, List.count, List.countP_map]; rfl
  rw [e1, e1]
  refine List.Perm.count_eq ?_ _
  have h1 : (scr l m).map Ev.t = (perm l.length m).map (fun j => (evAt l j.toNat).t) := by
    apply List.ext_getElem (by simp [scr_len, perm_len])
    intro i h1 h2
    have hi : i < l.length := by simpa [scr_len] using h1
    have h3 := scr_at l m hi
    rw [evAt_lt (by rw [scr_len]; exact hi)] at h3
    simp only [List.getElem_map, h3, at_t]
    rw [nth_lt (by rw [perm_len]; exact hi)]
  have h2 : l.map Ev.t = (upN l.length).map (fun j => (evAt l j.toNat).t) := by
    apply List.ext_getElem (by simp [upN_len])
    intro i h1 h2
    have hi : i < l.length := by simpa using h1
    simp only [List.getElem_map]
    rw [← evAt_lt hi]
    simp [upN]
  rw [h1, h2]
  exact (perm_perm _ _).map _

theorem evB_at {x y : Ev} (hx : evB x = true) (hy : evB y = true) : evB (x.at y.t) = true := by
  simp only [evB, Bool.and_eq_true] at hx hy ⊢
  exact ⟨⟨⟨hy.1.1.1, hx.1.1.2⟩, hx.1.2⟩, hx.2⟩
theorem anyErr_of {l : List Ev} (h12 : l.length ≤ 12) (h : ∀ i, i < l.length → evB (evAt l i) = true) : anyErr l = 0 := by
  unfold anyErr
  rw [if_neg (by omega)]
  exact scan_end fun j hj => by unfold evErr; rw [h j hj]; rfl
theorem anyErr_at {l : List Ev} (h : anyErr l = 0) {i : Nat} (hi : i < l.length) : evB (evAt l i) = true := by
  rw [evAt_lt hi]; exact (anyErr_ok h).2 _ (List.getElem_mem hi)
theorem anyErr_scr {l : List Ev} (m : Nat) (h : anyErr l = 0) : anyErr (scr l m) = 0 := by
  refine anyErr_of (by rw [scr_len]; exact (anyErr_ok h).1) fun i hi => ?_
  rw [scr_len] at hi
  obtain ⟨j, hj, hjl⟩ := (permOf_perm l.length m).rng i hi
  rw [scr_at l m hi, show (nth (perm l.length m) i).toNat = j from by omega]
  exact evB_at (anyErr_at h hi) (anyErr_at h hjl)
theorem anyErr_uns {l : List Ev} (m : Nat) (h : anyErr l = 0) : anyErr (uns l m) = 0 := by
  refine anyErr_of (by rw [uns_len]; exact (anyErr_ok h).1) fun i hi => ?_
  rw [uns_len] at hi
  obtain ⟨j, hj, he⟩ := (permOf_perm l.length m).sur i hi
  have := uns_at l m hj
  rw [he, show ((i : Int)).toNat = i from rfl] at this
  rw [this]
  exact evB_at (anyErr_at h hi) (anyErr_at h hj)

end Go.Proofs.Ytllddidjiabegaa
