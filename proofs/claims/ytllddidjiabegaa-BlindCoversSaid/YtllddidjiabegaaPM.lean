/- Plain laws of permutations and keys. No program in sight. -/
import Derived.Test.YtllddidjiabegaaP
set_option linter.unusedVariables false
set_option linter.unusedSimpArgs false
namespace Go.Proofs.Ytllddidjiabegaa
open Go.RowKit

def cntL (x : Int) (r : List Int) : Nat := r.countP (fun y => decide (y < x))
def keyN : List Int → Nat
  | [] => 0
  | x :: r => cntL x r + (r.length + 1) * keyN r

theorem keyN_lt (p : List Int) : keyN p < fac p.length := by
  induction p with
  | nil => decide
  | cons x r ih =>
    have h1 : cntL x r ≤ r.length := List.countP_le_length
    simp only [keyN, List.length_cons, fac]
    have h2 : (r.length + 1) * keyN r + (r.length + 1) ≤ (r.length + 1) * fac r.length := by
      rw [← Nat.mul_succ]; exact Nat.mul_le_mul_left _ ih
    omega

theorem cntL_perm {x : Int} {r s : List Int} (h : r.Perm s) : cntL x r = cntL x s := h.countP_eq _

theorem cntL_erase {xs : List Int} {i : Nat} (hs : xs.Pairwise (· < ·)) (hi : i < xs.length) : cntL (nth xs i) (xs.eraseIdx i) = i := by
  rw [nth_lt hi, List.eraseIdx_eq_take_drop_succ]
  unfold cntL
  rw [List.countP_append]
  have h1 : (xs.take i).countP (fun y => decide (y < xs[i])) = i := by
    have e : (xs.take i).length = i := by simp; omega
    conv => rhs; rw [← e]
    rw [List.countP_eq_length]
    intro y hy
    obtain ⟨k, hk, rfl⟩ := List.mem_iff_getElem.1 hy
    have hk' : k < i := by simp at hk; omega
    rw [List.getElem_take]
    exact decide_eq_true (List.pairwise_iff_getElem.1 hs k i (by omega) hi hk')
  have h2 : (xs.drop (i + 1)).countP (fun y => decide (y < xs[i])) = 0 := by
    rw [List.countP_eq_zero]
    intro y hy
    obtain ⟨k, hk, rfl⟩ := List.mem_iff_getElem.1 hy
    rw [List.getElem_drop]
    have := List.pairwise_iff_getElem.1 hs i (i + 1 + k) hi (by simp at hk; omega) (by omega)
    simp; omega
  omega

theorem erase_perm {xs : List Int} {i : Nat} (hi : i < xs.length) : (nth xs i :: xs.eraseIdx i).Perm xs := by
  rw [List.eraseIdx_eq_take_drop_succ]
  refine List.perm_middle.symm.trans ?_
  rw [← cut_nth hi]

theorem erase_len {xs : List Int} {i m : Nat} (hx : xs.length = m + 1) (hi : i < m + 1) : (xs.eraseIdx i).length = m := by
  rw [List.length_eraseIdx, if_pos (by omega)]; omega

theorem permF_perm : ∀ (m : Nat) (xs : List Int) (q : Nat), xs.length = m → (permF m xs q).Perm xs := by
  intro m
  induction m with
  | zero => intro xs q h; rw [List.eq_nil_of_length_eq_zero h]; exact List.Perm.refl _
  | succ m ih =>
    intro xs q h
    have hi : q % (m + 1) < m + 1 := Nat.mod_lt _ (by omega)
    show (nth xs (q % (m + 1)) :: permF m (xs.eraseIdx (q % (m + 1))) (q / (m + 1))).Perm xs
    exact ((ih _ _ (erase_len h hi)).cons _).trans (erase_perm (by omega))

theorem keyN_permF : ∀ (m : Nat) (xs : List Int) (q : Nat), xs.length = m → xs.Pairwise (· < ·) → q < fac m → keyN (permF m xs q) = q := by
  intro m
  induction m with
  | zero => intro xs q h _ hq; simp [fac] at hq; subst hq; rfl
  | succ m ih =>
    intro xs q h hs hq
    have hi : q % (m + 1) < m + 1 := Nat.mod_lt _ (by omega)
    have hl := erase_len h hi
    show keyN (nth xs (q % (m + 1)) :: permF m (xs.eraseIdx (q % (m + 1))) (q / (m + 1))) = q
    have hp := permF_perm m (xs.eraseIdx (q % (m + 1))) (q / (m + 1)) hl
    have hq' : q / (m + 1) < fac m := Nat.div_lt_of_lt_mul (by simpa [fac] using hq)
    simp only [keyN]
    rw [cntL_perm hp, cntL_erase hs (by omega), hp.length_eq, hl, ih _ _ hl (hs.sublist (List.eraseIdx_sublist ..)) hq']
    exact Nat.mod_add_div _ _

theorem permF_keyN : ∀ (m : Nat) (xs p : List Int), xs.length = m → xs.Pairwise (· < ·) → p.Perm xs → permF m xs (keyN p) = p := by
  intro m
  induction m with
  | zero =>
    intro xs p h _ hp
    obtain rfl : p = [] := List.eq_nil_of_length_eq_zero (by rw [hp.length_eq, h])
    rfl
  | succ m ih =>
    intro xs p h hs hp
    cases p with
    | nil => have := hp.length_eq; simp at this; omega
    | cons x r =>
      have hx : x ∈ xs := hp.subset (by simp)
      obtain ⟨i, hi, hxi⟩ := List.mem_iff_getElem.1 hx
      have hxn : x = nth xs i := by rw [nth_lt hi, hxi]
      have hr : r.Perm (xs.eraseIdx i) := by
        have h1 := hp.trans (erase_perm hi).symm
        rw [← hxn] at h1
        exact h1.cons_inv
      have hl := erase_len h (by omega : i < m + 1)
      have hrl : r.length = m := by rw [hr.length_eq, hl]
      have hk : keyN (x :: r) = i + (m + 1) * keyN r := by
        simp only [keyN]
        rw [cntL_perm hr, hxn, cntL_erase hs hi, hrl]
      have e1 : keyN (x :: r) % (m + 1) = i := by rw [hk, Nat.add_mul_mod_self_left, Nat.mod_eq_of_lt (by omega)]
      have e2 : keyN (x :: r) / (m + 1) = keyN r := by rw [hk, Nat.add_mul_div_left _ _ (by omega), Nat.div_eq_of_lt (by omega), Nat.zero_add]
      show nth xs (keyN (x :: r) % (m + 1)) :: permF m (xs.eraseIdx (keyN (x :: r) % (m + 1))) (keyN (x :: r) / (m + 1)) = x :: r
      rw [e1, e2, ← hxn, ih _ _ hl (hs.sublist (List.eraseIdx_sublist ..)) hr]

theorem upN_sorted (n : Nat) : (upN n).Pairwise (· < ·) := by
  rw [List.pairwise_iff_getElem]
  intro i j hi hj h
  simp [upN]; omega

theorem perm_of_sub : ∀ (p ys : List Int), p.Nodup → (∀ x ∈ p, x ∈ ys) → ys.length ≤ p.length → p.Perm ys := by
  intro p
  induction p with
  | nil => intro ys _ _ h; obtain rfl : ys = [] := List.eq_nil_of_length_eq_zero (by simpa using h); exact List.Perm.refl _
  | cons x r ih =>
    intro ys hn hs hl
    have hx : x ∈ ys := hs x (by simp)
    have h1 : ys.Perm (x :: ys.erase x) := List.perm_cons_erase hx
    obtain ⟨hxr, hnr⟩ := List.nodup_cons.1 hn
    refine List.Perm.trans ((ih (ys.erase x) hnr (fun y hy => ?_) ?_).cons x) h1.symm
    · exact (List.mem_erase_of_ne (fun e => hxr (by rw [← e]; exact hy))).2 (hs y (by simp [hy]))
    · have := h1.length_eq; simp at this hl ⊢; omega

theorem mem_upN {x : Int} {n : Nat} : x ∈ upN n ↔ 0 ≤ x ∧ x < n := by
  simp only [upN, List.mem_map, List.mem_range]
  constructor
  · rintro ⟨a, h, rfl⟩; omega
  · intro h; exact ⟨x.toNat, by omega, by omega⟩

/-- the error at a place of a would-be permutation. -/
def permAt (p : List Int) (i : Nat) : Int := if inB (nth p i) 0 ((p.length : Int) - 1) = true then (if hasI (p.take i) (nth p i) = true then 23 else 0) else 6
def scan (f : Nat → Int) (n : Nat) : Int := firstNZ ((List.range n).map f)
theorem scan_end {f : Nat → Int} {n : Nat} (h : ∀ j, j < n → f j = 0) : scan f n = 0 := by
  unfold scan
  rw [firstNZ_zero]
  intro x hx
  obtain ⟨j, hj, rfl⟩ := List.mem_map.1 hx
  exact h j (List.mem_range.1 hj)
theorem scan_zero {f : Nat → Int} {n : Nat} (h : scan f n = 0) : ∀ j, j < n → f j = 0 := by
  unfold scan at h
  rw [firstNZ_zero] at h
  exact fun j hj => h _ (List.mem_map.2 ⟨j, List.mem_range.2 hj, rfl⟩)
theorem scan_at {f : Nat → Int} {n k : Nat} (h : ∀ j, j < k → f j = 0) (hk : k < n) (hne : f k ≠ 0) : scan f n = f k := by
  unfold scan
  obtain ⟨m, rfl⟩ : ∃ m, n = k + (m + 1) := ⟨n - k - 1, by omega⟩
  rw [List.range_add, List.map_append, firstNZ_append_zero]
  · rw [List.range_succ_eq_map]
    simp [firstNZ, hne]
  · intro x hx
    obtain ⟨j, hj, rfl⟩ := List.mem_map.1 hx
    exact h j (List.mem_range.1 hj)
def permErr (p : List Int) : Int := if 12 < p.length then 8 else scan (permAt p) p.length

theorem permErr_ok {p : List Int} (h : permErr p = 0) : p.length ≤ 12 ∧ p.Perm (upN p.length) := by
  unfold permErr at h
  split at h
  · cases h
  · refine ⟨by omega, ?_⟩
    have hz := scan_zero h
    have hz1 : ∀ j, j < p.length → inB (nth p j) 0 ((p.length : Int) - 1) = true ∧ hasI (p.take j) (nth p j) = false := by
      intro j hj
      have := hz j hj
      unfold permAt at this
      split at this
      · rename_i h1
        split at this
        · cases this
        · rename_i h2; exact ⟨h1, by simpa using h2⟩
      · cases this
    refine perm_of_sub _ _ ?_ ?_ (by simp [upN])
    · unfold List.Nodup
      rw [List.pairwise_iff_getElem]
      intro i j hi hj hij e
      have h2 := (hz1 j hj).2
      rw [nth_lt hj] at h2
      have h3 : p[j] ∈ p.take j := by rw [← e]; exact List.mem_take_iff_getElem.2 ⟨i, by omega, rfl⟩
      rw [hasI_mem.2 h3] at h2
      cases h2
    · intro x hx
      obtain ⟨j, hj, rfl⟩ := List.mem_iff_getElem.1 hx
      have := inB_true.1 (hz1 j hj).1
      rw [nth_lt hj] at this
      exact mem_upN.2 (by omega)

theorem perm_len (n k : Nat) : (perm n k).length = n := by
  have := (permF_perm n (upN n) k (upN_len n)).length_eq
  rw [upN_len] at this
  exact this
theorem perm_perm (n k : Nat) : (perm n k).Perm (upN n) := permF_perm n (upN n) k (upN_len n)
theorem key_perm {n k : Nat} (h : k < fac n) : keyN (perm n k) = k := keyN_permF n (upN n) k (upN_len n) (upN_sorted n) h
theorem perm_key {p : List Int} (h : p.Perm (upN p.length)) : perm p.length (keyN p) = p := permF_keyN _ _ _ (upN_len _) (upN_sorted _) h
theorem permErr_perm {p : List Int} (h12 : p.length ≤ 12) (h : p.Perm (upN p.length)) : permErr p = 0 := by
  unfold permErr
  rw [if_neg (by omega)]
  refine scan_end fun j hj => ?_
  have hm : p[j] ∈ upN p.length := h.subset (List.getElem_mem hj)
  have hb := mem_upN.1 hm
  have h1 : inB (nth p j) 0 ((p.length : Int) - 1) = true := by rw [nth_lt hj, inB_true]; omega
  have hnd : p.Nodup := h.nodup_iff.2 ((upN_sorted _).imp fun {a b} hab e => by omega)
  have h2 : hasI (p.take j) (nth p j) = false := by
    rw [nth_lt hj]
    cases e : hasI (p.take j) p[j] with
    | false => rfl
    | true =>
      have hm2 : p[j] ∈ p.take j := hasI_mem.1 e
      obtain ⟨i, hi, he⟩ := List.mem_take_iff_getElem.1 hm2
      have := List.pairwise_iff_getElem.1 hnd i j (by omega) hj (by omega)
      exact absurd he this
  simp only [permAt, h1, h2]; simp

theorem cntL_take {p : List Int} {x : Int} {k : Nat} (h : k < p.length) : cntL x (p.take (k + 1)) = cntL x (p.take k) + (if nth p k < x then 1 else 0) := by
  rw [take_nth h]
  unfold cntL
  rw [List.countP_append]
  by_cases e : nth p k < x <;> simp [e]

/-- the key so far, and the weight of the next digit. -/
def wgt (n : Nat) : Nat → Nat
  | 0 => 1
  | k + 1 => wgt n k * (n - k)
theorem wgt_fac {n : Nat} : ∀ k, k ≤ n → wgt n k * fac (n - k) = fac n := by
  intro k
  induction k with
  | zero => intro _; simp [wgt]
  | succ k ih =>
    intro h
    have h1 := ih (by omega)
    obtain ⟨m, hm⟩ : ∃ m, n - k = m + 1 := ⟨n - k - 1, by omega⟩
    rw [hm] at h1
    simp only [wgt]
    rw [hm, show n - (k + 1) = m from by omega, Nat.mul_assoc]
    exact h1
theorem wgt_le {n k : Nat} (h : k ≤ n) : wgt n k ≤ fac n := by
  rw [← wgt_fac k h]; exact Nat.le_mul_of_pos_right _ (fac_pos _)
def kUp (p : List Int) : Nat → Nat
  | 0 => 0
  | k + 1 => kUp p k + cntL (nth p k) (p.drop (k + 1)) * wgt p.length k
theorem kUp_keyN {p : List Int} : ∀ k, k ≤ p.length → kUp p k + wgt p.length k * keyN (p.drop k) = keyN p := by
  intro k
  induction k with
  | zero => intro _; simp [kUp, wgt]
  | succ k ih =>
    intro h
    have h1 := ih (by omega)
    have h2 : p.drop k = nth p k :: p.drop (k + 1) := by rw [nth_lt (by omega)]; exact List.drop_eq_getElem_cons (by omega)
    rw [h2] at h1
    simp only [keyN] at h1
    rw [← h1]
    simp only [kUp, wgt]
    rw [show (p.drop (k + 1)).length + 1 = p.length - k from by simp; omega, Nat.mul_add, Nat.mul_assoc, Nat.mul_comm (wgt _ _) (cntL _ _)]
    omega
theorem kUp_end (p : List Int) : kUp p p.length = keyN p := by
  have := kUp_keyN (p := p) p.length (Nat.le_refl _)
  simpa [keyN] using this
theorem kUp_le {p : List Int} {k : Nat} (h : k ≤ p.length) : kUp p k ≤ keyN p := by
  have := kUp_keyN (p := p) k h
  omega
theorem fac_le12 {n : Nat} (h : n ≤ 12) : fac n ≤ 479001600 := by
  have : ∀ m : Fin 13, fac m.val ≤ 479001600 := by decide
  exact this ⟨n, by omega⟩
theorem nth_dropped (p : List Int) (i j : Nat) : nth (p.drop i) j = nth p (i + j) := nth_drop p i j

end Go.Proofs.Ytllddidjiabegaa
