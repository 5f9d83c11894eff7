/- Plain arithmetic: factorials, binomial numbers, powers. No program in sight. -/
import Derived.Test.YtllddidjiabegaaRows
import Derived.WalkKit
import Derived.WalkSpells
import Derived.WalkLawsBesides
import Derived.Deep.QuietTactic
import Derived.BigQuiet
import Derived.StillTailTactics
import Derived.StillTail
import Derived.Deep.AppendLies
import Derived.Laws.AppendOwnNone
set_option linter.unusedVariables false
set_option linter.unusedSimpArgs false
namespace Go.Proofs.Ytllddidjiabegaa

def fac : Nat → Nat
  | 0 => 1
  | n + 1 => (n + 1) * fac n
theorem fac_pos (n : Nat) : 0 < fac n := by
  induction n with
  | zero => decide
  | succ n ih => simp only [fac]; exact Nat.mul_pos (by omega) ih
theorem fac_mono {a b : Nat} (h : a ≤ b) : fac a ≤ fac b := by
  induction b with
  | zero => have : a = 0 := by omega
            rw [this]; exact Nat.le_refl _
  | succ b ih =>
    by_cases e : a = b + 1
    · rw [e]; exact Nat.le_refl _
    · have h1 := ih (by omega)
      have h2 : fac b ≤ fac (b + 1) := by simp only [fac]; exact Nat.le_mul_of_pos_left _ (by omega)
      omega
theorem fac_le {n : Nat} (h : n ≤ 12) : fac n ≤ 479001600 := Nat.le_trans (fac_mono h) (by decide)
/-- the number of permutations of n things, 1 for n below 2. -/
def facI (n : Int) : Int := (fac n.toNat : Int)
theorem facI_pos (n : Int) : 1 ≤ facI n := by have := fac_pos n.toNat; simp only [facI]; omega
theorem facI_le {n : Int} (h : n ≤ 12) : facI n ≤ 479001600 := by have := fac_le (n := n.toNat) (by omega); simp only [facI]; omega
theorem facI_small {n : Int} (h : n < 2) : facI n = 1 := by
  by_cases h0 : n ≤ 0
  · have e : n.toNat = 0 := by omega
    simp [facI, e, fac]
  · have e : n.toNat = 1 := by omega
    simp [facI, e, fac]
theorem facI_step {n : Int} (h : 1 ≤ n) : n * facI (n - 1) = facI n := by
  obtain ⟨m, rfl⟩ : ∃ m : Nat, n = m + 1 := ⟨(n - 1).toNat, by omega⟩
  have e1 : ((m : Int) + 1 - 1).toNat = m := by omega
  have e2 : ((m : Int) + 1).toNat = m + 1 := by omega
  simp only [facI, e1, e2, fac]
  push_cast
  rfl

/-- binomial numbers. -/
def ch : Nat → Nat → Nat
  | _, 0 => 1
  | 0, _ + 1 => 0
  | n + 1, k + 1 => ch n k + ch n (k + 1)
theorem ch_zero (n : Nat) : ch n 0 = 1 := by cases n <;> rfl
theorem ch_big {n : Nat} : ∀ {k}, n < k → ch n k = 0 := by
  induction n with
  | zero => intro k h; cases k with | zero => omega | succ k => rfl
  | succ n ih => intro k h; cases k with
    | zero => omega
    | succ k => simp only [ch]; rw [ih (by omega), ih (by omega)]
theorem ch_self (n : Nat) : ch n n = 1 := by
  induction n with
  | zero => rfl
  | succ n ih => simp only [ch]; rw [ih, ch_big (Nat.lt_succ_self n)]
theorem ch_le_pow (n : Nat) : ∀ k, ch n k ≤ 2 ^ n := by
  induction n with
  | zero => intro k; cases k <;> simp [ch]
  | succ n ih => intro k; cases k with
    | zero => rw [ch_zero]; exact Nat.one_le_two_pow
    | succ k => simp only [ch]; have := ih k; have := ih (k + 1); rw [Nat.pow_succ]; omega
/-- (k + 1) C(n, k + 1) = C(n, k) (n - k). -/
theorem ch_step (n : Nat) : ∀ k, (k + 1) * ch n (k + 1) + k * ch n k = n * ch n k := by
  induction n with
  | zero => intro k; cases k <;> simp [ch]
  | succ n ih => intro k; cases k with
    | zero => have := ih 0; simp only [ch, ch_zero] at *; omega
    | succ k =>
      have h1 := ih k; have h2 := ih (k + 1)
      simp only [ch]
      generalize ch n k = a at *
      generalize ch n (k + 1) = b at *
      generalize ch n (k + 1 + 1) = c at *
      have e1 : (k + 1 + 1) * (b + c) = (k + 1) * b + b + (k + 1 + 1) * c := by grind
      have e2 : (n + 1) * (a + b) = n * a + n * b + a + b := by grind
      have e3 : (k + 1) * (a + b) = k * a + a + (k + 1) * b := by grind
      rw [e1, e2, e3]; omega
theorem ch_div {n k : Nat} (h : k ≤ n) : ch n k * (n - k) / (k + 1) = ch n (k + 1) := by
  have h1 := ch_step n k
  have h2 : ch n k * (n - k) = (k + 1) * ch n (k + 1) := by
    rw [Nat.mul_sub, Nat.mul_comm (ch n k) n, Nat.mul_comm (ch n k) k]; omega
  rw [h2, Nat.mul_div_cancel_left _ (by omega)]
theorem ch_symm {n : Nat} : ∀ {k}, k ≤ n → ch n (n - k) = ch n k := by
  induction n with
  | zero => intro k h; have : k = 0 := by omega
            subst this; rfl
  | succ n ih => intro k h; cases k with
    | zero => simp [ch_self, ch_zero]
    | succ k =>
      by_cases e : k = n
      · subst e; simp [ch_self, ch_zero]
      · have e1 : n + 1 - (k + 1) = (n - (k + 1)) + 1 := by omega
        rw [e1]; simp only [ch]
        rw [ih (by omega : k + 1 ≤ n), show n - (k + 1) + 1 = n - k from by omega, ih (by omega : k ≤ n)]; omega
theorem ch_pos {n k : Nat} (h : k ≤ n) : 0 < ch n k := by
  induction n generalizing k with
  | zero => have : k = 0 := by omega
            subst this; decide
  | succ n ih => cases k with
    | zero => rw [ch_zero]; decide
    | succ k => simp only [ch]; have := ih (show k ≤ n by omega); omega

/-- the number of subsets with k members, 0 if there are none. -/
def chI (n k : Int) : Int := if 0 ≤ k ∧ k ≤ n then (ch n.toNat k.toNat : Int) else 0

theorem chI_nonneg (n k : Int) : 0 ≤ chI n k := by unfold chI; split <;> omega
theorem chI_le {n k : Int} (h : n ≤ 30) : chI n k ≤ 1073741824 := by
  unfold chI; split
  · have := ch_le_pow n.toNat k.toNat
    have h2 : 2 ^ n.toNat ≤ 2 ^ 30 := Nat.pow_le_pow_right (by omega) (by omega)
    omega
  · omega

/-- powers. -/
def powI (n k : Int) : Int := n ^ k.toNat
theorem powI_nonneg {n : Int} (k : Int) (h : 0 ≤ n) : 0 ≤ powI n k := Int.pow_nonneg h
theorem pow_le_ten {n : Int} (h0 : 0 ≤ n) (h : n ≤ 10) (k : Nat) : n ^ k ≤ 10 ^ k := by
  induction k with
  | zero => simp
  | succ k ih =>
    rw [Int.pow_succ, Int.pow_succ]
    exact Int.mul_le_mul ih h h0 (Int.pow_nonneg (by omega))
theorem ten_pow_le {k m : Nat} (h : k ≤ m) : (10 : Int) ^ k ≤ 10 ^ m := by
  induction m with
  | zero => have : k = 0 := by omega
            subst this; simp
  | succ m ih =>
    by_cases e : k = m + 1
    · subst e; omega
    · have := ih (by omega)
      have h2 : (0 : Int) ≤ 10 ^ m := Int.pow_nonneg (by omega)
      rw [Int.pow_succ]; omega
theorem powI_le {n k : Int} (h0 : 0 ≤ n) (h : n ≤ 10) (hk : k ≤ 12) : powI n k ≤ 1000000000000 := by
  have h1 := pow_le_ten h0 h k.toNat
  have h2 := ten_pow_le (k := k.toNat) (m := 12) (by omega)
  unfold powI
  have e : (10 : Int) ^ 12 = 1000000000000 := by decide
  omega

/-! sequences of trials -/
/-- the number of sequences of t trials with exactly k hits, trial by trial. -/
def ex (s u : Nat) : Nat → Nat → Nat
  | 0, 0 => 1
  | 0, _ + 1 => 0
  | t + 1, 0 => ex s u t 0 * u
  | t + 1, k + 1 => ex s u t (k + 1) * u + ex s u t k * s
theorem ex_big {s u t : Nat} : ∀ {k}, t < k → ex s u t k = 0 := by
  induction t with
  | zero => intro k h; cases k with | zero => omega | succ k => rfl
  | succ t ih => intro k h; cases k with
    | zero => omega
    | succ k => simp only [ex]; rw [ih (by omega), ih (by omega)]; simp
theorem ex_eq (s u t : Nat) : ∀ k, k ≤ t → ex s u t k = ch t k * s ^ k * u ^ (t - k) := by
  induction t with
  | zero => intro k h; have : k = 0 := by omega
            subst this; simp [ex, ch]
  | succ t ih => intro k h; cases k with
    | zero => simp only [ex]; rw [ih 0 (by omega)]; simp [ch_zero, Nat.pow_succ]
    | succ k =>
      simp only [ex, ch]
      have e : t + 1 - (k + 1) = t - k := by omega
      rw [e, ih k (by omega)]
      by_cases hk : k = t
      · rw [hk, ex_big (Nat.lt_succ_self t), ch_big (Nat.lt_succ_self t), Nat.pow_succ]; simp [Nat.mul_assoc]
      · rw [ih (k + 1) (by omega)]
        have e2 : t - k = (t - (k + 1)) + 1 := by omega
        rw [e2, Nat.pow_succ, Nat.pow_succ]
        grind

/-- f a + f (a + 1) + .. (n terms). -/
def sumFrom (f : Nat → Nat) (a : Nat) : Nat → Nat
  | 0 => 0
  | n + 1 => sumFrom f a n + f (a + n)
theorem sumFrom_front (f : Nat → Nat) (a n : Nat) : sumFrom f a (n + 1) = f a + sumFrom f (a + 1) n := by
  induction n with
  | zero => simp [sumFrom]
  | succ n ih => rw [sumFrom, ih, sumFrom, Nat.add_assoc, show a + (n + 1) = a + 1 + n from by omega]
theorem sumFrom_congr {f g : Nat → Nat} {a n : Nat} (h : ∀ i, i < n → f (a + i) = g (a + i)) : sumFrom f a n = sumFrom g a n := by
  induction n with
  | zero => rfl
  | succ n ih => rw [sumFrom, sumFrom, ih fun i hi => h i (by omega), h n (by omega)]
theorem sumFrom_le {f : Nat → Nat} {a n m : Nat} (h : n ≤ m) : sumFrom f a n ≤ sumFrom f a m := by
  induction m with
  | zero => have : n = 0 := by omega
            subst this; exact Nat.le_refl _
  | succ m ih =>
    by_cases e : n = m + 1
    · subst e; exact Nat.le_refl _
    · have := ih (by omega); rw [sumFrom]; omega
theorem sumFrom_lin (f g : Nat → Nat) (a n x y : Nat) : sumFrom (fun i => f i * x + g i * y) a n = sumFrom f a n * x + sumFrom g a n * y := by
  induction n with
  | zero => simp [sumFrom]
  | succ n ih => simp only [sumFrom]; rw [ih]; grind
theorem sumFrom_shift (f : Nat → Nat) (a n : Nat) : sumFrom (fun i => f (i + 1)) a n = sumFrom f (a + 1) n := by
  induction n with
  | zero => rfl
  | succ n ih => simp only [sumFrom]; rw [ih, show a + n + 1 = a + 1 + n from by omega]
theorem ex_sum (s u t : Nat) : sumFrom (ex s u t) 0 (t + 1) = (s + u) ^ t := by
  induction t with
  | zero => simp [sumFrom, ex]
  | succ t ih =>
    rw [sumFrom_front]
    have e : sumFrom (ex s u (t + 1)) (0 + 1) (t + 1) = sumFrom (ex s u t) (0 + 1) (t + 1) * u + sumFrom (ex s u t) 0 (t + 1) * s := by
      rw [← sumFrom_shift, ← sumFrom_shift, ← sumFrom_lin]
      rfl
    have e2 : sumFrom (ex s u t) 0 (t + 1) = ex s u t 0 + sumFrom (ex s u t) (0 + 1) t := sumFrom_front _ _ _
    have e3 : sumFrom (ex s u t) (0 + 1) (t + 1) = sumFrom (ex s u t) (0 + 1) t := by
      rw [sumFrom, ex_big (by omega : t < 0 + 1 + t)]; rfl
    rw [e, e3, ih, Nat.pow_succ]
    have e4 : ex s u (t + 1) 0 = ex s u t 0 * u := rfl
    rw [e4]
    rw [ih] at e2
    have : ex s u t 0 * u + (sumFrom (ex s u t) (0 + 1) t * u + (s + u) ^ t * s) = (ex s u t 0 + sumFrom (ex s u t) (0 + 1) t) * u + (s + u) ^ t * s := by grind
    rw [this, ← e2]; grind
/-- the number of sequences with at least h hits. -/
def waysN (s t h : Nat) : Nat := sumFrom (ex s (10 - s) t) h (t + 1 - h)
theorem waysN_step {s t h : Nat} (hh : h ≤ t) : waysN s t h = ex s (10 - s) t h + waysN s t (h + 1) := by
  unfold waysN
  rw [show t + 1 - h = (t + 1 - (h + 1)) + 1 from by omega, sumFrom_front]
theorem waysN_big {s t h : Nat} (hh : t < h) : waysN s t h = 0 := by unfold waysN; rw [show t + 1 - h = 0 from by omega]; rfl
theorem waysN_zero {s t : Nat} (hs : s ≤ 10) : waysN s t 0 = 10 ^ t := by
  unfold waysN; rw [show t + 1 - 0 = t + 1 from rfl, ex_sum, show s + (10 - s) = 10 from by omega]
theorem waysN_anti {s t : Nat} {a b : Nat} (h : a ≤ b) : waysN s t b ≤ waysN s t a := by
  induction b with
  | zero => have : a = 0 := by omega
            subst this; exact Nat.le_refl _
  | succ b ih =>
    by_cases e : a = b + 1
    · subst e; exact Nat.le_refl _
    · have h1 := ih (by omega)
      by_cases hb : b ≤ t
      · have := waysN_step (s := s) hb; omega
      · rw [waysN_big (by omega : t < b + 1)]; omega
theorem waysN_le {s t h : Nat} (hs : s ≤ 10) : waysN s t h ≤ 10 ^ t := by
  have := waysN_anti (s := s) (t := t) (Nat.zero_le h); rw [waysN_zero hs] at this; exact this
theorem ex_le {s t k : Nat} (hs : s ≤ 10) : ex s (10 - s) t k ≤ 10 ^ t := by
  by_cases h : k ≤ t
  · have h1 := waysN_step (s := s) h
    have h2 := waysN_le (s := s) (t := t) (h := k) hs
    omega
  · rw [ex_big (by omega)]; exact Nat.zero_le _
theorem ten_le {t : Nat} (h : t ≤ 12) : 10 ^ t ≤ 1000000000000 := Nat.le_trans (Nat.pow_le_pow_right (by decide) h) (by decide)

/-- the least number from a on that does not have a property; the greatest one from b down. -/
def upTo (p : Nat → Bool) : Nat → Nat → Nat
  | 0, a => a
  | f + 1, a => if p a then upTo p f (a + 1) else a
def downTo (p : Nat → Bool) : Nat → Nat
  | 0 => 0
  | b + 1 => if p (b + 1) then downTo p b else b + 1
theorem upTo_eq {p : Nat → Bool} : ∀ (f a c : Nat), a ≤ c → c - a ≤ f → (∀ j, a ≤ j → j < c → p j = true) → p c = false → upTo p f a = c := by
  intro f
  induction f with
  | zero => intro a c h1 h2 _ _; simp only [upTo]; omega
  | succ f ih =>
    intro a c h1 h2 h3 h4
    simp only [upTo]
    by_cases e : a = c
    · subst e; simp [h4]
    · rw [h3 a (Nat.le_refl _) (by omega), if_pos rfl]
      exact ih (a + 1) c (by omega) (by omega) (fun j hj hj2 => h3 j (by omega) hj2) h4
theorem downTo_eq {p : Nat → Bool} : ∀ (b c : Nat), c ≤ b → (∀ j, c < j → j ≤ b → p j = true) → (c = 0 ∨ p c = false) → downTo p b = c := by
  intro b
  induction b with
  | zero => intro c h1 _ _; simp only [downTo]; omega
  | succ b ih =>
    intro c h1 h2 h3
    simp only [downTo]
    by_cases e : c = b + 1
    · subst e; rcases h3 with h3 | h3
      · omega
      · simp [h3]
    · rw [h2 (b + 1) (by omega) (Nat.le_refl _), if_pos rfl]
      exact ih c (by omega) (fun j hj hj2 => h2 j hj (by omega)) h3
def loP (T S r a : Nat) : Bool := decide (2000 * (10 ^ T - waysN S T (a + 1)) ≤ r * 10 ^ T)
def hiP (T S r b : Nat) : Bool := decide (2000 * waysN S T b ≤ r * 10 ^ T)
/-- the band of a share. -/
def bandLo (T S r : Nat) : Nat := upTo (loP T S r) (T + 1) 0
def bandHi (T S r : Nat) : Nat := downTo (hiP T S r) T
theorem loP_end {T S r : Nat} (hr : r < 2000) : loP T S r T = false := by
  simp only [loP, decide_eq_false_iff_not, Nat.not_le]
  rw [waysN_big (Nat.lt_succ_self T)]
  have : 0 < 10 ^ T := Nat.pow_pos (by decide)
  exact Nat.mul_lt_mul_of_pos_right hr this
theorem hiP_end {T S r : Nat} (hS : S ≤ 10) (hr : r < 2000) : hiP T S r 0 = false := by
  simp only [hiP, decide_eq_false_iff_not, Nat.not_le]
  rw [waysN_zero hS]
  have : 0 < 10 ^ T := Nat.pow_pos (by decide)
  exact Nat.mul_lt_mul_of_pos_right hr this

/-! greatest common divisors, as Go reckons them -/
theorem gcd_tmod (a b : Int) : Int.gcd b (a.tmod b) = Int.gcd a b := by
  simp only [Int.gcd, Int.natAbs_tmod]
  rw [Nat.gcd_comm b.natAbs, ← Nat.gcd_rec, Nat.gcd_comm]
theorem tmod_abs (a b : Int) (h : b ≠ 0) : (a.tmod b).natAbs < b.natAbs := by
  rw [Int.natAbs_tmod]; exact Nat.mod_lt _ (by omega)

/-- f lo + f (lo + 1) + .. (n terms). -/
def sumI (f : Int → Int) (lo : Int) : Nat → Int
  | 0 => 0
  | n + 1 => sumI f lo n + f (lo + n)
theorem sumI_bound {f : Int → Int} {B : Int} (lo : Int) (n : Nat) (h : ∀ i, 0 ≤ f i ∧ f i ≤ B) : 0 ≤ sumI f lo n ∧ sumI f lo n ≤ n * B := by
  induction n with
  | zero => simp [sumI]
  | succ n ih =>
    have := h (lo + n)
    simp only [sumI]
    rw [Int.natCast_succ, Int.add_mul]; omega
theorem sumI_more {f : Int → Int} {lo : Int} {n m : Nat} (h : n ≤ m) (hz : ∀ i : Nat, n ≤ i → i < m → f (lo + i) = 0) : sumI f lo m = sumI f lo n := by
  induction m with
  | zero => have : n = 0 := by omega
            subst this; rfl
  | succ m ih =>
    by_cases e : n = m + 1
    · subst e; rfl
    · rw [sumI, ih (by omega) (fun i h1 h2 => hz i h1 (by omega)), hz m (by omega) (by omega), Int.add_zero]

/-- the ways to have j of those inside among the selected ones. -/
def chTerm (all sel ins j : Int) : Int := chI ins j * chI (all - ins) (sel - j)
theorem chTerm_bound {all sel ins : Int} (h1 : all ≤ 30) (h2 : ins ≤ all) (h3 : 0 ≤ ins) (j : Int) : 0 ≤ chTerm all sel ins j ∧ chTerm all sel ins j ≤ 1073741824 := by
  have a0 := chI_nonneg ins j
  have b0 := chI_nonneg (all - ins) (sel - j)
  refine ⟨Int.mul_nonneg a0 b0, ?_⟩
  have e1 : chI ins j ≤ ((2 ^ ins.toNat : Nat) : Int) := by
    unfold chI; split
    · exact_mod_cast ch_le_pow _ _
    · exact Int.natCast_nonneg _
  have e2 : chI (all - ins) (sel - j) ≤ ((2 ^ (all - ins).toNat : Nat) : Int) := by
    unfold chI; split
    · exact_mod_cast ch_le_pow _ _
    · exact Int.natCast_nonneg _
  have e3 : ((2 ^ ins.toNat : Nat) : Int) * ((2 ^ (all - ins).toNat : Nat) : Int) = ((2 ^ all.toNat : Nat) : Int) := by
    rw [← Int.natCast_mul, ← Nat.pow_add, show ins.toNat + (all - ins).toNat = all.toNat from by omega]
  have e4 : 2 ^ all.toNat ≤ 2 ^ 30 := Nat.pow_le_pow_right (by omega) (by omega)
  have e5 := Int.mul_le_mul e1 e2 b0 (by omega)
  unfold chTerm
  omega
/-- the ways to have at least cnt of those inside. -/
def chWays (all sel ins cnt : Int) : Int := sumI (chTerm all sel ins) cnt (sel + 1 - cnt).toNat
theorem chWays_more {all sel ins cnt : Int} (h : sel ≤ all) : sumI (chTerm all sel ins) cnt (all + 1 - cnt).toNat = chWays all sel ins cnt := by
  unfold chWays
  refine sumI_more (by omega) fun i h1 h2 => ?_
  unfold chTerm
  have : chI (all - ins) (sel - (cnt + i)) = 0 := by simp only [chI]; rw [if_neg (by omega)]
  rw [this, Int.mul_zero]
theorem chWays_bound {all sel ins cnt : Int} (h1 : all ≤ 30) (h2 : ins ≤ all) (h3 : 0 ≤ ins) (h4 : sel ≤ all) (h5 : 0 ≤ cnt) : 0 ≤ chWays all sel ins cnt ∧ chWays all sel ins cnt ≤ 33285996544 := by
  have := sumI_bound (f := chTerm all sel ins) cnt (sel + 1 - cnt).toNat (chTerm_bound h1 h2 h3)
  unfold chWays; omega

/-- a fraction in lowest terms: the parts of n / d. -/
def lowNum (n d : Int) : Int := n / (Int.gcd n d : Int)
def lowDen (n d : Int) : Int := d / (Int.gcd n d : Int)

end Go.Proofs.Ytllddidjiabegaa

/- Small notions that all contracts of this seat use: a range test, the first error of a list, worlds that only grow, slices that read as lists. No program in sight. -/
set_option linter.unusedVariables false
set_option linter.unusedSimpArgs false
namespace Go.Proofs.Ytllddidjiabegaa
open Go.RowKit

theorem hid {p : Prop} (h : p) : Hid p := h

/-- n lies from lo to hi. -/
def inB (n lo hi : Int) : Bool := decide (lo ≤ n) && decide (n ≤ hi)
theorem inB_true {n lo hi : Int} : inB n lo hi = true ↔ lo ≤ n ∧ n ≤ hi := by simp [inB]
theorem inB_false {n lo hi : Int} : inB n lo hi = false ↔ ¬ (lo ≤ n ∧ n ≤ hi) := by rw [← inB_true]; simp

/-- 0 if a condition holds, else an error. -/
def unl (b : Bool) (n : Int) : Int := if b = true then 0 else n

/-- the first number of a list that is not 0, or 0. -/
def firstNZ : List Int → Int
  | [] => 0
  | x :: l => if x = 0 then firstNZ l else x

theorem firstNZ_zero {l : List Int} : firstNZ l = 0 ↔ ∀ x ∈ l, x = 0 := by
  induction l with
  | nil => simp [firstNZ]
  | cons a l ih =>
    simp only [firstNZ]
    split
    · rename_i h; simp [ih, h]
    · rename_i h; simp [h]

theorem firstNZ_append_zero {l m : List Int} (h : ∀ x ∈ l, x = 0) : firstNZ (l ++ m) = firstNZ m := by
  induction l with
  | nil => rfl
  | cons a l ih =>
    have ha : a = 0 := h a (by simp)
    simp only [List.cons_append, firstNZ, ha, if_true]
    exact ih fun x hx => h x (by simp [hx])

/-- What a call that leaves old memory alone gives of old cells. -/
theorem bcell {W w1 : World} (hb : Below W.heap.size W w1) : (∀ b o, b < W.heap.size → w1.cell? ⟨b, o, none⟩ = W.cell? ⟨b, o, none⟩) ∧ (∀ b o, b < W.heap.size → w1.frozen? ⟨b, o, none⟩ = W.frozen? ⟨b, o, none⟩) :=
  ⟨fun b o h => hb.cell (p := ⟨b, o, none⟩) h, fun b o h => hb.frozen (p := ⟨b, o, none⟩) h⟩

theorem Below.drewN {B : Nat} {a w : World} (n : Nat) (h : Below B a w) : Below B a (w.drewN n) := ⟨h.os, h.tape, h.output, h.size, h.block⟩

theorem Below_call {w a w1 : World} (h : Below w.heap.size w a) (hb : Below a.heap.size a w1) : Below w.heap.size w w1 := h.trans (hb.mono h.size)

theorem Below_alloc {w w' : World} (h : Below w.heap.size w w') (o : Obj) : Below w.heap.size w (w'.alloc o) := h.alloc h.size o

/-- contracts inside a quiet walk: of a callee that leaves the world alone, and of one that draws. -/
theorem quiet_same {P : Program} {f : FuncId} {args : Array Value} {W : World} {v : Value} {C : World → Prop}
    (h : Calls P f args W fun e w' => e = .returned v ∧ W = w') (hC : C W) : Calls P f args W fun e w'' => e = .returned v ∧ C w'' :=
  h.mono fun _ _ ⟨he, hm⟩ => ⟨he, hm ▸ hC⟩
theorem quiet_draw {P : Program} {f : FuncId} {args : Array Value} {W : World} {v : Value} {C : World → Prop}
    (h : Calls P f args W fun e w' => e = .returned v ∧ ∃ k, w' = W.drewN k) (hC : ∀ k, C (W.drewN k)) : Calls P f args W fun e w'' => e = .returned v ∧ C w'' :=
  h.mono fun _ _ ⟨he, k, hk⟩ => ⟨he, hk ▸ hC k⟩
theorem quiet_eq {P : Program} {f : FuncId} {args : Array Value} {w : World} {v u : Value} {R : World → Prop}
    (h : Calls P f args w fun e w'' => e = .returned v ∧ R w'') (hu : v = u) : Calls P f args w fun e w'' => e = .returned u ∧ R w'' := by rw [← hu]; exact h

/-- A slice value v reads in w as n elements of sz cells: cell j of element i holds c i j. -/
def SlAt (w : World) (v : Value) (n sz : Nat) (c : Nat → Nat → Value) : Prop :=
  ∃ ao cap, v = .slice ao n cap ∧ n ≤ cap ∧ cap ≤ maxLen ∧
    (0 < n → ∃ b off, ao = some ⟨b, off, none⟩ ∧ b < w.heap.size ∧ ∀ i j, i < n → j < sz → w.cell? ⟨b, off + i * sz + j, none⟩ = some (c i j)) ∧ (ao = none → cap = 0)

theorem SlAt.below {w w' : World} {v : Value} {n sz : Nat} {c : Nat → Nat → Value} (h : SlAt w v n sz c) (hb : Below w.heap.size w w') : SlAt w' v n sz c := by
  obtain ⟨ao, cap, rfl, h1, h2, h3, h4⟩ := h
  refine ⟨ao, cap, rfl, h1, h2, fun h0 => ?_, h4⟩
  obtain ⟨b, off, e, hlt, hc⟩ := h3 h0
  exact ⟨b, off, e, Nat.lt_of_lt_of_le hlt hb.size, fun i j hi hj => (hb.cell (p := ⟨b, _, none⟩) hlt).trans (hc i j hi hj)⟩

/-- A slice of ints. -/
def IntsAt (w : World) (v : Value) (l : List Int) : Prop := SlAt w v l.length 1 (fun i _ => .int .i64 (l.getD i 0))

theorem IntsAt.below {w w' : World} {v : Value} {l : List Int} (h : IntsAt w v l) (hb : Below w.heap.size w w') : IntsAt w' v l := SlAt.below h hb

/-- .. opened: the value's shape, and each cell under its condition. -/
theorem IntsAt.open {w : World} {v : Value} {l : List Int} (h : IntsAt w v l) : ∃ ao cap, v = .slice ao l.length cap ∧ l.length ≤ cap ∧ cap ≤ maxLen ∧
    ∀ k, k < l.length → ∃ b off, ao = some ⟨b, off, none⟩ ∧ b < w.heap.size ∧ ∀ i, i < l.length → w.cell? ⟨b, off + i, none⟩ = some (.int .i64 (l.getD i 0)) := by
  obtain ⟨ao, cap, rfl, h1, h2, h3, _⟩ := h
  refine ⟨ao, cap, rfl, h1, h2, fun k hk => ?_⟩
  obtain ⟨b, off, e, hlt, hc⟩ := h3 (by omega)
  exact ⟨b, off, e, hlt, fun i hi => by simpa using hc i 0 hi (by omega)⟩

/-- a number of a list, 0 behind its end: simp does not look into it. -/
def nth (l : List Int) (i : Nat) : Int := l.getD i 0
theorem nth_lt {l : List Int} {i : Nat} (h : i < l.length) : nth l i = l[i] := by simp [nth, List.getD, h]
theorem take_nth {l : List Int} {k : Nat} (h : k < l.length) : l.take (k + 1) = l.take k ++ [nth l k] := by
  rw [List.take_succ_eq_append_getElem h, nth_lt h]
theorem cut_nth {l : List Int} {k : Nat} (h : k < l.length) : l = l.take k ++ nth l k :: l.drop (k + 1) := by
  rw [nth_lt h, List.getElem_cons_drop, List.take_append_drop]
theorem IntsAt.opn {w : World} {v : Value} {l : List Int} (h : IntsAt w v l) : ∃ ao cap, v = .slice ao l.length cap ∧ l.length ≤ cap ∧ cap ≤ maxLen ∧
    ∀ k, k < l.length → ∃ b off, ao = some ⟨b, off, none⟩ ∧ b < w.heap.size ∧ ∀ i, i < l.length → w.cell? ⟨b, off + i, none⟩ = some (.int .i64 (nth l i)) := h.open

theorem IntsAt.nil (w : World) : IntsAt w (.slice none 0 0) [] := ⟨none, 0, rfl, by simp, by simp, fun h => by simp at h, fun _ => rfl⟩

/-- What the call's own row holds reads as a list of ints. -/
theorem ownsRow_ints {w : World} {base : Nat} {e : TypeId} {v : Value} {l : List Int} (h : w.ownsRow base e 1 v l.length (l.map (Value.int .i64))) : IntsAt w v l := by
  obtain ⟨h1, h2⟩ := h
  rcases h2 with ⟨rfl, h0⟩ | ⟨g, cap, cur, rfl, hb, hg, hn, hm, hs, ht⟩
  · obtain rfl : l = [] := List.eq_nil_of_length_eq_zero h0
    exact IntsAt.nil w
  · refine ⟨some ⟨g, 0, none⟩, cap, rfl, hn, hm, fun h0 => ⟨g, 0, rfl, (Array.getElem?_eq_some_iff.1 hg).1, fun i j hi hj => ?_⟩, fun h => by cases h⟩
    obtain rfl : j = 0 := by omega
    rw [cell_of_row w g _ cur e (0, 0) hg]
    have hl : i < (cur.toList.take (l.length * 1)).length := by rw [ht]; simpa using hi
    have e1 : (cur.toList.take (l.length * 1))[i]? = some (.int .i64 (l.getD i 0)) := by rw [ht]; simp [hi]
    rw [List.getElem?_take] at e1
    split at e1
    · simpa using e1
    · cases e1

theorem ownsRow_below {w w' : World} {base : Nat} {e : TypeId} {size : Nat} {v : Value} {n : Nat} {xs : List Value} (h : w.ownsRow base e size v n xs) (hb : Below w.heap.size w w') : w'.ownsRow base e size v n xs := by
  refine ⟨h.1, ?_⟩
  rcases h.2 with h2 | ⟨g, cap, cur, hv, hg, hh, r⟩
  · exact Or.inl h2
  · exact Or.inr ⟨g, cap, cur, hv, hg, by rw [hb.block g (Array.getElem?_eq_some_iff.1 hh).1]; exact hh, r⟩

theorem ownsRow_base {w : World} {base base' : Nat} {e : TypeId} {size : Nat} {v : Value} {n : Nat} {xs : List Value} (h : w.ownsRow base e size v n xs) (hb : base' ≤ base) : w.ownsRow base' e size v n xs := by
  refine ⟨h.1, ?_⟩
  rcases h.2 with h2 | ⟨g, cap, cur, hv, hg, r⟩
  · exact Or.inl h2
  · exact Or.inr ⟨g, cap, cur, hv, Nat.le_trans hb hg, r⟩

/-- A row of one's own that holds ints, opened. -/
theorem ownsRow_open {w : World} {base : Nat} {e : TypeId} {v : Value} {l : List Int} {n : Nat} (h : w.ownsRow base e 1 v n (l.map (Value.int .i64))) (h0 : 0 < n) :
    ∃ g cap, v = .slice (some ⟨g, 0, none⟩) n cap ∧ base ≤ g ∧ g < w.heap.size ∧ n ≤ cap ∧ cap ≤ maxLen ∧ l.length = n ∧ (∀ i, i < n → w.cell? ⟨g, i, none⟩ = some (.int .i64 (l.getD i 0))) ∧ (∀ i, w.frozen? ⟨g, i, none⟩ = false) := by
  have hlen : l.length = n := by have := h.1; simpa using this
  obtain ⟨h1, h2⟩ := h
  rcases h2 with ⟨_, h3⟩ | ⟨g, cap, cur, rfl, hb, hg, hn, hm, hs, ht⟩
  · omega
  · refine ⟨g, cap, rfl, hb, (Array.getElem?_eq_some_iff.1 hg).1, hn, hm, hlen, fun i hi => ?_, fun i => frozen_of_row w g i cur e hg⟩
    rw [cell_of_row w g _ cur e (0, 0) hg]
    have e1 : (cur.toList.take (n * 1))[i]? = some (.int .i64 (l.getD i 0)) := by rw [ht]; simp [hlen, hi]
    rw [List.getElem?_take] at e1
    split at e1
    · simpa using e1
    · cases e1

/-- a slice literal of ints, laid in a new block. -/
theorem intsAt_new (w : World) (e : TypeId) (l : List Int) (n N : Nat) (hn : n = l.length) (hm : n ≤ 1000) (hN : w.heap.size = N) : IntsAt (w.alloc (.cells (l.map (Value.int .i64)).toArray e)) (.slice (some ⟨N, 0, none⟩) n n) l := by
  subst hn; subst hN
  refine ⟨_, _, rfl, Nat.le_refl _, by unfold maxLen; omega, fun _ => ⟨_, 0, rfl, by simp, fun i j hi hj => ?_⟩, fun h => by cases h⟩
  obtain rfl : j = 0 := by omega
  rw [cell_of_row (w.alloc _) w.heap.size _ _ e (0, 0) (heap_alloc_new w _)]
  simp [hi, List.getD]

theorem getD_lt {α : Type} {l : List α} {k : Nat} (d : α) (h : k < l.length) : l.getD k d = l[k] := by simp [List.getD, h]
theorem take_getD {α : Type} {l : List α} {k : Nat} (d : α) (h : k < l.length) : l.take (k + 1) = l.take k ++ [l.getD k d] := by
  rw [List.take_succ_eq_append_getElem h, getD_lt d h]
theorem cut_getD {α : Type} {l : List α} {k : Nat} (d : α) (h : k < l.length) : l = l.take k ++ l.getD k d :: l.drop (k + 1) := by
  rw [getD_lt d h, List.getElem_cons_drop, List.take_append_drop]

theorem ret_int {k : IntKind} {a b : Int} (h : a = b) : Ending.returned (.int k a) = .returned (.int k b) := by rw [h]
theorem ret_bool {a b : Bool} (h : a = b) : Ending.returned (.bool a) = .returned (.bool b) := by rw [h]

end Go.Proofs.Ytllddidjiabegaa

/- A statement whose order is open, walked in one order: first operations that yield the same in every world, then reads and quiet calls, then a tail that can only come in one order. Own work over the kit's notions of ready, apart and quiet. -/
set_option linter.unusedVariables false
set_option linter.unusedSimpArgs false
namespace Go.Proofs.Ytllddidjiabegaa
open Go.RowKit

section
variable {P : Program} {ops : Array Oper} {md : Region.Mode} {C : World → Prop}

/-- Operations that give a value and no call. -/
def simpleOp (o : Oper) : Bool :=
  match o.op with
  | .move _ | .assign _ | .pick .. | .binOp .. | .unOp .. | .slice .. | .indexAddr .. | .fieldAddr .. | .extract .. | .field .. | .index .. | .build .. => true
  | _ => false

theorem value_of_bind {P : Program} {w w1 : World} {n : Next} (s : Sem Value) (h : ((do let x ← s; pure (.value x) : Sem Next)).run P w = .ok n w1) : ∃ v, n = .value v := by
  rw [Sem.run_bind] at h
  cases hs : s.run P w with
  | ok x w2 => rw [hs] at h; simp only [Result.andThen_ok, Sem.run_pure] at h; cases h; exact ⟨_, rfl⟩
  | halt x w2 => rw [hs] at h; cases h

theorem value_of_bind' {P : Program} {α : Type} {w w1 : World} {n : Next} (s : Sem α) (f : α → Value) (h : ((do let x ← s; pure (.value (f x)) : Sem Next)).run P w = .ok n w1) : ∃ v, n = .value v := by
  rw [Sem.run_bind] at h
  cases hs : s.run P w with
  | ok x w2 => rw [hs] at h; simp only [Result.andThen_ok, Sem.run_pure] at h; cases h; exact ⟨_, rfl⟩
  | halt x w2 => rw [hs] at h; cases h

theorem simpleOp_value {o : Oper} (h : simpleOp o = true) {ρ : Operand → Value} {w w1 : World} {n : Next} (hr : (execOp ρ o).run P w = .ok n w1) : ∃ v, n = .value v := by
  unfold simpleOp at h
  unfold execOp at hr
  split at h
  all_goals first
    | (rename_i e; rw [e] at hr; simp only [Sem.run_pure] at hr; cases hr; exact ⟨_, rfl⟩)
    | (rename_i e; rw [e] at hr; exact value_of_bind _ hr)
    | (rename_i e; rw [e] at hr; exact value_of_bind' _ _ hr)
    | cases h

/-- From a step that is quiet in every world. -/
theorem yields_of_quiet {i : Nat} {o : Oper} {a : Act} {K : Act → Prop} (hi : ops[i]? = some o) (hs : simpleOp o = true) (h : qOp P ops (fun _ => True) i K a) : ∃ v, Yields P ops o v a ∧ K (a.put o.dst v) := by
  obtain ⟨v, hy, hK⟩ := yieldsIn_of_qOp hi h
  refine ⟨v, ?_, hK⟩
  rcases hy with ⟨hw, hy⟩ | ⟨hw, rfl⟩
  · refine Or.inl ⟨hw, fun w => ?_⟩
    have h1 := hy w trivial
    unfold Oper.quietAt at h1
    generalize hr : (execOp a.eval o).run P w = r at h1
    cases r with
    | ok n w' =>
      obtain ⟨u, rfl⟩ := simpleOp_value hs hr
      simp only [Oper.quietUpon] at h1
      rw [h1.1, h1.2]
    | halt x w' => simp only [Oper.quietUpon] at h1
  · exact Or.inr ⟨hw, rfl⟩

/-! ### the middle part -/

/-- Whatever order the operations below n come in, each of them quiet; none from n on can come up; then T. -/
def midAny (P : Program) (md : Region.Mode) (ops : Array Oper) (C : World → Prop) (n : Nat) (T : Array Bool → Act → Prop) : Nat → Array Bool → Act → Prop
  | 0, listed, a => T listed a
  | f + 1, listed, a => Region.ready md ops listed ≠ [] ∧ ∀ i ∈ Region.ready md ops listed, i < n ∧ qOp P ops C i (midAny P md ops C n T f (listed.setIfInBounds i true)) a

theorem wpAny_of_mid {n g : Nat} {T : Array Bool → Act → Prop} {Q : Exit → Act → World → Prop} (hT : ∀ listed a w, C w → T listed a → wpAny P md ops Q g listed a w) :
    ∀ (f : Nat) (listed : Array Bool) (a : Act) (w : World), C w → midAny P md ops C n T f listed a → wpAny P md ops Q (f + g) listed a w := by
  intro f
  induction f with
  | zero => intro listed a w hw h; rw [Nat.zero_add]; exact hT _ _ _ hw h
  | succ f ih =>
    intro listed a w hw h
    rw [show f + 1 + g = (f + g) + 1 by omega]
    exact ⟨fun h0 => absurd h0 h.1, fun i hi => wpOp_of_qOp hw (fun a' w' hw' hK => ih _ _ _ hw' hK) (h.2 i hi).2⟩

theorem midAny_first {n i : Nat} {oi : Oper} {v : Value} {T : Array Bool → Act → Prop} (Inv : Array Bool → Prop)
    (hset : ∀ listed j, Inv listed → j ∈ Region.ready md ops listed → j < n → Inv (listed.setIfInBounds j true))
    (htail : ∀ listed j, Inv listed → j < n → listed.getD j true = false → ∀ t ∈ Region.ready md ops listed, t < n)
    (hi : ops[i]? = some oi) (hsel : ∀ (j : Nat) (o : Oper) cs b, ops[j]? = some o → o.op ≠ .select cs b) (hin : i < n)
    (hdone : ∀ listed a, T listed a → ∀ j ∈ Region.ready md ops listed, n ≤ j) :
    ∀ (f : Nat) (listed : Array Bool) (a : Act), Inv listed →
      (∀ j oj, ops[j]? = some oj → j ≠ i → listed.getD j true = false → (∀ e ∈ oj.after, Region.binds md e = true → e.on ≠ i) → oi.apart ops oj = true) →
      i ∈ Region.ready md ops listed → YieldsIn P ops C oi v a →
      midAny P md ops C n T f (listed.setIfInBounds i true) (a.put oi.dst v) → midAny P md ops C n T (f + 1) listed a := by
  intro f
  induction f with
  | zero =>
    intro listed a inv hfree hr hy H
    have hun := (mem_ready.1 hr).1
    refine ⟨fun h => (by rw [h] at hr; cases hr), fun j hj => ?_⟩
    have hjn := htail listed i inv hin hun j hj
    refine ⟨hjn, ?_⟩
    by_cases hji : j = i
    · subst hji; exact hy.qOp hi H
    · have := hdone _ _ H j (ready_mono hj hji)
      omega
  | succ f ih =>
    intro listed a inv hfree hr hy H
    have hun := (mem_ready.1 hr).1
    refine ⟨fun h => (by rw [h] at hr; cases hr), fun j hj => ?_⟩
    have hjn := htail listed i inv hin hun j hj
    refine ⟨hjn, ?_⟩
    by_cases hji : j = i
    · subst hji; exact hy.qOp hi H
    · have h1 := (H.2 j (ready_mono hj hji)).2
      obtain ⟨hjun, oj, hoj, hall⟩ := mem_ready.1 hj
      have hnot : ∀ e ∈ oj.after, Region.binds md e = true → e.on ≠ i := fun e he hb heq => by
        have h2 := hall e he hb
        rw [heq, getD_both hun] at h2
        cases h2
      have h2 := qOp_put hoj (hfree j oj hoj hji hjun hnot) (fun cs b => hsel i oi cs b hi) (fun cs b => hsel j oj cs b hoj) hy h1
      refine qOp_mono (fun a' h3 => ?_) h2
      refine ih (listed.setIfInBounds j true) a' (hset _ _ inv hj hjn) ?_ (ready_mono hr (Ne.symm hji)) h3.1 ?_
      · intro k ok hk hki hku hkno
        refine hfree k ok hk hki ?_ hkno
        by_cases hjk : j = k
        · subst hjk; exact hjun
        · rw [getD_set_ne true hjk] at hku; exact hku
      · rw [Array.setIfInBounds_comm _ _ hji]
        exact h3.2

/-! ### the checks -/

/-- every operation below n that is not listed at the start has one that waits for it, up to n; behind n each waits for the one before. -/
def sunkB (md : Region.Mode) (ops : Array Oper) (n : Nat) (l0 : Array Bool) : Bool :=
  ((List.range n).all fun i => l0.getD i false || ((List.range (n + 1)).any fun j => decide (i < j) && Region.waitsFor md ops j i)) && Region.chainB md ops n

structure MidInv (md : Region.Mode) (ops : Array Oper) (n : Nat) (l0 listed : Array Bool) : Prop where
  size : listed.size = ops.size
  closed : ∀ j oj, ops[j]? = some oj → listed.getD j false = true → ∀ e ∈ oj.after, Region.binds md e = true → listed.getD e.on false = true
  tail : ∀ t, n ≤ t → t < ops.size → listed.getD t true = false
  start : ∀ j, l0.getD j false = true → listed.getD j false = true

theorem MidInv.set {n i : Nat} {l0 listed : Array Bool} (inv : MidInv md ops n l0 listed) (hi : i ∈ Region.ready md ops listed) (hin : i < n) : MidInv md ops n l0 (listed.setIfInBounds i true) := by
  obtain ⟨hun, oi, hoi, hall⟩ := mem_ready.1 hi
  refine ⟨by simp [inv.size], fun j oj hj hl e he hb => ?_, fun t ht ht' => ?_, fun j hj => getD_set_true (inv.start j hj)⟩
  · by_cases hij : i = j
    · subst hij
      have : oj = oi := Option.some.inj (hj.symm.trans hoi)
      subst this
      exact getD_set_true (hall e he hb)
    · rw [getD_set_ne false hij] at hl
      exact getD_set_true (inv.closed j oj hj hl e he hb)
  · rw [getD_set_ne true (by omega)]; exact inv.tail t ht ht'

theorem mid_tail {n : Nat} {l0 listed : Array Bool} (hs : sunkB md ops n l0 = true) (hn : n < ops.size) (inv : MidInv md ops n l0 listed) :
    ∀ (d i : Nat), n - i = d → i < n → listed.getD i true = false → ∀ t ∈ Region.ready md ops listed, t < n := by
  simp only [sunkB, Bool.and_eq_true] at hs
  intro d
  induction d using Nat.strongRecOn with
  | _ d ih =>
    intro i hd hi hun t ht
    rcases Nat.lt_or_ge t n with h | h
    · exact h
    exfalso
    obtain ⟨htun, ot, hot, hall⟩ := mem_ready.1 ht
    have htlt : t < ops.size := (Array.getElem?_eq_some_iff.1 hot).1
    -- t waits for n, or is n; n waits (through others) for i
    by_cases htn : t = n
    · subst htn
      have h1 := List.all_eq_true.1 hs.1 i (List.mem_range.2 hi)
      simp only [Bool.or_eq_true] at h1
      rcases h1 with h1 | h1
      · have := inv.start i h1
        rw [getD_both hun] at this
        cases this
      obtain ⟨j, hj, hj2⟩ := List.any_eq_true.1 h1
      simp only [Bool.and_eq_true, decide_eq_true_eq] at hj2
      obtain ⟨oj, hoj, e, he, hb, hon⟩ := Region.waitsFor_spec hj2.2
      by_cases hjt : j = t
      · subst hjt
        have : oj = ot := Option.some.inj (hoj.symm.trans hot)
        subst this
        have h2 := hall e he hb
        rw [hon, getD_both hun] at h2
        cases h2
      · have hjle : j ≤ t := by have := List.mem_range.1 hj; omega
        cases hl : listed.getD j false with
        | true =>
          have h2 := inv.closed j oj hoj hl e he hb
          rw [hon, getD_both hun] at h2
          cases h2
        | false =>
          have hjs : j < listed.size := by rw [inv.size]; omega
          have := ih (t - j) (by omega) j rfl (by omega) (getD_in hjs hl) t ht
          omega
    · have h1 := List.all_eq_true.1 hs.2 t (List.mem_range.2 htlt)
      simp only [Bool.or_eq_true, decide_eq_true_eq] at h1
      rcases h1 with h1 | h1
      · omega
      · obtain ⟨o', ho', e, he, hb, hon⟩ := Region.waitsFor_spec h1
        have : o' = ot := Option.some.inj (ho'.symm.trans hot)
        subst this
        have h2 := hall e he hb
        rw [hon, getD_both (inv.tail (t - 1) (by omega) (by omega))] at h2
        cases h2

/-- the operations with these numbers. -/
def pick (l : List Oper) : List Nat → List Oper
  | [] => []
  | i :: p => (l.drop i).head?.toList ++ pick l p

theorem pick_cons {l : List Oper} {i : Nat} {p : List Nat} {o : Oper} (h : l[i]? = some o) : pick l (i :: p) = o :: pick l p := by
  simp [pick, List.head?_drop, h]

/-- the middle numbers come in this order, each ready and apart from whatever may come beside it; then a forced tail. -/
def midB (md : Region.Mode) (ops : Array Oper) (n g : Nat) : List Nat → Array Bool → Bool
  | [], listed => Region.seqB md ops g n listed
  | i :: p, listed => decide (i < n) && (ops[i]?).isSome && (Region.ready md ops listed).contains i && Region.free md ops listed i && midB md ops n g p (listed.setIfInBounds i true)

/-- the first numbers likewise, none of them a call. -/
def headB (md : Region.Mode) (ops : Array Oper) (n g : Nat) (mid : List Nat) : List Nat → Array Bool → Bool
  | [], listed => sunkB md ops n listed && (List.range ops.size).all (fun t => decide (t < n) || !listed.getD t true) && midB md ops n g mid listed
  | i :: p, listed => decide (i < n) && ((ops[i]?).map simpleOp).getD false && (Region.ready md ops listed).contains i && Region.free md ops listed i && headB md ops n g mid p (listed.setIfInBounds i true)

theorem seqB_ge {g k : Nat} {listed : Array Bool} (h : Region.seqB md ops g k listed = true) : ∀ j ∈ Region.ready md ops listed, k ≤ j := by
  cases g with
  | zero => intro j hj; simp only [Region.seqB, List.isEmpty_iff] at h; rw [h] at hj; cases hj
  | succ g =>
    intro j hj
    simp only [Region.seqB, Bool.and_eq_true, decide_eq_true_eq] at h
    rw [h.1] at hj
    have : j = k := by simpa using hj
    omega

theorem midAny_lex {l : List Oper} {n g : Nat} {l0 : Array Bool} {T : Act → Prop} (hsel : Region.noSelect l.toArray = true) (hs : sunkB md l.toArray n l0 = true) (hn : n < l.length) :
    ∀ (p : List Nat) (listed : Array Bool) (a : Act), MidInv md l.toArray n l0 listed → midB md l.toArray n g p listed = true → wpQuiet P l.toArray C T (pick l p) a →
    midAny P md l.toArray C n (fun listed' a' => Region.seqB md l.toArray g n listed' = true ∧ T a') p.length listed a := by
  intro p
  induction p with
  | nil => intro listed a inv hB h; exact ⟨by simpa [midB] using hB, h⟩
  | cons i p ih =>
    intro listed a inv hB h
    simp only [midB, Bool.and_eq_true, decide_eq_true_eq] at hB
    obtain ⟨⟨⟨⟨hin, ho⟩, hr⟩, hf⟩, hB'⟩ := hB
    obtain ⟨o, ho⟩ := Option.isSome_iff_exists.1 ho
    have ho' : l[i]? = some o := by simpa using ho
    rw [pick_cons ho'] at h
    have hr' : i ∈ Region.ready md l.toArray listed := by simpa using hr
    have hq : qOp P l.toArray C i (wpQuiet P l.toArray C T (pick l p)) a := by unfold qOp; simp only [ho]; exact h
    obtain ⟨v, hy, hK⟩ := yieldsIn_of_qOp ho hq
    exact midAny_first (fun ls => MidInv md l.toArray n l0 ls) (fun _ _ inv hj hjn => inv.set hj hjn)
      (fun ls j inv hj hun => mid_tail hs (by simpa using hn) inv _ j rfl hj hun) ho (Region.noSelect_spec hsel) hin (fun _ _ hT => seqB_ge hT.1) p.length listed a inv (Region.free_spec ho hf) hr' hy
      (ih _ _ (inv.set hr' hin) hB' hK)

theorem headAny {l : List Oper} {n g : Nat} {mid : List Nat} {T : Act → Prop} {Q : Exit → Act → World → Prop} (hQ : ∀ c a a' w, Q (.panic c) a w → Q (.panic c) a' w)
    (hsel : Region.noSelect l.toArray = true) (hn : n < l.length) (hg : n + g = l.length)
    (hT : ∀ listed a w, C w → Region.seqB md l.toArray g n listed = true → T a → wpAny P md l.toArray Q g listed a w) :
    ∀ (p : List Nat) (listed : Array Bool) (a : Act) (w : World), C w → listed.size = l.length → (∀ j oj, l.toArray[j]? = some oj → listed.getD j false = true → ∀ e ∈ oj.after, Region.binds md e = true → listed.getD e.on false = true) →
      headB md l.toArray n g mid p listed = true → wpQuiet P l.toArray (fun _ => True) (fun a' => wpQuiet P l.toArray C T (pick l mid) a') (pick l p) a →
      wpAny P md l.toArray Q (p.length + (mid.length + g)) listed a w := by
  intro p
  induction p with
  | nil =>
    intro listed a w hw hsz hcl hB h
    simp only [headB, Bool.and_eq_true] at hB
    obtain ⟨⟨hs, htl⟩, hm⟩ := hB
    have inv : MidInv md l.toArray n listed listed := ⟨by simpa using hsz, hcl, fun t ht ht' => by
      have := List.all_eq_true.1 htl t (List.mem_range.2 ht')
      simp only [Bool.or_eq_true, decide_eq_true_eq, Bool.not_eq_true'] at this
      rcases this with h | h
      · omega
      · exact h, fun _ h => h⟩
    have H := midAny_lex (C := C) hsel hs hn mid listed a inv hm h
    rw [List.length_nil, Nat.zero_add]
    exact wpAny_of_mid (fun ls a' w' hw' h' => hT ls a' w' hw' h'.1 h'.2) _ _ _ _ hw H
  | cons i p ih =>
    intro listed a w hw hsz hcl hB h
    simp only [headB, Bool.and_eq_true, decide_eq_true_eq] at hB
    obtain ⟨⟨⟨⟨hin, ho⟩, hr⟩, hf⟩, hB'⟩ := hB
    cases ho2 : l.toArray[i]? with
    | none => rw [ho2] at ho; cases ho
    | some o =>
      rw [ho2] at ho
      have hs1 : simpleOp o = true := by simpa using ho
      have ho' : l[i]? = some o := by simpa using ho2
      rw [pick_cons ho'] at h
      have hr' : i ∈ Region.ready md l.toArray listed := by simpa using hr
      have hq : qOp P l.toArray (fun _ => True) i (wpQuiet P l.toArray (fun _ => True) (fun a' => wpQuiet P l.toArray C T (pick l mid) a') (pick l p)) a := by unfold qOp; simp only [ho2]; exact h
      obtain ⟨v, hy, hK⟩ := yields_of_quiet ho2 hs1 hq
      rw [List.length_cons, show p.length + 1 + (mid.length + g) = (p.length + (mid.length + g)) + 1 from by omega]
      refine wpAny_first ho2 (Region.noSelect_spec hsel) (fun c a w h => hQ c _ _ w h) _ listed a w (Region.free_spec ho2 hf) hr' hy ?_
      refine ih _ _ _ hw (by simp [hsz]) ?_ hB' hK
      intro j oj hj hl e he hb
      by_cases hij : i = j
      · subst hij
        have : oj = o := Option.some.inj (hj.symm.trans ho2)
        subst this
        obtain ⟨_, o2, ho3, hall⟩ := mem_ready.1 hr'
        have : oj = o2 := Option.some.inj (hj.symm.trans ho3)
        subst this
        exact getD_set_true (hall e he hb)
      · rw [getD_set_ne false hij] at hl
        exact getD_set_true (hcl j oj hj hl e he hb)

/-- False at a panic. -/
def noPan (Q : Exit → Act → World → Prop) : Exit → Act → World → Prop
  | .panic _, _, _ => False
  | e, a, w => Q e a w

/-- all numbers, each once: the first ones, the middle ones, then from n on. -/
def threeB (l : List Oper) (first mid : List Nat) (n : Nat) : Bool :=
  Region.noSelect l.toArray && decide (n < l.length) && decide (first.length + mid.length = n) && headB .any l.toArray n (l.length - n) mid first (Array.replicate l.length false)

/-- **A region that draws its order.** -/
theorem wp_three {id : Nat} {Q : Exit → Act → World → Prop} {a : Act} {w : World} {l : List Oper} (first mid : List Nat) (n : Nat) (hm : P.follows .mixedOrders = true) (hB : threeB l first mid n = true)
    (h : ∀ Q' : Exit → Act → World → Prop, (∀ a w, Q .normal a w → Q' .normal a w) → wpQuiet P l.toArray (fun _ => True) (fun a1 => wpQuiet P l.toArray (fun w' => ∃ k, w' = w.drewN k) (fun a2 => ∀ k, wpList P l.toArray Q' (l.drop n) a2 (w.drewN k)) (pick l mid) a1) (pick l first) a) :
    (Code.region id l.toArray true).wp P Q a w := by
  simp only [threeB, Bool.and_eq_true, decide_eq_true_eq] at hB
  obtain ⟨⟨⟨hsel, hn⟩, hlen⟩, hB⟩ := hB
  refine Code.wp_mono (Q := noPan Q) (fun e a w hq => by cases e <;> first | exact hq | exact (hq : False).elim) ?_
  refine wp_region_any hm ?_
  have := headAny (C := fun w' => ∃ k, w' = w.drewN k) (md := .any) (Q := noPan Q) (g := l.length - n) (fun c a a' w hq => hq) hsel hn (by omega)
    (fun listed a' w' hw' hseq hT => by
      obtain ⟨k, rfl⟩ := hw'
      have := wpAny_of_seq (md := .any) (Q' := noPan Q) (l.drop n) n listed a' (w.drewN k) (fun j => by simp [List.getElem?_drop]) (by rw [List.length_drop]; exact hseq) (hT k)
      rwa [List.length_drop] at this)
    first (Array.replicate l.length false) a { w with drawn := w.drawn + 1 } ⟨1, rfl⟩ (by simp) (fun j oj _ hl => by rw [getD_replicate_false] at hl; cases hl) hB (h (noPan Q) fun _ _ h => h)
  rw [show first.length + (mid.length + (l.length - n)) = l.toArray.size from by simp; omega] at this
  simpa using this

end
/-- .. the middle part in a class of worlds. -/
theorem wp_three_in {P : Program} (C : World → Prop) {id : Nat} {Q : Exit → Act → World → Prop} {a : Act} {w : World} {l : List Oper} (first mid : List Nat) (n : Nat) (hm : P.follows .mixedOrders = true) (hB : threeB l first mid n = true)
    (hC : C { w with drawn := w.drawn + 1 })
    (h : ∀ Q' : Exit → Act → World → Prop, (∀ a w, Q .normal a w → Q' .normal a w) → wpQuiet P l.toArray (fun _ => True) (fun a1 => wpQuiet P l.toArray C (fun a2 => ∀ w', C w' → wpList P l.toArray Q' (l.drop n) a2 w') (pick l mid) a1) (pick l first) a) :
    (Code.region id l.toArray true).wp P Q a w := by
  simp only [threeB, Bool.and_eq_true, decide_eq_true_eq] at hB
  obtain ⟨⟨⟨hsel, hn⟩, hlen⟩, hB⟩ := hB
  refine Code.wp_mono (Q := noPan Q) (fun e a w hq => by cases e <;> first | exact hq | exact (hq : False).elim) ?_
  refine wp_region_any hm ?_
  have := headAny (C := C) (md := .any) (Q := noPan Q) (g := l.length - n) (fun c a a' w hq => hq) hsel hn (by omega)
    (fun listed a' w' hw' hseq hT => by
      have := wpAny_of_seq (md := .any) (Q' := noPan Q) (l.drop n) n listed a' w' (fun j => by simp [List.getElem?_drop]) (by rw [List.length_drop]; exact hseq) (hT w' hw')
      rwa [List.length_drop] at this)
    first (Array.replicate l.length false) a { w with drawn := w.drawn + 1 } hC (by simp) (fun j oj _ hl => by rw [getD_replicate_false] at hl; cases hl) hB (h (noPan Q) fun _ _ h => h)
  rw [show first.length + (mid.length + (l.length - n)) = l.toArray.size from by simp; omega] at this
  simpa using this

/-- an operation that gives a value and no call is as quiet in one class as in all worlds. -/
theorem quiet_simple {P : Program} {o : Oper} {a : Act} {C : World → Prop} {K : Act → Prop} (hs : simpleOp o = true) (h : o.quiet P a (fun _ => True) K) : o.quiet P a C K := by
  obtain ⟨v, hv, hK⟩ := h
  refine ⟨v, fun w _ => ?_, hK⟩
  have h1 := hv w trivial
  unfold Oper.quietAt at *
  generalize hr : (execOp a.eval o).run P w = r at h1
  cases r with
  | ok n w' =>
    obtain ⟨u, rfl⟩ := simpleOp_value hs hr
    exact h1
  | halt x w' => exact h1

/-- a load of a cell that all worlds of the class hold. -/
theorem quiet_val {P : Program} {o : Oper} {a : Act} {C : World → Prop} {K : Act → Prop} (v : Value) (h : ∀ w, C w → (execOp a.eval o).run P w = .ok (.value v) w) (hK : K (a.put o.dst v)) : o.quiet P a C K :=
  ⟨v, fun w hw => by unfold Oper.quietAt; rw [h w hw]; exact ⟨rfl, rfl⟩, hK⟩
theorem run_load_int {P : Program} {o : Oper} {a : Act} {w : World} {ty : TypeId} {x : Operand} {p : Addr} {v : Value} {k : IntKind} (ho : o.op = .load ty x) (hx : a.eval x = .pointer (some p)) (ht : P.underlying ty = some (.int k)) (hc : w.cell? p = some v) :
    (execOp a.eval o).run P w = .ok (.value v) w := by
  unfold execOp
  simp only [ho, hx]
  simp [go_sem, ht, hc, isAgg, run_underlying ht]
theorem quiet_load {P : Program} {o : Oper} {a : Act} {B : Nat} {w0 : World} {K : Act → Prop} {ty : TypeId} {x : Operand} {b off : Nat} {v : Value} {k : IntKind} (ho : o.op = .load ty x) (hx : a.eval x = .pointer (some ⟨b, off, none⟩)) (ht : P.underlying ty = some (.int k))
    (hc : w0.cell? ⟨b, off, none⟩ = some v) (hb : b < B) (hK : K (a.put o.dst v)) : o.quiet P a (fun w' => Below B w0 w') K :=
  quiet_val v (fun w hw => run_load_int ho hx ht ((hw.cell (p := ⟨b, off, none⟩) hb).trans hc)) hK

/-! ### append -/
/-- t is a slice type of elements e, each of sz cells and so many bytes. -/
def Elem (P : Program) (t e : TypeId) (sz bytes : Nat) : Prop := ∃ i z, P.underlying t = some (.slice e) ∧ P.info? e = some i ∧ i.zero = some z ∧ i.size = sz ∧ i.bytes = bytes ∧ z.cells.size = sz ∧ 0 < sz
theorem Elem.mk {P : Program} {t e : TypeId} {z : Value} {sz bytes : Nat} (ht : P.underlying t = some (.slice e)) (hi : (P.info? e).map (fun i => (i.zero, i.size, i.bytes)) = some (some z, sz, bytes)) (hz : z.cells.size = sz) (hs : 0 < sz) : Elem P t e sz bytes := by
  obtain ⟨i, h1, h2, h3, h4⟩ := info_parts hi
  exact ⟨i, z, ht, h1, h2, h3, h4, hz, hs⟩

/-- What an append does to other memory: below base nothing; of what was there the value's own row alone. -/
structure Pushed (base : Nat) (w w' : World) (v v' : Value) : Prop where
  below : Below base w w'
  other : ∀ k, k < w.heap.size → some k ≠ v.ownBlock → w'.heap[k]? = w.heap[k]?
  lies : v'.ownBlock = v.ownBlock ∨ v'.ownBlock = some w.heap.size

theorem wpList_append_list {P : Program} {ops : Array Oper} {rest : List Oper} {o : Oper} {a : Act} {Q : Exit → Act → World → Prop} {w : World} (hgd : o.guard = none) (s x : Operand) (t : TypeId)
    (ho : o.op = .call { callee := .builtin .append, args := #[s, x], argTypes := #[t, t] }) {e : TypeId} {sz bytes : Nat} (E : Elem P t e sz bytes) (base : Nat)
    (v : Value) (n : Nat) (xs : List Value) (hs : a.eval s = v) (hown : w.ownsRow base e sz v n xs)
    (ao : Option Addr) (m c : Nat) (news : List Value) (hx : a.eval x = .slice ao m c) (hl : news.length = m * sz) (h1 : ∀ u ∈ news, u.oneCell' = true)
    (hsrc : (ao = none ∧ m = 0 ∧ c = 0) ∨ ∃ ad, ao = some ad ∧ ∀ j u, news[j]? = some u → w.cell? (ad.add j) = some u)
    (hb : (n + m) * bytes ≤ 140737488355328) (hn : n + m ≤ maxLen) (hbase : base ≤ w.heap.size)
    (h : ∀ v' w', w'.ownsRow base e sz v' (n + m) (xs ++ news) → Pushed base w w' v v' → (v' = .slice none 0 0 ↔ v = .slice none 0 0 ∧ m = 0) → wpList P ops Q rest (a.put o.dst v') w') : wpList P ops Q (o :: rest) a w := by
  obtain ⟨i, z, ht, hi, hz, hsize, hby, hzs, hsz⟩ := E
  rcases hsrc with ⟨rfl, rfl, rfl⟩ | ⟨ad, rfl, hcells⟩
  · obtain rfl : news = [] := List.eq_nil_of_length_eq_zero (by simpa using hl)
    refine wpList_append_own_none hgd s x t ho base e i sz ht hi v n xs hs hown hx ?_
    exact h v w (by simpa using hown) ⟨Below.refl _ _, fun _ _ _ => rfl, Or.inl rfl⟩ (by simp)
  · obtain ⟨v', w', hr, h2, h3, h4, h5⟩ := run_append_own_at (P := P) w base t o.type e i z sz bytes ht hi hz hsize hby hzs hsz v n xs hown ad m c news hl hcells h1 hn hb hbase
    refine wpList_plain hgd fun K hK => ?_
    unfold Oper.wp execOp
    simp only [ho, resolve, invoke, builtin, Sem.run_bind, Sem.run_pure, Result.andThen_ok, List.map_toArray, List.map_cons, List.map_nil, hs, hx, hr]
    exact hK _ _ (h v' w' h2 ⟨(Below.refl _ _).grown h3 hbase (fun k hk => (hown.lt k hk).1), h3.block, h5⟩ h4)

/-- one element more. -/
theorem wpList_push {P : Program} {ops : Array Oper} {rest : List Oper} {o : Oper} {a : Act} {Q : Exit → Act → World → Prop} {w : World} (hgd : o.guard = none) (s x : Operand) (t : TypeId)
    (ho : o.op = .call { callee := .builtin .append, args := #[s, x], argTypes := #[t, t] }) {e : TypeId} {sz bytes : Nat} (E : Elem P t e sz bytes) (base : Nat)
    (v : Value) (n : Nat) (xs : List Value) (hs : a.eval s = v) (w0 : World) (hown : w0.ownsRow base e sz v n xs) (us : List Value) (hul : us.length = sz) (h1 : ∀ u ∈ us, u.oneCell' = true)
    (hw : w = w0.alloc (.cells us.toArray e)) (N : Nat) (hN : w0.heap.size = N) (hx : a.eval x = .slice (some ⟨N, 0, none⟩) 1 1)
    (hb : (n + 1) * bytes ≤ 140737488355328) (hn : n + 1 ≤ maxLen) (hbase : base ≤ w0.heap.size)
    (h : ∀ v' w', w'.ownsRow base e sz v' (n + 1) (xs ++ us) → Below base w0 w' → (∀ k, k < w0.heap.size → some k ≠ v.ownBlock → w'.heap[k]? = w0.heap[k]?) → (∀ k, v'.ownBlock = some k → v.ownBlock = some k ∨ w0.heap.size ≤ k) → wpList P ops Q rest (a.put o.dst v') w') : wpList P ops Q (o :: rest) a w := by
  subst hw; subst hN
  refine wpList_append_list hgd s x t ho E base v n xs hs (hown.alloc _) _ 1 1 us hx (by omega) h1 (Or.inr ⟨_, rfl, World.news_of_block (cs := us.toArray) (heap_alloc_new w0 _)⟩) hb hn (by simp; omega) ?_
  intro v' w' h2 h3 _
  refine h v' w' h2 (((Below.refl _ _).alloc hbase _).trans h3.below) (fun k hk hne => (h3.other k (by simp; omega) hne).trans (Below.heap_alloc _ _ _ hk)) (fun k hk => ?_)
  rcases h3.lies with e | e
  · exact Or.inl (by rw [← e]; exact hk)
  · right; rw [hk] at e; simp at e; omega

theorem ownsRow_drewN {w : World} {base : Nat} {e : TypeId} {size : Nat} {v : Value} {n : Nat} {xs : List Value} (k : Nat) (h : w.ownsRow base e size v n xs) : (w.drewN k).ownsRow base e size v n xs := h

end Go.Proofs.Ytllddidjiabegaa

/- A statement whose order is open: operations that yield the same in every world first, then the others in the one order that is left. -/
set_option linter.unusedVariables false
set_option linter.unusedSimpArgs false
namespace Go.Proofs.Ytllddidjiabegaa
open Go.RowKit
section
variable {P : Program} {md : Region.Mode}

/-- these numbers can only come in this order. -/
def seqL (md : Region.Mode) (ops : Array Oper) : List Nat → Array Bool → Bool
  | [], listed => (Region.ready md ops listed).isEmpty
  | k :: p, listed => decide (Region.ready md ops listed = [k]) && (ops[k]?).isSome && seqL md ops p (listed.setIfInBounds k true)

theorem wpAny_of_seqL {l : List Oper} {Q : Exit → Act → World → Prop} : ∀ (p : List Nat) (listed : Array Bool) (a : Act) (w : World), seqL md l.toArray p listed = true → wpList P l.toArray Q (pick l p) a w → wpAny P md l.toArray Q p.length listed a w := by
  intro p
  induction p with
  | nil => intro listed a w hB h; exact ⟨by simpa [seqL] using hB, h⟩
  | cons k p ih =>
    intro listed a w hB h
    simp only [seqL, Bool.and_eq_true, decide_eq_true_eq] at hB
    obtain ⟨⟨hr, ho⟩, hB'⟩ := hB
    obtain ⟨o, ho⟩ := Option.isSome_iff_exists.1 ho
    have ho' : l[k]? = some o := by simpa using ho
    rw [pick_cons ho'] at h
    refine ⟨fun h1 => (by rw [hr] at h1; cases h1), fun i hi => ?_⟩
    rw [hr] at hi
    have hik : i = k := by simpa using hi
    subst hik
    have hw : wpOp P l.toArray Q i (wpList P l.toArray Q (pick l p)) a w := by unfold wpOp; simp only [ho]; exact h
    exact wpOp_mono (fun a' w' h' => ih _ _ _ hB' h') hw

def twoB (md : Region.Mode) (ops : Array Oper) (tail : List Nat) : List Nat → Array Bool → Bool
  | [], listed => seqL md ops tail listed
  | i :: p, listed => ((ops[i]?).map simpleOp).getD false && (Region.ready md ops listed).contains i && Region.free md ops listed i && twoB md ops tail p (listed.setIfInBounds i true)

theorem wpAny_two {l : List Oper} {tail : List Nat} {Q : Exit → Act → World → Prop} (hQ : ∀ c a a' w, Q (.panic c) a w → Q (.panic c) a' w) (hsel : Region.noSelect l.toArray = true) :
    ∀ (p : List Nat) (listed : Array Bool) (a : Act) (w : World), twoB md l.toArray tail p listed = true → wpQuiet P l.toArray (fun _ => True) (fun a' => wpList P l.toArray Q (pick l tail) a' w) (pick l p) a →
      wpAny P md l.toArray Q (p.length + tail.length) listed a w := by
  intro p
  induction p with
  | nil => intro listed a w hB h; rw [List.length_nil, Nat.zero_add]; exact wpAny_of_seqL tail listed a w hB h
  | cons i p ih =>
    intro listed a w hB h
    simp only [twoB, Bool.and_eq_true] at hB
    obtain ⟨⟨⟨ho, hr⟩, hf⟩, hB'⟩ := hB
    cases ho2 : l.toArray[i]? with
    | none => rw [ho2] at ho; cases ho
    | some o =>
      rw [ho2] at ho
      have hs1 : simpleOp o = true := by simpa using ho
      have ho' : l[i]? = some o := by simpa using ho2
      rw [pick_cons ho'] at h
      have hr' : i ∈ Region.ready md l.toArray listed := by simpa using hr
      have hq : qOp P l.toArray (fun _ => True) i (wpQuiet P l.toArray (fun _ => True) (fun a' => wpList P l.toArray Q (pick l tail) a' w) (pick l p)) a := by unfold qOp; simp only [ho2]; exact h
      obtain ⟨v, hy, hK⟩ := yields_of_quiet ho2 hs1 hq
      rw [List.length_cons, show p.length + 1 + tail.length = (p.length + tail.length) + 1 from by omega]
      exact wpAny_first ho2 (Region.noSelect_spec hsel) (fun c a w h => hQ c _ _ w h) _ listed a w (Region.free_spec ho2 hf) hr' hy (ih _ _ _ hB' hK)

def twoAllB (l : List Oper) (first tail : List Nat) : Bool :=
  Region.noSelect l.toArray && decide (first.length + tail.length = l.length) && twoB .any l.toArray tail first (Array.replicate l.length false)

theorem wp_two {id : Nat} {Q : Exit → Act → World → Prop} {a : Act} {w : World} {l : List Oper} (first tail : List Nat) (hm : P.follows .mixedOrders = true) (hB : twoAllB l first tail = true)
    (h : ∀ Q' : Exit → Act → World → Prop, (∀ a w, Q .normal a w → Q' .normal a w) → wpQuiet P l.toArray (fun _ => True) (fun a1 => wpList P l.toArray Q' (pick l tail) a1 w.drew) (pick l first) a) :
    (Code.region id l.toArray true).wp P Q a w := by
  simp only [twoAllB, Bool.and_eq_true, decide_eq_true_eq] at hB
  obtain ⟨⟨hsel, hlen⟩, hB⟩ := hB
  refine Code.wp_mono (Q := noPan Q) (fun e a w hq => by cases e <;> first | exact hq | exact (hq : False).elim) ?_
  refine wp_region_any hm ?_
  have := wpAny_two (md := .any) (Q := noPan Q) (fun c a a' w hq => hq) hsel first (Array.replicate l.length false) a w.drew hB (h (noPan Q) fun _ _ h => h)
  rw [show first.length + tail.length = l.toArray.size from by simp; omega] at this
  simpa using this
end

/-- an empty slice literal. -/
theorem ownsRow_empty {P : Program} (w : World) {t e : TypeId} {sz bytes : Nat} (E : Elem P t e sz bytes) : (w.alloc (.cells #[] e)).ownsRow w.heap.size e sz (.slice (some ⟨w.heap.size, 0, none⟩) 0 0) 0 [] :=
  World.ownsRow_made w #[] 0 (Nat.le_refl _) (by simp [maxLen]) (by simp)

end Go.Proofs.Ytllddidjiabegaa

/- A statement whose order is open, in steps: what yields the same in every world comes first; what has to come next; two that come in either order. -/
set_option linter.unusedVariables false
set_option linter.unusedSimpArgs false
namespace Go.Proofs.Ytllddidjiabegaa
open Go.RowKit
section
variable {P : Program} {md : Region.Mode}

inductive Stp where
  | q (ks : List Nat)
  | f (ks : List Nat)
  | p (i j : Nat)

def contF (K : Act → World → Prop) : Exit → Act → World → Prop
  | .normal, a, w => K a w
  | _, _, _ => False

theorem wp_F {ops : Array Oper} {Q : Exit → Act → World → Prop} {X K : Act → World → Prop} {o : Oper} {a : Act} {w : World} (hh : o.wp P a w K (contF X)) : o.wp P a w K Q := by
  unfold Oper.wp at *
  generalize (execOp a.eval o).run P w = r at *
  cases r with
  | ok n w' =>
    cases n <;> simp only [Oper.upon] at hh ⊢ <;>
      first
        | exact hh
        | exact Calls.mono hh (fun e w'' he => by
            cases e with
            | returned v => exact he
            | panicked c => exact (he : False).elim
            | outgrown => obtain ⟨a, w, h⟩ := he; exact (h : False).elim)
  | halt x w' => cases x <;> simp only [Oper.upon] at hh ⊢ <;> first | exact hh | exact (hh : False).elim

theorem wpOp_F {ops : Array Oper} {Q : Exit → Act → World → Prop} {X K : Act → World → Prop} {i : Nat} {a : Act} {w : World} (hh : wpOp P ops (contF X) i K a w) : wpOp P ops Q i K a w := by
  unfold wpOp at *
  split
  · simpa [*] using hh
  · rename_i o ho
    simp only [ho] at hh
    split
    · rename_i hw
      simp only [hw, if_true] at hh
      rcases hh with h | ⟨_, a, w, h⟩
      · exact Or.inl (wp_F (ops := ops) h)
      · exact (h : False).elim
    · rename_i hw; simp only [hw] at hh; exact hh

def runSet (L : Array Bool) (ks : List Nat) : Array Bool := ks.foldl (fun L k => L.setIfInBounds k true) L

def qB (md : Region.Mode) (ops : Array Oper) : List Nat → Array Bool → Bool
  | [], _ => true
  | k :: p, L => ((ops[k]?).map simpleOp).getD false && (Region.ready md ops L).contains k && Region.free md ops L k && qB md ops p (L.setIfInBounds k true)
def fB (md : Region.Mode) (ops : Array Oper) : List Nat → Array Bool → Bool
  | [], _ => true
  | k :: p, L => decide (Region.ready md ops L = [k]) && (ops[k]?).isSome && fB md ops p (L.setIfInBounds k true)
def mixB (md : Region.Mode) (ops : Array Oper) : List Stp → Array Bool → Bool
  | [], L => (Region.ready md ops L).isEmpty
  | .q ks :: s, L => qB md ops ks L && mixB md ops s (runSet L ks)
  | .f ks :: s, L => fB md ops ks L && mixB md ops s (runSet L ks)
  | .p i j :: s, L => decide (Region.ready md ops L = [i, j]) && fB md ops [j] (runSet L [i]) && fB md ops [i] (runSet L [j]) && (ops[i]?).isSome && (ops[j]?).isSome && (runSet L [j, i] == runSet L [i, j]) && mixB md ops s (runSet L [i, j])

def lenS : List Stp → Nat
  | [] => 0
  | .q ks :: s => ks.length + lenS s
  | .f ks :: s => ks.length + lenS s
  | .p _ _ :: s => 2 + lenS s

def wpMix (P : Program) (l : List Oper) (Q : Exit → Act → World → Prop) : List Stp → Act → World → Prop
  | [], a, w => Q .normal a w
  | .q ks :: s, a, w => wpQuiet P l.toArray (fun _ => True) (fun a' => wpMix P l Q s a' w) (pick l ks) a
  | .f ks :: s, a, w => wpList P l.toArray (contF (wpMix P l Q s)) (pick l ks) a w
  | .p i j :: s, a, w => wpList P l.toArray (contF (wpMix P l Q s)) (pick l [i, j]) a w ∧ wpList P l.toArray (contF (wpMix P l Q s)) (pick l [j, i]) a w

theorem wpAny_q {l : List Oper} {Q : Exit → Act → World → Prop} (hQ : ∀ c a a' w, Q (.panic c) a w → Q (.panic c) a' w) (hsel : Region.noSelect l.toArray = true) {X : Act → World → Prop} {n : Nat} :
    ∀ (p : List Nat) (L : Array Bool) (a : Act) (w : World), qB md l.toArray p L = true → (∀ a', X a' w → wpAny P md l.toArray Q n (runSet L p) a' w) → wpQuiet P l.toArray (fun _ => True) (fun a' => X a' w) (pick l p) a →
      wpAny P md l.toArray Q (p.length + n) L a w := by
  intro p
  induction p with
  | nil => intro L a w hB h hx; rw [List.length_nil, Nat.zero_add]; exact h a hx
  | cons i p ih =>
    intro L a w hB h hx
    simp only [qB, Bool.and_eq_true] at hB
    obtain ⟨⟨⟨ho, hr⟩, hf⟩, hB'⟩ := hB
    cases ho2 : l.toArray[i]? with
    | none => rw [ho2] at ho; cases ho
    | some o =>
      rw [ho2] at ho
      have hs1 : simpleOp o = true := by simpa using ho
      have ho' : l[i]? = some o := by simpa using ho2
      rw [pick_cons ho'] at hx
      have hr' : i ∈ Region.ready md l.toArray L := by simpa using hr
      have hq : qOp P l.toArray (fun _ => True) i (wpQuiet P l.toArray (fun _ => True) (fun a' => X a' w) (pick l p)) a := by unfold qOp; simp only [ho2]; exact hx
      obtain ⟨v, hy, hK⟩ := yields_of_quiet ho2 hs1 hq
      rw [List.length_cons, show p.length + 1 + n = (p.length + n) + 1 from by omega]
      exact wpAny_first ho2 (Region.noSelect_spec hsel) (fun c a w h => hQ c _ _ w h) _ L a w (Region.free_spec ho2 hf) hr' hy (ih _ _ _ hB' h hK)

theorem wpAny_f {l : List Oper} {Q : Exit → Act → World → Prop} {X : Act → World → Prop} {n : Nat} :
    ∀ (p : List Nat) (L : Array Bool) (a : Act) (w : World), fB md l.toArray p L = true → (∀ a' w', X a' w' → wpAny P md l.toArray Q n (runSet L p) a' w') → wpList P l.toArray (contF X) (pick l p) a w →
      wpAny P md l.toArray Q (p.length + n) L a w := by
  intro p
  induction p with
  | nil => intro L a w hB h hx; rw [List.length_nil, Nat.zero_add]; exact h a w hx
  | cons k p ih =>
    intro L a w hB h hx
    simp only [fB, Bool.and_eq_true, decide_eq_true_eq] at hB
    obtain ⟨⟨hr, ho⟩, hB'⟩ := hB
    obtain ⟨o, ho⟩ := Option.isSome_iff_exists.1 ho
    have ho' : l[k]? = some o := by simpa using ho
    rw [pick_cons ho'] at hx
    rw [List.length_cons, show p.length + 1 + n = (p.length + n) + 1 from by omega]
    refine ⟨fun h1 => (by rw [hr] at h1; cases h1), fun i hi => ?_⟩
    rw [hr] at hi
    have hik : i = k := by simpa using hi
    subst hik
    have hw : wpOp P l.toArray (contF X) i (wpList P l.toArray (contF X) (pick l p)) a w := by unfold wpOp; simp only [ho]; exact hx
    exact wpOp_mono (fun a' w' h' => ih _ _ _ hB' h h') (wpOp_F hw)

theorem wpAny_mix {l : List Oper} {Q : Exit → Act → World → Prop} (hQ : ∀ c a a' w, Q (.panic c) a w → Q (.panic c) a' w) (hsel : Region.noSelect l.toArray = true) :
    ∀ (s : List Stp) (L : Array Bool) (a : Act) (w : World), mixB md l.toArray s L = true → wpMix P l Q s a w → wpAny P md l.toArray Q (lenS s) L a w := by
  intro s
  induction s with
  | nil => intro L a w hB h; exact ⟨by simpa [mixB] using hB, h⟩
  | cons st s ih =>
    intro L a w hB h
    cases st with
    | q ks =>
      simp only [mixB, Bool.and_eq_true] at hB
      exact wpAny_q hQ hsel (X := wpMix P l Q s) ks L a w hB.1 (fun a' h' => ih _ _ _ hB.2 h') h
    | f ks =>
      simp only [mixB, Bool.and_eq_true] at hB
      exact wpAny_f ks L a w hB.1 (fun a' w' h' => ih _ _ _ hB.2 h') h
    | p i j =>
      simp only [mixB, Bool.and_eq_true, decide_eq_true_eq, beq_iff_eq] at hB
      obtain ⟨⟨⟨⟨⟨⟨hr, h1⟩, h2⟩, hi⟩, hj⟩, he⟩, hB'⟩ := hB
      obtain ⟨ha, hb⟩ := h
      show wpAny P md l.toArray Q (2 + lenS s) L a w
      rw [show 2 + lenS s = (1 + lenS s) + 1 from by omega]
      refine ⟨fun h1 => (by rw [hr] at h1; cases h1), fun k hk => ?_⟩
      rw [hr] at hk
      rcases (by simpa using hk : k = i ∨ k = j) with rfl | rfl
      · obtain ⟨o, ho⟩ := Option.isSome_iff_exists.1 hi
        have ho' : l[k]? = some o := by simpa using ho
        rw [pick_cons ho'] at ha
        have hw : wpOp P l.toArray (contF (wpMix P l Q s)) k (wpList P l.toArray (contF (wpMix P l Q s)) (pick l [j])) a w := by unfold wpOp; simp only [ho]; exact ha
        exact wpOp_mono (fun a' w' h' => wpAny_f [j] _ a' w' h1 (fun a'' w'' h'' => ih _ _ _ hB' h'') h') (wpOp_F hw)
      · obtain ⟨o, ho⟩ := Option.isSome_iff_exists.1 hj
        have ho' : l[k]? = some o := by simpa using ho
        rw [pick_cons ho'] at hb
        have hw : wpOp P l.toArray (contF (wpMix P l Q s)) k (wpList P l.toArray (contF (wpMix P l Q s)) (pick l [i])) a w := by unfold wpOp; simp only [ho]; exact hb
        refine wpOp_mono (fun a' w' h' => wpAny_f [i] _ a' w' h2 (fun a'' w'' h'' => ?_) h') (wpOp_F hw)
        have := ih _ _ _ hB' h''
        rw [← he] at this
        exact this

def mixAllB (l : List Oper) (s : List Stp) : Bool :=
  Region.noSelect l.toArray && decide (lenS s = l.length) && mixB .any l.toArray s (Array.replicate l.length false)

theorem wp_mix {id : Nat} {Q : Exit → Act → World → Prop} {a : Act} {w : World} {l : List Oper} (s : List Stp) (hm : P.follows .mixedOrders = true) (hB : mixAllB l s = true)
    (h : ∀ Q' : Exit → Act → World → Prop, (∀ a w, Q .normal a w → Q' .normal a w) → wpMix P l Q' s a w.drew) :
    (Code.region id l.toArray true).wp P Q a w := by
  simp only [mixAllB, Bool.and_eq_true, decide_eq_true_eq] at hB
  obtain ⟨⟨hsel, hlen⟩, hB⟩ := hB
  refine Code.wp_mono (Q := noPan Q) (fun e a w hq => by cases e <;> first | exact hq | exact (hq : False).elim) ?_
  refine wp_region_any hm ?_
  have := wpAny_mix (md := .any) (Q := noPan Q) (fun c a a' w hq => hq) hsel s (Array.replicate l.length false) a w.drew hB (h (noPan Q) fun _ _ h => h)
  rw [show lenS s = l.toArray.size from by simp; omega] at this
  simpa using this
end
end Go.Proofs.Ytllddidjiabegaa

/- A statement whose order is open, in steps, over a class of worlds: reads of cells that all worlds of the class hold come first, too; whatever else is done keeps the class. -/
set_option linter.unusedVariables false
set_option linter.unusedSimpArgs false
namespace Go.Proofs.Ytllddidjiabegaa
open Go.RowKit
section
variable {P : Program} {md : Region.Mode} {ops : Array Oper} {Q : Exit → Act → World → Prop} {C : World → Prop}

/-- one that gives a value and leaves the world as it is: no call. -/
def stillB : Callee → Bool
  | .builtin .len | .builtin .max | .builtin .min | .builtin .cap => true
  | _ => false
def stillOp (o : Oper) : Bool := simpleOp o || (match o.op with | .load .. => true | .call c => stillB c.callee | _ => false)

theorem stillOp_value {o : Oper} (h : stillOp o = true) {ρ : Operand → Value} {w w1 : World} {n : Next} (hr : (execOp ρ o).run P w = .ok n w1) : ∃ v, n = .value v := by
  unfold stillOp at h
  rw [Bool.or_eq_true] at h
  rcases h with h | h
  · exact simpleOp_value h hr
  · split at h
    · rename_i e
      unfold execOp at hr
      rw [e] at hr
      exact value_of_bind _ hr
    · rename_i c e
      unfold execOp at hr
      rw [e] at hr
      unfold stillB at h
      split at h
      all_goals first
        | (rename_i e2; simp only [resolve, e2, Sem.run_bind, Sem.run_pure, Result.andThen_ok, invoke, builtin] at hr; exact value_of_bind _ (by simpa only [Sem.run_bind, Sem.run_pure] using hr))
        | cases h
    · cases h

def YieldsX (P : Program) (ops : Array Oper) (C : World → Prop) (o : Oper) (v : Value) (a : Act) : Prop :=
  (Region.wanted o (yielded ops a.tmps) = true ∧ ∀ w, C w → (execOp a.eval o).run P w = .ok (.value v) w) ∨ (Region.wanted o (yielded ops a.tmps) = false ∧ v = undef)

theorem yieldsX_of_quiet {i : Nat} {o : Oper} {a : Act} {K : Act → Prop} (hi : ops[i]? = some o) (hs : stillOp o = true) (h : qOp P ops C i K a) : ∃ v, YieldsX P ops C o v a ∧ K (a.put o.dst v) := by
  obtain ⟨v, hy, hK⟩ := yieldsIn_of_qOp hi h
  refine ⟨v, ?_, hK⟩
  rcases hy with ⟨hw, hy⟩ | ⟨hw, rfl⟩
  · refine Or.inl ⟨hw, fun w hC => ?_⟩
    have h1 := hy w hC
    unfold Oper.quietAt at h1
    generalize hr : (execOp a.eval o).run P w = r at h1
    cases r with
    | ok n w' =>
      obtain ⟨u, rfl⟩ := stillOp_value hs hr
      simp only [Oper.quietUpon] at h1
      rw [h1.1, h1.2]
    | halt x w' => simp only [Oper.quietUpon] at h1
  · exact Or.inr ⟨hw, rfl⟩

theorem YieldsX.wpOp {i : Nat} {o : Oper} {v : Value} {a : Act} (hi : ops[i]? = some o) (hy : YieldsX P ops C o v a) {K : Act → World → Prop} {w : World} (hC : C w) (h : K (a.put o.dst v) w) : wpOp P ops Q i K a w := by
  unfold Go.wpOp
  simp only [hi]
  rcases hy with ⟨hw, hv⟩ | ⟨hw, rfl⟩
  · simp only [hw, if_true, Oper.wp, hv w hC, Oper.upon]; exact .inl h
  · simp only [hw, Bool.false_eq_true, if_false]; exact h

theorem YieldsX.of_same {o : Oper} {v : Value} {a a' : Act} (hy : YieldsX P ops C o v a) (he : execOp a'.eval o = execOp a.eval o)
    (hw : Region.wanted o (yielded ops a'.tmps) = Region.wanted o (yielded ops a.tmps)) : YieldsX P ops C o v a' := by
  unfold YieldsX at *
  rw [he, hw]
  exact hy

theorem wpOp_putX {j : Nat} {oi oj : Oper} {v : Value} (hj : ops[j]? = some oj) (hap : oi.apart ops oj = true)
    (hsi : ∀ cs b, oi.op ≠ .select cs b) (hsj : ∀ cs b, oj.op ≠ .select cs b)
    (hQ : ∀ c a w, Q (.panic c) (a.put oi.dst v) w → Q (.panic c) a w) {K : Act → World → Prop} {a : Act} {w : World}
    (hy : YieldsX P ops C oi v a) (h : wpOp P ops Q j K (a.put oi.dst v) w) :
    wpOp P ops Q j (fun a' w' => YieldsX P ops C oi v a' ∧ K (a'.put oi.dst v) w') a w := by
  obtain ⟨h1, h2, h3⟩ := Oper.apart_spec hap
  have keep : ∀ (a : Act), YieldsX P ops C oi v a → ∀ u, YieldsX P ops C oi v (a.put oj.dst u) := fun a hy u =>
    hy.of_same (execOp_put oi hsi a oj.dst u h3) (wanted_put oi a oj.dst u h3)
  have keepD : ∀ d, YieldsX P ops C oi v { a with defers := d :: a.defers } := fun d => hy.of_same rfl rfl
  unfold wpOp at *
  simp only [hj] at *
  rw [wanted_put oj a oi.dst v h1] at h
  split
  · rename_i hw
    simp only [hw, if_true] at h
    rcases h with h | ⟨hasks, hlets⟩
    case inr => exact .inr ⟨by unfold Oper.asks at *; rw [execOp_put oj hsj a oi.dst v h1] at hasks; exact hasks, hlets⟩
    refine .inl ?_
    unfold Oper.wp at *
    rw [execOp_put oj hsj a oi.dst v h1] at h
    generalize (execOp a.eval oj).run P w = r at *
    cases r with
    | ok n w' =>
      cases n <;> simp only [Oper.upon] at h ⊢
      case value u => exact ⟨keep a hy u, by rw [← Act.put_comm a v u h2]; exact h⟩
      case skip => exact ⟨keep a hy _, by rw [← Act.put_comm a v undef h2]; exact h⟩
      case defer d =>
        refine ⟨keep _ (keepD d) _, ?_⟩
        rw [← Act.put_comm _ v undef h2, ← Act.put_defers]
        exact h
      case enter f args =>
        refine Calls.mono h fun e w'' he => ?_
        cases e with
        | returned u => exact ⟨keep a hy u, by rw [← Act.put_comm a v u h2]; exact he⟩
        | panicked c => exact hQ _ _ _ he
        | outgrown => exact he
      case row row args => exact Rows.mono h fun u w'' he => ⟨keep a hy u, by rw [← Act.put_comm a v u h2]; exact he⟩
    | halt x w' =>
      cases x <;> simp only [Oper.upon] at h ⊢
      case panic u => exact hQ _ _ _ h
  · rename_i hw
    simp only [hw] at h
    exact ⟨keep a hy _, by rw [← Act.put_comm a v undef h2]; exact h⟩

def wpAnyC (P : Program) (md : Region.Mode) (ops : Array Oper) (C : World → Prop) (Q : Exit → Act → World → Prop) (n1 m : Nat) : Nat → Array Bool → Act → World → Prop
  | 0, listed, a, w => (∀ j, j < n1 → listed.getD j true = true) ∧ wpAny P md ops Q m listed a w
  | fuel + 1, listed, a, w => Region.ready md ops listed ≠ [] ∧ ∀ i ∈ Region.ready md ops listed, wpOp P ops Q i (fun a' w' => C w' ∧ wpAnyC P md ops C Q n1 m fuel (listed.setIfInBounds i true) a' w') a w

theorem wpAny_of_C {n1 m : Nat} : ∀ (f : Nat) (listed : Array Bool) (a : Act) (w : World), wpAnyC P md ops C Q n1 m f listed a w → wpAny P md ops Q (f + m) listed a w := by
  intro f
  induction f with
  | zero => intro listed a w h; rw [Nat.zero_add]; exact h.2
  | succ f ih =>
    intro listed a w h
    rw [show f + 1 + m = (f + m) + 1 by omega]
    exact ⟨fun h0 => absurd h0 h.1, fun i hi => wpOp_mono (fun _ _ h' => ih _ _ _ h'.2) (h.2 i hi)⟩

/-- whatever stands from n1 on waits for each operation below n1. -/
def phaseB (md : Region.Mode) (ops : Array Oper) (n1 : Nat) : Bool :=
  (List.range ops.size).all fun j => decide (j < n1) || (List.range n1).all fun i => Region.waitsFor md ops j i

theorem phase_ready {n1 i j : Nat} {listed : Array Bool} (hp : phaseB md ops n1 = true) (hi : i < n1) (hun : listed.getD i true = false) (hj : j ∈ Region.ready md ops listed) : j < n1 := by
  obtain ⟨_, oj, hoj, hall⟩ := mem_ready.1 hj
  have hlt : j < ops.size := (Array.getElem?_eq_some_iff.1 hoj).1
  have h1 := List.all_eq_true.1 hp j (List.mem_range.2 hlt)
  simp only [Bool.or_eq_true, decide_eq_true_eq] at h1
  rcases h1 with h1 | h1
  · exact h1
  · obtain ⟨o', ho', e, he, hb, hon⟩ := Region.waitsFor_spec (List.all_eq_true.1 h1 i (List.mem_range.2 hi))
    have : o' = oj := Option.some.inj (ho'.symm.trans hoj)
    subst this
    have h2 := hall e he hb
    rw [hon, getD_both hun] at h2
    cases h2

theorem wpAnyC_first {n1 m i : Nat} {oi : Oper} {v : Value} (hp : phaseB md ops n1 = true) (hin : i < n1) (hi : ops[i]? = some oi) (hsel : ∀ (j : Nat) (o : Oper) cs b, ops[j]? = some o → o.op ≠ .select cs b)
    (hQ : ∀ c a w, Q (.panic c) (a.put oi.dst v) w → Q (.panic c) a w) :
    ∀ (fuel : Nat) (listed : Array Bool) (a : Act) (w : World), C w →
      (∀ j oj, ops[j]? = some oj → j ≠ i → listed.getD j true = false → (∀ e ∈ oj.after, Region.binds md e = true → e.on ≠ i) → oi.apart ops oj = true) →
      i ∈ Region.ready md ops listed → YieldsX P ops C oi v a →
      wpAnyC P md ops C Q n1 m fuel (listed.setIfInBounds i true) (a.put oi.dst v) w → wpAnyC P md ops C Q n1 m (fuel + 1) listed a w := by
  intro fuel
  induction fuel with
  | zero =>
    intro listed a w hC _ hr hy H
    refine ⟨fun h => (by rw [h] at hr; cases hr), fun j hj => ?_⟩
    by_cases hji : j = i
    · subst hji; exact hy.wpOp hi hC ⟨hC, H⟩
    · have hjn := phase_ready hp hin (mem_ready.1 hr).1 hj
      have h1 := H.1 j hjn
      rw [getD_set_ne true (Ne.symm hji), (mem_ready.1 hj).1] at h1
      cases h1
  | succ fuel ih =>
    intro listed a w hC hfree hr hy H
    refine ⟨fun h => (by rw [h] at hr; cases hr), fun j hj => ?_⟩
    by_cases hji : j = i
    · subst hji; exact hy.wpOp hi hC ⟨hC, H⟩
    · have h1 := H.2 j (ready_mono hj hji)
      obtain ⟨hjun, oj, hoj, hall⟩ := mem_ready.1 hj
      have hnot : ∀ e ∈ oj.after, Region.binds md e = true → e.on ≠ i := fun e he hb heq => by
        have h1 := hall e he hb
        have h0 := (mem_ready.1 hr).1
        rw [heq] at h1
        rcases Nat.lt_or_ge i listed.size with h' | h'
        · simp [h'] at h0 h1; rw [h0] at h1; cases h1
        · simp [Array.getElem?_eq_none h'] at h1
      have h2 := wpOp_putX hoj (hfree j oj hoj hji hjun hnot) (fun cs b => hsel i oi cs b hi) (fun cs b => hsel j oj cs b hoj) hQ hy h1
      have hfree' : ∀ k ok, ops[k]? = some ok → k ≠ i → (listed.setIfInBounds j true).getD k true = false →
          (∀ e ∈ ok.after, Region.binds md e = true → e.on ≠ i) → oi.apart ops ok = true := fun k ok hk hki hun hno => by
        refine hfree k ok hk hki ?_ hno
        by_cases hjk : j = k
        · subst hjk; exact hjun
        · rw [getD_set_ne true hjk] at hun; exact hun
      refine wpOp_mono (fun a' w' h3 => ⟨h3.2.1, ih (listed.setIfInBounds j true) a' w' h3.2.1 hfree' (ready_mono hr (Ne.symm hji)) h3.1 ?_⟩) h2
      rw [Array.setIfInBounds_comm _ _ hji]
      exact h3.2.2

def qcB (md : Region.Mode) (ops : Array Oper) (n1 : Nat) : List Nat → Array Bool → Bool
  | [], _ => true
  | k :: p, L => decide (k < n1) && ((ops[k]?).map stillOp).getD false && (Region.ready md ops L).contains k && Region.free md ops L k && qcB md ops n1 p (L.setIfInBounds k true)
def mixcB (md : Region.Mode) (ops : Array Oper) (n1 : Nat) (s2 : List Stp) : List Stp → Array Bool → Bool
  | [], L => (List.range n1).all (fun j => L.getD j true) && mixB md ops s2 L
  | .q ks :: s, L => qcB md ops n1 ks L && mixcB md ops n1 s2 s (runSet L ks)
  | .f ks :: s, L => fB md ops ks L && mixcB md ops n1 s2 s (runSet L ks)
  | .p i j :: s, L => decide (Region.ready md ops L = [i, j]) && fB md ops [j] (runSet L [i]) && fB md ops [i] (runSet L [j]) && (ops[i]?).isSome && (ops[j]?).isSome && (runSet L [j, i] == runSet L [i, j]) && mixcB md ops n1 s2 s (runSet L [i, j])

/-- operations one by one, each of which keeps the class. -/
def wpSteps (P : Program) (ops : Array Oper) (C : World → Prop) (X : Act → World → Prop) : List Oper → Act → World → Prop
  | [], a, w => X a w
  | o :: rest, a, w => wpList P ops (contF fun a' w' => C w' ∧ wpSteps P ops C X rest a' w') [o] a w

def wpMixC (P : Program) (l : List Oper) (C : World → Prop) (Q : Exit → Act → World → Prop) (s2 : List Stp) : List Stp → Act → World → Prop
  | [], a, w => wpMix P l Q s2 a w
  | .q ks :: s, a, w => wpQuiet P l.toArray C (fun a' => wpMixC P l C Q s2 s a' w) (pick l ks) a
  | .f ks :: s, a, w => wpSteps P l.toArray C (wpMixC P l C Q s2 s) (pick l ks) a w
  | .p i j :: s, a, w => wpSteps P l.toArray C (wpMixC P l C Q s2 s) (pick l [i, j]) a w ∧ wpSteps P l.toArray C (wpMixC P l C Q s2 s) (pick l [j, i]) a w

theorem wpAnyC_q {l : List Oper} {Q : Exit → Act → World → Prop} {n1 m : Nat} (hp : phaseB md l.toArray n1 = true) (hQ : ∀ c a a' w, Q (.panic c) a w → Q (.panic c) a' w) (hsel : Region.noSelect l.toArray = true) {X : Act → World → Prop} {n : Nat} :
    ∀ (p : List Nat) (L : Array Bool) (a : Act) (w : World), C w → qcB md l.toArray n1 p L = true → (∀ a', X a' w → wpAnyC P md l.toArray C Q n1 m n (runSet L p) a' w) → wpQuiet P l.toArray C (fun a' => X a' w) (pick l p) a →
      wpAnyC P md l.toArray C Q n1 m (p.length + n) L a w := by
  intro p
  induction p with
  | nil => intro L a w hC hB h hx; rw [List.length_nil, Nat.zero_add]; exact h a hx
  | cons i p ih =>
    intro L a w hC hB h hx
    simp only [qcB, Bool.and_eq_true, decide_eq_true_eq] at hB
    obtain ⟨⟨⟨⟨hin, ho⟩, hr⟩, hf⟩, hB'⟩ := hB
    cases ho2 : l.toArray[i]? with
    | none => rw [ho2] at ho; cases ho
    | some o =>
      rw [ho2] at ho
      have hs1 : stillOp o = true := by simpa using ho
      have ho' : l[i]? = some o := by simpa using ho2
      rw [pick_cons ho'] at hx
      have hr' : i ∈ Region.ready md l.toArray L := by simpa using hr
      have hq : qOp P l.toArray C i (wpQuiet P l.toArray C (fun a' => X a' w) (pick l p)) a := by unfold qOp; simp only [ho2]; exact hx
      obtain ⟨v, hy, hK⟩ := yieldsX_of_quiet ho2 hs1 hq
      rw [List.length_cons, show p.length + 1 + n = (p.length + n) + 1 from by omega]
      exact wpAnyC_first hp hin ho2 (Region.noSelect_spec hsel) (fun c a w h => hQ c _ _ w h) _ L a w hC (Region.free_spec ho2 hf) hr' hy (ih _ _ _ hC hB' h hK)

theorem wpAnyC_f {l : List Oper} {Q : Exit → Act → World → Prop} {X : Act → World → Prop} {n n1 m : Nat} :
    ∀ (p : List Nat) (L : Array Bool) (a : Act) (w : World), C w → fB md l.toArray p L = true → (∀ a' w', C w' → X a' w' → wpAnyC P md l.toArray C Q n1 m n (runSet L p) a' w') → wpSteps P l.toArray C X (pick l p) a w →
      wpAnyC P md l.toArray C Q n1 m (p.length + n) L a w := by
  intro p
  induction p with
  | nil => intro L a w hC hB h hx; rw [List.length_nil, Nat.zero_add]; exact h a w hC hx
  | cons k p ih =>
    intro L a w hC hB h hx
    simp only [fB, Bool.and_eq_true, decide_eq_true_eq] at hB
    obtain ⟨⟨hr, ho⟩, hB'⟩ := hB
    obtain ⟨o, ho⟩ := Option.isSome_iff_exists.1 ho
    have ho' : l[k]? = some o := by simpa using ho
    rw [pick_cons ho'] at hx
    rw [List.length_cons, show p.length + 1 + n = (p.length + n) + 1 from by omega]
    refine ⟨fun h1 => (by rw [hr] at h1; cases h1), fun i hi => ?_⟩
    rw [hr] at hi
    have hik : i = k := by simpa using hi
    subst hik
    rw [wpSteps] at hx
    have hw : wpOp P l.toArray (contF fun a' w' => C w' ∧ wpSteps P l.toArray C X (pick l p) a' w') i (fun a' w' => C w' ∧ wpSteps P l.toArray C X (pick l p) a' w') a w := by
      unfold wpOp; simp only [ho]; exact hx
    exact wpOp_mono (fun a' w' h' => ⟨h'.1, ih _ _ _ h'.1 hB' h h'.2⟩) (wpOp_F hw)

theorem wpAnyC_mix {l : List Oper} {Q : Exit → Act → World → Prop} {n1 : Nat} {s2 : List Stp} (hp : phaseB md l.toArray n1 = true) (hQ : ∀ c a a' w, Q (.panic c) a w → Q (.panic c) a' w) (hsel : Region.noSelect l.toArray = true) :
    ∀ (s : List Stp) (L : Array Bool) (a : Act) (w : World), C w → mixcB md l.toArray n1 s2 s L = true → wpMixC P l C Q s2 s a w → wpAnyC P md l.toArray C Q n1 (lenS s2) (lenS s) L a w := by
  intro s
  induction s with
  | nil =>
    intro L a w hC hB h
    simp only [mixcB, Bool.and_eq_true] at hB
    exact ⟨fun j hj => List.all_eq_true.1 hB.1 j (List.mem_range.2 hj), wpAny_mix hQ hsel s2 L a w hB.2 h⟩
  | cons st s ih =>
    intro L a w hC hB h
    cases st with
    | q ks =>
      simp only [mixcB, Bool.and_eq_true] at hB
      exact wpAnyC_q hp hQ hsel (X := wpMixC P l C Q s2 s) ks L a w hC hB.1 (fun a' h' => ih _ _ _ hC hB.2 h') h
    | f ks =>
      simp only [mixcB, Bool.and_eq_true] at hB
      exact wpAnyC_f ks L a w hC hB.1 (fun a' w' hC' h' => ih _ _ _ hC' hB.2 h') h
    | p i j =>
      simp only [mixcB, Bool.and_eq_true, decide_eq_true_eq, beq_iff_eq] at hB
      obtain ⟨⟨⟨⟨⟨⟨hr, h1⟩, h2⟩, hi⟩, hj⟩, he⟩, hB'⟩ := hB
      obtain ⟨ha, hb⟩ := h
      show wpAnyC P md l.toArray C Q n1 (lenS s2) (2 + lenS s) L a w
      rw [show 2 + lenS s = (1 + lenS s) + 1 from by omega]
      refine ⟨fun h1 => (by rw [hr] at h1; cases h1), fun k hk => ?_⟩
      rw [hr] at hk
      rcases (by simpa using hk : k = i ∨ k = j) with rfl | rfl
      · obtain ⟨o, ho⟩ := Option.isSome_iff_exists.1 hi
        have ho' : l[k]? = some o := by simpa using ho
        rw [pick_cons ho', wpSteps] at ha
        have hw : wpOp P l.toArray (contF fun a' w' => C w' ∧ wpSteps P l.toArray C (wpMixC P l C Q s2 s) (pick l [j]) a' w') k (fun a' w' => C w' ∧ wpSteps P l.toArray C (wpMixC P l C Q s2 s) (pick l [j]) a' w') a w := by
          unfold wpOp; simp only [ho]; exact ha
        exact wpOp_mono (fun a' w' h' => ⟨h'.1, wpAnyC_f [j] _ a' w' h'.1 h1 (fun a'' w'' hC'' h'' => ih _ _ _ hC'' hB' h'') h'.2⟩) (wpOp_F hw)
      · obtain ⟨o, ho⟩ := Option.isSome_iff_exists.1 hj
        have ho' : l[k]? = some o := by simpa using ho
        rw [pick_cons ho', wpSteps] at hb
        have hw : wpOp P l.toArray (contF fun a' w' => C w' ∧ wpSteps P l.toArray C (wpMixC P l C Q s2 s) (pick l [i]) a' w') k (fun a' w' => C w' ∧ wpSteps P l.toArray C (wpMixC P l C Q s2 s) (pick l [i]) a' w') a w := by
          unfold wpOp; simp only [ho]; exact hb
        refine wpOp_mono (fun a' w' h' => ⟨h'.1, wpAnyC_f [i] _ a' w' h'.1 h2 (fun a'' w'' hC'' h'' => ?_) h'.2⟩) (wpOp_F hw)
        have := ih _ _ _ hC'' hB' h''
        rw [← he] at this
        exact this

def mixcAllB (l : List Oper) (n1 : Nat) (s s2 : List Stp) : Bool :=
  Region.noSelect l.toArray && phaseB .any l.toArray n1 && decide (lenS s + lenS s2 = l.length) && mixcB .any l.toArray n1 s2 s (Array.replicate l.length false)

theorem wp_mixC (C : World → Prop) {id : Nat} {a : Act} {w : World} {l : List Oper} (n1 : Nat) (s s2 : List Stp) (hm : P.follows .mixedOrders = true) (hB : mixcAllB l n1 s s2 = true) (hC : C w.drew)
    (h : ∀ Q' : Exit → Act → World → Prop, (∀ a w, Q .normal a w → Q' .normal a w) → wpMixC P l C Q' s2 s a w.drew) :
    (Code.region id l.toArray true).wp P Q a w := by
  simp only [mixcAllB, Bool.and_eq_true, decide_eq_true_eq] at hB
  obtain ⟨⟨⟨hsel, hp⟩, hlen⟩, hB⟩ := hB
  refine Code.wp_mono (Q := noPan Q) (fun e a w hq => by cases e <;> first | exact hq | exact (hq : False).elim) ?_
  refine wp_region_any hm ?_
  have := wpAny_of_C (C := C) _ _ _ _ (wpAnyC_mix (md := .any) (Q := noPan Q) hp (fun c a a' w hq => hq) hsel s (Array.replicate l.length false) a w.drew hC hB (h (noPan Q) fun _ _ h => h))
  rw [show lenS s + lenS s2 = l.toArray.size from by simp; omega] at this
  simpa using this
end

/-- a load of whatever a cell holds, in a class all of whose worlds hold it. -/
theorem run_load_cell {P : Program} {o : Oper} {a : Act} {w : World} {ty : TypeId} {x : Operand} {p : Addr} {v : Value} (ho : o.op = .load ty x) (hx : a.eval x = .pointer (some p)) (hd : ∀ w, (isAgg ty).run P w = .ok false w) (hc : w.cell? p = some v) :
    (execOp a.eval o).run P w = .ok (.value v) w := by
  unfold execOp
  simp only [ho, hx]
  simp [go_sem, hc, hd]
theorem quiet_cell {P : Program} {o : Oper} {a : Act} {C : World → Prop} {K : Act → Prop} {ty : TypeId} {x : Operand} {p : Addr} {v : Value} (hc : ∀ w, C w → w.cell? p = some v) (ho : o.op = .load ty x) (hx : a.eval x = .pointer (some p)) (hd : ∀ w, (isAgg ty).run P w = .ok false w)
    (hK : K (a.put o.dst v)) : o.quiet P a C K :=
  quiet_val v (fun w hw => run_load_cell ho hx hd (hc w hw)) hK

def aggB (P : Program) (ty : TypeId) : Bool := match P.underlying ty with | some (.struct _) | some (.array _ _) | none => true | _ => false
def yesB (P : Program) (ty : TypeId) (n : Nat) : Bool := (match P.underlying ty with | some (.struct _) | some (.array _ _) => true | _ => false) && ((P.info? ty).map (·.size) == some n)
theorem isAgg_no {P : Program} {ty : TypeId} (h : aggB P ty = false) (w : World) : (isAgg ty).run P w = .ok false w := by
  unfold aggB at h
  cases e : P.underlying ty with
  | none => rw [e] at h; cases h
  | some d =>
    rw [e] at h
    simp only [isAgg, Sem.run_bind, run_underlying e, Result.andThen_ok]
    split
    · cases h
    · cases h
    · rfl
theorem quiet_cellB {P : Program} {o : Oper} {a : Act} {B : Nat} {w0 : World} {K : Act → Prop} {ty : TypeId} {x : Operand} {b off : Nat} {v : Value} (ho : o.op = .load ty x) (hx : a.eval x = .pointer (some ⟨b, off, none⟩)) (hd : aggB P ty = false)
    (hc : w0.cell? ⟨b, off, none⟩ = some v) (hb : b < B) (hK : K (a.put o.dst v)) : o.quiet P a (fun w' => Below B w0 w') K :=
  quiet_val v (fun w hw => run_load_cell ho hx (isAgg_no hd) ((hw.cell (p := ⟨b, off, none⟩) hb).trans hc)) hK

theorem isAgg_yes {P : Program} {ty : TypeId} {n : Nat} (h : yesB P ty n = true) (w : World) : (isAgg ty).run P w = .ok true w ∧ (sizeOf ty).run P w = .ok n w := by
  simp only [yesB, Bool.and_eq_true, beq_iff_eq] at h
  obtain ⟨h1, h2⟩ := h
  constructor
  · cases e : P.underlying ty with
    | none => rw [e] at h1; cases h1
    | some d =>
      rw [e] at h1
      simp only [isAgg, Sem.run_bind, run_underlying e, Result.andThen_ok]
      split
      · rfl
      · rfl
      · rename_i h3 h4
        split at h1
        · rename_i _ _ e2; cases e2; exact (h3 _ rfl).elim
        · rename_i _ _ _ e2; cases e2; exact (h4 _ _ rfl).elim
        · cases h1
  · cases e : P.info? ty with
    | none => rw [e] at h2; cases h2
    | some i => rw [e] at h2; simp at h2; simp [sizeOf, run_typeInfo w e, h2]
theorem run_load_agg {P : Program} {o : Oper} {a : Act} {w : World} {ty : TypeId} {x : Operand} {p : Addr} (cs : List Value) (ho : o.op = .load ty x) (hx : a.eval x = .pointer (some p)) (hd : yesB P ty cs.length = true) (hc : ∀ j v, cs[j]? = some v → w.cell? (p.add j) = some v) :
    (execOp a.eval o).run P w = .ok (.value (.agg cs.toArray)) w := by
  have h := run_loadCells_list (P := P) w p cs hc
  unfold loadCells at h
  obtain ⟨h1, h2⟩ := isAgg_yes hd w
  unfold execOp
  simp only [ho, hx]
  simp [go_sem, h1, h2, h]
theorem quiet_agg2B {P : Program} {o : Oper} {a : Act} {B : Nat} {w0 : World} {K : Act → Prop} {ty : TypeId} {x : Operand} {b off : Nat} {v0 v1 : Value} (ho : o.op = .load ty x) (hx : a.eval x = .pointer (some ⟨b, off, none⟩)) (hd : yesB P ty 2 = true)
    (h0 : w0.cell? ⟨b, off, none⟩ = some v0) (h1 : w0.cell? ⟨b, off + 1, none⟩ = some v1) (hb : b < B) (hK : K (a.put o.dst (.agg #[v0, v1]))) : o.quiet P a (fun w' => Below B w0 w') K :=
  quiet_val _ (fun w hw => run_load_agg [v0, v1] ho hx hd (fun j v hj => by
    match j, hj with
    | 0, hj => cases hj; exact (hw.cell (p := ⟨b, off, none⟩) hb).trans h0
    | 1, hj => cases hj; exact (hw.cell (p := ⟨b, off + 1, none⟩) hb).trans h1
    | j + 2, hj => simp at hj)) hK
theorem quiet_agg3B {P : Program} {o : Oper} {a : Act} {B : Nat} {w0 : World} {K : Act → Prop} {ty : TypeId} {x : Operand} {b off : Nat} {v0 v1 v2 : Value} (ho : o.op = .load ty x) (hx : a.eval x = .pointer (some ⟨b, off, none⟩)) (hd : yesB P ty 3 = true)
    (h0 : w0.cell? ⟨b, off, none⟩ = some v0) (h1 : w0.cell? ⟨b, off + 1, none⟩ = some v1) (h2 : w0.cell? ⟨b, off + 2, none⟩ = some v2) (hb : b < B) (hK : K (a.put o.dst (.agg #[v0, v1, v2]))) : o.quiet P a (fun w' => Below B w0 w') K :=
  quiet_val _ (fun w hw => run_load_agg [v0, v1, v2] ho hx hd (fun j v hj => by
    match j, hj with
    | 0, hj => cases hj; exact (hw.cell (p := ⟨b, off, none⟩) hb).trans h0
    | 1, hj => cases hj; exact (hw.cell (p := ⟨b, off + 1, none⟩) hb).trans h1
    | 2, hj => cases hj; exact (hw.cell (p := ⟨b, off + 2, none⟩) hb).trans h2
    | j + 3, hj => simp at hj)) hK
theorem quiet_agg4B {P : Program} {o : Oper} {a : Act} {B : Nat} {w0 : World} {K : Act → Prop} {ty : TypeId} {x : Operand} {b off : Nat} {v0 v1 v2 v3 : Value} (ho : o.op = .load ty x) (hx : a.eval x = .pointer (some ⟨b, off, none⟩)) (hd : yesB P ty 4 = true)
    (h0 : w0.cell? ⟨b, off, none⟩ = some v0) (h1 : w0.cell? ⟨b, off + 1, none⟩ = some v1) (h2 : w0.cell? ⟨b, off + 2, none⟩ = some v2) (h3 : w0.cell? ⟨b, off + 3, none⟩ = some v3) (hb : b < B) (hK : K (a.put o.dst (.agg #[v0, v1, v2, v3]))) : o.quiet P a (fun w' => Below B w0 w') K :=
  quiet_val _ (fun w hw => run_load_agg [v0, v1, v2, v3] ho hx hd (fun j v hj => by
    match j, hj with
    | 0, hj => cases hj; exact (hw.cell (p := ⟨b, off, none⟩) hb).trans h0
    | 1, hj => cases hj; exact (hw.cell (p := ⟨b, off + 1, none⟩) hb).trans h1
    | 2, hj => cases hj; exact (hw.cell (p := ⟨b, off + 2, none⟩) hb).trans h2
    | 3, hj => cases hj; exact (hw.cell (p := ⟨b, off + 3, none⟩) hb).trans h3
    | j + 4, hj => simp at hj)) hK

theorem quiet_max {P : Program} {o : Oper} {a : Act} {C : World → Prop} {K : Act → Prop} {x y : Operand} {ts : Array TypeId} {m n r : Int} (ho : o.op = .call { callee := .builtin .max, args := #[x, y], argTypes := ts }) (hx : a.eval x = .int .i64 m) (hy : a.eval y = .int .i64 n)
    (hr : max m n = r) (hK : K (a.put o.dst (.int .i64 r))) : o.quiet P a C K :=
  quiet_val _ (fun w _ => by
    subst hr
    unfold execOp
    simp only [ho, resolve, invoke, builtin, Sem.run_bind, Sem.run_pure, Result.andThen_ok, List.map_toArray, List.map_cons, List.map_nil, hx, hy]
    simp [Builtin.max_, Builtin.max2, go_sem, Int.max_def]
    try (split <;> simp_all <;> omega)) hK
theorem quiet_len {P : Program} {o : Oper} {a : Act} {C : World → Prop} {K : Act → Prop} {x : Operand} {t1 e : TypeId} {ao : Option Addr} {n c : Nat} (ho : o.op = .call { callee := .builtin .len, args := #[x], argTypes := #[t1] }) (hx : a.eval x = .slice ao n c) (ht : P.underlying t1 = some (.slice e))
    (hK : K (a.put o.dst (.int .i64 n))) : o.quiet P a C K :=
  quiet_val _ (fun w _ => by
    unfold execOp
    simp only [ho, resolve, invoke, builtin, Sem.run_bind, Sem.run_pure, Result.andThen_ok, List.map_toArray, List.map_cons, List.map_nil, hx]
    simp [Builtin.len_, go_sem, run_underlying ht]) hK

end Go.Proofs.Ytllddidjiabegaa

/- Digits to the base 10^9: plain law of sums, differences, products, comparison. -/
set_option linter.unusedVariables false
set_option linter.unusedSimpArgs false
namespace Go.Proofs.Ytllddidjiabegaa

def dpw : Nat → Int
  | 0 => 1
  | i + 1 => 1000000000 * dpw i
theorem dpw_pos (i : Nat) : 0 < dpw i := by
  induction i with
  | zero => decide
  | succ i ih => simp only [dpw]; omega
theorem dpw_add (i j : Nat) : dpw (i + j) = dpw i * dpw j := by
  induction i with
  | zero => simp [dpw]
  | succ i ih => rw [Nat.succ_add]; simp only [dpw]; rw [ih, Int.mul_assoc]
theorem dpw_mono {i j : Nat} (h : i ≤ j) : dpw i ≤ dpw j := by
  induction j with
  | zero => rw [show i = 0 from by omega]; exact Int.le_refl _
  | succ j ih =>
    rcases Nat.lt_or_ge j i with h1 | h1
    · rw [show i = j + 1 from by omega]; exact Int.le_refl _
    · have := ih h1
      have := dpw_pos j
      simp only [dpw]; omega
def dval : List Int → Int
  | [] => 0
  | d :: l => d + 1000000000 * dval l
def isD (l : List Int) : Prop := ∀ d ∈ l, 0 ≤ d ∧ d < 1000000000
theorem isD_cons {d : Int} {l : List Int} : isD (d :: l) ↔ (0 ≤ d ∧ d < 1000000000) ∧ isD l := by simp [isD]
theorem isD_app {l m : List Int} : isD (l ++ m) ↔ isD l ∧ isD m := by
  constructor
  · intro h; exact ⟨fun d hd => h d (by simp [hd]), fun d hd => h d (by simp [hd])⟩
  · rintro ⟨h, g⟩ d hd; rcases List.mem_append.1 hd with h1 | h1; exact h d h1; exact g d h1
theorem isD_nil : isD [] := by simp [isD]
theorem isD_take {l : List Int} (h : isD l) (n : Nat) : isD (l.take n) := fun d hd => h d (List.mem_of_mem_take hd)
theorem isD_nth {l : List Int} (h : isD l) (i : Nat) : 0 ≤ nth l i ∧ nth l i < 1000000000 := by
  unfold nth
  rcases Nat.lt_or_ge i l.length with h1 | h1
  · rw [List.getD_eq_getElem?_getD, List.getElem?_eq_getElem h1]; exact h _ (List.getElem_mem h1)
  · rw [List.getD_eq_getElem?_getD, List.getElem?_eq_none h1]; simp
theorem dval_app (l m : List Int) : dval (l ++ m) = dval l + dpw l.length * dval m := by
  induction l with
  | nil => simp [dval, dpw]
  | cons d l ih => simp only [List.cons_append, dval, List.length_cons, dpw]; rw [ih, Int.mul_add, Int.mul_assoc, Int.add_assoc]
theorem dval_range {l : List Int} (h : isD l) : 0 ≤ dval l ∧ dval l < dpw l.length := by
  induction l with
  | nil => simp [dval, dpw]
  | cons d l ih =>
    obtain ⟨h1, h2⟩ := isD_cons.1 h
    have := ih h2
    simp only [dval, List.length_cons, dpw]; omega
theorem dnth_lt {l : List Int} {i : Nat} (h : i < l.length) : nth l i = l[i] := by
  unfold nth; rw [List.getD_eq_getElem?_getD, List.getElem?_eq_getElem h]; rfl
theorem dnth_ge {l : List Int} {i : Nat} (h : l.length ≤ i) : nth l i = 0 := by
  unfold nth; rw [List.getD_eq_getElem?_getD, List.getElem?_eq_none h]; rfl
theorem dval_take (l : List Int) (i : Nat) : dval (l.take (i + 1)) = dval (l.take i) + nth l i * dpw i := by
  rcases Nat.lt_or_ge i l.length with h | h
  · rw [← List.take_append_getElem h, dval_app, dnth_lt h, List.length_take, Nat.min_eq_left (by omega)]
    simp [dval, Int.mul_comm]
  · rw [List.take_of_length_le (by omega), List.take_of_length_le h, dnth_ge h]; simp
theorem dval_set (l : List Int) (i : Nat) (d : Int) (h : i < l.length) : dval (l.set i d) = dval l + (d - nth l i) * dpw i := by
  induction l generalizing i with
  | nil => simp at h
  | cons a l ih =>
    cases i with
    | zero => simp [dval, dpw, nth]; omega
    | succ i =>
      have h1 : i < l.length := by simpa using h
      have h2 : nth (a :: l) (i + 1) = nth l i := by simp [nth]
      simp only [List.set_cons_succ, dval, dpw, h2]
      rw [ih i h1, Int.mul_add]
      rw [show 1000000000 * ((d - nth l i) * dpw i) = (d - nth l i) * (1000000000 * dpw i) from by rw [← Int.mul_assoc, ← Int.mul_assoc, Int.mul_comm 1000000000]]
      omega
theorem isD_set {l : List Int} (h : isD l) (i : Nat) {d : Int} (hd : 0 ≤ d ∧ d < 1000000000) : isD (l.set i d) := by
  intro x hx
  rcases List.mem_or_eq_of_mem_set hx with h1 | h1
  · exact h x h1
  · rw [h1]; exact hd
theorem dnth_set (l : List Int) (i j : Nat) (d : Int) (h : i < l.length) : nth (l.set i d) j = if i = j then d else nth l j := by
  simp only [nth, List.getD_eq_getElem?_getD, List.getElem?_set]
  split
  · next e => subst e; simp [h]
  · rfl
theorem dval_zero {l : List Int} (h : ∀ i, nth l i = 0) : dval l = 0 := by
  induction l with
  | nil => rfl
  | cons d l ih =>
    have h0 := h 0
    have : dval l = 0 := ih (fun i => by have := h (i + 1); simpa [nth] using this)
    simp only [nth, List.getD_cons_zero] at h0
    simp only [dval, this, h0]; rfl
/-- the digits of a number. -/
def dig (n : Nat) : List Int := if h : n = 0 then [] else ((n % 1000000000 : Nat) : Int) :: dig (n / 1000000000)
termination_by n
decreasing_by omega
theorem dig_zero : dig 0 = [] := by rw [dig]; simp
theorem dig_step {n : Nat} (h : n ≠ 0) : dig n = ((n % 1000000000 : Nat) : Int) :: dig (n / 1000000000) := by rw [dig]; simp [h]
theorem dval_dig (n : Nat) : dval (dig n) = n := by
  induction n using Nat.strongRecOn with
  | _ n ih =>
    by_cases h : n = 0
    · subst h; rw [dig_zero]; rfl
    · rw [dig_step h, dval, ih _ (by omega)]; omega
theorem isD_dig (n : Nat) : isD (dig n) := by
  induction n using Nat.strongRecOn with
  | _ n ih =>
    by_cases h : n = 0
    · subst h; rw [dig_zero]; exact isD_nil
    · rw [dig_step h, isD_cons]; exact ⟨by omega, ih _ (by omega)⟩
theorem dig_nil {n : Nat} : (dig n).length = 0 ↔ n = 0 := by
  constructor
  · intro h; by_cases hn : n = 0
    · exact hn
    · rw [dig_step hn] at h; simp at h
  · rintro rfl; rw [dig_zero]; rfl
/-- canonical digits are the digits of their number. -/
theorem canon {l : List Int} (h : isD l) (hl : l.length = 0 ∨ nth l (l.length - 1) ≠ 0) : l = dig (dval l).toNat := by
  induction l with
  | nil => simp [dval, dig_zero]
  | cons d l ih =>
    obtain ⟨h1, h2⟩ := isD_cons.1 h
    have hr := dval_range h2
    have hc : l.length = 0 ∨ nth l (l.length - 1) ≠ 0 := by
      rcases hl with hl | hl
      · simp at hl
      · cases l with
        | nil => exact Or.inl rfl
        | cons e m => right; simpa [nth] using hl
    have e1 := ih h2 hc
    have hne : (dval (d :: l)).toNat ≠ 0 := by
      intro h0
      have h3 : dval l = 0 ∧ d = 0 := by simp only [dval] at h0; omega
      rw [h3.1] at e1
      rw [show (0 : Int).toNat = 0 from rfl, dig_zero] at e1
      subst e1
      rw [h3.2] at hl
      simp [nth] at hl
    rw [dig_step hne]
    have e2 : (dval (d :: l)).toNat % 1000000000 = d.toNat := by simp only [dval]; omega
    have e3 : (dval (d :: l)).toNat / 1000000000 = (dval l).toNat := by simp only [dval]; omega
    rw [e2, e3, ← e1]
    congr 1; omega
/-- the prefix without zeros at the end. -/
theorem trim_eq {l : List Int} (h : isD l) {n : Nat} (hn : n ≤ l.length) (hz : ∀ i, n ≤ i → nth l i = 0) (hc : n = 0 ∨ nth l (n - 1) ≠ 0) : l.take n = dig (dval l).toNat := by
  have e : dval l = dval (l.take n) := by
    conv => lhs; rw [← List.take_append_drop n l, dval_app]
    rw [dval_zero (l := l.drop n), Int.mul_zero, Int.add_zero]
    intro i; have := hz (n + i) (by omega); simpa [nth, List.getD_eq_getElem?_getD] using this
  rw [e]
  apply canon (isD_take h n)
  rw [List.length_take, Nat.min_eq_left hn]
  rcases hc with hc | hc
  · exact Or.inl hc
  · by_cases h0 : n = 0
    · exact Or.inl h0
    · right; simpa [nth, List.getD_eq_getElem?_getD, List.getElem?_take, show n - 1 < n from by omega] using hc
theorem dig_last {n : Nat} (h : (dig n).length ≠ 0) : nth (dig n) ((dig n).length - 1) ≠ 0 := by
  induction n using Nat.strongRecOn with
  | _ n ih =>
    by_cases h0 : n = 0
    · subst h0; simp [dig_zero] at h
    · rw [dig_step h0]
      by_cases h1 : n / 1000000000 = 0
      · rw [h1, dig_zero]; simp [nth]; omega
      · have h2 : (dig (n / 1000000000)).length ≠ 0 := fun h => h1 (dig_nil.1 h)
        have := ih _ (by omega) h2
        obtain ⟨k, hk⟩ := Nat.exists_eq_succ_of_ne_zero h2
        simp only [List.length_cons, hk, Nat.add_sub_cancel, Nat.succ_sub_one] at this ⊢
        simpa [nth] using this
/-- a number is at least the weight of its last digit. -/
theorem dig_low {n k : Nat} (h : (dig n).length = k + 1) : dpw k ≤ n := by
  have h1 := dig_last (n := n) (by omega)
  have h2 := isD_nth (isD_dig n) k
  have h3 := dval_take (dig n) k
  rw [List.take_of_length_le (by omega), dval_dig] at h3
  rw [h, Nat.add_sub_cancel] at h1
  have h4 := (dval_range (isD_take (isD_dig n) k)).1
  have h5 := Int.mul_le_mul_of_nonneg_right (show 1 ≤ nth (dig n) k from by omega) (Int.le_of_lt (dpw_pos k))
  omega
theorem dig_high (n : Nat) : (n : Int) < dpw (dig n).length := by
  have := (dval_range (isD_dig n)).2
  rwa [dval_dig] at this
theorem dig_len_lt {a b : Nat} (h : (dig a).length < (dig b).length) : a < b := by
  have h1 := dig_high a
  obtain ⟨k, hk⟩ : ∃ k, (dig b).length = k + 1 := ⟨(dig b).length - 1, by omega⟩
  have h2 := dig_low hk
  have h3 := dpw_mono (show (dig a).length ≤ k from by omega)
  omega
theorem dig_len_mono {a b : Nat} (h : a ≤ b) : (dig a).length ≤ (dig b).length := by
  rcases Nat.lt_or_ge (dig b).length (dig a).length with h1 | h1
  · have := dig_len_lt h1; omega
  · exact h1
/-- digits from a place on are alike, the one before is smaller. -/
theorem dval_cmp {a b : List Int} (ha : isD a) (hb : isD b) (hl : a.length = b.length) {i : Nat} (hi : i < a.length) (hs : ∀ j, i < j → nth a j = nth b j) (hlt : nth a i < nth b i) : dval a < dval b := by
  have key : ∀ k, dval (a.take (i + 1 + k)) < dval (b.take (i + 1 + k)) := by
    intro k
    induction k with
    | zero =>
      rw [Nat.add_zero, dval_take, dval_take]
      have h1 := dval_range (isD_take ha i)
      have h2 := dval_range (isD_take hb i)
      rw [List.length_take, Nat.min_eq_left (by omega)] at h1 h2
      have h5 := Int.mul_le_mul_of_nonneg_right (show nth a i + 1 ≤ nth b i from by omega) (Int.le_of_lt (dpw_pos i))
      rw [Int.add_mul] at h5
      omega
    | succ k ih =>
      rw [← Nat.add_assoc, dval_take, dval_take, hs _ (by omega)]
      omega
  have := key a.length
  rwa [List.take_of_length_le (by omega), List.take_of_length_le (by omega)] at this
theorem list_nth_eq {a b : List Int} (hl : a.length = b.length) (h : ∀ i, nth a i = nth b i) : a = b := by
  apply List.ext_getElem hl
  intro i h1 h2
  have := h i
  rwa [dnth_lt h1, dnth_lt h2] at this
/-- the sign of a number. -/
def sg (z : Int) : Int := if z < 0 then -1 else if z = 0 then 0 else 1
theorem dig_dval {l : List Int} {n : Nat} (h : l = dig n) : dval l = n := by rw [h, dval_dig]
end Go.Proofs.Ytllddidjiabegaa

/- Contracts of the small functions on numbers. -/
set_option linter.unusedVariables false
set_option linter.unusedSimpArgs false
namespace Go.Proofs.Ytllddidjiabegaa
open Go.RowKit

theorem blind_within (n lo hi : Int) (w : World) :
    Calls Try.prog 77 #[.int .i64 n, .int .i64 lo, .int .i64 hi] w fun e w' => e = .returned (.bool (inB n lo hi)) ∧ w = w' := by
  go_enter Try.func77, Try.ntmps77
  go_wp2
  all_goals (go_ret; exact ⟨by simp [inB]; omega, rfl⟩)

theorem base_Within (n lo hi : Int) (w : World) :
    Calls Try.prog 44 #[.int .i64 n, .int .i64 lo, .int .i64 hi] w fun e w' => e = .returned (.bool (inB n lo hi)) ∧ w = w' := by
  go_enter Try.func44, Try.ntmps44
  go_wp2
  all_goals (go_ret; exact ⟨by simp [inB]; omega, rfl⟩)

theorem blind_unless (b : Bool) (n : Int) (w : World) :
    Calls Try.prog 78 #[.bool b, .int .i64 n] w fun e w' => e = .returned (.int .i64 (unl b n)) ∧ w = w' := by
  cases b
  all_goals
    go_enter Try.func78, Try.ntmps78
    go_wp2
    go_ret
    exact ⟨rfl, rfl⟩

theorem blind_first (l : List Int) (v : Value) (w : World) (h : IntsAt w v l) :
    Calls Try.prog 75 #[v] w fun e w' => e = .returned (.int .i64 (firstNZ l)) ∧ w = w' := by
  obtain ⟨ao, cap, rfl, h1, h2, h3⟩ := h.open
  unfold maxLen at h2
  go_enter Try.func75, Try.ntmps75
  go_wp2_with fail
  go_loop [7] (fun i => ∃ k : Nat, k ≤ l.length ∧ i = .int .i64 k ∧ ∀ x ∈ l.take k, x = 0) (fun i => l.length - (intOf i).toNat)
  case atStart => exact ⟨0, Nat.zero_le _, rfl, by simp⟩
  case round =>
    obtain ⟨k, hk, rfl, hz⟩ := hrel
    have HZ := hid hz
    clear hz
    by_cases hlt : k < l.length
    · obtain ⟨b, off, rfl, hb, hc⟩ := h3 k hlt
      have hck := hc k hlt
      clear hc h3
      by_cases h0 : l.getD k 0 = 0
      · have H0 := hid h0
        have h0' : (l.getD k 0 != 0) = false := by simpa using h0
        clear h0
        obtain ⟨x, hx⟩ : ∃ x, x = l.getD k 0 := ⟨_, rfl⟩
        rw [← hx] at hck h0'
        have HX := hid hx
        clear hx
        go_wp2_with fail
        go_round
        case rel =>
          refine ⟨k + 1, by omega, by go_num, ?_⟩
          intro y hy
          rw [take_getD 0 hlt] at hy
          rcases List.mem_append.1 hy with hy | hy
          · exact HZ.out y hy
          · rw [List.mem_singleton.1 hy]; exact H0.out
        case measure => simp [intOf]; omega
      · have h0' : (l.getD k 0 != 0) = true := by simpa using h0
        obtain ⟨x, hx⟩ : ∃ x, x = l.getD k 0 := ⟨_, rfl⟩
        rw [← hx] at hck h0' h0
        have HX := hid hx
        have H0 := hid h0
        clear hx h0
        go_wp2_with fail
        go_ret
        refine ⟨ret_int ?_, rfl⟩
        have e1 : l = l.take k ++ (x :: l.drop (k + 1)) := by
          rw [HX.out]; exact cut_getD 0 hlt
        rw [e1, firstNZ_append_zero HZ.out]
        simp [firstNZ, H0.out]
    · go_wp2_with fail
      go_ret
      refine ⟨ret_int ?_, rfl⟩
      rw [firstNZ_zero.2]
      have := HZ.out
      rwa [List.take_of_length_le (by omega)] at this

theorem blind_isField (n : Int) (w : World) :
    Calls Try.prog 117 #[.int .i64 n] w fun e w' => e = .returned (.bool (inB n 0 100000)) ∧ w = w' := by
  go_enter Try.func117, Try.ntmps117
  go_wp2_with (go_at_call 77; refine (blind_within _ _ _ _).mono ?_; rintro _ _ ⟨rfl, rfl⟩)
  go_ret; exact ⟨rfl, rfl⟩

theorem ref_isField (n : Int) (w : World) :
    Calls Try.prog 83 #[.int .i64 n] w fun e w' => e = .returned (.bool (inB n 0 100000)) ∧ w = w' := by
  go_enter Try.func83, Try.ntmps83
  go_wp2_with (go_at_call 44; refine (base_Within _ _ _ _).mono ?_; rintro _ _ ⟨rfl, rfl⟩)
  go_ret; exact ⟨rfl, rfl⟩

theorem base_IsTick (n : Int) (w : World) :
    Calls Try.prog 128 #[.int .i64 n] w fun e w' => e = .returned (.bool (inB n 0 1000000000000)) ∧ w = w' := by
  go_enter Try.func128, Try.ntmps128
  go_wp2_with (go_at_call 44; refine (base_Within _ _ _ _).mono ?_; rintro _ _ ⟨rfl, rfl⟩)
  go_ret; exact ⟨rfl, rfl⟩

theorem blind_factorial (k : Nat) : ∀ (n : Int) (w : World), n ≤ k → n ≤ 12 →
    Calls Try.prog 145 #[.int .i64 n] w fun e w' => e = .returned (.int .i64 (facI n)) ∧ w = w' := by
  induction k with
  | zero =>
    intro n w hk h12
    have hn : n < 2 := by omega
    go_enter Try.func145, Try.ntmps145
    go_wp2_with fail
    go_ret
    exact ⟨ret_int (facI_small hn).symm, rfl⟩
  | succ k ih =>
    intro n w hk h12
    by_cases hn : n < 2
    · go_enter Try.func145, Try.ntmps145
      go_wp2_with fail
      go_ret
      exact ⟨ret_int (facI_small hn).symm, rfl⟩
    · have HS := hid (facI_step (n := n) (by omega))
      have hl := facI_le h12
      have hp := facI_pos n
      have h1 : 0 ≤ n * facI (n - 1) := by rw [HS.out]; omega
      have h2 : n * facI (n - 1) ≤ 479001600 := by rw [HS.out]; omega
      go_enter Try.func145, Try.ntmps145
      go_wp2_with (go_at_call 145; refine (ih (n - 1) _ (by omega) (by omega)).mono ?_; rintro _ _ ⟨rfl, rfl⟩)
      go_ret
      exact ⟨ret_int HS.out, rfl⟩

theorem ref_Factorial (n : Int) (w : World) (h12 : n ≤ 12) :
    Calls Try.prog 108 #[.int .i64 n] w fun e w' => e = .returned (.int .i64 (facI n)) ∧ w = w' := by
  go_enter Try.func108, Try.ntmps108
  go_wp2_with fail
  go_loop [3, 4] (fun o i => ∃ k : Nat, 1 ≤ k ∧ ((k : Int) ≤ n ∨ k = 1) ∧ o = .int .i64 (facI k) ∧ i = .int .i64 ((k : Int) + 1)) (fun _ i => (n - intOf i + 1).toNat)
  case atStart => exact ⟨1, by omega, Or.inr rfl, rfl, rfl⟩
  case round =>
    obtain ⟨k, hk1, hk2, rfl, rfl⟩ := hrel
    by_cases hlt : (k : Int) + 1 ≤ n
    · have HS := hid (facI_step (n := (k : Int) + 1) (by omega))
      have hl := facI_le (n := (k : Int) + 1) (by omega)
      have hp := facI_pos ((k : Int) + 1)
      have HE : Hid (facI (k : Int) * ((k : Int) + 1) = facI ((k : Int) + 1)) := hid (by
        have := HS.out; rw [show (k : Int) + 1 - 1 = k from by omega] at this; rw [← this, Int.mul_comm])
      have h1 : 0 ≤ facI (k : Int) * ((k : Int) + 1) := by rw [HE.out]; omega
      have h2 : facI (k : Int) * ((k : Int) + 1) ≤ 479001600 := by rw [HE.out]; omega
      go_wp2_with fail
      go_round
      case rel => exact ⟨k + 1, by omega, by omega, by rw [HE.out]; go_num, by go_num⟩
      case measure => simp [intOf]; omega
    · go_wp2_with fail
      go_ret
      refine ⟨ret_int ?_, rfl⟩
      rcases hk2 with hk2 | rfl
      · rw [show (k : Int) = n from by omega]
      · rw [facI_small (n := n) (by simp at hlt; omega)]; rfl

/-- the error of a key for so many events. -/
def keyErrS (count key : Int) : Int := unl (inB key 0 (facI count - 1)) 2

theorem blind_keyErr (c k : Int) (w : World) (h12 : c ≤ 12) :
    Calls Try.prog 112 #[.int .i64 c, .int .i64 k] w fun e w' => e = .returned (.int .i64 (keyErrS c k)) ∧ w = w' := by
  have hl := facI_le h12
  have hp := facI_pos c
  go_enter Try.func112, Try.ntmps112
  go_wp2_with (first | (go_at_call 145; refine (blind_factorial c.toNat _ _ (by omega) h12).mono ?_; rintro _ _ ⟨rfl, rfl⟩) | (go_at_call 77; refine (blind_within _ _ _ _).mono ?_; rintro _ _ ⟨rfl, rfl⟩) | (go_at_call 78; refine (blind_unless _ _ _).mono ?_; rintro _ _ ⟨rfl, rfl⟩))
  go_ret
  exact ⟨rfl, rfl⟩

theorem ref_KeyErr (c k : Int) (w : World) (h12 : c ≤ 12) :
    Calls Try.prog 55 #[.int .i64 c, .int .i64 k] w fun e w' => e = .returned (.int .i64 (keyErrS c k)) ∧ w = w' := by
  have hl := facI_le h12
  have hp := facI_pos c
  cases hb : inB k 0 (facI c - 1) <;> have HB := hid hb <;>
  · go_enter Try.func55, Try.ntmps55
    go_wp2_with (first | (go_at_call 108; refine (ref_Factorial _ _ h12).mono ?_; rintro _ _ ⟨rfl, rfl⟩) | (go_at_call 44; refine (base_Within _ _ _ _).mono ?_; rintro _ _ ⟨rfl, rfl⟩))
    go_ret
    exact ⟨ret_int (by simp [keyErrS, unl, HB.out]), rfl⟩

end Go.Proofs.Ytllddidjiabegaa

/- Contracts of counting: choose, powers, sequences, greatest common divisors, chances. -/
set_option linter.unusedVariables false
set_option linter.unusedSimpArgs false
namespace Go.Proofs.Ytllddidjiabegaa
open Go.RowKit

theorem blind_power (n k : Int) (w : World) (h0 : 0 ≤ n) (h1 : n ≤ 10) (hk0 : 0 ≤ k) (hk : k ≤ 12) :
    Calls Try.prog 143 #[.int .i64 n, .int .i64 k] w fun e w' => e = .returned (.int .i64 (powI n k)) ∧ w = w' := by
  obtain ⟨m, rfl⟩ := Int.eq_ofNat_of_zero_le hk0
  go_enter Try.func143, Try.ntmps143
  go_wp2_with fail
  go_loop [5, 7] (fun o i => ∃ j : Nat, j ≤ m ∧ o = .int .i64 (powI n j) ∧ i = .int .i64 j) (fun _ i => m - (intOf i).toNat)
  case atStart => exact ⟨0, by omega, by simp [powI], rfl⟩
  case round =>
    obtain ⟨j, hj, rfl, rfl⟩ := hrel
    by_cases hlt : j < m
    · have HE : Hid (powI n j * n = powI n ((j + 1 : Nat) : Int)) := hid (by simp [powI, Int.pow_succ])
      have b1 := powI_le (k := ((j + 1 : Nat) : Int)) h0 h1 (by omega)
      have b2 := powI_nonneg ((j + 1 : Nat) : Int) h0
      have h2 : 0 ≤ powI n j * n := by rw [HE.out]; omega
      have h3 : powI n j * n ≤ 1000000000000 := by rw [HE.out]; omega
      clear b1 b2
      go_wp2_with fail
      go_round
      case rel => exact ⟨j + 1, by omega, by rw [HE.out], by go_num⟩
      case measure => simp [intOf]; omega
    · go_wp2_with fail
      go_ret
      exact ⟨ret_int (by rw [show j = m from by omega]), rfl⟩

theorem chI_of {n k : Int} (h : ¬ (0 ≤ k ∧ k ≤ n)) : chI n k = 0 := by simp only [chI, if_neg h]

theorem blind_choose (n k : Int) (w : World) (h0 : n ≤ 30) (hl : -1000 ≤ n) (hk1 : -1000 ≤ k) (hk2 : k ≤ 1000):
    Calls Try.prog 130 #[.int .i64 n, .int .i64 k] w fun e w' => e = .returned (.int .i64 (chI n k)) ∧ w = w' := by
  cases hb : inB k 0 n
  · have HB := hid hb
    have hb' : (!inB k 0 n) = true := by simp [hb]
    go_enter Try.func130, Try.ntmps130
    go_wp2_with (go_at_call 77; refine (blind_within _ _ _ _).mono ?_; rintro _ _ ⟨rfl, rfl⟩)
    go_ret
    exact ⟨ret_int (chI_of (inB_false.1 HB.out)).symm, rfl⟩
  · obtain ⟨h1, h2⟩ := inB_true.1 hb
    have HB := hid hb
    have hb' : (!inB k 0 n) = false := by simp [hb]
    obtain ⟨N, rfl⟩ := Int.eq_ofNat_of_zero_le (show 0 ≤ n by omega)
    obtain ⟨K, rfl⟩ := Int.eq_ofNat_of_zero_le h1
    obtain ⟨M, hM1, hM2, hM3⟩ : ∃ M : Nat, M ≤ K ∧ M + K ≤ N ∧ (M = K ∨ M + K = N) := ⟨min K (N - K), by omega, by omega, by omega⟩
    have HM := hid hM3
    have hch : ∀ j : Nat, j < M → 0 ≤ (ch N j : Int) * ((N : Int) - j) ∧ (ch N j : Int) * ((N : Int) - j) ≤ 32212254720 ∧ (ch N j : Int) * ((N : Int) - j) / ((j : Int) + 1) = (ch N (j + 1) : Int) := by
      intro j hj
      have e1 : ((N : Int) - j) = ((N - j : Nat) : Int) := by omega
      have h1 := ch_le_pow N j
      have h2 : 2 ^ N ≤ 2 ^ 30 := Nat.pow_le_pow_right (by omega) (by omega)
      have h3 : ch N j * (N - j) ≤ 1073741824 * 30 := Nat.mul_le_mul (by omega) (by omega)
      rw [e1]
      refine ⟨by have : (0 : Int) ≤ ((ch N j * (N - j) : Nat) : Int) := Int.natCast_nonneg _
                 rw [Int.natCast_mul] at this; exact this, by have h4 := Int.ofNat_le.2 h3; rw [Int.natCast_mul] at h4; omega, ?_⟩
      have := ch_div (n := N) (k := j) (by omega)
      exact_mod_cast this
    have HC := hid hch
    have hfin : chI N K = (ch N M : Int) := by
      simp only [chI, if_pos (And.intro h1 h2), Int.toNat_natCast]
      rcases hM3 with e | e
      · rw [e]
      · rw [← ch_symm (show K ≤ N by omega), show N - K = M by omega]
    have HF := hid hfin
    clear hch hM3 hfin hb
    by_cases hle : (K : Int) ≤ (N : Int) - K
    all_goals
      go_enter Try.func130, Try.ntmps130
      go_wp2_with (go_at_call 77; refine (blind_within _ _ _ _).mono ?_; rintro _ _ ⟨rfl, rfl⟩)
      go_loop [5, 16] (fun o i => ∃ j : Nat, j ≤ M ∧ o = .int .i64 (ch N j : Nat) ∧ i = .int .i64 j) (fun _ i => M - (intOf i).toNat)
      case atStart => exact ⟨0, by omega, by simp [ch_zero], rfl⟩
      case round =>
        obtain ⟨j, hj, rfl, rfl⟩ := hrel
        by_cases hlt : j < M
        · obtain ⟨b1, b2, b3⟩ := HC.out j hlt
          have H3 := hid b3
          clear b3
          go_wp2_with fail
          go_round
          case rel => exact ⟨j + 1, by omega, by rw [← H3.out], by go_num⟩
          case measure => simp [intOf]; omega
        · have hj2 : ((K : Int) ≤ (N : Int) - K → ¬ (j : Int) < K) ∧ (¬ (K : Int) ≤ (N : Int) - K → ¬ (j : Int) < (N : Int) - K) := by have := HM.out; omega
          first | (have hj3 := hj2.1 (by omega)) | (have hj3 := hj2.2 (by omega))
          clear hj2
          go_wp2_with fail
          go_ret
          exact ⟨ret_int (by rw [HF.out, show j = M from by omega]), rfl⟩

def exI (T H S : Int) : Int := (ex S.toNat (10 - S.toNat) T.toNat H.toNat : Nat)
def waysI (T H S : Int) : Int := (waysN S.toNat T.toNat H.toNat : Nat)

theorem exI_eq {T H S : Int} (h1 : 0 ≤ H) (h2 : H ≤ T) (h5 : 0 ≤ S) (h6 : S ≤ 10) : chI T H * powI S H * powI (10 - S) (T - H) = exI T H S := by
  obtain ⟨h, rfl⟩ := Int.eq_ofNat_of_zero_le h1
  obtain ⟨t, rfl⟩ := Int.eq_ofNat_of_zero_le (show 0 ≤ T by omega)
  obtain ⟨s, rfl⟩ := Int.eq_ofNat_of_zero_le h5
  unfold exI
  simp only [Int.toNat_natCast]
  rw [ex_eq _ _ _ _ (by omega), chI, if_pos (by omega)]
  simp only [Int.toNat_natCast, powI]
  rw [show ((t : Int) - h).toNat = t - h from by omega, show (10 - (s : Int)) = ((10 - s : Nat) : Int) from by omega]
  push_cast
  rfl

theorem blind_exactly (T H S : Int) (w : World) (h1 : 0 ≤ H) (h2 : H ≤ T) (h3 : T ≤ 12) (h5 : 0 ≤ S) (h6 : S ≤ 10) :
    Calls Try.prog 103 #[.int .i64 T, .int .i64 H, .int .i64 S] w fun e w' => e = .returned (.int .i64 (exI T H S)) ∧ w = w' := by
  have c1 : chI T H ≤ 4096 := by
    unfold chI; split
    · have := ch_le_pow T.toNat H.toNat
      have h2 : 2 ^ T.toNat ≤ 2 ^ 12 := Nat.pow_le_pow_right (by omega) (by omega)
      omega
    · omega
  have c0 := chI_nonneg T H
  have p1 := powI_le (n := S) (k := H) h5 h6 (by omega)
  have p0 := powI_nonneg H h5
  have q1 := powI_le (n := 10 - S) (k := T - H) (by omega) (by omega) (by omega)
  have q0 := powI_nonneg (T - H) (show 0 ≤ 10 - S by omega)
  have m0 : 0 ≤ chI T H * powI S H := Int.mul_nonneg c0 p0
  have m1 : chI T H * powI S H ≤ 4096 * 1000000000000 := Int.mul_le_mul c1 p1 p0 (by omega)
  have he := exI_eq h1 h2 h5 h6
  have hb : exI T H S ≤ 1000000000000 := by
    have a1 := ex_le (s := S.toNat) (t := T.toNat) (k := H.toNat) (by omega)
    have a2 := ten_le (t := T.toNat) (by omega)
    unfold exI; omega
  have n0 : 0 ≤ chI T H * powI S H * powI (10 - S) (T - H) := Int.mul_nonneg m0 q0
  have n1 : chI T H * powI S H * powI (10 - S) (T - H) ≤ 1000000000000 := by rw [he]; exact hb
  have HE := hid he
  clear he hb
  go_enter Try.func103, Try.ntmps103
  go_wp2_with (first | (go_at_call 130; refine (blind_choose _ _ _ (by omega) (by omega) (by omega) (by omega)).mono ?_; rintro _ _ ⟨rfl, rfl⟩) | (go_at_call 143; refine (blind_power _ _ _ (by omega) (by omega) (by omega) (by omega)).mono ?_; rintro _ _ ⟨rfl, rfl⟩))
  go_ret
  exact ⟨ret_int HE.out, rfl⟩

theorem blind_ways (T H S : Int) (w : World) (h1 : 0 ≤ H) (h2 : H ≤ T + 1) (h4 : 0 ≤ T) (h3 : T ≤ 12) (h5 : 0 ≤ S) (h6 : S ≤ 10) :
    Calls Try.prog 105 #[.int .i64 T, .int .i64 H, .int .i64 S] w fun e w' => e = .returned (.int .i64 (waysI T H S)) ∧ w = w' := by
  obtain ⟨h, rfl⟩ := Int.eq_ofNat_of_zero_le h1
  obtain ⟨t, rfl⟩ := Int.eq_ofNat_of_zero_le h4
  obtain ⟨s, rfl⟩ := Int.eq_ofNat_of_zero_le h5
  go_enter Try.func105, Try.ntmps105
  go_wp2_with fail
  go_loop [7, 8] (fun o i => ∃ j : Nat, j ≤ t + 1 - h ∧ o = .int .i64 (sumFrom (ex s (10 - s) t) h j : Nat) ∧ i = .int .i64 ((h : Int) + (j : Int))) (fun _ i => ((t : Int) + 1 - intOf i).toNat)
  case atStart => exact ⟨0, by omega, rfl, by simp⟩
  case round =>
    obtain ⟨j, hj, rfl, rfl⟩ := hrel
    by_cases hlt : h + j ≤ t
    · have a1 : sumFrom (ex s (10 - s) t) h (j + 1) ≤ sumFrom (ex s (10 - s) t) h (t + 1 - h) := sumFrom_le (by omega)
      have a2 := waysN_le (s := s) (t := t) (h := h) (by omega)
      have a3 := ten_le (t := t) (by omega)
      have HW : Hid (sumFrom (ex s (10 - s) t) h (j + 1) = sumFrom (ex s (10 - s) t) h j + ex s (10 - s) t (h + j)) := hid rfl
      have a4 : sumFrom (ex s (10 - s) t) h j + ex s (10 - s) t (h + j) ≤ 1000000000000 := by
        unfold waysN at a2; rw [← HW.out]; omega
      have HX : Hid (exI (t : Int) ((h : Int) + (j : Int)) (s : Int) = (ex s (10 - s) t (h + j) : Nat)) := hid (by simp only [exI, Int.toNat_natCast]; rw [show ((h : Int) + (j : Int)).toNat = h + j from by omega])
      have a5 : 0 ≤ exI (t : Int) ((h : Int) + (j : Int)) (s : Int) := by rw [HX.out]; omega
      have a6 : (sumFrom (ex s (10 - s) t) h j : Int) + exI (t : Int) ((h : Int) + (j : Int)) (s : Int) ≤ 1000000000000 := by rw [HX.out]; omega
      clear a1 a2 a3 a4
      go_wp2_with (go_at_call 103; refine (blind_exactly _ _ _ _ (by omega) (by omega) (by omega) (by omega) (by omega)).mono ?_; rintro _ _ ⟨rfl, rfl⟩)
      go_round
      case rel => exact ⟨j + 1, by omega, by rw [HW.out, HX.out]; go_num, by go_num⟩
      case measure => simp [intOf]; omega
    · go_wp2_with fail
      go_ret
      exact ⟨ret_int (by simp only [waysI, Int.toNat_natCast, waysN]; rw [show j = t + 1 - h from by omega]), rfl⟩

theorem base_Size (n : Int) (w : World) (h : -9223372036854775807 ≤ n) (h' : n ≤ 9223372036854775807) :
    Calls Try.prog 131 #[.int .i64 n] w fun e w' => e = .returned (.int .i64 (n.natAbs : Int)) ∧ w = w' := by
  go_enter Try.func131, Try.ntmps131
  go_wp2_with fail
  all_goals
    go_ret
    exact ⟨ret_int (by omega), rfl⟩

theorem blind_divisor (a b : Int) (w : World) (h : -9223372036854775808 ≤ a) (h' : a ≤ 9223372036854775807) (hb : 0 < b) (hb' : b ≤ 9223372036854775807) :
    Calls Try.prog 89 #[.int .i64 a, .int .i64 b] w fun e w' => e = .returned (.int .i64 (Int.gcd a b : Nat)) ∧ ∃ m, w' = w.drewN m := by
  obtain ⟨g, hg⟩ : ∃ g, g = Int.gcd a b := ⟨_, rfl⟩
  have HG := hid hg
  clear hg
  go_enter Try.func89, Try.ntmps89
  go_wp2_with fail
  go_loopw [0, 1] (fun x y wr => ∃ p q : Int, x = .int .i64 p ∧ y = .int .i64 q ∧ Hid (g = Int.gcd p q) ∧ -9223372036854775808 ≤ p ∧ p ≤ 9223372036854775807 ∧ -9223372036854775807 ≤ q ∧ q ≤ 9223372036854775807 ∧ (q = 0 → -9223372036854775807 ≤ p) ∧ ∃ m, wr = w.drewN m) (fun _ y _ => (intOf y).natAbs)
  case atStart => exact ⟨a, b, rfl, rfl, HG, h, h', by omega, hb', by omega, 0, rfl⟩
  case round =>
    obtain ⟨p, q, rfl, rfl, hG, p1, p2, q1, q2, hq, m, rfl⟩ := hrel
    by_cases hz : q = 0
    · subst hz
      go_wp2_with fail
      all_goals
        go_ret
        refine ⟨ret_int ?_, m, rfl⟩
        rw [HG.out.symm, hG.out, Int.gcd_zero_right]
        omega
    · have hz' : (q != 0) = true := by simpa using hz
      have HT := hid (tmod_abs p q hz)
      have HT2 := hid (gcd_tmod p q)
      go_wp2_with fail
      go_quiet (fail)
      go_wp2
      go_roundw
      case rel => exact ⟨q, p.tmod q, rfl, rfl, hid (by rw [HT2.out]; exact hG.out), by omega, by omega, by have := HT.out; omega, by have := HT.out; omega, by omega, m + nq, by simp⟩
      case measure => simp only [intOf]; exact HT.out

end Go.Proofs.Ytllddidjiabegaa

