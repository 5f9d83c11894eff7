/- Plain arithmetic: factorials, binomial numbers, powers. No program in sight. -/
import Derived.Test.YtlmdmpjfehpjeaaRows
import Derived.WalkKit
import Derived.WalkSpells
import Derived.WalkLawsBesides
import Derived.Deep.QuietTactic
import Derived.BigQuiet
import Derived.StillTailTactics
set_option linter.unusedVariables false
set_option linter.unusedSimpArgs false
namespace Go.Proofs.Ytlmdmpjfehpjeaa

def fac : Nat → Nat
  | 0 => 1
  | n + 1 => (n + 1) * fac n
theorem fac_pos (n : Nat) : 0 < fac n := by
  induction n with
  | zero => decide
  | succ n ih => simp only [fac]; exact Nat.mul_pos (by omega) ih
theorem fac_mono {a b : Nat} (h : a ≤ b) : fac a ≤ fac b := by
  induction b with
  | zero => have : a = 0 := by omega
            rw [this]; exact Nat.le_refl _
  | succ b ih =>
    by_cases e : a = b + 1
    · rw [e]; exact Nat.le_refl _
    · have h1 := ih (by omega)
      have h2 : fac b ≤ fac (b + 1) := by simp only [fac]; exact Nat.le_mul_of_pos_left _ (by omega)
      omega
theorem fac_le {n : Nat} (h : n ≤ 12) : fac n ≤ 479001600 := Nat.le_trans (fac_mono h) (by decide)
/-- the number of permutations of n things, 1 for n below 2. -/
def facI (n : Int) : Int := (fac n.toNat : Int)
theorem facI_pos (n : Int) : 1 ≤ facI n := by have := fac_pos n.toNat; simp only [facI]; omega
theorem facI_le {n : Int} (h : n ≤ 12) : facI n ≤ 479001600 := by have := fac_le (n := n.toNat) (by omega); simp only [facI]; omega
theorem facI_small {n : Int} (h : n < 2) : facI n = 1 := by
  by_cases h0 : n ≤ 0
  · have e : n.toNat = 0 := by omega
    simp [facI, e, fac]
  · have e : n.toNat = 1 := by omega
    simp [facI, e, fac]
theorem facI_step {n : Int} (h : 1 ≤ n) : n * facI (n - 1) = facI n := by
  obtain ⟨m, rfl⟩ : ∃ m : Nat, n = m + 1 := ⟨(n - 1).toNat, by omega⟩
  have e1 : ((m : Int) + 1 - 1).toNat = m := by omega
  have e2 : ((m : Int) + 1).toNat = m + 1 := by omega
  simp only [facI, e1, e2, fac]
  push_cast
  rfl

/-- binomial numbers. -/
def ch : Nat → Nat → Nat
  | _, 0 => 1
  | 0, _ + 1 => 0
  | n + 1, k + 1 => ch n k + ch n (k + 1)
theorem ch_zero (n : Nat) : ch n 0 = 1 := by cases n <;> rfl
theorem ch_big {n : Nat} : ∀ {k}, n < k → ch n k = 0 := by
  induction n with
  | zero => intro k h; cases k with | zero => omega | succ k => rfl
  | succ n ih => intro k h; cases k with
    | zero => omega
    | succ k => simp only [ch]; rw [ih (by omega), ih (by omega)]
theorem ch_self (n : Nat) : ch n n = 1 := by
  induction n with
  | zero => rfl
  | succ n ih => simp only [ch]; rw [ih, ch_big (Nat.lt_succ_self n)]
theorem ch_le_pow (n : Nat) : ∀ k, ch n k ≤ 2 ^ n := by
  induction n with
  | zero => intro k; cases k <;> simp [ch]
  | succ n ih => intro k; cases k with
    | zero => rw [ch_zero]; exact Nat.one_le_two_pow
    | succ k => simp only [ch]; have := ih k; have := ih (k + 1); rw [Nat.pow_succ]; omega
/-- (k + 1) C(n, k + 1) = C(n, k) (n - k). -/
theorem ch_step (n : Nat) : ∀ k, (k + 1) * ch n (k + 1) + k * ch n k = n * ch n k := by
  induction n with
  | zero => intro k; cases k <;> simp [ch]
  | succ n ih => intro k; cases k with
    | zero => have := ih 0; simp only [ch, ch_zero] at *; omega
    | succ k =>
      have h1 := ih k; have h2 := ih (k + 1)
      simp only [ch]
      generalize ch n k = a at *
      generalize ch n (k + 1) = b at *
      generalize ch n (k + 1 + 1) = c at *
      have e1 : (k + 1 + 1) * (b + c) = (k + 1) * b + b + (k + 1 + 1) * c := by grind
      have e2 : (n + 1) * (a + b) = n * a + n * b + a + b := by grind
      have e3 : (k + 1) * (a + b) = k * a + a + (k + 1) * b := by grind
      rw [e1, e2, e3]; omega
theorem ch_div {n k : Nat} (h : k ≤ n) : ch n k * (n - k) / (k + 1) = ch n (k + 1) := by
  have h1 := ch_step n k
  have h2 : ch n k * (n - k) = (k + 1) * ch n (k + 1) := by
    rw [Nat.mul_sub, Nat.mul_comm (ch n k) n, Nat.mul_comm (ch n k) k]; omega
  rw [h2, Nat.mul_div_cancel_left _ (by omega)]
theorem ch_symm {n : Nat} : ∀ {k}, k ≤ n → ch n (n - k) = ch n k := by
  induction n with
  | zero => intro k h; have : k = 0 := by omega
            subst this; rfl
  | succ n ih => intro k h; cases k with
    | zero => simp [ch_self, ch_zero]
    | succ k =>
      by_cases e : k = n
      · subst e; simp [ch_self, ch_zero]
      · have e1 : n + 1 - (k + 1) = (n - (k + 1)) + 1 := by omega
        rw [e1]; simp only [ch]
        rw [ih (by omega : k + 1 ≤ n), show n - (k + 1) + 1 = n - k from by omega, ih (by omega : k ≤ n)]; omega
theorem ch_pos {n k : Nat} (h : k ≤ n) : 0 < ch n k := by
  induction n generalizing k with
  | zero => have : k = 0 := by omega
            subst this; decide
  | succ n ih => cases k with
    | zero => rw [ch_zero]; decide
    | succ k => simp only [ch]; have := ih (show k ≤ n by omega); omega

/-- the number of subsets with k members, 0 if there are none. -/
def chI (n k : Int) : Int := if 0 ≤ k ∧ k ≤ n then (ch n.toNat k.toNat : Int) else 0

theorem chI_nonneg (n k : Int) : 0 ≤ chI n k := by unfold chI; split <;> omega
theorem chI_le {n k : Int} (h : n ≤ 30) : chI n k ≤ 1073741824 := by
  unfold chI; split
  · have := ch_le_pow n.toNat k.toNat
    have h2 : 2 ^ n.toNat ≤ 2 ^ 30 := Nat.pow_le_pow_right (by omega) (by omega)
    omega
  · omega

/-- powers. -/
def powI (n k : Int) : Int := n ^ k.toNat
theorem powI_nonneg {n : Int} (k : Int) (h : 0 ≤ n) : 0 ≤ powI n k := Int.pow_nonneg h
theorem pow_le_ten {n : Int} (h0 : 0 ≤ n) (h : n ≤ 10) (k : Nat) : n ^ k ≤ 10 ^ k := by
  induction k with
  | zero => simp
  | succ k ih =>
    rw [Int.pow_succ, Int.pow_succ]
    exact Int.mul_le_mul ih h h0 (Int.pow_nonneg (by omega))
theorem ten_pow_le {k m : Nat} (h : k ≤ m) : (10 : Int) ^ k ≤ 10 ^ m := by
  induction m with
  | zero => have : k = 0 := by omega
            subst this; simp
  | succ m ih =>
    by_cases e : k = m + 1
    · subst e; omega
    · have := ih (by omega)
      have h2 : (0 : Int) ≤ 10 ^ m := Int.pow_nonneg (by omega)
      rw [Int.pow_succ]; omega
theorem powI_le {n k : Int} (h0 : 0 ≤ n) (h : n ≤ 10) (hk : k ≤ 12) : powI n k ≤ 1000000000000 := by
  have h1 := pow_le_ten h0 h k.toNat
  have h2 := ten_pow_le (k := k.toNat) (m := 12) (by omega)
  unfold powI
  have e : (10 : Int) ^ 12 = 1000000000000 := by decide
  omega

/-! sequences of trials -/
/-- the number of sequences of t trials with exactly k hits, trial by trial. -/
def ex (s u : Nat) : Nat → Nat → Nat
  | 0, 0 => 1
  | 0, _ + 1 => 0
  | t + 1, 0 => ex s u t 0 * u
  | t + 1, k + 1 => ex s u t (k + 1) * u + ex s u t k * s
theorem ex_big {s u t : Nat} : ∀ {k}, t < k → ex s u t k = 0 := by
  induction t with
  | zero => intro k h; cases k with | zero => omega | succ k => rfl
  | succ t ih => intro k h; cases k with
    | zero => omega
    | succ k => simp only [ex]; rw [ih (by omega), ih (by omega)]; simp
theorem ex_eq (s u t : Nat) : ∀ k, k ≤ t → ex s u t k = ch t k * s ^ k * u ^ (t - k) := by
  induction t with
  | zero => intro k h; have : k = 0 := by omega
            subst this; simp [ex, ch]
  | succ t ih => intro k h; cases k with
    | zero => simp only [ex]; rw [ih 0 (by omega)]; simp [ch_zero, Nat.pow_succ]
    | succ k =>
      simp only [ex, ch]
      have e : t + 1 - (k + 1) = t - k := by omega
      rw [e, ih k (by omega)]
      by_cases hk : k = t
      · rw [hk, ex_big (Nat.lt_succ_self t), ch_big (Nat.lt_succ_self t), Nat.pow_succ]; simp [Nat.mul_assoc]
      · rw [ih (k + 1) (by omega)]
        have e2 : t - k = (t - (k + 1)) + 1 := by omega
        rw [e2, Nat.pow_succ, Nat.pow_succ]
        grind

/-- f a + f (a + 1) + .. (n terms). -/
def sumFrom (f : Nat → Nat) (a : Nat) : Nat → Nat
  | 0 => 0
  | n + 1 => sumFrom f a n + f (a + n)
theorem sumFrom_front (f : Nat → Nat) (a n : Nat) : sumFrom f a (n + 1) = f a + sumFrom f (a + 1) n := by
  induction n with
  | zero => simp [sumFrom]
  | succ n ih => rw [sumFrom, ih, sumFrom, Nat.add_assoc, show a + (n + 1) = a + 1 + n from by omega]
theorem sumFrom_congr {f g : Nat → Nat} {a n : Nat} (h : ∀ i, i < n → f (a + i) = g (a + i)) : sumFrom f a n = sumFrom g a n := by
  induction n with
  | zero => rfl
  | succ n ih => rw [sumFrom, sumFrom, ih fun i hi => h i (by omega), h n (by omega)]
theorem sumFrom_le {f : Nat → Nat} {a n m : Nat} (h : n ≤ m) : sumFrom f a n ≤ sumFrom f a m := by
  induction m with
  | zero => have : n = 0 := by omega
            subst this; exact Nat.le_refl _
  | succ m ih =>
    by_cases e : n = m + 1
    · subst e; exact Nat.le_refl _
    · have := ih (by omega); rw [sumFrom]; omega
theorem sumFrom_lin (f g : Nat → Nat) (a n x y : Nat) : sumFrom (fun i => f i * x + g i * y) a n = sumFrom f a n * x + sumFrom g a n * y := by
  induction n with
  | zero => simp [sumFrom]
  | succ n ih => simp only [sumFrom]; rw [ih]; grind
theorem sumFrom_shift (f : Nat → Nat) (a n : Nat) : sumFrom (fun i => f (i + 1)) a n = sumFrom f (a + 1) n := by
  induction n with
  | zero => rfl
  | succ n ih => simp only [sumFrom]; rw [ih, show a + n + 1 = a + 1 + n from by omega]
theorem ex_sum (s u t : Nat) : sumFrom (ex s u t) 0 (t + 1) = (s + u) ^ t := by
  induction t with
  | zero => simp [sumFrom, ex]
  | succ t ih =>
    rw [sumFrom_front]
    have e : sumFrom (ex s u (t + 1)) (0 + 1) (t + 1) = sumFrom (ex s u t) (0 + 1) (t + 1) * u + sumFrom (ex s u t) 0 (t + 1) * s := by
      rw [← sumFrom_shift, ← sumFrom_shift, ← sumFrom_lin]
      rfl
    have e2 : sumFrom (ex s u t) 0 (t + 1) = ex s u t 0 + sumFrom (ex s u t) (0 + 1) t := sumFrom_front _ _ _
    have e3 : sumFrom (ex s u t) (0 + 1) (t + 1) = sumFrom (ex s u t) (0 + 1) t := by
      rw [sumFrom, ex_big (by omega : t < 0 + 1 + t)]; rfl
    rw [e, e3, ih, Nat.pow_succ]
    have e4 : ex s u (t + 1) 0 = ex s u t 0 * u := rfl
    rw [e4]
    rw [ih] at e2
    have : ex s u t 0 * u + (sumFrom (ex s u t) (0 + 1) t * u + (s + u) ^ t * s) = (ex s u t 0 + sumFrom (ex s u t) (0 + 1) t) * u + (s + u) ^ t * s := by grind
    rw [this, ← e2]; grind
/-- the number of sequences with at least h hits. -/
def waysN (s t h : Nat) : Nat := sumFrom (ex s (10 - s) t) h (t + 1 - h)
theorem waysN_step {s t h : Nat} (hh : h ≤ t) : waysN s t h = ex s (10 - s) t h + waysN s t (h + 1) := by
  unfold waysN
  rw [show t + 1 - h = (t + 1 - (h + 1)) + 1 from by omega, sumFrom_front]
theorem waysN_big {s t h : Nat} (hh : t < h) : waysN s t h = 0 := by unfold waysN; rw [show t + 1 - h = 0 from by omega]; rfl
theorem waysN_zero {s t : Nat} (hs : s ≤ 10) : waysN s t 0 = 10 ^ t := by
  unfold waysN; rw [show t + 1 - 0 = t + 1 from rfl, ex_sum, show s + (10 - s) = 10 from by omega]
theorem waysN_anti {s t : Nat} {a b : Nat} (h : a ≤ b) : waysN s t b ≤ waysN s t a := by
  induction b with
  | zero => have : a = 0 := by omega
            subst this; exact Nat.le_refl _
  | succ b ih =>
    by_cases e : a = b + 1
    · subst e; exact Nat.le_refl _
    · have h1 := ih (by omega)
      by_cases hb : b ≤ t
      · have := waysN_step (s := s) hb; omega
      · rw [waysN_big (by omega : t < b + 1)]; omega
theorem waysN_le {s t h : Nat} (hs : s ≤ 10) : waysN s t h ≤ 10 ^ t := by
  have := waysN_anti (s := s) (t := t) (Nat.zero_le h); rw [waysN_zero hs] at this; exact this
theorem ex_le {s t k : Nat} (hs : s ≤ 10) : ex s (10 - s) t k ≤ 10 ^ t := by
  by_cases h : k ≤ t
  · have h1 := waysN_step (s := s) h
    have h2 := waysN_le (s := s) (t := t) (h := k) hs
    omega
  · rw [ex_big (by omega)]; exact Nat.zero_le _
theorem ten_le {t : Nat} (h : t ≤ 12) : 10 ^ t ≤ 1000000000000 := Nat.le_trans (Nat.pow_le_pow_right (by decide) h) (by decide)

/-- the least number from a on that does not have a property; the greatest one from b down. -/
def upTo (p : Nat → Bool) : Nat → Nat → Nat
  | 0, a => a
  | f + 1, a => if p a then upTo p f (a + 1) else a
def downTo (p : Nat → Bool) : Nat → Nat
  | 0 => 0
  | b + 1 => if p (b + 1) then downTo p b else b + 1
theorem upTo_eq {p : Nat → Bool} : ∀ (f a c : Nat), a ≤ c → c - a ≤ f → (∀ j, a ≤ j → j < c → p j = true) → p c = false → upTo p f a = c := by
  intro f
  induction f with
  | zero => intro a c h1 h2 _ _; simp only [upTo]; omega
  | succ f ih =>
    intro a c h1 h2 h3 h4
    simp only [upTo]
    by_cases e : a = c
    · subst e; simp [h4]
    · rw [h3 a (Nat.le_refl _) (by omega), if_pos rfl]
      exact ih (a + 1) c (by omega) (by omega) (fun j hj hj2 => h3 j (by omega) hj2) h4
theorem downTo_eq {p : Nat → Bool} : ∀ (b c : Nat), c ≤ b → (∀ j, c < j → j ≤ b → p j = true) → (c = 0 ∨ p c = false) → downTo p b = c := by
  intro b
  induction b with
  | zero => intro c h1 _ _; simp only [downTo]; omega
  | succ b ih =>
    intro c h1 h2 h3
    simp only [downTo]
    by_cases e : c = b + 1
    · subst e; rcases h3 with h3 | h3
      · omega
      · simp [h3]
    · rw [h2 (b + 1) (by omega) (Nat.le_refl _), if_pos rfl]
      exact ih c (by omega) (fun j hj hj2 => h2 j hj (by omega)) h3
def loP (T S r a : Nat) : Bool := decide (2000 * (10 ^ T - waysN S T (a + 1)) ≤ r * 10 ^ T)
def hiP (T S r b : Nat) : Bool := decide (2000 * waysN S T b ≤ r * 10 ^ T)
/-- the band of a share. -/
def bandLo (T S r : Nat) : Nat := upTo (loP T S r) (T + 1) 0
def bandHi (T S r : Nat) : Nat := downTo (hiP T S r) T
theorem loP_end {T S r : Nat} (hr : r < 2000) : loP T S r T = false := by
  simp only [loP, decide_eq_false_iff_not, Nat.not_le]
  rw [waysN_big (Nat.lt_succ_self T)]
  have : 0 < 10 ^ T := Nat.pow_pos (by decide)
  exact Nat.mul_lt_mul_of_pos_right hr this
theorem hiP_end {T S r : Nat} (hS : S ≤ 10) (hr : r < 2000) : hiP T S r 0 = false := by
  simp only [hiP, decide_eq_false_iff_not, Nat.not_le]
  rw [waysN_zero hS]
  have : 0 < 10 ^ T := Nat.pow_pos (by decide)
  exact Nat.mul_lt_mul_of_pos_right hr this

/-! greatest common divisors, as Go reckons them -/
theorem gcd_tmod (a b : Int) : Int.gcd b (a.tmod b) = Int.gcd a b := by
  simp only [Int.gcd, Int.natAbs_tmod]
  rw [Nat.gcd_comm b.natAbs, ← Nat.gcd_rec, Nat.gcd_comm]
theorem tmod_abs (a b : Int) (h : b ≠ 0) : (a.tmod b).natAbs < b.natAbs := by
  rw [Int.natAbs_tmod]; exact Nat.mod_lt _ (by omega)

/-- f lo + f (lo + 1) + .. (n terms). -/
def sumI (f : Int → Int) (lo : Int) : Nat → Int
  | 0 => 0
  | n + 1 => sumI f lo n + f (lo + n)
theorem sumI_bound {f : Int → Int} {B : Int} (lo : Int) (n : Nat) (h : ∀ i, 0 ≤ f i ∧ f i ≤ B) : 0 ≤ sumI f lo n ∧ sumI f lo n ≤ n * B := by
  induction n with
  | zero => simp [sumI]
  | succ n ih =>
    have := h (lo + n)
    simp only [sumI]
    rw [Int.natCast_succ, Int.add_mul]; omega
theorem sumI_more {f : Int → Int} {lo : Int} {n m : Nat} (h : n ≤ m) (hz : ∀ i : Nat, n ≤ i → i < m → f (lo + i) = 0) : sumI f lo m = sumI f lo n := by
  induction m with
  | zero => have : n = 0 := by omega
            subst this; rfl
  | succ m ih =>
    by_cases e : n = m + 1
    · subst e; rfl
    · rw [sumI, ih (by omega) (fun i h1 h2 => hz i h1 (by omega)), hz m (by omega) (by omega), Int.add_zero]

/-- the ways to have j of those inside among the selected ones. -/
def chTerm (all sel ins j : Int) : Int := chI ins j * chI (all - ins) (sel - j)
theorem chTerm_bound {all sel ins : Int} (h1 : all ≤ 30) (h2 : ins ≤ all) (h3 : 0 ≤ ins) (j : Int) : 0 ≤ chTerm all sel ins j ∧ chTerm all sel ins j ≤ 1073741824 := by
  have a0 := chI_nonneg ins j
  have b0 := chI_nonneg (all - ins) (sel - j)
  refine ⟨Int.mul_nonneg a0 b0, ?_⟩
  have e1 : chI ins j ≤ ((2 ^ ins.toNat : Nat) : Int) := by
    unfold chI; split
    · exact_mod_cast ch_le_pow _ _
    · exact Int.natCast_nonneg _
  have e2 : chI (all - ins) (sel - j) ≤ ((2 ^ (all - ins).toNat : Nat) : Int) := by
    unfold chI; split
    · exact_mod_cast ch_le_pow _ _
    · exact Int.natCast_nonneg _
  have e3 : ((2 ^ ins.toNat : Nat) : Int) * ((2 ^ (all - ins).toNat : Nat) : Int) = ((2 ^ all.toNat : Nat) : Int) := by
    rw [← Int.natCast_mul, ← Nat.pow_add, show ins.toNat + (all - ins).toNat = all.toNat from by omega]
  have e4 : 2 ^ all.toNat ≤ 2 ^ 30 := Nat.pow_le_pow_right (by omega) (by omega)
  have e5 := Int.mul_le_mul e1 e2 b0 (by omega)
  unfold chTerm
  omega
/-- the ways to have at least cnt of those inside. -/
def chWays (all sel ins cnt : Int) : Int := sumI (chTerm all sel ins) cnt (sel + 1 - cnt).toNat
theorem chWays_more {all sel ins cnt : Int} (h : sel ≤ all) : sumI (chTerm all sel ins) cnt (all + 1 - cnt).toNat = chWays all sel ins cnt := by
  unfold chWays
  refine sumI_more (by omega) fun i h1 h2 => ?_
  unfold chTerm
  have : chI (all - ins) (sel - (cnt + i)) = 0 := by simp only [chI]; rw [if_neg (by omega)]
  rw [this, Int.mul_zero]
theorem chWays_bound {all sel ins cnt : Int} (h1 : all ≤ 30) (h2 : ins ≤ all) (h3 : 0 ≤ ins) (h4 : sel ≤ all) (h5 : 0 ≤ cnt) : 0 ≤ chWays all sel ins cnt ∧ chWays all sel ins cnt ≤ 33285996544 := by
  have := sumI_bound (f := chTerm all sel ins) cnt (sel + 1 - cnt).toNat (chTerm_bound h1 h2 h3)
  unfold chWays; omega

/-- a fraction in lowest terms: the parts of n / d. -/
def lowNum (n d : Int) : Int := n / (Int.gcd n d : Int)
def lowDen (n d : Int) : Int := d / (Int.gcd n d : Int)

end Go.Proofs.Ytlmdmpjfehpjeaa

/- Small notions that all contracts of this seat use: a range test, the first error of a list, worlds that only grow, slices that read as lists. No program in sight. -/
set_option linter.unusedVariables false
set_option linter.unusedSimpArgs false
namespace Go.Proofs.Ytlmdmpjfehpjeaa
open Go.RowKit

theorem hid {p : Prop} (h : p) : Hid p := h

/-- n lies from lo to hi. -/
def inB (n lo hi : Int) : Bool := decide (lo ≤ n) && decide (n ≤ hi)
theorem inB_true {n lo hi : Int} : inB n lo hi = true ↔ lo ≤ n ∧ n ≤ hi := by simp [inB]
theorem inB_false {n lo hi : Int} : inB n lo hi = false ↔ ¬ (lo ≤ n ∧ n ≤ hi) := by rw [← inB_true]; simp

/-- 0 if a condition holds, else an error. -/
def unl (b : Bool) (n : Int) : Int := if b = true then 0 else n

/-- the first number of a list that is not 0, or 0. -/
def firstNZ : List Int → Int
  | [] => 0
  | x :: l => if x = 0 then firstNZ l else x

theorem firstNZ_zero {l : List Int} : firstNZ l = 0 ↔ ∀ x ∈ l, x = 0 := by
  induction l with
  | nil => simp [firstNZ]
  | cons a l ih =>
    simp only [firstNZ]
    split
    · rename_i h; simp [ih, h]
    · rename_i h; simp [h]

theorem firstNZ_append_zero {l m : List Int} (h : ∀ x ∈ l, x = 0) : firstNZ (l ++ m) = firstNZ m := by
  induction l with
  | nil => rfl
  | cons a l ih =>
    have ha : a = 0 := h a (by simp)
    simp only [List.cons_append, firstNZ, ha, if_true]
    exact ih fun x hx => h x (by simp [hx])

/-- What a call that leaves old memory alone gives of old cells. -/
theorem bcell {W w1 : World} (hb : Below W.heap.size W w1) : (∀ b o, b < W.heap.size → w1.cell? ⟨b, o, none⟩ = W.cell? ⟨b, o, none⟩) ∧ (∀ b o, b < W.heap.size → w1.frozen? ⟨b, o, none⟩ = W.frozen? ⟨b, o, none⟩) :=
  ⟨fun b o h => hb.cell (p := ⟨b, o, none⟩) h, fun b o h => hb.frozen (p := ⟨b, o, none⟩) h⟩

theorem Below.drewN {B : Nat} {a w : World} (n : Nat) (h : Below B a w) : Below B a (w.drewN n) := ⟨h.os, h.tape, h.output, h.size, h.block⟩

theorem Below_call {w a w1 : World} (h : Below w.heap.size w a) (hb : Below a.heap.size a w1) : Below w.heap.size w w1 := h.trans (hb.mono h.size)

theorem Below_alloc {w w' : World} (h : Below w.heap.size w w') (o : Obj) : Below w.heap.size w (w'.alloc o) := h.alloc h.size o

/-- contracts inside a quiet walk: of a callee that leaves the world alone, and of one that draws. -/
theorem quiet_same {P : Program} {f : FuncId} {args : Array Value} {W : World} {v : Value} {C : World → Prop}
    (h : Calls P f args W fun e w' => e = .returned v ∧ W = w') (hC : C W) : Calls P f args W fun e w'' => e = .returned v ∧ C w'' :=
  h.mono fun _ _ ⟨he, hm⟩ => ⟨he, hm ▸ hC⟩
theorem quiet_draw {P : Program} {f : FuncId} {args : Array Value} {W : World} {v : Value} {C : World → Prop}
    (h : Calls P f args W fun e w' => e = .returned v ∧ ∃ k, w' = W.drewN k) (hC : ∀ k, C (W.drewN k)) : Calls P f args W fun e w'' => e = .returned v ∧ C w'' :=
  h.mono fun _ _ ⟨he, k, hk⟩ => ⟨he, hk ▸ hC k⟩
theorem quiet_eq {P : Program} {f : FuncId} {args : Array Value} {w : World} {v u : Value} {R : World → Prop}
    (h : Calls P f args w fun e w'' => e = .returned v ∧ R w'') (hu : v = u) : Calls P f args w fun e w'' => e = .returned u ∧ R w'' := by rw [← hu]; exact h

/-- A slice value v reads in w as n elements of sz cells: cell j of element i holds c i j. -/
def SlAt (w : World) (v : Value) (n sz : Nat) (c : Nat → Nat → Value) : Prop :=
  ∃ ao cap, v = .slice ao n cap ∧ n ≤ cap ∧ cap ≤ maxLen ∧
    (0 < n → ∃ b off, ao = some ⟨b, off, none⟩ ∧ b < w.heap.size ∧ ∀ i j, i < n → j < sz → w.cell? ⟨b, off + i * sz + j, none⟩ = some (c i j)) ∧ (ao = none → cap = 0)

theorem SlAt.below {w w' : World} {v : Value} {n sz : Nat} {c : Nat → Nat → Value} (h : SlAt w v n sz c) (hb : Below w.heap.size w w') : SlAt w' v n sz c := by
  obtain ⟨ao, cap, rfl, h1, h2, h3, h4⟩ := h
  refine ⟨ao, cap, rfl, h1, h2, fun h0 => ?_, h4⟩
  obtain ⟨b, off, e, hlt, hc⟩ := h3 h0
  exact ⟨b, off, e, Nat.lt_of_lt_of_le hlt hb.size, fun i j hi hj => (hb.cell (p := ⟨b, _, none⟩) hlt).trans (hc i j hi hj)⟩

/-- A slice of ints. -/
def IntsAt (w : World) (v : Value) (l : List Int) : Prop := SlAt w v l.length 1 (fun i _ => .int .i64 (l.getD i 0))

theorem IntsAt.below {w w' : World} {v : Value} {l : List Int} (h : IntsAt w v l) (hb : Below w.heap.size w w') : IntsAt w' v l := SlAt.below h hb

/-- .. opened: the value's shape, and each cell under its condition. -/
theorem IntsAt.open {w : World} {v : Value} {l : List Int} (h : IntsAt w v l) : ∃ ao cap, v = .slice ao l.length cap ∧ l.length ≤ cap ∧ cap ≤ maxLen ∧
    ∀ k, k < l.length → ∃ b off, ao = some ⟨b, off, none⟩ ∧ b < w.heap.size ∧ ∀ i, i < l.length → w.cell? ⟨b, off + i, none⟩ = some (.int .i64 (l.getD i 0)) := by
  obtain ⟨ao, cap, rfl, h1, h2, h3, _⟩ := h
  refine ⟨ao, cap, rfl, h1, h2, fun k hk => ?_⟩
  obtain ⟨b, off, e, hlt, hc⟩ := h3 (by omega)
  exact ⟨b, off, e, hlt, fun i hi => by simpa using hc i 0 hi (by omega)⟩

/-- a number of a list, 0 behind its end: simp does not look into it. -/
def nth (l : List Int) (i : Nat) : Int := l.getD i 0
theorem nth_lt {l : List Int} {i : Nat} (h : i < l.length) : nth l i = l[i] := by simp [nth, List.getD, h]
theorem take_nth {l : List Int} {k : Nat} (h : k < l.length) : l.take (k + 1) = l.take k ++ [nth l k] := by
  rw [List.take_succ_eq_append_getElem h, nth_lt h]
theorem cut_nth {l : List Int} {k : Nat} (h : k < l.length) : l = l.take k ++ nth l k :: l.drop (k + 1) := by
  rw [nth_lt h, List.getElem_cons_drop, List.take_append_drop]
theorem IntsAt.opn {w : World} {v : Value} {l : List Int} (h : IntsAt w v l) : ∃ ao cap, v = .slice ao l.length cap ∧ l.length ≤ cap ∧ cap ≤ maxLen ∧
    ∀ k, k < l.length → ∃ b off, ao = some ⟨b, off, none⟩ ∧ b < w.heap.size ∧ ∀ i, i < l.length → w.cell? ⟨b, off + i, none⟩ = some (.int .i64 (nth l i)) := h.open

theorem IntsAt.nil (w : World) : IntsAt w (.slice none 0 0) [] := ⟨none, 0, rfl, by simp, by simp, fun h => by simp at h, fun _ => rfl⟩

/-- What the call's own row holds reads as a list of ints. -/
theorem ownsRow_ints {w : World} {base : Nat} {e : TypeId} {v : Value} {l : List Int} (h : w.ownsRow base e 1 v l.length (l.map (Value.int .i64))) : IntsAt w v l := by
  obtain ⟨h1, h2⟩ := h
  rcases h2 with ⟨rfl, h0⟩ | ⟨g, cap, cur, rfl, hb, hg, hn, hm, hs, ht⟩
  · obtain rfl : l = [] := List.eq_nil_of_length_eq_zero h0
    exact IntsAt.nil w
  · refine ⟨some ⟨g, 0, none⟩, cap, rfl, hn, hm, fun h0 => ⟨g, 0, rfl, (Array.getElem?_eq_some_iff.1 hg).1, fun i j hi hj => ?_⟩, fun h => by cases h⟩
    obtain rfl : j = 0 := by omega
    rw [cell_of_row w g _ cur e (0, 0) hg]
    have hl : i < (cur.toList.take (l.length * 1)).length := by rw [ht]; simpa using hi
    have e1 : (cur.toList.take (l.length * 1))[i]? = some (.int .i64 (l.getD i 0)) := by rw [ht]; simp [hi]
    rw [List.getElem?_take] at e1
    split at e1
    · simpa using e1
    · cases e1

theorem ownsRow_below {w w' : World} {base : Nat} {e : TypeId} {size : Nat} {v : Value} {n : Nat} {xs : List Value} (h : w.ownsRow base e size v n xs) (hb : Below w.heap.size w w') : w'.ownsRow base e size v n xs := by
  refine ⟨h.1, ?_⟩
  rcases h.2 with h2 | ⟨g, cap, cur, hv, hg, hh, r⟩
  · exact Or.inl h2
  · exact Or.inr ⟨g, cap, cur, hv, hg, by rw [hb.block g (Array.getElem?_eq_some_iff.1 hh).1]; exact hh, r⟩

theorem ownsRow_base {w : World} {base base' : Nat} {e : TypeId} {size : Nat} {v : Value} {n : Nat} {xs : List Value} (h : w.ownsRow base e size v n xs) (hb : base' ≤ base) : w.ownsRow base' e size v n xs := by
  refine ⟨h.1, ?_⟩
  rcases h.2 with h2 | ⟨g, cap, cur, hv, hg, r⟩
  · exact Or.inl h2
  · exact Or.inr ⟨g, cap, cur, hv, Nat.le_trans hb hg, r⟩

/-- A row of one's own that holds ints, opened. -/
theorem ownsRow_open {w : World} {base : Nat} {e : TypeId} {v : Value} {l : List Int} {n : Nat} (h : w.ownsRow base e 1 v n (l.map (Value.int .i64))) (h0 : 0 < n) :
    ∃ g cap, v = .slice (some ⟨g, 0, none⟩) n cap ∧ base ≤ g ∧ g < w.heap.size ∧ n ≤ cap ∧ cap ≤ maxLen ∧ l.length = n ∧ (∀ i, i < n → w.cell? ⟨g, i, none⟩ = some (.int .i64 (l.getD i 0))) ∧ (∀ i, w.frozen? ⟨g, i, none⟩ = false) := by
  have hlen : l.length = n := by have := h.1; simpa using this
  obtain ⟨h1, h2⟩ := h
  rcases h2 with ⟨_, h3⟩ | ⟨g, cap, cur, rfl, hb, hg, hn, hm, hs, ht⟩
  · omega
  · refine ⟨g, cap, rfl, hb, (Array.getElem?_eq_some_iff.1 hg).1, hn, hm, hlen, fun i hi => ?_, fun i => frozen_of_row w g i cur e hg⟩
    rw [cell_of_row w g _ cur e (0, 0) hg]
    have e1 : (cur.toList.take (n * 1))[i]? = some (.int .i64 (l.getD i 0)) := by rw [ht]; simp [hlen, hi]
    rw [List.getElem?_take] at e1
    split at e1
    · simpa using e1
    · cases e1

/-- a slice literal of ints, laid in a new block. -/
theorem intsAt_new (w : World) (e : TypeId) (l : List Int) (n N : Nat) (hn : n = l.length) (hm : n ≤ 1000) (hN : w.heap.size = N) : IntsAt (w.alloc (.cells (l.map (Value.int .i64)).toArray e)) (.slice (some ⟨N, 0, none⟩) n n) l := by
  subst hn; subst hN
  refine ⟨_, _, rfl, Nat.le_refl _, by unfold maxLen; omega, fun _ => ⟨_, 0, rfl, by simp, fun i j hi hj => ?_⟩, fun h => by cases h⟩
  obtain rfl : j = 0 := by omega
  rw [cell_of_row (w.alloc _) w.heap.size _ _ e (0, 0) (heap_alloc_new w _)]
  simp [hi, List.getD]

theorem getD_lt {α : Type} {l : List α} {k : Nat} (d : α) (h : k < l.length) : l.getD k d = l[k] := by simp [List.getD, h]
theorem take_getD {α : Type} {l : List α} {k : Nat} (d : α) (h : k < l.length) : l.take (k + 1) = l.take k ++ [l.getD k d] := by
  rw [List.take_succ_eq_append_getElem h, getD_lt d h]
theorem cut_getD {α : Type} {l : List α} {k : Nat} (d : α) (h : k < l.length) : l = l.take k ++ l.getD k d :: l.drop (k + 1) := by
  rw [getD_lt d h, List.getElem_cons_drop, List.take_append_drop]

theorem ret_int {k : IntKind} {a b : Int} (h : a = b) : Ending.returned (.int k a) = .returned (.int k b) := by rw [h]
theorem ret_bool {a b : Bool} (h : a = b) : Ending.returned (.bool a) = .returned (.bool b) := by rw [h]

end Go.Proofs.Ytlmdmpjfehpjeaa

