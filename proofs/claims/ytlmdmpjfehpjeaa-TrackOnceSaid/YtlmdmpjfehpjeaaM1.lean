/- Plain arithmetic: factorials, binomial numbers, powers. No program in sight. -/
import Derived.Test.YtlmdmpjfehpjeaaRows
import Derived.WalkKit
import Derived.WalkSpells
import Derived.WalkLawsBesides
import Derived.Deep.QuietTactic
import Derived.BigQuiet
import Derived.StillTailTactics
import Derived.StillTail
import Derived.Deep.AppendLies
import Derived.Laws.AppendOwnNone
set_option linter.unusedVariables false
set_option linter.unusedSimpArgs false
namespace Go.Proofs.Ytlmdmpjfehpjeaa

def fac : Nat → Nat
  | 0 => 1
  | n + 1 => (n + 1) * fac n
theorem fac_pos (n : Nat) : 0 < fac n := by
  induction n with
  | zero => decide
  | succ n ih => simp only [fac]; exact Nat.mul_pos (by omega) ih
theorem fac_mono {a b : Nat} (h : a ≤ b) : fac a ≤ fac b := by
  induction b with
  | zero => have : a = 0 := by omega
            rw [this]; exact Nat.le_refl _
  | succ b ih =>
    by_cases e : a = b + 1
    · rw [e]; exact Nat.le_refl _
    · have h1 := ih (by omega)
      have h2 : fac b ≤ fac (b + 1) := by simp only [fac]; exact Nat.le_mul_of_pos_left _ (by omega)
      omega
theorem fac_le {n : Nat} (h : n ≤ 12) : fac n ≤ 479001600 := Nat.le_trans (fac_mono h) (by decide)
/-- the number of permutations of n things, 1 for n below 2. -/
def facI (n : Int) : Int := (fac n.toNat : Int)
theorem facI_pos (n : Int) : 1 ≤ facI n := by have := fac_pos n.toNat; simp only [facI]; omega
theorem facI_le {n : Int} (h : n ≤ 12) : facI n ≤ 479001600 := by have := fac_le (n := n.toNat) (by omega); simp only [facI]; omega
theorem facI_small {n : Int} (h : n < 2) : facI n = 1 := by
  by_cases h0 : n ≤ 0
  · have e : n.toNat = 0 := by omega
    simp [facI, e, fac]
  · have e : n.toNat = 1 := by omega
    simp [facI, e, fac]
theorem facI_step {n : Int} (h : 1 ≤ n) : n * facI (n - 1) = facI n := by
  obtain ⟨m, rfl⟩ : ∃ m : Nat, n = m + 1 := ⟨(n - 1).toNat, by omega⟩
  have e1 : ((m : Int) + 1 - 1).toNat = m := by omega
  have e2 : ((m : Int) + 1).toNat = m + 1 := by omega
  simp only [facI, e1, e2, fac]
  push_cast
  rfl

/-- binomial numbers. -/
def ch : Nat → Nat → Nat
  | _, 0 => 1
  | 0, _ + 1 => 0
  | n + 1, k + 1 => ch n k + ch n (k + 1)
theorem ch_zero (n : Nat) : ch n 0 = 1 := by cases n <;> rfl
theorem ch_big {n : Nat} : ∀ {k}, n < k → ch n k = 0 := by
  induction n with
  | zero => intro k h; cases k with | zero => omega | succ k => rfl
  | succ n ih => intro k h; cases k with
    | zero => omega
    | succ k => simp only [ch]; rw [ih (by omega), ih (by omega)]
theorem ch_self (n : Nat) : ch n n = 1 := by
  induction n with
  | zero => rfl
  | succ n ih => simp only [ch]; rw [ih, ch_big (Nat.lt_succ_self n)]
theorem ch_le_pow (n : Nat) : ∀ k, ch n k ≤ 2 ^ n := by
  induction n with
  | zero => intro k; cases k <;> simp [ch]
  | succ n ih => intro k; cases k with
    | zero => rw [ch_zero]; exact Nat.one_le_two_pow
    | succ k => simp only [ch]; have := ih k; have := ih (k + 1); rw [Nat.pow_succ]; omega
/-- (k + 1) C(n, k + 1) = C(n, k) (n - k). -/
theorem ch_step (n : Nat) : ∀ k, (k + 1) * ch n (k + 1) + k * ch n k = n * ch n k := by
  induction n with
  | zero => intro k; cases k <;> simp [ch]
  | succ n ih => intro k; cases k with
    | zero => have := ih 0; simp only [ch, ch_zero] at *; omega
    | succ k =>
      have h1 := ih k; have h2 := ih (k + 1)
      simp only [ch]
      generalize ch n k = a at *
      generalize ch n (k + 1) = b at *
      generalize ch n (k + 1 + 1) = c at *
      have e1 : (k + 1 + 1) * (b + c) = (k + 1) * b + b + (k + 1 + 1) * c := by grind
      have e2 : (n + 1) * (a + b) = n * a + n * b + a + b := by grind
      have e3 : (k + 1) * (a + b) = k * a + a + (k + 1) * b := by grind
      rw [e1, e2, e3]; omega
theorem ch_div {n k : Nat} (h : k ≤ n) : ch n k * (n - k) / (k + 1) = ch n (k + 1) := by
  have h1 := ch_step n k
  have h2 : ch n k * (n - k) = (k + 1) * ch n (k + 1) := by
    rw [Nat.mul_sub, Nat.mul_comm (ch n k) n, Nat.mul_comm (ch n k) k]; omega
  rw [h2, Nat.mul_div_cancel_left _ (by omega)]
theorem ch_symm {n : Nat} : ∀ {k}, k ≤ n → ch n (n - k) = ch n k := by
  induction n with
  | zero => intro k h; have : k = 0 := by omega
            subst this; rfl
  | succ n ih => intro k h; cases k with
    | zero => simp [ch_self, ch_zero]
    | succ k =>
      by_cases e : k = n
      · subst e; simp [ch_self, ch_zero]
      · have e1 : n + 1 - (k + 1) = (n - (k + 1)) + 1 := by omega
        rw [e1]; simp only [ch]
        rw [ih (by omega : k + 1 ≤ n), show n - (k + 1) + 1 = n - k from by omega, ih (by omega : k ≤ n)]; omega
theorem ch_pos {n k : Nat} (h : k ≤ n) : 0 < ch n k := by
  induction n generalizing k with
  | zero => have : k = 0 := by omega
            subst this; decide
  | succ n ih => cases k with
    | zero => rw [ch_zero]; decide
    | succ k => simp only [ch]; have := ih (show k ≤ n by omega); omega

/-- the number of subsets with k members, 0 if there are none. -/
def chI (n k : Int) : Int := if 0 ≤ k ∧ k ≤ n then (ch n.toNat k.toNat : Int) else 0

theorem chI_nonneg (n k : Int) : 0 ≤ chI n k := by unfold chI; split <;> omega
theorem chI_le {n k : Int} (h : n ≤ 30) : chI n k ≤ 1073741824 := by
  unfold chI; split
  · have := ch_le_pow n.toNat k.toNat
    have h2 : 2 ^ n.toNat ≤ 2 ^ 30 := Nat.pow_le_pow_right (by omega) (by omega)
    omega
  · omega

/-- powers. -/
def powI (n k : Int) : Int := n ^ k.toNat
theorem powI_nonneg {n : Int} (k : Int) (h : 0 ≤ n) : 0 ≤ powI n k := Int.pow_nonneg h
theorem pow_le_ten {n : Int} (h0 : 0 ≤ n) (h : n ≤ 10) (k : Nat) : n ^ k ≤ 10 ^ k := by
  induction k with
  | zero => simp
  | succ k ih =>
    rw [Int.pow_succ, Int.pow_succ]
    exact Int.mul_le_mul ih h h0 (Int.pow_nonneg (by omega))
theorem ten_pow_le {k m : Nat} (h : k ≤ m) : (10 : Int) ^ k ≤ 10 ^ m := by
  induction m with
  | zero => have : k = 0 := by omega
            subst this; simp
  | succ m ih =>
    by_cases e : k = m + 1
    · subst e; omega
    · have := ih (by omega)
      have h2 : (0 : Int) ≤ 10 ^ m := Int.pow_nonneg (by omega)
      rw [Int.pow_succ]; omega
theorem powI_le {n k : Int} (h0 : 0 ≤ n) (h : n ≤ 10) (hk : k ≤ 12) : powI n k ≤ 1000000000000 := by
  have h1 := pow_le_ten h0 h k.toNat
  have h2 := ten_pow_le (k := k.toNat) (m := 12) (by omega)
  unfold powI
  have e : (10 : Int) ^ 12 = 1000000000000 := by decide
  omega

/-! sequences of trials -/
/-- the number of sequences of t trials with exactly k hits, trial by trial. -/
def ex (s u : Nat) : Nat → Nat → Nat
  | 0, 0 => 1
  | 0, _ + 1 => 0
  | t + 1, 0 => ex s u t 0 * u
  | t + 1, k + 1 => ex s u t (k + 1) * u + ex s u t k * s
theorem ex_big {s u t : Nat} : ∀ {k}, t < k → ex s u t k = 0 := by
  induction t with
  | zero => intro k h; cases k with | zero => omega | succ k => rfl
  | succ t ih => intro k h; cases k with
    | zero => omega
    | succ k => simp only [ex]; rw [ih (by omega), ih (by omega)]; simp
theorem ex_eq (s u t : Nat) : ∀ k, k ≤ t → ex s u t k = ch t k * s ^ k * u ^ (t - k) := by
  induction t with
  | zero => intro k h; have : k = 0 := by omega
            subst this; simp [ex, ch]
  | succ t ih => intro k h; cases k with
    | zero => simp only [ex]; rw [ih 0 (by omega)]; simp [ch_zero, Nat.pow_succ]
    | succ k =>
      simp only [ex, ch]
      have e : t + 1 - (k + 1) = t - k := by omega
      rw [e, ih k (by omega)]
      by_cases hk : k = t
      · rw [hk, ex_big (Nat.lt_succ_self t), ch_big (Nat.lt_succ_self t), Nat.pow_succ]; simp [Nat.mul_assoc]
      · rw [ih (k + 1) (by omega)]
        have e2 : t - k = (t - (k + 1)) + 1 := by omega
        rw [e2, Nat.pow_succ, Nat.pow_succ]
        grind

/-- f a + f (a + 1) + .. (n terms). -/
def sumFrom (f : Nat → Nat) (a : Nat) : Nat → Nat
  | 0 => 0
  | n + 1 => sumFrom f a n + f (a + n)
theorem sumFrom_front (f : Nat → Nat) (a n : Nat) : sumFrom f a (n + 1) = f a + sumFrom f (a + 1) n := by
  induction n with
  | zero => simp [sumFrom]
  | succ n ih => rw [sumFrom, ih, sumFrom, Nat.add_assoc, show a + (n + 1) = a + 1 + n from by omega]
theorem sumFrom_congr {f g : Nat → Nat} {a n : Nat} (h : ∀ i, i < n → f (a + i) = g (a + i)) : sumFrom f a n = sumFrom g a n := by
  induction n with
  | zero => rfl
  | succ n ih => rw [sumFrom, sumFrom, ih fun i hi => h i (by omega), h n (by omega)]
theorem sumFrom_le {f : Nat → Nat} {a n m : Nat} (h : n ≤ m) : sumFrom f a n ≤ sumFrom f a m := by
  induction m with
  | zero => have : n = 0 := by omega
            subst this; exact Nat.le_refl _
  | succ m ih =>
    by_cases e : n = m + 1
    · subst e; exact Nat.le_refl _
    · have := ih (by omega); rw [sumFrom]; omega
theorem sumFrom_lin (f g : Nat → Nat) (a n x y : Nat) : sumFrom (fun i => f i * x + g i * y) a n = sumFrom f a n * x + sumFrom g a n * y := by
  induction n with
  | zero => simp [sumFrom]
  | succ n ih => simp only [sumFrom]; rw [ih]; grind
theorem sumFrom_shift (f : Nat → Nat) (a n : Nat) : sumFrom (fun i => f (i + 1)) a n = sumFrom f (a + 1) n := by
  induction n with
  | zero => rfl
  | succ n ih => simp only [sumFrom]; rw [ih, show a + n + 1 = a + 1 + n from by omega]
theorem ex_sum (s u t : Nat) : sumFrom (ex s u t) 0 (t + 1) = (s + u) ^ t := by
  induction t with
  | zero => simp [sumFrom, ex]
  | succ t ih =>
    rw [sumFrom_front]
    have e : sumFrom (ex s u (t + 1)) (0 + 1) (t + 1) = sumFrom (ex s u t) (0 + 1) (t + 1) * u + sumFrom (ex s u t) 0 (t + 1) * s := by
      rw [← sumFrom_shift, ← sumFrom_shift, ← sumFrom_lin]
      rfl
    have e2 : sumFrom (ex s u t) 0 (t + 1) = ex s u t 0 + sumFrom (ex s u t) (0 + 1) t := sumFrom_front _ _ _
    have e3 : sumFrom (ex s u t) (0 + 1) (t + 1) = sumFrom (ex s u t) (0 + 1) t := by
      rw [sumFrom, ex_big (by omega : t < 0 + 1 + t)]; rfl
    rw [e, e3, ih, Nat.pow_succ]
    have e4 : ex s u (t + 1) 0 = ex s u t 0 * u := rfl
    rw [e4]
    rw [ih] at e2
    have : ex s u t 0 * u + (sumFrom (ex s u t) (0 + 1) t * u + (s + u) ^ t * s) = (ex s u t 0 + sumFrom (ex s u t) (0 + 1) t) * u + (s + u) ^ t * s := by grind
    rw [this, ← e2]; grind
/-- the number of sequences with at least h hits. -/
def waysN (s t h : Nat) : Nat := sumFrom (ex s (10 - s) t) h (t + 1 - h)
theorem waysN_step {s t h : Nat} (hh : h ≤ t) : waysN s t h = ex s (10 - s) t h + waysN s t (h + 1) := by
  unfold waysN
  rw [show t + 1 - h = (t + 1 - (h + 1)) + 1 from by omega, sumFrom_front]
theorem waysN_big {s t h : Nat} (hh : t < h) : waysN s t h = 0 := by unfold waysN; rw [show t + 1 - h = 0 from by omega]; rfl
theorem waysN_zero {s t : Nat} (hs : s ≤ 10) : waysN s t 0 = 10 ^ t := by
  unfold waysN; rw [show t + 1 - 0 = t + 1 from rfl, ex_sum, show s + (10 - s) = 10 from by omega]
theorem waysN_anti {s t : Nat} {a b : Nat} (h : a ≤ b) : waysN s t b ≤ waysN s t a := by
  induction b with
  | zero => have : a = 0 := by omega
            subst this; exact Nat.le_refl _
  | succ b ih =>
    by_cases e : a = b + 1
    · subst e; exact Nat.le_refl _
    · have h1 := ih (by omega)
      by_cases hb : b ≤ t
      · have := waysN_step (s := s) hb; omega
      · rw [waysN_big (by omega : t < b + 1)]; omega
theorem waysN_le {s t h : Nat} (hs : s ≤ 10) : waysN s t h ≤ 10 ^ t := by
  have := waysN_anti (s := s) (t := t) (Nat.zero_le h); rw [waysN_zero hs] at this; exact this
theorem ex_le {s t k : Nat} (hs : s ≤ 10) : ex s (10 - s) t k ≤ 10 ^ t := by
  by_cases h : k ≤ t
  · have h1 := waysN_step (s := s) h
    have h2 := waysN_le (s := s) (t := t) (h := k) hs
    omega
  · rw [ex_big (by omega)]; exact Nat.zero_le _
theorem ten_le {t : Nat} (h : t ≤ 12) : 10 ^ t ≤ 1000000000000 := Nat.le_trans (Nat.pow_le_pow_right (by decide) h) (by decide)

/-- the least number from a on that does not have a property; the greatest one from b down. -/
def upTo (p : Nat → Bool) : Nat → Nat → Nat
  | 0, a => a
  | f + 1, a => if p a then upTo p f (a + 1) else a
def downTo (p : Nat → Bool) : Nat → Nat
  | 0 => 0
  | b + 1 => if p (b + 1) then downTo p b else b + 1
theorem upTo_eq {p : Nat → Bool} : ∀ (f a c : Nat), a ≤ c → c - a ≤ f → (∀ j, a ≤ j → j < c → p j = true) → p c = false → upTo p f a = c := by
  intro f
  induction f with
  | zero => intro a c h1 h2 _ _; simp only [upTo]; omega
  | succ f ih =>
    intro a c h1 h2 h3 h4
    simp only [upTo]
    by_cases e : a = c
    · subst e; simp [h4]
    · rw [h3 a (Nat.le_refl _) (by omega), if_pos rfl]
      exact ih (a + 1) c (by omega) (by omega) (fun j hj hj2 => h3 j (by omega) hj2) h4
theorem downTo_eq {p : Nat → Bool} : ∀ (b c : Nat), c ≤ b → (∀ j, c < j → j ≤ b → p j = true) → (c = 0 ∨ p c = false) → downTo p b = c := by
  intro b
  induction b with
  | zero => intro c h1 _ _; simp only [downTo]; omega
  | succ b ih =>
    intro c h1 h2 h3
    simp only [downTo]
    by_cases e : c = b + 1
    · subst e; rcases h3 with h3 | h3
      · omega
      · simp [h3]
    · rw [h2 (b + 1) (by omega) (Nat.le_refl _), if_pos rfl]
      exact ih c (by omega) (fun j hj hj2 => h2 j hj (by omega)) h3
def loP (T S r a : Nat) : Bool := decide (2000 * (10 ^ T - waysN S T (a + 1)) ≤ r * 10 ^ T)
def hiP (T S r b : Nat) : Bool := decide (2000 * waysN S T b ≤ r * 10 ^ T)
/-- the band of a share. -/
def bandLo (T S r : Nat) : Nat := upTo (loP T S r) (T + 1) 0
def bandHi (T S r : Nat) : Nat := downTo (hiP T S r) T
theorem loP_end {T S r : Nat} (hr : r < 2000) : loP T S r T = false := by
  simp only [loP, decide_eq_false_iff_not, Nat.not_le]
  rw [waysN_big (Nat.lt_succ_self T)]
  have : 0 < 10 ^ T := Nat.pow_pos (by decide)
  exact Nat.mul_lt_mul_of_pos_right hr this
theorem hiP_end {T S r : Nat} (hS : S ≤ 10) (hr : r < 2000) : hiP T S r 0 = false := by
  simp only [hiP, decide_eq_false_iff_not, Nat.not_le]
  rw [waysN_zero hS]
  have : 0 < 10 ^ T := Nat.pow_pos (by decide)
  exact Nat.mul_lt_mul_of_pos_right hr this

/-! greatest common divisors, as Go reckons them -/
theorem gcd_tmod (a b : Int) : Int.gcd b (a.tmod b) = Int.gcd a b := by
  simp only [Int.gcd, Int.natAbs_tmod]
  rw [Nat.gcd_comm b.natAbs, ← Nat.gcd_rec, Nat.gcd_comm]
theorem tmod_abs (a b : Int) (h : b ≠ 0) : (a.tmod b).natAbs < b.natAbs := by
  rw [Int.natAbs_tmod]; exact Nat.mod_lt _ (by omega)

/-- f lo + f (lo + 1) + .. (n terms). -/
def sumI (f : Int → Int) (lo : Int) : Nat → Int
  | 0 => 0
  | n + 1 => sumI f lo n + f (lo + n)
theorem sumI_bound {f : Int → Int} {B : Int} (lo : Int) (n : Nat) (h : ∀ i, 0 ≤ f i ∧ f i ≤ B) : 0 ≤ sumI f lo n ∧ sumI f lo n ≤ n * B := by
  induction n with
  | zero => simp [sumI]
  | succ n ih =>
    have := h (lo + n)
    simp only [sumI]
    rw [Int.natCast_succ, Int.add_mul]; omega
theorem sumI_more {f : Int → Int} {lo : Int} {n m : Nat} (h : n ≤ m) (hz : ∀ i : Nat, n ≤ i → i < m → f (lo + i) = 0) : sumI f lo m = sumI f lo n := by
  induction m with
  | zero => have : n = 0 := by omega
            subst this; rfl
  | succ m ih =>
    by_cases e : n = m + 1
    · subst e; rfl
    · rw [sumI, ih (by omega) (fun i h1 h2 => hz i h1 (by omega)), hz m (by omega) (by omega), Int.add_zero]

/-- the ways to have j of those inside among the selected ones. -/
def chTerm (all sel ins j : Int) : Int := chI ins j * chI (all - ins) (sel - j)
theorem chTerm_bound {all sel ins : Int} (h1 : all ≤ 30) (h2 : ins ≤ all) (h3 : 0 ≤ ins) (j : Int) : 0 ≤ chTerm all sel ins j ∧ chTerm all sel ins j ≤ 1073741824 := by
  have a0 := chI_nonneg ins j
  have b0 := chI_nonneg (all - ins) (sel - j)
  refine ⟨Int.mul_nonneg a0 b0, ?_⟩
  have e1 : chI ins j ≤ ((2 ^ ins.toNat : Nat) : Int) := by
    unfold chI; split
    · exact_mod_cast ch_le_pow _ _
    · exact Int.natCast_nonneg _
  have e2 : chI (all - ins) (sel - j) ≤ ((2 ^ (all - ins).toNat : Nat) : Int) := by
    unfold chI; split
    · exact_mod_cast ch_le_pow _ _
    · exact Int.natCast_nonneg _
  have e3 : ((2 ^ ins.toNat : Nat) : Int) * ((2 ^ (all - ins).toNat : Nat) : Int) = ((2 ^ all.toNat : Nat) : Int) := by
    rw [← Int.natCast_mul, ← Nat.pow_add, show ins.toNat + (all - ins).toNat = all.toNat from by omega]
  have e4 : 2 ^ all.toNat ≤ 2 ^ 30 := Nat.pow_le_pow_right (by omega) (by omega)
  have e5 := Int.mul_le_mul e1 e2 b0 (by omega)
  unfold chTerm
  omega
/-- the ways to have at least cnt of those inside. -/
def chWays (all sel ins cnt : Int) : Int := sumI (chTerm all sel ins) cnt (sel + 1 - cnt).toNat
theorem chWays_more {all sel ins cnt : Int} (h : sel ≤ all) : sumI (chTerm all sel ins) cnt (all + 1 - cnt).toNat = chWays all sel ins cnt := by
  unfold chWays
  refine sumI_more (by omega) fun i h1 h2 => ?_
  unfold chTerm
  have : chI (all - ins) (sel - (cnt + i)) = 0 := by simp only [chI]; rw [if_neg (by omega)]
  rw [this, Int.mul_zero]
theorem chWays_bound {all sel ins cnt : Int} (h1 : all ≤ 30) (h2 : ins ≤ all) (h3 : 0 ≤ ins) (h4 : sel ≤ all) (h5 : 0 ≤ cnt) : 0 ≤ chWays all sel ins cnt ∧ chWays all sel ins cnt ≤ 33285996544 := by
  have := sumI_bound (f := chTerm all sel ins) cnt (sel + 1 - cnt).toNat (chTerm_bound h1 h2 h3)
  unfold chWays; omega

/-- a fraction in lowest terms: the parts of n / d. -/
def lowNum (n d : Int) : Int := n / (Int.gcd n d : Int)
def lowDen (n d : Int) : Int := d / (Int.gcd n d : Int)

end Go.Proofs.Ytlmdmpjfehpjeaa

/- Small notions that all contracts of this seat use: a range test, the first error of a list, worlds that only grow, slices that read as lists. No program in sight. -/
set_option linter.unusedVariables false
set_option linter.unusedSimpArgs false
namespace Go.Proofs.Ytlmdmpjfehpjeaa
open Go.RowKit

theorem hid {p : Prop} (h : p) : Hid p := h

/-- n lies from lo to hi. -/
def inB (n lo hi : Int) : Bool := decide (lo ≤ n) && decide (n ≤ hi)
theorem inB_true {n lo hi : Int} : inB n lo hi = true ↔ lo ≤ n ∧ n ≤ hi := by simp [inB]
theorem inB_false {n lo hi : Int} : inB n lo hi = false ↔ ¬ (lo ≤ n ∧ n ≤ hi) := by rw [← inB_true]; simp

/-- 0 if a condition holds, else an error. -/
def unl (b : Bool) (n : Int) : Int := if b = true then 0 else n

/-- the first number of a list that is not 0, or 0. -/
def firstNZ : List Int → Int
  | [] => 0
  | x :: l => if x = 0 then firstNZ l else x

theorem firstNZ_zero {l : List Int} : firstNZ l = 0 ↔ ∀ x ∈ l, x = 0 := by
  induction l with
  | nil => simp [firstNZ]
  | cons a l ih =>
    simp only [firstNZ]
    split
    · rename_i h; simp [ih, h]
    · rename_i h; simp [h]

theorem firstNZ_append_zero {l m : List Int} (h : ∀ x ∈ l, x = 0) : firstNZ (l ++ m) = firstNZ m := by
  induction l with
  | nil => rfl
  | cons a l ih =>
    have ha : a = 0 := h a (by simp)
    simp only [List.cons_append, firstNZ, ha, if_true]
    exact ih fun x hx => h x (by simp [hx])

/-- What a call that leaves old memory alone gives of old cells. -/
theorem bcell {W w1 : World} (hb : Below W.heap.size W w1) : (∀ b o, b < W.heap.size → w1.cell? ⟨b, o, none⟩ = W.cell? ⟨b, o, none⟩) ∧ (∀ b o, b < W.heap.size → w1.frozen? ⟨b, o, none⟩ = W.frozen? ⟨b, o, none⟩) :=
  ⟨fun b o h => hb.cell (p := ⟨b, o, none⟩) h, fun b o h => hb.frozen (p := ⟨b, o, none⟩) h⟩

theorem Below.drewN {B : Nat} {a w : World} (n : Nat) (h : Below B a w) : Below B a (w.drewN n) := ⟨h.os, h.tape, h.output, h.size, h.block⟩

theorem Below_call {w a w1 : World} (h : Below w.heap.size w a) (hb : Below a.heap.size a w1) : Below w.heap.size w w1 := h.trans (hb.mono h.size)

theorem Below_alloc {w w' : World} (h : Below w.heap.size w w') (o : Obj) : Below w.heap.size w (w'.alloc o) := h.alloc h.size o

/-- contracts inside a quiet walk: of a callee that leaves the world alone, and of one that draws. -/
theorem quiet_same {P : Program} {f : FuncId} {args : Array Value} {W : World} {v : Value} {C : World → Prop}
    (h : Calls P f args W fun e w' => e = .returned v ∧ W = w') (hC : C W) : Calls P f args W fun e w'' => e = .returned v ∧ C w'' :=
  h.mono fun _ _ ⟨he, hm⟩ => ⟨he, hm ▸ hC⟩
theorem quiet_draw {P : Program} {f : FuncId} {args : Array Value} {W : World} {v : Value} {C : World → Prop}
    (h : Calls P f args W fun e w' => e = .returned v ∧ ∃ k, w' = W.drewN k) (hC : ∀ k, C (W.drewN k)) : Calls P f args W fun e w'' => e = .returned v ∧ C w'' :=
  h.mono fun _ _ ⟨he, k, hk⟩ => ⟨he, hk ▸ hC k⟩
theorem quiet_eq {P : Program} {f : FuncId} {args : Array Value} {w : World} {v u : Value} {R : World → Prop}
    (h : Calls P f args w fun e w'' => e = .returned v ∧ R w'') (hu : v = u) : Calls P f args w fun e w'' => e = .returned u ∧ R w'' := by rw [← hu]; exact h

/-- A slice value v reads in w as n elements of sz cells: cell j of element i holds c i j. -/
def SlAt (w : World) (v : Value) (n sz : Nat) (c : Nat → Nat → Value) : Prop :=
  ∃ ao cap, v = .slice ao n cap ∧ n ≤ cap ∧ cap ≤ maxLen ∧
    (0 < n → ∃ b off, ao = some ⟨b, off, none⟩ ∧ b < w.heap.size ∧ ∀ i j, i < n → j < sz → w.cell? ⟨b, off + i * sz + j, none⟩ = some (c i j)) ∧ (ao = none → cap = 0)

theorem SlAt.below {w w' : World} {v : Value} {n sz : Nat} {c : Nat → Nat → Value} (h : SlAt w v n sz c) (hb : Below w.heap.size w w') : SlAt w' v n sz c := by
  obtain ⟨ao, cap, rfl, h1, h2, h3, h4⟩ := h
  refine ⟨ao, cap, rfl, h1, h2, fun h0 => ?_, h4⟩
  obtain ⟨b, off, e, hlt, hc⟩ := h3 h0
  exact ⟨b, off, e, Nat.lt_of_lt_of_le hlt hb.size, fun i j hi hj => (hb.cell (p := ⟨b, _, none⟩) hlt).trans (hc i j hi hj)⟩

/-- A slice of ints. -/
def IntsAt (w : World) (v : Value) (l : List Int) : Prop := SlAt w v l.length 1 (fun i _ => .int .i64 (l.getD i 0))

theorem IntsAt.below {w w' : World} {v : Value} {l : List Int} (h : IntsAt w v l) (hb : Below w.heap.size w w') : IntsAt w' v l := SlAt.below h hb

/-- .. opened: the value's shape, and each cell under its condition. -/
theorem IntsAt.open {w : World} {v : Value} {l : List Int} (h : IntsAt w v l) : ∃ ao cap, v = .slice ao l.length cap ∧ l.length ≤ cap ∧ cap ≤ maxLen ∧
    ∀ k, k < l.length → ∃ b off, ao = some ⟨b, off, none⟩ ∧ b < w.heap.size ∧ ∀ i, i < l.length → w.cell? ⟨b, off + i, none⟩ = some (.int .i64 (l.getD i 0)) := by
  obtain ⟨ao, cap, rfl, h1, h2, h3, _⟩ := h
  refine ⟨ao, cap, rfl, h1, h2, fun k hk => ?_⟩
  obtain ⟨b, off, e, hlt, hc⟩ := h3 (by omega)
  exact ⟨b, off, e, hlt, fun i hi => by simpa using hc i 0 hi (by omega)⟩

/-- a number of a list, 0 behind its end: simp does not look into it. -/
def nth (l : List Int) (i : Nat) : Int := l.getD i 0
theorem nth_lt {l : List Int} {i : Nat} (h : i < l.length) : nth l i = l[i] := by simp [nth, List.getD, h]
theorem take_nth {l : List Int} {k : Nat} (h : k < l.length) : l.take (k + 1) = l.take k ++ [nth l k] := by
  rw [List.take_succ_eq_append_getElem h, nth_lt h]
theorem cut_nth {l : List Int} {k : Nat} (h : k < l.length) : l = l.take k ++ nth l k :: l.drop (k + 1) := by
  rw [nth_lt h, List.getElem_cons_drop, List.take_append_drop]
theorem IntsAt.opn {w : World} {v : Value} {l : List Int} (h : IntsAt w v l) : ∃ ao cap, v = .slice ao l.length cap ∧ l.length ≤ cap ∧ cap ≤ maxLen ∧
    ∀ k, k < l.length → ∃ b off, ao = some ⟨b, off, none⟩ ∧ b < w.heap.size ∧ ∀ i, i < l.length → w.cell? ⟨b, off + i, none⟩ = some (.int .i64 (nth l i)) := h.open

theorem IntsAt.nil (w : World) : IntsAt w (.slice none 0 0) [] := ⟨none, 0, rfl, by simp, by simp, fun h => by simp at h, fun _ => rfl⟩

/-- What the call's own row holds reads as a list of ints. -/
theorem ownsRow_ints {w : World} {base : Nat} {e : TypeId} {v : Value} {l : List Int} (h : w.ownsRow base e 1 v l.length (l.map (Value.int .i64))) : IntsAt w v l := by
  obtain ⟨h1, h2⟩ := h
  rcases h2 with ⟨rfl, h0⟩ | ⟨g, cap, cur, rfl, hb, hg, hn, hm, hs, ht⟩
  · obtain rfl : l = [] := List.eq_nil_of_length_eq_zero h0
    exact IntsAt.nil w
  · refine ⟨some ⟨g, 0, none⟩, cap, rfl, hn, hm, fun h0 => ⟨g, 0, rfl, (Array.getElem?_eq_some_iff.1 hg).1, fun i j hi hj => ?_⟩, fun h => by cases h⟩
    obtain rfl : j = 0 := by omega
    rw [cell_of_row w g _ cur e (0, 0) hg]
    have hl : i < (cur.toList.take (l.length * 1)).length := by rw [ht]; simpa using hi
    have e1 : (cur.toList.take (l.length * 1))[i]? = some (.int .i64 (l.getD i 0)) := by rw [ht]; simp [hi]
    rw [List.getElem?_take] at e1
    split at e1
    · simpa using e1
    · cases e1

theorem ownsRow_below {w w' : World} {base : Nat} {e : TypeId} {size : Nat} {v : Value} {n : Nat} {xs : List Value} (h : w.ownsRow base e size v n xs) (hb : Below w.heap.size w w') : w'.ownsRow base e size v n xs := by
  refine ⟨h.1, ?_⟩
  rcases h.2 with h2 | ⟨g, cap, cur, hv, hg, hh, r⟩
  · exact Or.inl h2
  · exact Or.inr ⟨g, cap, cur, hv, hg, by rw [hb.block g (Array.getElem?_eq_some_iff.1 hh).1]; exact hh, r⟩

theorem ownsRow_base {w : World} {base base' : Nat} {e : TypeId} {size : Nat} {v : Value} {n : Nat} {xs : List Value} (h : w.ownsRow base e size v n xs) (hb : base' ≤ base) : w.ownsRow base' e size v n xs := by
  refine ⟨h.1, ?_⟩
  rcases h.2 with h2 | ⟨g, cap, cur, hv, hg, r⟩
  · exact Or.inl h2
  · exact Or.inr ⟨g, cap, cur, hv, Nat.le_trans hb hg, r⟩

/-- A row of one's own that holds ints, opened. -/
theorem ownsRow_open {w : World} {base : Nat} {e : TypeId} {v : Value} {l : List Int} {n : Nat} (h : w.ownsRow base e 1 v n (l.map (Value.int .i64))) (h0 : 0 < n) :
    ∃ g cap, v = .slice (some ⟨g, 0, none⟩) n cap ∧ base ≤ g ∧ g < w.heap.size ∧ n ≤ cap ∧ cap ≤ maxLen ∧ l.length = n ∧ (∀ i, i < n → w.cell? ⟨g, i, none⟩ = some (.int .i64 (l.getD i 0))) ∧ (∀ i, w.frozen? ⟨g, i, none⟩ = false) := by
  have hlen : l.length = n := by have := h.1; simpa using this
  obtain ⟨h1, h2⟩ := h
  rcases h2 with ⟨_, h3⟩ | ⟨g, cap, cur, rfl, hb, hg, hn, hm, hs, ht⟩
  · omega
  · refine ⟨g, cap, rfl, hb, (Array.getElem?_eq_some_iff.1 hg).1, hn, hm, hlen, fun i hi => ?_, fun i => frozen_of_row w g i cur e hg⟩
    rw [cell_of_row w g _ cur e (0, 0) hg]
    have e1 : (cur.toList.take (n * 1))[i]? = some (.int .i64 (l.getD i 0)) := by rw [ht]; simp [hlen, hi]
    rw [List.getElem?_take] at e1
    split at e1
    · simpa using e1
    · cases e1

/-- a slice literal of ints, laid in a new block. -/
theorem intsAt_new (w : World) (e : TypeId) (l : List Int) (n N : Nat) (hn : n = l.length) (hm : n ≤ 1000) (hN : w.heap.size = N) : IntsAt (w.alloc (.cells (l.map (Value.int .i64)).toArray e)) (.slice (some ⟨N, 0, none⟩) n n) l := by
  subst hn; subst hN
  refine ⟨_, _, rfl, Nat.le_refl _, by unfold maxLen; omega, fun _ => ⟨_, 0, rfl, by simp, fun i j hi hj => ?_⟩, fun h => by cases h⟩
  obtain rfl : j = 0 := by omega
  rw [cell_of_row (w.alloc _) w.heap.size _ _ e (0, 0) (heap_alloc_new w _)]
  simp [hi, List.getD]

theorem getD_lt {α : Type} {l : List α} {k : Nat} (d : α) (h : k < l.length) : l.getD k d = l[k] := by simp [List.getD, h]
theorem take_getD {α : Type} {l : List α} {k : Nat} (d : α) (h : k < l.length) : l.take (k + 1) = l.take k ++ [l.getD k d] := by
  rw [List.take_succ_eq_append_getElem h, getD_lt d h]
theorem cut_getD {α : Type} {l : List α} {k : Nat} (d : α) (h : k < l.length) : l = l.take k ++ l.getD k d :: l.drop (k + 1) := by
  rw [getD_lt d h, List.getElem_cons_drop, List.take_append_drop]

theorem ret_int {k : IntKind} {a b : Int} (h : a = b) : Ending.returned (.int k a) = .returned (.int k b) := by rw [h]
theorem ret_bool {a b : Bool} (h : a = b) : Ending.returned (.bool a) = .returned (.bool b) := by rw [h]

end Go.Proofs.Ytlmdmpjfehpjeaa

/- Tracks: plain law of reached places, answers, scores, divided boxes, best steps, covers. -/
set_option linter.unusedVariables false
set_option linter.unusedSimpArgs false
namespace Go.Proofs.Ytlmdmpjfehpjeaa

structure TMod where
  (px py pz tm tk lo hi li ea la no mi : Int)
structure V3 where
  (x y z : Int)
def V3.dot (a b : V3) : Int := a.x * b.x + a.y * b.y + a.z * b.z
def TMod.slow (m : TMod) : Int := m.li * m.tk * m.tk
def TMod.way (m : TMod) (s p : V3) (t : Int) : V3 := ⟨m.tk * (p.x - m.px) - (t - m.tm) * s.x, m.tk * (p.y - m.py) - (t - m.tm) * s.y, m.tk * (p.z - m.pz) - (t - m.tm) * s.z⟩
def reachB (a b c : Int) : Bool := decide (c = 0) || (decide (b ≤ 0) && decide (a * c ≤ b * b))
def TMod.reached (m : TMod) (s p : V3) (t : Int) : Bool := reachB (s.dot s - m.slow) ((m.way s p t).dot s) ((m.way s p t).dot (m.way s p t))
theorem sq_nn (a : Int) : 0 ≤ a * a := by have h : ((a.natAbs * a.natAbs : Nat) : Int) = a * a := Int.natAbs_mul_self; omega
theorem V3.dot_self (a : V3) : 0 ≤ a.dot a := by
  have h1 := sq_nn a.x 
  have h2 := sq_nn a.y
  have h3 := sq_nn a.z
  unfold V3.dot; omega
theorem V3.dot_zero {a : V3} (h : a.dot a = 0) : a.x = 0 ∧ a.y = 0 ∧ a.z = 0 := by
  have h1 := sq_nn a.x
  have h2 := sq_nn a.y
  have h3 := sq_nn a.z
  unfold V3.dot at h
  have e1 : a.x * a.x = 0 := by omega
  have e2 : a.y * a.y = 0 := by omega
  have e3 : a.z * a.z = 0 := by omega
  exact ⟨(Int.mul_eq_zero.1 e1).elim id id, (Int.mul_eq_zero.1 e2).elim id id, (Int.mul_eq_zero.1 e3).elim id id⟩
/-- light that has reached a place stays there. -/
theorem reached_succ (m : TMod) (s p : V3) (t : Int) (hs : 0 ≤ m.slow) (ha : m.slow < s.dot s) (h : m.reached s p t = true) : m.reached s p (t + 1) = true := by
  obtain ⟨w, hw⟩ : ∃ w, w = m.way s p t := ⟨_, rfl⟩
  obtain ⟨w', hw'⟩ : ∃ w', w' = m.way s p (t + 1) := ⟨_, rfl⟩
  have ex : w'.x = w.x - s.x := by rw [hw, hw']; simp only [TMod.way]; grind
  have ey : w'.y = w.y - s.y := by rw [hw, hw']; simp only [TMod.way]; grind
  have ez : w'.z = w.z - s.z := by rw [hw, hw']; simp only [TMod.way]; grind
  unfold TMod.reached at *
  rw [← hw] at h
  rw [← hw']
  obtain ⟨S, hS⟩ : ∃ S, S = s.dot s := ⟨_, rfl⟩
  obtain ⟨b, hb⟩ : ∃ b, b = w.dot s := ⟨_, rfl⟩
  obtain ⟨c, hc⟩ : ∃ c, c = w.dot w := ⟨_, rfl⟩
  have eb : w'.dot s = b - S := by rw [hb, hS]; simp only [V3.dot, ex, ey, ez]; grind
  have ec : w'.dot w' = c - 2 * b + S := by rw [hc, hb, hS]; simp only [V3.dot, ex, ey, ez]; grind
  rw [eb, ec, ← hS]
  rw [← hb, ← hc, ← hS] at h
  rw [← hS] at ha
  have hc0 : 0 ≤ c := by rw [hc]; exact V3.dot_self w
  unfold reachB at *
  simp only [Bool.or_eq_true, Bool.and_eq_true, decide_eq_true_eq] at *
  right
  have hb0 : b ≤ 0 ∧ (S - m.slow) * c ≤ b * b := by
    rcases h with h | h
    · have := V3.dot_zero (hc.symm.trans h)
      have e0 : b = 0 := by rw [hb]; simp only [V3.dot, this.1, this.2.1, this.2.2]; omega
      exact ⟨by omega, by rw [h, e0]; omega⟩
    · exact h
  refine ⟨by omega, ?_⟩
  generalize m.slow = q at *
  have h1 := Int.mul_nonneg (show 0 ≤ -b by omega) hs
  have h2 := Int.mul_nonneg (show 0 ≤ S by omega) hs
  have e : (b - S) * (b - S) - (S - q) * (c - 2 * b + S) = (b * b - (S - q) * c) + 2 * (-b * q) + S * q := by grind
  omega
theorem reached_mono (m : TMod) (s p : V3) (hs : 0 ≤ m.slow) (ha : m.slow < s.dot s) {t u : Int} (htu : t ≤ u) (h : m.reached s p t = true) : m.reached s p u = true := by
  obtain ⟨k, rfl⟩ : ∃ k : Nat, u = t + k := ⟨(u - t).toNat, by omega⟩
  induction k with
  | zero => simpa using h
  | succ k ih =>
    have := reached_succ m s p (t + k) hs ha (ih (by omega))
    rwa [show t + (k : Int) + 1 = t + ((k + 1 : Nat) : Int) by push_cast; omega] at this
/-- the first number from t on, among so many. -/
def fstN (f : Int → Bool) : Nat → Int → Int
  | 0, t => t
  | n + 1, t => if f t then t else fstN f n (t + 1)
theorem fstN_spec (f : Int → Bool) : ∀ (n : Nat) (t : Int), t ≤ fstN f n t ∧ fstN f n t ≤ t + n ∧ (∀ u, t ≤ u → u < fstN f n t → f u = false) ∧ (fstN f n t < t + n → f (fstN f n t) = true) := by
  intro n
  induction n with
  | zero => intro t; exact ⟨Int.le_refl _, by simp [fstN], fun u h1 h2 => by simp only [fstN] at h2; omega, fun h => by simp [fstN] at h⟩
  | succ n ih =>
    intro t
    unfold fstN
    split
    · next h => exact ⟨Int.le_refl _, by omega, fun u h1 h2 => by omega, fun _ => h⟩
    · next h =>
      obtain ⟨h1, h2, h3, h4⟩ := ih (t + 1)
      refine ⟨by omega, by push_cast; omega, fun u hu1 hu2 => ?_, fun hh => h4 (by push_cast at hh; omega)⟩
      rcases (by omega : u = t ∨ t + 1 ≤ u) with rfl | h5
      · simpa using h
      · exact h3 u h5 hu2
theorem fstN_eq {f : Int → Bool} {n : Nat} {t u : Int} (h1 : t ≤ u) (h2 : u ≤ t + n) (h3 : ∀ v, t ≤ v → v < u → f v = false) (h4 : u < t + n → f u = true) : fstN f n t = u := by
  obtain ⟨a1, a2, a3, a4⟩ := fstN_spec f n t
  rcases Int.lt_trichotomy (fstN f n t) u with h | h | h
  · have := h3 _ a1 h; rw [a4 (by omega)] at this; cases this
  · exact h
  · have := a3 u h1 h; rw [h4 (by omega)] at this; cases this
/-- the first time, from the time before the first that counts. -/
def TMod.first (m : TMod) (s p : V3) : Int := fstN (m.reached s p) 2000002 (-1000001)
theorem first_spec (m : TMod) (s p : V3) (hs : 0 ≤ m.slow) (ha : m.slow < s.dot s) {u : Int} (h1 : -1000001 ≤ u) (h2 : u ≤ 1000000) : m.reached s p u = decide (m.first s p ≤ u) := by
  obtain ⟨a1, a2, a3, a4⟩ := fstN_spec (m.reached s p) 2000002 (-1000001)
  by_cases h : m.first s p ≤ u
  · rw [decide_eq_true h]
    exact reached_mono m s p hs ha h (a4 (by unfold TMod.first at h; omega))
  · rw [decide_eq_false h]
    exact a3 u h1 (by unfold TMod.first at h; omega)
/-- products of numbers of a size. -/
theorem mul_sz {x y : Int} {A B : Nat} (hx : x.natAbs ≤ A) (hy : y.natAbs ≤ B) : (x * y).natAbs ≤ A * B := by
  rw [Int.natAbs_mul]; exact Nat.mul_le_mul hx hy
theorem mul_rg {x y A B C : Int} (hx : -A ≤ x ∧ x ≤ A) (hy : -B ≤ y ∧ y ≤ B) (hC : A * B ≤ C) : -C ≤ x * y ∧ x * y ≤ C := by
  have h := mul_sz (x := x) (y := y) (A := A.natAbs) (B := B.natAbs) (by omega) (by omega)
  have e : ((A.natAbs * B.natAbs : Nat) : Int) = A * B := by push_cast; congr 1 <;> omega
  omega
theorem reached_iff (m : TMod) (s p : V3) (hs : 0 ≤ m.slow) (ha : m.slow < s.dot s) {n : Int} (h1 : m.reached s p n = true) (h0 : m.reached s p (n - 1) = false) (u : Int) : m.reached s p u = decide (n ≤ u) := by
  by_cases h : n ≤ u
  · rw [decide_eq_true h]; exact reached_mono m s p hs ha h h1
  · rw [decide_eq_false h]
    cases e : m.reached s p u
    · rfl
    · rw [reached_mono m s p hs ha (show u ≤ n - 1 by omega) e] at h0; cases h0
theorem first_of (m : TMod) (s p : V3) {n : Int} (h : ∀ u, m.reached s p u = decide (n ≤ u)) (h1 : -1000001 ≤ n) (h2 : n ≤ 1000001) : m.first s p = n :=
  fstN_eq h1 (by omega) (fun v _ hv => by rw [h, decide_eq_false (by omega)]) (fun _ => by rw [h, decide_eq_true (Int.le_refl _)])
/-- a first time that counts is one. -/
theorem first_at (m : TMod) (s p : V3) (hs : 0 ≤ m.slow) (ha : m.slow < s.dot s) (h1 : -1000000 ≤ m.first s p) (h2 : m.first s p ≤ 1000000) : ∀ u, m.reached s p u = decide (m.first s p ≤ u) := by
  have a := first_spec m s p hs ha (u := m.first s p) (by omega) h2
  have b := first_spec m s p hs ha (u := m.first s p - 1) (by omega) (by omega)
  exact reached_iff m s p hs ha (by rw [a]; simp) (by rw [b]; simp; omega)
def V3.add (a b : V3) : V3 := ⟨a.x + b.x, a.y + b.y, a.z + b.z⟩
def V3.mul (a : V3) (k : Int) : V3 := ⟨a.x * k, a.y * k, a.z * k⟩
def V3.swap (a : V3) : V3 := ⟨a.y, a.x, a.z⟩
def TMod.pl (m : TMod) : V3 := ⟨m.px, m.py, m.pz⟩
def TMod.put (m : TMod) (p : V3) (t : Int) : TMod := { m with px := p.x, py := p.y, pz := p.z, tm := t }
theorem reached_move (m : TMod) (s p d : V3) (t dt : Int) : (m.put (m.pl.add d) (m.tm + dt)).reached s (p.add d) (t + dt) = m.reached s p t := by
  have e : (m.put (m.pl.add d) (m.tm + dt)).way s (p.add d) (t + dt) = m.way s p t := by
    simp only [TMod.way, TMod.put, TMod.pl, V3.add, V3.mk.injEq]
    refine ⟨?_, ?_, ?_⟩ <;> grind
  unfold TMod.reached
  rw [e]; rfl
theorem reached_turn (m : TMod) (s p : V3) (t : Int) : (m.put m.pl.swap m.tm).reached s.swap p.swap t = m.reached s p t := by
  have e : (m.put m.pl.swap m.tm).way s.swap p.swap t = (m.way s p t).swap := by simp only [TMod.way, TMod.put, TMod.pl, V3.swap]
  have e2 : ∀ a b : V3, a.swap.dot b.swap = a.dot b := fun a b => by simp only [V3.dot, V3.swap]; omega
  unfold TMod.reached
  rw [e, e2, e2, e2]; rfl
theorem reached_own (m : TMod) (s : V3) (k : Int) : m.reached s (m.pl.add (s.mul k)) (m.tm + m.tk * k) = true := by
  have e : m.way s (m.pl.add (s.mul k)) (m.tm + m.tk * k) = ⟨0, 0, 0⟩ := by
    simp only [TMod.way, TMod.pl, V3.add, V3.mul, V3.mk.injEq]
    refine ⟨?_, ?_, ?_⟩ <;> grind
  unfold TMod.reached
  rw [e]; simp [reachB, V3.dot]
structure TBox where
  (lo hi : V3)
/-- a range of numbers. -/
structure Rg where
  (lo hi : Int)
def Rg.plus (r s : Rg) : Rg := ⟨r.lo + s.lo, r.hi + s.hi⟩
def mn4 (a b c d : Int) : Int := min (min (min a b) c) d
def mx4 (a b c d : Int) : Int := max (max (max a b) c) d
def Rg.times (r s : Rg) : Rg := ⟨mn4 (r.lo * s.lo) (r.lo * s.hi) (r.hi * s.lo) (r.hi * s.hi), mx4 (r.lo * s.lo) (r.lo * s.hi) (r.hi * s.lo) (r.hi * s.hi)⟩
def Rg.square (r : Rg) : Rg := if r.lo ≤ 0 ∧ 0 ≤ r.hi then ⟨0, max (r.lo * r.lo) (r.hi * r.hi)⟩ else ⟨min (r.lo * r.lo) (r.hi * r.hi), max (r.lo * r.lo) (r.hi * r.hi)⟩
def Rg.has (r : Rg) (n : Int) : Prop := r.lo ≤ n ∧ n ≤ r.hi
theorem Rg.plus_has {r s : Rg} {a b : Int} (h : r.has a) (g : s.has b) : (r.plus s).has (a + b) := by unfold Rg.has Rg.plus at *; simp only; omega
theorem mul_between {x lo hi : Int} (c : Int) (h : lo ≤ x ∧ x ≤ hi) : min (lo * c) (hi * c) ≤ x * c ∧ x * c ≤ max (lo * c) (hi * c) := by
  rcases Int.le_total 0 c with h0 | h0
  · have h1 := Int.mul_le_mul_of_nonneg_right h.1 h0
    have h2 := Int.mul_le_mul_of_nonneg_right h.2 h0
    omega
  · have h1 := Int.mul_le_mul_of_nonpos_right h.1 h0
    have h2 := Int.mul_le_mul_of_nonpos_right h.2 h0
    omega
theorem Rg.times_has {r s : Rg} {a b : Int} (h : r.has a) (g : s.has b) : (r.times s).has (a * b) := by
  obtain ⟨h1, h2⟩ := mul_between b h
  obtain ⟨h3, h4⟩ := mul_between r.lo g
  obtain ⟨h5, h6⟩ := mul_between r.hi g
  have e1 := Int.mul_comm b r.lo
  have e2 := Int.mul_comm b r.hi
  have e3 := Int.mul_comm s.lo r.lo
  have e4 := Int.mul_comm s.hi r.lo
  have e5 := Int.mul_comm s.lo r.hi
  have e6 := Int.mul_comm s.hi r.hi
  unfold Rg.has Rg.times mn4 mx4
  simp only
  omega
theorem sq_le {a b : Int} (h0 : 0 ≤ a) (h : a ≤ b) : a * a ≤ b * b := Int.mul_le_mul h h h0 (by omega)
theorem sq_le_neg {a b : Int} (h0 : b ≤ 0) (h : a ≤ b) : b * b ≤ a * a := by
  have := sq_le (a := -b) (b := -a) (by omega) (by omega)
  rwa [Int.neg_mul_neg, Int.neg_mul_neg] at this
theorem Rg.square_has {r : Rg} {a : Int} (h : r.has a) : r.square.has (a * a) := by
  obtain ⟨h1, h2⟩ := h
  have h0 : 0 ≤ a * a := by have h : ((a.natAbs * a.natAbs : Nat) : Int) = a * a := Int.natAbs_mul_self; omega
  have hp : 0 ≤ a → a * a ≤ r.hi * r.hi := fun h => sq_le h h2
  have hn : a ≤ 0 → a * a ≤ r.lo * r.lo := fun h => sq_le_neg h h1
  have hl : 0 ≤ r.lo → r.lo * r.lo ≤ a * a := fun h => sq_le h h1
  have hh : r.hi ≤ 0 → r.hi * r.hi ≤ a * a := fun h => sq_le_neg h h2
  unfold Rg.square Rg.has
  split <;> simp only <;> omega
def TBox.rx (b : TBox) : Rg := ⟨b.lo.x, b.hi.x⟩
def TBox.ry (b : TBox) : Rg := ⟨b.lo.y, b.hi.y⟩
def TBox.rz (b : TBox) : Rg := ⟨b.lo.z, b.hi.z⟩
def TBox.has (b : TBox) (s : V3) : Prop := b.rx.has s.x ∧ b.ry.has s.y ∧ b.rz.has s.z
def restR (tk : Int) (r : Rg) (d a : Int) : Rg := (r.times ⟨-a, -a⟩).plus ⟨tk * d, tk * d⟩
def TMod.prodR (m : TMod) (b : TBox) (p : V3) (t : Int) : Rg :=
  (((⟨0, 0⟩ : Rg).plus ((restR m.tk b.rx (p.x - m.px) (t - m.tm)).times b.rx)).plus ((restR m.tk b.ry (p.y - m.py) (t - m.tm)).times b.ry)).plus ((restR m.tk b.rz (p.z - m.pz) (t - m.tm)).times b.rz)
def TMod.leftR (m : TMod) (b : TBox) (p : V3) (t : Int) : Rg :=
  (((⟨0, 0⟩ : Rg).plus (restR m.tk b.rx (p.x - m.px) (t - m.tm)).square).plus (restR m.tk b.ry (p.y - m.py) (t - m.tm)).square).plus (restR m.tk b.rz (p.z - m.pz) (t - m.tm)).square
def TBox.squares (b : TBox) : Rg := (((⟨0, 0⟩ : Rg).plus b.rx.square).plus b.ry.square).plus b.rz.square
def TMod.fast (m : TMod) (b : TBox) : Rg := ⟨max b.squares.lo m.lo - m.slow, min b.squares.hi m.hi - m.slow⟩
/-- the answer for a box: 2 surely, 0 surely not, 1 undecided. -/
def ansR (prod left fast : Rg) : Int :=
  if left.hi = 0 ∨ (prod.hi ≤ 0 ∧ fast.hi * left.hi ≤ prod.hi * prod.hi) then 2 else if 0 < left.lo ∧ (0 < prod.lo ∨ prod.lo * prod.lo < fast.lo * left.lo) then 0 else 1
def TMod.ans (m : TMod) (b : TBox) (p : V3) (t : Int) : Int := ansR (m.prodR b p t) (m.leftR b p t) (m.fast b)
def TMod.permit (m : TMod) (s : V3) : Prop := m.lo ≤ s.dot s ∧ s.dot s ≤ m.hi
theorem rest_has {tk d a x : Int} {r : Rg} (h : r.has x) : (restR tk r d a).has (tk * d - a * x) := by
  have h1 := Rg.plus_has (Rg.times_has h (s := ⟨-a, -a⟩) (b := -a) ⟨Int.le_refl _, Int.le_refl _⟩) (s := ⟨tk * d, tk * d⟩) (b := tk * d) ⟨Int.le_refl _, Int.le_refl _⟩
  rwa [show x * -a + tk * d = tk * d - a * x by grind] at h1
theorem zero_has : (⟨0, 0⟩ : Rg).has 0 := ⟨Int.le_refl _, Int.le_refl _⟩
theorem prod_has {m : TMod} {b : TBox} {s p : V3} {t : Int} (h : b.has s) : (m.prodR b p t).has ((m.way s p t).dot s) := by
  have := Rg.plus_has (Rg.plus_has (Rg.plus_has zero_has (Rg.times_has (rest_has (tk := m.tk) (d := p.x - m.px) (a := t - m.tm) h.1) h.1)) (Rg.times_has (rest_has (tk := m.tk) (d := p.y - m.py) (a := t - m.tm) h.2.1) h.2.1)) (Rg.times_has (rest_has (tk := m.tk) (d := p.z - m.pz) (a := t - m.tm) h.2.2) h.2.2)
  rw [Int.zero_add] at this
  exact this
theorem left_has {m : TMod} {b : TBox} {s p : V3} {t : Int} (h : b.has s) : (m.leftR b p t).has ((m.way s p t).dot (m.way s p t)) := by
  have := Rg.plus_has (Rg.plus_has (Rg.plus_has zero_has (Rg.square_has (rest_has (tk := m.tk) (d := p.x - m.px) (a := t - m.tm) h.1))) (Rg.square_has (rest_has (tk := m.tk) (d := p.y - m.py) (a := t - m.tm) h.2.1))) (Rg.square_has (rest_has (tk := m.tk) (d := p.z - m.pz) (a := t - m.tm) h.2.2))
  rw [Int.zero_add] at this
  exact this
theorem squares_has {b : TBox} {s : V3} (h : b.has s) : b.squares.has (s.dot s) := by
  have := Rg.plus_has (Rg.plus_has (Rg.plus_has zero_has (Rg.square_has h.1)) (Rg.square_has h.2.1)) (Rg.square_has h.2.2)
  rw [Int.zero_add] at this
  exact this
theorem fast_has {m : TMod} {b : TBox} {s : V3} (h : b.has s) (hp : m.permit s) : (m.fast b).has (s.dot s - m.slow) := by
  have h1 := squares_has h
  unfold TMod.fast TMod.permit Rg.has at *; simp only; omega
/-- an answer that is sure holds for every permitted step of the box. -/
theorem ans_sure {m : TMod} {b : TBox} {s p : V3} {t : Int} (h : b.has s) (hp : m.permit s) (hsl : m.slow < m.lo) : (m.ans b p t = 2 → m.reached s p t = true) ∧ (m.ans b p t = 0 → m.reached s p t = false) := by
  have h1 := prod_has (m := m) (p := p) (t := t) h
  have h2 := left_has (m := m) (p := p) (t := t) h
  have h3 := fast_has h hp
  have h4 := V3.dot_self (m.way s p t)
  have h5 : 0 < s.dot s - m.slow := by have := hp.1; omega
  have h6 : 0 < (m.fast b).lo := by unfold TMod.fast; simp only; omega
  unfold TMod.reached reachB TMod.ans ansR
  generalize m.prodR b p t = P at *
  generalize m.leftR b p t = L at *
  generalize m.fast b = F at *
  generalize s.dot s - m.slow = A at *
  generalize (m.way s p t).dot s = B at *
  generalize (m.way s p t).dot (m.way s p t) = C at *
  obtain ⟨p1, p2⟩ := h1
  obtain ⟨l1, l2⟩ := h2
  obtain ⟨f1, f2⟩ := h3
  constructor
  · intro hh
    split at hh
    · next hc =>
      simp only [Bool.or_eq_true, Bool.and_eq_true, decide_eq_true_eq]
      rcases hc with hc | ⟨hc1, hc2⟩
      · left; omega
      · right
        refine ⟨by omega, ?_⟩
        have a1 := sq_le_neg hc1 p2
        have a2 : A * C ≤ F.hi * L.hi := Int.mul_le_mul f2 l2 h4 (by omega)
        omega
    · split at hh <;> omega
  · intro hh
    split at hh
    · omega
    · split at hh
      · next hc =>
        obtain ⟨hc1, hc2⟩ := hc
        simp only [Bool.or_eq_false_iff, Bool.and_eq_false_iff, decide_eq_false_iff_not]
        refine ⟨by omega, ?_⟩
        rcases hc2 with hc2 | hc2
        · left; omega
        · rcases Int.lt_or_le 0 B with hb | hb
          · left; omega
          · right
            have a1 := sq_le_neg hb p1
            have a2 : F.lo * L.lo ≤ A * C := Int.mul_le_mul f1 l1 (by omega) (by omega)
            omega
      · omega
structure THit where
  (p : V3)
  (t w : Int)
def TMod.pen (m : TMod) (s : V3) (h : THit) : Int :=
  if m.reached s h.p (h.t + m.ea) = false then h.w * m.mi else if m.reached s h.p (h.t - m.la - 1) = true then h.w * m.no else 0
def TMod.pens (m : TMod) (s : V3) (l : List THit) : List Int := l.map (m.pen s)
def TMod.score (m : TMod) (s : V3) (l : List THit) : Int := (m.pens s l).foldl (· + ·) 0
def ownR (early late miss noise : Int) : Rg :=
  ⟨if early = 0 ∧ late = 2 then min miss noise else if early = 0 then miss else if late = 2 then noise else 0,
   if late ≠ 0 then max (if early ≠ 2 then miss else 0) noise else if early ≠ 2 then miss else 0⟩
def TMod.hitR (m : TMod) (b : TBox) (h : THit) : Rg := ownR (m.ans b h.p (h.t + m.ea)) (m.ans b h.p (h.t - m.la - 1)) (h.w * m.mi) (h.w * m.no)
def TMod.scores (m : TMod) (b : TBox) (l : List THit) : Rg := l.foldl (fun r h => r.plus (m.hitR b h)) ⟨0, 0⟩
theorem pen_has {m : TMod} {b : TBox} {s : V3} {h : THit} (hb : b.has s) (hp : m.permit s) (hs : 0 ≤ m.slow) (hsl : m.slow < m.lo) (he : 0 ≤ m.ea ∧ 0 ≤ m.la) (hw : 0 ≤ h.w ∧ 0 ≤ m.mi ∧ 0 ≤ m.no) : (m.hitR b h).has (m.pen s h) := by
  have h1 := ans_sure (p := h.p) (t := h.t + m.ea) hb hp hsl
  have h2 := ans_sure (p := h.p) (t := h.t - m.la - 1) hb hp hsl
  have h3 : m.reached s h.p (h.t - m.la - 1) = true → m.reached s h.p (h.t + m.ea) = true := fun hr => reached_mono m s h.p hs (by have := hp.1; omega) (by omega) hr
  have h4 := Int.mul_nonneg hw.1 hw.2.1
  have h5 := Int.mul_nonneg hw.1 hw.2.2
  unfold TMod.hitR ownR TMod.pen Rg.has
  simp only
  generalize m.ans b h.p (h.t + m.ea) = E at *
  generalize m.ans b h.p (h.t - m.la - 1) = L at *
  generalize m.reached s h.p (h.t + m.ea) = re at *
  generalize m.reached s h.p (h.t - m.la - 1) = rl at *
  generalize h.w * m.mi = mi at *
  generalize h.w * m.no = no at *
  cases re <;> cases rl <;> simp at h1 h2 h3 ⊢ <;> constructor <;> (repeat' (first | omega | split))
theorem foldl_plus {α : Type} (f : α → Rg) (g : α → Int) : ∀ (l : List α) (r : Rg) (n : Int), r.has n → (∀ x ∈ l, (f x).has (g x)) → (l.foldl (fun r h => r.plus (f h)) r).has ((l.map g).foldl (· + ·) n) := by
  intro l
  induction l with
  | nil => intro r n h _; exact h
  | cons x l ih => intro r n h hx; exact ih _ _ (Rg.plus_has h (hx x (by simp))) (fun y hy => hx y (by simp [hy]))
theorem score_has {m : TMod} {b : TBox} {s : V3} {l : List THit} (hb : b.has s) (hp : m.permit s) (hs : 0 ≤ m.slow) (hsl : m.slow < m.lo) (he : 0 ≤ m.ea ∧ 0 ≤ m.la) (hw : 0 ≤ m.mi ∧ 0 ≤ m.no) (hl : ∀ h ∈ l, 0 ≤ h.w) : (m.scores b l).has (m.score s l) :=
  foldl_plus (m.hitR b) (m.pen s) l ⟨0, 0⟩ 0 zero_has (fun h hh => pen_has hb hp hs hsl he ⟨hl h hh, hw⟩)
def Rg.sub (r s : Rg) : Prop := s.lo ≤ r.lo ∧ r.hi ≤ s.hi
def Rg.ok (r : Rg) : Prop := r.lo ≤ r.hi
theorem Rg.plus_sub {r s r' s' : Rg} (h : r.sub r') (g : s.sub s') : (r.plus s).sub (r'.plus s') := by unfold Rg.sub Rg.plus at *; simp only; omega
theorem Rg.plus_ok {r s : Rg} (h : r.ok) (g : s.ok) : (r.plus s).ok := by unfold Rg.ok Rg.plus at *; simp only; omega
theorem Rg.ends {r r' : Rg} (h : r.sub r') (o : r.ok) : r'.has r.lo ∧ r'.has r.hi := by unfold Rg.sub Rg.ok Rg.has at *; omega
theorem Rg.times_sub {r s r' s' : Rg} (h : r.sub r') (g : s.sub s') (o : r.ok) (p : s.ok) : (r.times s).sub (r'.times s') := by
  obtain ⟨h1, h2⟩ := Rg.ends h o
  obtain ⟨g1, g2⟩ := Rg.ends g p
  have a := Rg.times_has h1 g1
  have b := Rg.times_has h1 g2
  have c := Rg.times_has h2 g1
  have d := Rg.times_has h2 g2
  generalize r'.times s' = T at *
  unfold Rg.times Rg.sub Rg.has mn4 mx4 at *
  simp only; omega
theorem Rg.times_ok (r s : Rg) : (r.times s).ok := by unfold Rg.times Rg.ok mn4 mx4; simp only; omega
theorem Rg.square_ok (r : Rg) : r.square.ok ∧ 0 ≤ r.square.lo := by
  have h1 := sq_nn r.lo
  have h2 := sq_nn r.hi
  unfold Rg.square Rg.ok
  split <;> simp only <;> omega
theorem Rg.square_sub {r r' : Rg} (h : r.sub r') (o : r.ok) : r.square.sub r'.square := by
  obtain ⟨h1, h2⟩ := Rg.ends h o
  have a := Rg.square_has h1
  have b := Rg.square_has h2
  by_cases h0 : r.lo ≤ 0 ∧ 0 ≤ r.hi
  · have c : r'.square.has (0 * 0) := Rg.square_has (by unfold Rg.has at *; omega)
    generalize r'.square = T at *
    unfold Rg.square Rg.sub Rg.has at *
    rw [if_pos h0]; simp only; omega
  · generalize r'.square = T at *
    unfold Rg.square Rg.sub Rg.has at *
    rw [if_neg h0]; simp only; omega
def TBox.sub (b c : TBox) : Prop := b.rx.sub c.rx ∧ b.ry.sub c.ry ∧ b.rz.sub c.rz
def TBox.ok (b : TBox) : Prop := b.rx.ok ∧ b.ry.ok ∧ b.rz.ok
theorem Rg.sub_rfl (r : Rg) : r.sub r := ⟨Int.le_refl _, Int.le_refl _⟩
theorem rest_sub {tk d a : Int} {r r' : Rg} (h : r.sub r') (o : r.ok) : (restR tk r d a).sub (restR tk r' d a) := Rg.plus_sub (Rg.times_sub h (Rg.sub_rfl _) o (Int.le_refl _)) (Rg.sub_rfl _)
theorem rest_ok (tk d a : Int) (r : Rg) : (restR tk r d a).ok := Rg.plus_ok (Rg.times_ok _ _) (Int.le_refl _)
theorem prod_sub {m : TMod} {b c : TBox} {p : V3} {t : Int} (h : b.sub c) (o : b.ok) : (m.prodR b p t).sub (m.prodR c p t) ∧ (m.prodR b p t).ok :=
  ⟨Rg.plus_sub (Rg.plus_sub (Rg.plus_sub (Rg.sub_rfl _) (Rg.times_sub (rest_sub h.1 o.1) h.1 (rest_ok ..) o.1)) (Rg.times_sub (rest_sub h.2.1 o.2.1) h.2.1 (rest_ok ..) o.2.1)) (Rg.times_sub (rest_sub h.2.2 o.2.2) h.2.2 (rest_ok ..) o.2.2),
   Rg.plus_ok (Rg.plus_ok (Rg.plus_ok (Int.le_refl _) (Rg.times_ok ..)) (Rg.times_ok ..)) (Rg.times_ok ..)⟩
theorem left_sub {m : TMod} {b c : TBox} {p : V3} {t : Int} (h : b.sub c) (o : b.ok) : (m.leftR b p t).sub (m.leftR c p t) ∧ (m.leftR b p t).ok ∧ 0 ≤ (m.leftR b p t).lo := by
  refine ⟨Rg.plus_sub (Rg.plus_sub (Rg.plus_sub (Rg.sub_rfl _) (Rg.square_sub (rest_sub h.1 o.1) (rest_ok ..))) (Rg.square_sub (rest_sub h.2.1 o.2.1) (rest_ok ..))) (Rg.square_sub (rest_sub h.2.2 o.2.2) (rest_ok ..)),
   Rg.plus_ok (Rg.plus_ok (Rg.plus_ok (Int.le_refl _) (Rg.square_ok _).1) (Rg.square_ok _).1) (Rg.square_ok _).1, ?_⟩
  have h1 := (Rg.square_ok (restR m.tk b.rx (p.x - m.px) (t - m.tm))).2
  have h2 := (Rg.square_ok (restR m.tk b.ry (p.y - m.py) (t - m.tm))).2
  have h3 := (Rg.square_ok (restR m.tk b.rz (p.z - m.pz) (t - m.tm))).2
  unfold TMod.leftR Rg.plus; simp only; omega
theorem squares_sub {b c : TBox} (h : b.sub c) (o : b.ok) : b.squares.sub c.squares ∧ b.squares.ok :=
  ⟨Rg.plus_sub (Rg.plus_sub (Rg.plus_sub (Rg.sub_rfl _) (Rg.square_sub h.1 o.1)) (Rg.square_sub h.2.1 o.2.1)) (Rg.square_sub h.2.2 o.2.2),
   Rg.plus_ok (Rg.plus_ok (Rg.plus_ok (Int.le_refl _) (Rg.square_ok _).1) (Rg.square_ok _).1) (Rg.square_ok _).1⟩
/-- a box may have a permitted step. -/
def TMod.canBe (m : TMod) (b : TBox) : Prop := m.lo ≤ b.squares.hi ∧ b.squares.lo ≤ m.hi
theorem canBe_of {m : TMod} {b : TBox} {s : V3} (h : b.has s) (hp : m.permit s) : m.canBe b := by
  have := squares_has h; unfold TMod.canBe TMod.permit Rg.has at *; omega
theorem canBe_sub {m : TMod} {b c : TBox} (h : b.sub c) (o : b.ok) (hb : m.canBe b) : m.canBe c := by
  have := (squares_sub h o).1; unfold TMod.canBe Rg.sub at *; omega
theorem fast_sub {m : TMod} {b c : TBox} (h : b.sub c) (o : b.ok) (hb : m.canBe b) (hm : m.lo ≤ m.hi) (hsl : m.slow < m.lo) : (m.fast b).sub (m.fast c) ∧ (m.fast b).ok ∧ 0 < (m.fast b).lo := by
  obtain ⟨h1, h2⟩ := squares_sub h o
  unfold TMod.fast TMod.canBe Rg.sub Rg.ok at *; simp only; omega
/-- a part of a box has an answer that is not less sure. -/
theorem ans_part {m : TMod} {b c : TBox} {p : V3} {t : Int} (h : b.sub c) (o : b.ok) (hb : m.canBe b) (hm : m.lo ≤ m.hi) (hsl : m.slow < m.lo) : (m.ans c p t = 2 → m.ans b p t = 2) ∧ (m.ans c p t = 0 → m.ans b p t = 0) := by
  obtain ⟨p1, p2⟩ := prod_sub (m := m) (p := p) (t := t) h o
  obtain ⟨l1, l2, l3⟩ := left_sub (m := m) (p := p) (t := t) h o
  obtain ⟨f1, f2, f3⟩ := fast_sub h o hb hm hsl
  have f4 : 0 < (m.fast c).lo := by unfold TMod.fast; simp only; omega
  unfold TMod.ans
  generalize m.prodR b p t = P at *
  generalize m.leftR b p t = L at *
  generalize m.fast b = F at *
  generalize m.prodR c p t = P' at *
  generalize m.leftR c p t = L' at *
  generalize m.fast c = F' at *
  unfold Rg.sub Rg.ok at *
  unfold ansR
  constructor
  · intro hh
    split at hh
    · next hc =>
      rw [if_pos]
      rcases hc with hc | ⟨hc1, hc2⟩
      · left; omega
      · right
        refine ⟨by omega, ?_⟩
        have a1 := sq_le_neg hc1 p1.2
        have a2 : F.hi * L.hi ≤ F'.hi * L'.hi := Int.mul_le_mul f1.2 l1.2 (by omega) (by omega)
        omega
    · split at hh <;> omega
  · intro hh
    split at hh
    · omega
    · split at hh
      · next hc =>
        obtain ⟨hc1, hc2⟩ := hc
        have b2 : F'.lo * L'.lo ≤ F.lo * L.lo := Int.mul_le_mul f1.1 l1.1 (by omega) (by omega)
        have b3 : F.lo * L.lo ≤ F.hi * L.hi := Int.mul_le_mul f2 l2 (by omega) (by omega)
        rw [if_neg, if_pos]
        · refine ⟨by omega, ?_⟩
          rcases Int.lt_or_le 0 P.lo with h0 | h0
          · left; exact h0
          · right
            rcases hc2 with hc2 | hc2
            · omega
            · have b1 := sq_le_neg h0 p1.1
              omega
        · rintro (h0 | ⟨h0, h9⟩)
          · omega
          · rcases hc2 with hc2 | hc2
            · omega
            · have b1 := sq_le_neg h0 p2
              have b4 := sq_le_neg (show P.lo ≤ 0 by omega) p1.1
              omega
      · omega
theorem hit_part {m : TMod} {b c : TBox} {x : THit} (h : b.sub c) (o : b.ok) (hb : m.canBe b) (hm : m.lo ≤ m.hi) (hs : 0 ≤ m.slow) (hsl : m.slow < m.lo) (he : 0 ≤ m.ea ∧ 0 ≤ m.la) (hw : 0 ≤ x.w ∧ 0 ≤ m.mi ∧ 0 ≤ m.no) :
    (m.hitR b x).hi ≤ (m.hitR c x).hi ∧ ((∃ s, b.has s ∧ m.permit s) → (m.hitR c x).lo ≤ (m.hitR b x).lo) := by
  have h1 := ans_part (p := x.p) (t := x.t + m.ea) h o hb hm hsl
  have h2 := ans_part (p := x.p) (t := x.t - m.la - 1) h o hb hm hsl
  have h3 : (∃ s, b.has s ∧ m.permit s) → ¬ (m.ans b x.p (x.t + m.ea) = 0 ∧ m.ans b x.p (x.t - m.la - 1) = 2) := by
    rintro ⟨s, hbs, hp⟩ ⟨e1, e2⟩
    have a1 := (ans_sure (p := x.p) (t := x.t + m.ea) hbs hp hsl).2 e1
    have a2 := (ans_sure (p := x.p) (t := x.t - m.la - 1) hbs hp hsl).1 e2
    have a3 := reached_mono m s x.p hs (by have := hp.1; omega) (show x.t - m.la - 1 ≤ x.t + m.ea by omega) a2
    rw [a1] at a3; cases a3
  have h4 := Int.mul_nonneg hw.1 hw.2.1
  have h5 := Int.mul_nonneg hw.1 hw.2.2
  generalize (∃ s, b.has s ∧ m.permit s) = S at *
  unfold TMod.hitR ownR
  simp only
  generalize m.ans b x.p (x.t + m.ea) = E at *
  generalize m.ans b x.p (x.t - m.la - 1) = L at *
  generalize m.ans c x.p (x.t + m.ea) = E' at *
  generalize m.ans c x.p (x.t - m.la - 1) = L' at *
  generalize x.w * m.mi = mi at *
  generalize x.w * m.no = no at *
  constructor
  · repeat' (first | omega | split)
  · intro hS
    have h6 := h3 hS
    repeat' (first | omega | split)
theorem scores_part {m : TMod} {b c : TBox} {l : List THit} (h : b.sub c) (o : b.ok) (hb : m.canBe b) (hm : m.lo ≤ m.hi) (hs : 0 ≤ m.slow) (hsl : m.slow < m.lo) (he : 0 ≤ m.ea ∧ 0 ≤ m.la) (hw : 0 ≤ m.mi ∧ 0 ≤ m.no) (hl : ∀ x ∈ l, 0 ≤ x.w) :
    (m.scores b l).hi ≤ (m.scores c l).hi ∧ ((∃ s, b.has s ∧ m.permit s) → (m.scores c l).lo ≤ (m.scores b l).lo) := by
  have key : ∀ (l : List THit) (r r' : Rg), (∀ x ∈ l, 0 ≤ x.w) → r.hi ≤ r'.hi → ((∃ s, b.has s ∧ m.permit s) → r'.lo ≤ r.lo) →
      (l.foldl (fun r h => r.plus (m.hitR b h)) r).hi ≤ (l.foldl (fun r h => r.plus (m.hitR c h)) r').hi ∧ ((∃ s, b.has s ∧ m.permit s) → (l.foldl (fun r h => r.plus (m.hitR c h)) r').lo ≤ (l.foldl (fun r h => r.plus (m.hitR b h)) r).lo) := by
    intro l
    induction l with
    | nil => intro r r' _ h1 h2; exact ⟨h1, h2⟩
    | cons x l ih =>
      intro r r' hl h1 h2
      obtain ⟨a1, a2⟩ := hit_part (x := x) h o hb hm hs hsl he ⟨hl x (by simp), hw⟩
      refine ih _ _ (fun y hy => hl y (by simp [hy])) ?_ (fun hS => ?_)
      · unfold Rg.plus; simp only; omega
      · have b1 := a2 hS
        have b2 := h2 hS
        unfold Rg.plus; simp only; omega
  exact key l ⟨0, 0⟩ ⟨0, 0⟩ hl (Int.le_refl _) (fun _ => Int.le_refl _)
/-- which side of a box is divided, and where. -/
def TBox.side (b : TBox) : Nat :=
  let s1 := if b.hi.x - b.lo.x < b.hi.y - b.lo.y then 1 else 0
  if (if s1 = 1 then b.hi.y - b.lo.y else b.hi.x - b.lo.x) < b.hi.z - b.lo.z then 2 else s1
def TBox.half1 (b : TBox) : TBox := match b.side with
  | 0 => ⟨b.lo, ⟨b.lo.x + (b.hi.x - b.lo.x) / 2, b.hi.y, b.hi.z⟩⟩
  | 1 => ⟨b.lo, ⟨b.hi.x, b.lo.y + (b.hi.y - b.lo.y) / 2, b.hi.z⟩⟩
  | _ => ⟨b.lo, ⟨b.hi.x, b.hi.y, b.lo.z + (b.hi.z - b.lo.z) / 2⟩⟩
def TBox.half2 (b : TBox) : TBox := match b.side with
  | 0 => ⟨⟨b.lo.x + (b.hi.x - b.lo.x) / 2 + 1, b.lo.y, b.lo.z⟩, b.hi⟩
  | 1 => ⟨⟨b.lo.x, b.lo.y + (b.hi.y - b.lo.y) / 2 + 1, b.lo.z⟩, b.hi⟩
  | _ => ⟨⟨b.lo.x, b.lo.y, b.lo.z + (b.hi.z - b.lo.z) / 2 + 1⟩, b.hi⟩
def TBox.count (b : TBox) : Int := (b.hi.x - b.lo.x + 1) * (b.hi.y - b.lo.y + 1) * (b.hi.z - b.lo.z + 1)
theorem side_cases (b : TBox) : (b.side = 0 ∧ b.hi.y - b.lo.y ≤ b.hi.x - b.lo.x ∧ b.hi.z - b.lo.z ≤ b.hi.x - b.lo.x) ∨ (b.side = 1 ∧ b.hi.x - b.lo.x < b.hi.y - b.lo.y ∧ b.hi.z - b.lo.z ≤ b.hi.y - b.lo.y) ∨ (b.side = 2 ∧ b.hi.x - b.lo.x < b.hi.z - b.lo.z ∧ b.hi.y - b.lo.y < b.hi.z - b.lo.z) := by
  unfold TBox.side
  by_cases h1 : b.hi.x - b.lo.x < b.hi.y - b.lo.y
  · simp only [if_pos h1, if_true]
    by_cases h2 : b.hi.y - b.lo.y < b.hi.z - b.lo.z
    · rw [if_pos h2]; omega
    · rw [if_neg h2]; omega
  · simp only [if_neg h1, if_neg (show ¬ (0 = 1) by decide)]
    by_cases h2 : b.hi.x - b.lo.x < b.hi.z - b.lo.z
    · rw [if_pos h2]; omega
    · rw [if_neg h2]; omega
theorem halves_sub {b : TBox} (o : b.ok) (hne : b.lo.x < b.hi.x ∨ b.lo.y < b.hi.y ∨ b.lo.z < b.hi.z) : b.half1.sub b ∧ b.half1.ok ∧ b.half2.sub b ∧ b.half2.ok := by
  unfold TBox.ok TBox.rx TBox.ry TBox.rz Rg.ok at o
  simp only at o
  unfold TBox.half1 TBox.half2
  rcases side_cases b with ⟨h, h1, h2⟩ | ⟨h, h1, h2⟩ | ⟨h, h1, h2⟩
  all_goals
    rw [h]
    simp only [TBox.sub, TBox.ok, TBox.rx, TBox.ry, TBox.rz, Rg.sub, Rg.ok]
    omega
theorem halves_has {b : TBox} (s : V3) : b.has s → b.half1.has s ∨ b.half2.has s := by
  unfold TBox.has TBox.half1 TBox.half2
  rcases side_cases b with ⟨h, _, _⟩ | ⟨h, _, _⟩ | ⟨h, _, _⟩
  all_goals
    rw [h]
    simp only [TBox.rx, TBox.ry, TBox.rz, Rg.has]
    omega
theorem sub_has {b c : TBox} {s : V3} (h : b.sub c) (hs : b.has s) : c.has s := by
  unfold TBox.has TBox.sub TBox.rx TBox.ry TBox.rz Rg.has Rg.sub at *; simp only at *; omega
theorem halves_iff {b : TBox} (o : b.ok) (hne : b.lo.x < b.hi.x ∨ b.lo.y < b.hi.y ∨ b.lo.z < b.hi.z) (s : V3) : b.has s ↔ b.half1.has s ∨ b.half2.has s := by
  obtain ⟨h1, _, h2, _⟩ := halves_sub o hne
  exact ⟨halves_has s, fun h => h.elim (sub_has h1) (sub_has h2)⟩
theorem halves_apart {b : TBox} (s : V3) : ¬ (b.half1.has s ∧ b.half2.has s) := by
  unfold TBox.has TBox.half1 TBox.half2
  rcases side_cases b with ⟨h, _, _⟩ | ⟨h, _, _⟩ | ⟨h, _, _⟩
  all_goals
    rw [h]
    simp only [TBox.rx, TBox.ry, TBox.rz, Rg.has]
    omega
theorem halves_count (b : TBox) : b.half1.count + b.half2.count = b.count := by
  unfold TBox.count TBox.half1 TBox.half2
  rcases side_cases b with ⟨h, _, _⟩ | ⟨h, _, _⟩ | ⟨h, _, _⟩
  all_goals
    rw [h]
    simp only
  · generalize (b.hi.x - b.lo.x) / 2 = q; grind
  · generalize (b.hi.y - b.lo.y) / 2 = q; grind
  · generalize (b.hi.z - b.lo.z) / 2 = q; grind
theorem count_pos {b : TBox} (o : b.ok) : 0 < b.count := by
  unfold TBox.ok TBox.rx TBox.ry TBox.rz Rg.ok at o; simp only at o
  unfold TBox.count
  exact Int.mul_pos (Int.mul_pos (by omega) (by omega)) (by omega)
theorem count_one {b : TBox} (o : b.ok) : b.count = 1 ↔ b.lo = b.hi := by
  have o' := o
  unfold TBox.ok TBox.rx TBox.ry TBox.rz Rg.ok at o; simp only at o
  constructor
  · intro h
    obtain ⟨⟨lx, ly, lz⟩, ⟨hx, hy, hz⟩⟩ := b
    simp only [TBox.count] at *
    have a1 : 1 ≤ hx - lx + 1 := by omega
    have a2 : 1 ≤ hy - ly + 1 := by omega
    have a3 : 1 ≤ hz - lz + 1 := by omega
    generalize eX : hx - lx + 1 = X at *
    generalize eY : hy - ly + 1 = Y at *
    generalize eZ : hz - lz + 1 = Z at *
    have b1 := Int.mul_le_mul a1 a2 (by omega) (by omega : 0 ≤ X)
    have b2 : X * Y ≤ X * Y * Z := by have := Int.mul_le_mul_of_nonneg_left a3 (show 0 ≤ X * Y by omega); omega
    have c1 : X * Y = 1 := by omega
    have c2 : X ≤ X * Y := by have := Int.mul_le_mul_of_nonneg_left a2 (show 0 ≤ X by omega); omega
    have c3 : Y ≤ X * Y := by have := Int.mul_le_mul_of_nonneg_right a1 (show 0 ≤ Y by omega); omega
    have c4 : Z = 1 := by rw [c1] at h; omega
    simp only [V3.mk.injEq]; omega
  · intro h
    unfold TBox.count; rw [h]; simp
/-- a range of one number. -/
theorem one_times (a b : Int) : (⟨a, a⟩ : Rg).times ⟨b, b⟩ = ⟨a * b, a * b⟩ := by unfold Rg.times mn4 mx4; simp
theorem one_square (a : Int) : (⟨a, a⟩ : Rg).square = ⟨a * a, a * a⟩ := by
  unfold Rg.square
  split
  · next h => have : a = 0 := by simp only at h; omega
              subst this; simp
  · simp
theorem one_rest (tk a d x : Int) : restR tk ⟨x, x⟩ d a = ⟨tk * d - a * x, tk * d - a * x⟩ := by
  unfold restR
  rw [one_times]
  unfold Rg.plus
  simp only [Rg.mk.injEq]
  constructor <;> grind
/-- the answers and the scores for a box of one permitted step are its own. -/
theorem ans_one {m : TMod} {s p : V3} {t : Int} (hp : m.permit s) (hsl : m.slow < m.lo) : m.ans ⟨s, s⟩ p t = if m.reached s p t = true then 2 else 0 := by
  have h1 : m.prodR ⟨s, s⟩ p t = ⟨(m.way s p t).dot s, (m.way s p t).dot s⟩ := by
    unfold TMod.prodR TBox.rx TBox.ry TBox.rz
    simp only [one_rest, one_times, Rg.plus, TMod.way, V3.dot, Int.zero_add]
  have h2 : m.leftR ⟨s, s⟩ p t = ⟨(m.way s p t).dot (m.way s p t), (m.way s p t).dot (m.way s p t)⟩ := by
    unfold TMod.leftR TBox.rx TBox.ry TBox.rz
    simp only [one_rest, one_square, Rg.plus, TMod.way, V3.dot, Int.zero_add]
  have h3 : m.fast ⟨s, s⟩ = ⟨s.dot s - m.slow, s.dot s - m.slow⟩ := by
    have h4 : (⟨s, s⟩ : TBox).squares = ⟨s.dot s, s.dot s⟩ := by
      unfold TBox.squares TBox.rx TBox.ry TBox.rz
      simp only [one_square, Rg.plus, V3.dot, Int.zero_add]
    unfold TMod.fast
    rw [h4]
    have := hp
    unfold TMod.permit at this
    simp only [Rg.mk.injEq]
    omega
  have h5 := V3.dot_self (m.way s p t)
  unfold TMod.ans
  rw [h1, h2, h3]
  unfold ansR TMod.reached reachB
  simp only
  generalize (m.way s p t).dot s = B at *
  generalize (m.way s p t).dot (m.way s p t) = C at *
  have h6 : 0 < s.dot s - m.slow := by have := hp.1; omega
  generalize s.dot s - m.slow = A at *
  by_cases hc : C = 0
  · simp [hc]
  · by_cases hb : B ≤ 0
    · by_cases hq : A * C ≤ B * B
      · simp [hc, hb, hq]
      · rw [if_neg (by omega), if_pos (by omega)]; simp [hc, hq]
    · rw [if_neg (by omega), if_pos (by omega)]; simp [hc, hb]
theorem own_one (re rl : Bool) (mi no : Int) (h : rl = true → re = true) (hn : 0 ≤ no) : ownR (if re = true then 2 else 0) (if rl = true then 2 else 0) mi no = (let v := if re = false then mi else if rl = true then no else 0; ⟨v, v⟩) := by
  cases re <;> cases rl <;> simp [ownR] at h ⊢ <;> omega
theorem scores_one {m : TMod} {s : V3} {l : List THit} (hp : m.permit s) (hs : 0 ≤ m.slow) (hsl : m.slow < m.lo) (he : 0 ≤ m.ea ∧ 0 ≤ m.la) (hw : 0 ≤ m.mi ∧ 0 ≤ m.no) (hl : ∀ h ∈ l, 0 ≤ h.w) : m.scores ⟨s, s⟩ l = ⟨m.score s l, m.score s l⟩ := by
  have key : ∀ (l : List THit) (n : Int), (∀ h ∈ l, 0 ≤ h.w) → l.foldl (fun (r : Rg) h => r.plus (m.hitR ⟨s, s⟩ h)) (⟨n, n⟩ : Rg) = (⟨(l.map (m.pen s)).foldl (· + ·) n, (l.map (m.pen s)).foldl (· + ·) n⟩ : Rg) := by
    intro l
    induction l with
    | nil => intro n _; rfl
    | cons x l ih =>
      intro n hl
      have hx := hl x (by simp)
      have e : m.hitR ⟨s, s⟩ x = ⟨m.pen s x, m.pen s x⟩ := by
        unfold TMod.hitR
        rw [ans_one hp hsl, ans_one hp hsl, own_one _ _ _ _ (fun hr => reached_mono m s x.p hs (by have := hp.1; omega) (by omega) hr) (Int.mul_nonneg hx hw.2)]
        rfl
      simp only [List.foldl_cons, List.map_cons]
      rw [e]
      exact ih (n + m.pen s x) (fun h hh => hl h (by simp [hh]))
  exact key l 0 hl
theorem canBe_one {m : TMod} {s : V3} (h : m.canBe ⟨s, s⟩) : m.permit s := by
  have h4 : (⟨s, s⟩ : TBox).squares = ⟨s.dot s, s.dot s⟩ := by
    unfold TBox.squares TBox.rx TBox.ry TBox.rz
    simp only [one_square, Rg.plus, V3.dot, Int.zero_add]
  unfold TMod.canBe at h; rw [h4] at h; exact h
/-- the numbers from lo to hi, and the steps of a box, ascending. -/
def upto (lo hi : Int) : List Int := (List.range (hi - lo + 1).toNat).map (fun k : Nat => lo + (k : Int))
def TBox.all (b : TBox) : List V3 := (upto b.lo.x b.hi.x).flatMap fun x => (upto b.lo.y b.hi.y).flatMap fun y => (upto b.lo.z b.hi.z).map fun z => ⟨x, y, z⟩
def TMod.permB (m : TMod) (s : V3) : Bool := decide (m.lo ≤ s.dot s) && decide (s.dot s ≤ m.hi)
theorem permB_iff {m : TMod} {s : V3} : m.permB s = true ↔ m.permit s := by simp [TMod.permB, TMod.permit]
def TMod.steps (m : TMod) (b : TBox) : List V3 := b.all.filter m.permB
theorem mem_upto {lo hi n : Int} : n ∈ upto lo hi ↔ lo ≤ n ∧ n ≤ hi := by
  unfold upto
  rw [List.mem_map]
  constructor
  · rintro ⟨k, hk, rfl⟩; have := List.mem_range.1 hk; omega
  · rintro ⟨h1, h2⟩; exact ⟨(n - lo).toNat, List.mem_range.2 (by omega), by omega⟩
theorem mem_all {b : TBox} {s : V3} : s ∈ b.all ↔ b.has s := by
  unfold TBox.all TBox.has TBox.rx TBox.ry TBox.rz Rg.has
  simp only [List.mem_flatMap, List.mem_map, mem_upto]
  constructor
  · rintro ⟨x, hx, y, hy, z, hz, rfl⟩; exact ⟨hx, hy, hz⟩
  · rintro ⟨hx, hy, hz⟩; exact ⟨_, hx, _, hy, _, hz, rfl⟩
theorem mem_steps {m : TMod} {b : TBox} {s : V3} : s ∈ m.steps b ↔ b.has s ∧ m.permit s := by
  unfold TMod.steps; rw [List.mem_filter, mem_all, permB_iff]
def lexB (a b : V3) : Prop := a.x < b.x ∨ (a.x = b.x ∧ (a.y < b.y ∨ (a.y = b.y ∧ a.z < b.z)))
theorem upto_sorted (lo hi : Int) : (upto lo hi).Pairwise (· < ·) := by
  unfold upto
  rw [List.pairwise_map]
  exact List.pairwise_lt_range.imp (fun h => by omega)
theorem all_sorted (b : TBox) : b.all.Pairwise lexB := by
  unfold TBox.all
  rw [List.pairwise_flatMap]
  constructor
  · intro x hx
    rw [List.pairwise_flatMap]
    constructor
    · intro y hy
      rw [List.pairwise_map]
      exact (upto_sorted _ _).imp (fun h => Or.inr ⟨rfl, Or.inr ⟨rfl, h⟩⟩)
    · exact (upto_sorted _ _).imp (fun h a ha c hc => by
        simp only [List.mem_map] at ha hc
        obtain ⟨_, _, rfl⟩ := ha
        obtain ⟨_, _, rfl⟩ := hc
        exact Or.inr ⟨rfl, Or.inl h⟩)
  · exact (upto_sorted _ _).imp (fun h a ha c hc => by
      simp only [List.mem_flatMap, List.mem_map] at ha hc
      obtain ⟨_, _, _, _, rfl⟩ := ha
      obtain ⟨_, _, _, _, rfl⟩ := hc
      exact Or.inl h)
theorem steps_sorted (m : TMod) (b : TBox) : (m.steps b).Pairwise lexB := (all_sorted b).filter _
theorem len_upto (lo hi : Int) : (upto lo hi).length = (hi - lo + 1).toNat := by unfold upto; simp
theorem len_flat {α β : Type} (f : α → List β) (n : Nat) : ∀ (l : List α), (∀ x ∈ l, (f x).length = n) → (l.flatMap f).length = l.length * n := by
  intro l
  induction l with
  | nil => intro _; simp
  | cons x l ih => intro h; rw [List.flatMap_cons, List.length_append, ih (fun y hy => h y (by simp [hy])), h x (by simp), List.length_cons, Nat.succ_mul, Nat.add_comm]
theorem len_all {b : TBox} (o : b.ok) : (b.all.length : Int) = b.count := by
  unfold TBox.ok TBox.rx TBox.ry TBox.rz Rg.ok at o; simp only at o
  unfold TBox.all TBox.count
  rw [len_flat _ ((upto b.lo.y b.hi.y).length * (upto b.lo.z b.hi.z).length) _ (fun x _ => len_flat _ (upto b.lo.z b.hi.z).length _ (fun y _ => by rw [List.length_map])), len_upto, len_upto, len_upto]
  push_cast
  rw [Int.toNat_of_nonneg (by omega), Int.toNat_of_nonneg (by omega), Int.toNat_of_nonneg (by omega), Int.mul_assoc]
/-- one step is better than another: a smaller score, or the same one and it comes first. -/
def TMod.better (m : TMod) (l : List THit) (a b : V3) : Prop := m.score a l < m.score b l ∨ (m.score a l = m.score b l ∧ lexB a b)
def TMod.isBest (m : TMod) (l : List THit) (S : V3 → Prop) (s : V3) : Prop := S s ∧ ∀ u, S u → u = s ∨ m.better l s u
/-- what is known of steps: none, or the best one. -/
def TMod.knows (m : TMod) (l : List THit) (S : V3 → Prop) : Option V3 → Prop
  | none => ∀ s, ¬ S s
  | some s => m.isBest l S s
theorem lexB_irr (a : V3) : ¬ lexB a a := by unfold lexB; omega
theorem lexB_trans {a b c : V3} (h : lexB a b) (g : lexB b c) : lexB a c := by unfold lexB at *; omega
theorem lexB_total (a b : V3) : a = b ∨ lexB a b ∨ lexB b a := by
  obtain ⟨a1, a2, a3⟩ := a
  obtain ⟨b1, b2, b3⟩ := b
  unfold lexB; simp only [V3.mk.injEq]; omega
theorem better_trans {m : TMod} {l : List THit} {a b c : V3} (h : m.better l a b) (g : m.better l b c) : m.better l a c := by
  unfold TMod.better at *
  rcases h with h | ⟨h, h'⟩ <;> rcases g with g | ⟨g, g'⟩
  · left; omega
  · left; omega
  · left; omega
  · right; exact ⟨by omega, lexB_trans h' g'⟩
theorem better_irr {m : TMod} {l : List THit} {a b : V3} (h : m.better l a b) (g : m.better l b a) : False := by
  have := better_trans h g
  unfold TMod.better at this
  rcases this with h | ⟨_, h⟩
  · omega
  · exact lexB_irr _ h
theorem better_total {m : TMod} {l : List THit} (a b : V3) : a = b ∨ m.better l a b ∨ m.better l b a := by
  unfold TMod.better
  rcases Int.lt_trichotomy (m.score a l) (m.score b l) with h | h | h
  · exact Or.inr (Or.inl (Or.inl h))
  · rcases lexB_total a b with g | g | g
    · exact Or.inl g
    · exact Or.inr (Or.inl (Or.inr ⟨h, g⟩))
    · exact Or.inr (Or.inr (Or.inr ⟨h.symm, g⟩))
  · exact Or.inr (Or.inr (Or.inl h))
theorem best_unique {m : TMod} {l : List THit} {S : V3 → Prop} {a b : V3} (h : m.isBest l S a) (g : m.isBest l S b) : a = b := by
  rcases h.2 b g.1 with h1 | h1
  · exact h1.symm
  · rcases g.2 a h.1 with h2 | h2
    · exact h2
    · exact (better_irr h1 h2).elim
theorem knows_unique {m : TMod} {l : List THit} {S : V3 → Prop} {a b : Option V3} (h : m.knows l S a) (g : m.knows l S b) : a = b := by
  cases a <;> cases b
  · rfl
  · exact (h _ g.1).elim
  · exact (g _ h.1).elim
  · exact congrArg some (best_unique h g)
theorem knows_congr {m : TMod} {l : List THit} {S T : V3 → Prop} {o : Option V3} (h : m.knows l S o) (e : ∀ s, S s ↔ T s) : m.knows l T o := by
  have : S = T := funext fun s => propext (e s)
  rwa [← this]
/-- a further step. -/
theorem knows_add {m : TMod} {l : List THit} {S : V3 → Prop} {s u : V3} (h : m.isBest l S s) : (m.better l u s → m.isBest l (fun x => S x ∨ x = u) u) ∧ (¬ m.better l u s → m.isBest l (fun x => S x ∨ x = u) s) := by
  constructor
  · intro hb
    refine ⟨Or.inr rfl, fun x hx => ?_⟩
    rcases hx with hx | rfl
    · rcases h.2 x hx with rfl | h2
      · exact Or.inr hb
      · exact Or.inr (better_trans hb h2)
    · exact Or.inl rfl
  · intro hb
    refine ⟨Or.inl h.1, fun x hx => ?_⟩
    rcases hx with hx | rfl
    · exact h.2 x hx
    · rcases better_total (m := m) (l := l) x s with h1 | h1 | h1
      · exact Or.inl h1
      · exact (hb h1).elim
      · exact Or.inr h1
theorem knows_first {m : TMod} {l : List THit} {S : V3 → Prop} (u : V3) (h : ∀ s, ¬ S s) : m.isBest l (fun x => S x ∨ x = u) u :=
  ⟨Or.inr rfl, fun x hx => hx.elim (fun h1 => (h x h1).elim) Or.inl⟩
/-- steps that are all worse change nothing. -/
theorem knows_worse {m : TMod} {l : List THit} {S T : V3 → Prop} {s : V3} (h : m.isBest l S s) (hT : ∀ u, T u → m.score s l < m.score u l) : m.isBest l (fun x => S x ∨ T x) s :=
  ⟨Or.inl h.1, fun x hx => hx.elim (h.2 x) (fun h1 => Or.inr (Or.inl (hT x h1)))⟩
/-- the reference's scan for the best step. -/
def TMod.bestF (m : TMod) (l : List THit) : List V3 → Option V3
  | [] => none
  | s :: r => some (r.foldl (fun a u => if m.score u l < m.score a l then u else a) s)
theorem scan_best (m : TMod) (l : List THit) : ∀ (r : List V3) (S : V3 → Prop) (a : V3), m.isBest l S a → (∀ u ∈ r, ∀ x, S x → lexB x u) → r.Pairwise lexB → m.isBest l (fun x => S x ∨ x ∈ r) (r.foldl (fun a u => if m.score u l < m.score a l then u else a) a) := by
  intro r
  induction r with
  | nil => intro S a h _ _; exact ⟨Or.inl h.1, fun u hu => hu.elim (h.2 u) (fun h1 => by cases h1)⟩
  | cons u r ih =>
    intro S a h hl hp
    obtain ⟨hp1, hp2⟩ := List.pairwise_cons.1 hp
    have hau : lexB a u := hl u (by simp) a h.1
    have hk := knows_add (u := u) h
    have hnew : m.isBest l (fun x => S x ∨ x = u) (if m.score u l < m.score a l then u else a) := by
      by_cases hs : m.score u l < m.score a l
      · rw [if_pos hs]; exact hk.1 (Or.inl hs)
      · rw [if_neg hs]
        refine hk.2 (fun hb => ?_)
        rcases hb with hb | ⟨_, hb⟩
        · exact hs hb
        · exact lexB_irr _ (lexB_trans hau hb)
    have := ih (fun x => S x ∨ x = u) _ hnew (fun v hv x hx => hx.elim (hl v (by simp [hv]) x) (fun e => by rw [e]; exact hp1 v hv)) hp2
    rw [List.foldl_cons]
    have e : (fun x => S x ∨ x ∈ u :: r) = (fun x => (S x ∨ x = u) ∨ x ∈ r) := funext fun x => propext (by simp only [List.mem_cons]; exact or_assoc.symm)
    rw [e]; exact this
theorem bestF_knows (m : TMod) (l : List THit) (L : List V3) (hp : L.Pairwise lexB) : m.knows l (· ∈ L) (m.bestF l L) := by
  cases L with
  | nil => intro s hs; cases hs
  | cons s r =>
    obtain ⟨h1, h2⟩ := List.pairwise_cons.1 hp
    have := scan_best m l r (fun x => x = s) s ⟨rfl, fun u hu => Or.inl hu⟩ (fun u hu x hx => by rw [hx]; exact h1 u hu) h2
    have e : (fun x => x ∈ s :: r) = (fun x => x = s ∨ x ∈ r) := funext fun x => propext List.mem_cons
    show m.isBest l (fun x => x ∈ s :: r) _
    rw [e]; exact this
/-- two boxes have no step in common, coordinate by coordinate. -/
def TBox.apart (a b : TBox) : Prop := a.hi.x < b.lo.x ∨ b.hi.x < a.lo.x ∨ a.hi.y < b.lo.y ∨ b.hi.y < a.lo.y ∨ a.hi.z < b.lo.z ∨ b.hi.z < a.lo.z
theorem apart_symm {a b : TBox} (h : a.apart b) : b.apart a := by unfold TBox.apart at *; omega
theorem apart_sub {a b c d : TBox} (h : c.apart d) (ha : a.sub c) (hb : b.sub d) : a.apart b := by
  unfold TBox.apart TBox.sub TBox.rx TBox.ry TBox.rz Rg.sub at *; simp only at *; omega
theorem halves_ap (b : TBox) : b.half1.apart b.half2 := by
  unfold TBox.apart TBox.half1 TBox.half2
  rcases side_cases b with ⟨h, _, _⟩ | ⟨h, _, _⟩ | ⟨h, _, _⟩
  all_goals
    rw [h]
    simp only
    omega
theorem sub_trans {a b c : TBox} (h : a.sub b) (g : b.sub c) : a.sub c := by
  unfold TBox.sub TBox.rx TBox.ry TBox.rz Rg.sub at *; simp only at *; omega
theorem sub_refl (b : TBox) : b.sub b := ⟨Rg.sub_rfl _, Rg.sub_rfl _, Rg.sub_rfl _⟩
theorem count_mono {b c : TBox} (h : b.sub c) (o : b.ok) : b.count ≤ c.count := by
  unfold TBox.sub TBox.ok TBox.rx TBox.ry TBox.rz Rg.sub Rg.ok at *; simp only at *
  unfold TBox.count
  have h1 := Int.mul_le_mul (show b.hi.x - b.lo.x + 1 ≤ c.hi.x - c.lo.x + 1 by omega) (show b.hi.y - b.lo.y + 1 ≤ c.hi.y - c.lo.y + 1 by omega) (by omega) (by omega)
  exact Int.mul_le_mul h1 (by omega) (by omega) (Int.mul_nonneg (by omega) (by omega))
def TMod.proved (m : TMod) (l : List THit) (K : Int) (b : TBox) : Prop := ¬ m.canBe b ∨ K ≤ (m.scores b l).lo
def sumC (L : List TBox) : Int := (L.map TBox.count).foldl (· + ·) 0
theorem foldl_add : ∀ (l : List Int) (n : Int), l.foldl (· + ·) n = n + l.foldl (· + ·) 0 := by
  intro l
  induction l with
  | nil => intro n; simp
  | cons x l ih => intro n; rw [List.foldl_cons, List.foldl_cons, ih (n + x), ih (0 + x)]; omega
theorem sumC_cons (b : TBox) (L : List TBox) : sumC (b :: L) = b.count + sumC L := by unfold sumC; rw [List.map_cons, List.foldl_cons, foldl_add]; omega
theorem sumC_app (L M : List TBox) : sumC (L ++ M) = sumC L + sumC M := by unfold sumC; rw [List.map_append, List.foldl_append, foldl_add]
/-- boxes that make up a box, each of which is proved. -/
structure TMod.covers (m : TMod) (l : List THit) (K : Int) (b : TBox) (L : List TBox) : Prop where
  each : ∀ c ∈ L, c.ok ∧ c.sub b ∧ m.proved l K c
  apart : L.Pairwise TBox.apart
  count : sumC L = b.count
theorem covers_one {m : TMod} {l : List THit} {K : Int} {b : TBox} (o : b.ok) (h : m.proved l K b) : m.covers l K b [b] :=
  ⟨fun c hc => by rw [List.mem_singleton.1 hc]; exact ⟨o, sub_refl b, h⟩, List.pairwise_singleton _ _, by rw [sumC_cons]; simp [sumC]⟩
theorem covers_two {m : TMod} {l : List THit} {K : Int} {b : TBox} {L M : List TBox} (o : b.ok) (hne : b.lo.x < b.hi.x ∨ b.lo.y < b.hi.y ∨ b.lo.z < b.hi.z) (h : m.covers l K b.half1 L) (g : m.covers l K b.half2 M) : m.covers l K b (L ++ M) := by
  obtain ⟨s1, o1, s2, o2⟩ := halves_sub o hne
  refine ⟨fun c hc => ?_, ?_, by rw [sumC_app, h.count, g.count, halves_count]⟩
  · rcases List.mem_append.1 hc with hc | hc
    · obtain ⟨a1, a2, a3⟩ := h.each c hc; exact ⟨a1, sub_trans a2 s1, a3⟩
    · obtain ⟨a1, a2, a3⟩ := g.each c hc; exact ⟨a1, sub_trans a2 s2, a3⟩
  · rw [List.pairwise_append]
    exact ⟨h.apart, g.apart, fun c hc d hd => apart_sub (halves_ap b) (h.each c hc).2.1 (g.each d hd).2.1⟩
theorem covers_len {m : TMod} {l : List THit} {K : Int} {b : TBox} {L : List TBox} (h : m.covers l K b L) : (L.length : Int) ≤ b.count := by
  rw [← h.count]
  have : ∀ M : List TBox, (∀ c ∈ M, c.ok) → (M.length : Int) ≤ sumC M := by
    intro M
    induction M with
    | nil => intro _; simp [sumC]
    | cons c M ih => intro hM; rw [sumC_cons, List.length_cons]; have := ih (fun d hd => hM d (by simp [hd])); have := count_pos (hM c (by simp)); push_cast; omega
  exact this L (fun c hc => (h.each c hc).1)
/-- a proved box has no step with a smaller score. -/
theorem proved_ge {m : TMod} {l : List THit} {K : Int} {b : TBox} {s : V3} (h : m.proved l K b) (hb : b.has s) (hp : m.permit s) (hs : 0 ≤ m.slow) (hsl : m.slow < m.lo) (he : 0 ≤ m.ea ∧ 0 ≤ m.la) (hw : 0 ≤ m.mi ∧ 0 ≤ m.no) (hl : ∀ h ∈ l, 0 ≤ h.w) : K ≤ m.score s l := by
  rcases h with h | h
  · exact (h (canBe_of hb hp)).elim
  · have := (score_has (l := l) hb hp hs hsl he hw hl).1; omega
theorem not_proved_one {m : TMod} {l : List THit} {K : Int} {s : V3} (h : ¬ m.proved l K ⟨s, s⟩) (hs : 0 ≤ m.slow) (hsl : m.slow < m.lo) (he : 0 ≤ m.ea ∧ 0 ≤ m.la) (hw : 0 ≤ m.mi ∧ 0 ≤ m.no) (hl : ∀ h ∈ l, 0 ≤ h.w) : m.permit s ∧ m.score s l < K := by
  unfold TMod.proved at h
  have h1 : m.canBe ⟨s, s⟩ := Classical.byContradiction fun hn => h (Or.inl hn)
  have hp := canBe_one h1
  refine ⟨hp, ?_⟩
  have h2 : ¬ K ≤ (m.scores ⟨s, s⟩ l).lo := fun hk => h (Or.inr hk)
  rw [scores_one hp hs hsl he hw hl] at h2
  simp only at h2; omega
end Go.Proofs.Ytlmdmpjfehpjeaa

/- Tracks: errors, and the sizes of what is reckoned. -/
set_option linter.unusedVariables false
set_option linter.unusedSimpArgs false
namespace Go.Proofs.Ytlmdmpjfehpjeaa

/-- errors of places, times, models, steps, moments, boxes, hits. -/
def V3.inS (p : V3) (k : Int) : Bool := inB p.x (-k) k && inB p.y (-k) k && inB p.z (-k) k
def plE (p : V3) : Int := unl (p.inS 1000) 2
def tmE (n : Int) : Int := unl (inB n (-10000) 10000) 2
def TMod.right (m : TMod) : Bool := inB m.tk 1 20 && inB m.lo 1 1200 && inB m.hi 1 1200 && inB m.li 1 100 && inB m.ea 0 100 && inB m.la 0 100 && inB m.no 0 100 && inB m.mi 0 100
def TMod.err (m : TMod) : Int := firstNZ [plE m.pl, tmE m.tm, unl m.right 2, unl (decide (m.lo ≤ m.hi)) 9, unl (decide (m.slow < m.lo)) 13]
def TMod.stE (m : TMod) (s : V3) : Int := firstNZ [unl (s.inS 20) 2, unl (m.permB s) 24]
def TMod.both (m : TMod) (s : V3) : Int := firstNZ [m.err, m.stE s]
def momE (p : V3) (t : Int) : Int := firstNZ [plE p, unl (inB t (-1000000) 1000000) 2]
def TBox.err (b : TBox) : Int := firstNZ [unl (b.lo.inS 20 && b.hi.inS 20) 2, unl (decide (b.lo.x ≤ b.hi.x) && decide (b.lo.y ≤ b.hi.y) && decide (b.lo.z ≤ b.hi.z)) 9, unl (decide (b.count ≤ 700)) 8]
def THit.err (h : THit) : Int := firstNZ [plE h.p, tmE h.t, unl (inB h.w 0 100) 2]
theorem firstNZ_cons {x : Int} {l : List Int} : firstNZ (x :: l) = 0 ↔ x = 0 ∧ firstNZ l = 0 := by
  simp only [firstNZ]; split
  · next h => simp [h]
  · next h => simp [h]
theorem unl_zero {b : Bool} {n : Int} (hn : n ≠ 0) : unl b n = 0 ↔ b = true := by unfold unl; split <;> simp_all
theorem inS_iff {p : V3} {k : Int} : p.inS k = true ↔ (-k ≤ p.x ∧ p.x ≤ k) ∧ (-k ≤ p.y ∧ p.y ≤ k) ∧ (-k ≤ p.z ∧ p.z ≤ k) := by
  unfold V3.inS; simp only [Bool.and_eq_true, inB_true, and_assoc]
structure TMod.Ok (m : TMod) : Prop where
  px : -1000 ≤ m.px ∧ m.px ≤ 1000
  py : -1000 ≤ m.py ∧ m.py ≤ 1000
  pz : -1000 ≤ m.pz ∧ m.pz ≤ 1000
  tm : -10000 ≤ m.tm ∧ m.tm ≤ 10000
  tk : 1 ≤ m.tk ∧ m.tk ≤ 20
  lo : 1 ≤ m.lo ∧ m.lo ≤ 1200
  hi : 1 ≤ m.hi ∧ m.hi ≤ 1200
  li : 1 ≤ m.li ∧ m.li ≤ 100
  ea : 0 ≤ m.ea ∧ m.ea ≤ 100
  la : 0 ≤ m.la ∧ m.la ≤ 100
  no : 0 ≤ m.no ∧ m.no ≤ 100
  mi : 0 ≤ m.mi ∧ m.mi ≤ 100
  ord : m.lo ≤ m.hi
  slo : m.slow < m.lo
  slp : 0 ≤ m.slow
theorem err_ok {m : TMod} (h : m.err = 0) : m.Ok := by
  unfold TMod.err at h
  rw [firstNZ_cons, firstNZ_cons, firstNZ_cons, firstNZ_cons, firstNZ_cons] at h
  obtain ⟨h1, h2, h3, h4, h5, _⟩ := h
  unfold plE at h1; unfold tmE at h2
  rw [unl_zero (by decide)] at h1 h2 h3 h4 h5
  rw [inS_iff] at h1
  unfold TMod.right at h3
  simp only [Bool.and_eq_true, inB_true, decide_eq_true_eq] at h2 h3 h4 h5
  obtain ⟨a1, a2, a3⟩ := h1
  obtain ⟨⟨⟨⟨⟨⟨⟨b1, b2⟩, b3⟩, b4⟩, b5⟩, b6⟩, b7⟩, b8⟩ := h3
  refine ⟨a1, a2, a3, h2, b1, b2, b3, b4, b5, b6, b7, b8, h4, h5, ?_⟩
  unfold TMod.slow
  exact Int.mul_nonneg (Int.mul_nonneg (by omega) (by omega)) (by omega)
theorem both_ok {m : TMod} {s : V3} (h : m.both s = 0) : m.Ok ∧ s.inS 20 = true ∧ m.permit s ∧ m.slow < s.dot s := by
  unfold TMod.both at h
  rw [firstNZ_cons, firstNZ_cons] at h
  obtain ⟨h1, h2, _⟩ := h
  unfold TMod.stE at h2
  rw [firstNZ_cons, firstNZ_cons] at h2
  obtain ⟨h3, h4, _⟩ := h2
  rw [unl_zero (by decide)] at h3 h4
  have ho := err_ok h1
  have hp := permB_iff.1 h4
  exact ⟨ho, h3, hp, by have := ho.slo; have := hp.1; omega⟩
theorem boxErr_ok {b : TBox} (h : b.err = 0) : b.lo.inS 20 = true ∧ b.hi.inS 20 = true ∧ b.ok ∧ b.count ≤ 700 := by
  unfold TBox.err at h
  rw [firstNZ_cons, firstNZ_cons, firstNZ_cons] at h
  obtain ⟨h1, h2, h3, _⟩ := h
  rw [unl_zero (by decide)] at h1 h2 h3
  simp only [Bool.and_eq_true, decide_eq_true_eq] at h1 h2 h3
  exact ⟨h1.1, h1.2, ⟨h2.1.1, h2.1.2, h2.2⟩, h3⟩
/-- sizes inside the reckoning of reached places. -/
theorem dot_sz {a b : V3} {A B : Int} (ha : a.inS A = true) (hb : b.inS B = true) (hA : 0 ≤ A) (hB : 0 ≤ B) : (-(A * B) ≤ a.x * b.x ∧ a.x * b.x ≤ A * B) ∧ (-(A * B) ≤ a.y * b.y ∧ a.y * b.y ≤ A * B) ∧ (-(A * B) ≤ a.z * b.z ∧ a.z * b.z ≤ A * B) := by
  rw [inS_iff] at ha hb
  exact ⟨mul_rg ha.1 hb.1 (Int.le_refl _), mul_rg ha.2.1 hb.2.1 (Int.le_refl _), mul_rg ha.2.2 hb.2.2 (Int.le_refl _)⟩
theorem way_sz {m : TMod} {s p : V3} {t : Int} (ho : m.Ok) (hs : s.inS 20 = true) (hp : p.inS 1000 = true) (ht : -1000101 ≤ t ∧ t ≤ 1000100) : (m.way s p t).inS 20242020 = true := by
  rw [inS_iff] at *
  have h1 := mul_rg (x := m.tk) (y := p.x - m.px) (A := 20) (B := 2000) (C := 40000) (by have := ho.tk; omega) (by have := ho.px; omega) (by decide)
  have h2 := mul_rg (x := m.tk) (y := p.y - m.py) (A := 20) (B := 2000) (C := 40000) (by have := ho.tk; omega) (by have := ho.py; omega) (by decide)
  have h3 := mul_rg (x := m.tk) (y := p.z - m.pz) (A := 20) (B := 2000) (C := 40000) (by have := ho.tk; omega) (by have := ho.pz; omega) (by decide)
  have g1 := mul_rg (x := t - m.tm) (y := s.x) (A := 1010101) (B := 20) (C := 20202020) (by have := ho.tm; omega) hs.1 (by decide)
  have g2 := mul_rg (x := t - m.tm) (y := s.y) (A := 1010101) (B := 20) (C := 20202020) (by have := ho.tm; omega) hs.2.1 (by decide)
  have g3 := mul_rg (x := t - m.tm) (y := s.z) (A := 1010101) (B := 20) (C := 20202020) (by have := ho.tm; omega) hs.2.2 (by decide)
  unfold TMod.way; simp only; omega
end Go.Proofs.Ytlmdmpjfehpjeaa

/- Tracks: contracts of the small functions on numbers. -/
set_option linter.unusedVariables false
set_option linter.unusedSimpArgs false
namespace Go.Proofs.Ytlmdmpjfehpjeaa
open Go.RowKit

theorem track_within (n lo hi : Int) (w : World) :
    Calls Try.prog 68 #[.int .i64 n, .int .i64 lo, .int .i64 hi] w fun e w' => e = .returned (.bool (inB n lo hi)) ∧ w = w' := by
  go_enter Try.func68, Try.ntmps68
  go_wp2
  all_goals (go_ret; exact ⟨by simp [inB]; omega, rfl⟩)

theorem base_Within (n lo hi : Int) (w : World) :
    Calls Try.prog 26 #[.int .i64 n, .int .i64 lo, .int .i64 hi] w fun e w' => e = .returned (.bool (inB n lo hi)) ∧ w = w' := by
  go_enter Try.func26, Try.ntmps26
  go_wp2
  all_goals (go_ret; exact ⟨by simp [inB]; omega, rfl⟩)

theorem track_unless (b : Bool) (n : Int) (w : World) :
    Calls Try.prog 72 #[.bool b, .int .i64 n] w fun e w' => e = .returned (.int .i64 (unl b n)) ∧ w = w' := by
  cases b
  all_goals
    go_enter Try.func72, Try.ntmps72
    go_wp2
    go_ret
    exact ⟨rfl, rfl⟩

theorem track_first (l : List Int) (v : Value) (w : World) (h : IntsAt w v l) :
    Calls Try.prog 69 #[v] w fun e w' => e = .returned (.int .i64 (firstNZ l)) ∧ w = w' := by
  obtain ⟨ao, cap, rfl, h1, h2, h3⟩ := h.open
  unfold maxLen at h2
  go_enter Try.func69, Try.ntmps69
  go_wp2_with fail
  go_loop [7] (fun i => ∃ k : Nat, k ≤ l.length ∧ i = .int .i64 k ∧ ∀ x ∈ l.take k, x = 0) (fun i => l.length - (intOf i).toNat)
  case atStart => exact ⟨0, Nat.zero_le _, rfl, by simp⟩
  case round =>
    obtain ⟨k, hk, rfl, hz⟩ := hrel
    have HZ := hid hz
    clear hz
    by_cases hlt : k < l.length
    · obtain ⟨b, off, rfl, hb, hc⟩ := h3 k hlt
      have hck := hc k hlt
      clear hc h3
      by_cases h0 : l.getD k 0 = 0
      · have H0 := hid h0
        have h0' : (l.getD k 0 != 0) = false := by simpa using h0
        clear h0
        obtain ⟨x, hx⟩ : ∃ x, x = l.getD k 0 := ⟨_, rfl⟩
        rw [← hx] at hck h0'
        have HX := hid hx
        clear hx
        go_wp2_with fail
        go_round
        case rel =>
          refine ⟨k + 1, by omega, by go_num, ?_⟩
          intro y hy
          rw [take_getD 0 hlt] at hy
          rcases List.mem_append.1 hy with hy | hy
          · exact HZ.out y hy
          · rw [List.mem_singleton.1 hy]; exact H0.out
        case measure => simp [intOf]; omega
      · have h0' : (l.getD k 0 != 0) = true := by simpa using h0
        obtain ⟨x, hx⟩ : ∃ x, x = l.getD k 0 := ⟨_, rfl⟩
        rw [← hx] at hck h0' h0
        have HX := hid hx
        have H0 := hid h0
        clear hx h0
        go_wp2_with fail
        go_ret
        refine ⟨ret_int ?_, rfl⟩
        have e1 : l = l.take k ++ (x :: l.drop (k + 1)) := by
          rw [HX.out]; exact cut_getD 0 hlt
        rw [e1, firstNZ_append_zero HZ.out]
        simp [firstNZ, H0.out]
    · go_wp2_with fail
      go_ret
      refine ⟨ret_int ?_, rfl⟩
      rw [firstNZ_zero.2]
      have := HZ.out
      rwa [List.take_of_length_le (by omega)] at this

end Go.Proofs.Ytlmdmpjfehpjeaa

/- A statement whose order is open, walked in one order: first operations that yield the same in every world, then reads and quiet calls, then a tail that can only come in one order. Own work over the kit's notions of ready, apart and quiet. -/
set_option linter.unusedVariables false
set_option linter.unusedSimpArgs false
namespace Go.Proofs.Ytlmdmpjfehpjeaa
open Go.RowKit

section
variable {P : Program} {ops : Array Oper} {md : Region.Mode} {C : World → Prop}

/-- Operations that give a value and no call. -/
def simpleOp (o : Oper) : Bool :=
  match o.op with
  | .move _ | .assign _ | .pick .. | .binOp .. | .unOp .. | .slice .. | .indexAddr .. | .fieldAddr .. | .extract .. | .field .. | .index .. | .build .. => true
  | _ => false

theorem value_of_bind {P : Program} {w w1 : World} {n : Next} (s : Sem Value) (h : ((do let x ← s; pure (.value x) : Sem Next)).run P w = .ok n w1) : ∃ v, n = .value v := by
  rw [Sem.run_bind] at h
  cases hs : s.run P w with
  | ok x w2 => rw [hs] at h; simp only [Result.andThen_ok, Sem.run_pure] at h; cases h; exact ⟨_, rfl⟩
  | halt x w2 => rw [hs] at h; cases h

theorem value_of_bind' {P : Program} {α : Type} {w w1 : World} {n : Next} (s : Sem α) (f : α → Value) (h : ((do let x ← s; pure (.value (f x)) : Sem Next)).run P w = .ok n w1) : ∃ v, n = .value v := by
  rw [Sem.run_bind] at h
  cases hs : s.run P w with
  | ok x w2 => rw [hs] at h; simp only [Result.andThen_ok, Sem.run_pure] at h; cases h; exact ⟨_, rfl⟩
  | halt x w2 => rw [hs] at h; cases h

theorem simpleOp_value {o : Oper} (h : simpleOp o = true) {ρ : Operand → Value} {w w1 : World} {n : Next} (hr : (execOp ρ o).run P w = .ok n w1) : ∃ v, n = .value v := by
  unfold simpleOp at h
  unfold execOp at hr
  split at h
  all_goals first
    | (rename_i e; rw [e] at hr; simp only [Sem.run_pure] at hr; cases hr; exact ⟨_, rfl⟩)
    | (rename_i e; rw [e] at hr; exact value_of_bind _ hr)
    | (rename_i e; rw [e] at hr; exact value_of_bind' _ _ hr)
    | cases h

/-- From a step that is quiet in every world. -/
theorem yields_of_quiet {i : Nat} {o : Oper} {a : Act} {K : Act → Prop} (hi : ops[i]? = some o) (hs : simpleOp o = true) (h : qOp P ops (fun _ => True) i K a) : ∃ v, Yields P ops o v a ∧ K (a.put o.dst v) := by
  obtain ⟨v, hy, hK⟩ := yieldsIn_of_qOp hi h
  refine ⟨v, ?_, hK⟩
  rcases hy with ⟨hw, hy⟩ | ⟨hw, rfl⟩
  · refine Or.inl ⟨hw, fun w => ?_⟩
    have h1 := hy w trivial
    unfold Oper.quietAt at h1
    generalize hr : (execOp a.eval o).run P w = r at h1
    cases r with
    | ok n w' =>
      obtain ⟨u, rfl⟩ := simpleOp_value hs hr
      simp only [Oper.quietUpon] at h1
      rw [h1.1, h1.2]
    | halt x w' => simp only [Oper.quietUpon] at h1
  · exact Or.inr ⟨hw, rfl⟩

/-! ### the middle part -/

/-- Whatever order the operations below n come in, each of them quiet; none from n on can come up; then T. -/
def midAny (P : Program) (md : Region.Mode) (ops : Array Oper) (C : World → Prop) (n : Nat) (T : Array Bool → Act → Prop) : Nat → Array Bool → Act → Prop
  | 0, listed, a => T listed a
  | f + 1, listed, a => Region.ready md ops listed ≠ [] ∧ ∀ i ∈ Region.ready md ops listed, i < n ∧ qOp P ops C i (midAny P md ops C n T f (listed.setIfInBounds i true)) a

theorem wpAny_of_mid {n g : Nat} {T : Array Bool → Act → Prop} {Q : Exit → Act → World → Prop} (hT : ∀ listed a w, C w → T listed a → wpAny P md ops Q g listed a w) :
    ∀ (f : Nat) (listed : Array Bool) (a : Act) (w : World), C w → midAny P md ops C n T f listed a → wpAny P md ops Q (f + g) listed a w := by
  intro f
  induction f with
  | zero => intro listed a w hw h; rw [Nat.zero_add]; exact hT _ _ _ hw h
  | succ f ih =>
    intro listed a w hw h
    rw [show f + 1 + g = (f + g) + 1 by omega]
    exact ⟨fun h0 => absurd h0 h.1, fun i hi => wpOp_of_qOp hw (fun a' w' hw' hK => ih _ _ _ hw' hK) (h.2 i hi).2⟩

theorem midAny_first {n i : Nat} {oi : Oper} {v : Value} {T : Array Bool → Act → Prop} (Inv : Array Bool → Prop)
    (hset : ∀ listed j, Inv listed → j ∈ Region.ready md ops listed → j < n → Inv (listed.setIfInBounds j true))
    (htail : ∀ listed j, Inv listed → j < n → listed.getD j true = false → ∀ t ∈ Region.ready md ops listed, t < n)
    (hi : ops[i]? = some oi) (hsel : ∀ (j : Nat) (o : Oper) cs b, ops[j]? = some o → o.op ≠ .select cs b) (hin : i < n)
    (hdone : ∀ listed a, T listed a → ∀ j ∈ Region.ready md ops listed, n ≤ j) :
    ∀ (f : Nat) (listed : Array Bool) (a : Act), Inv listed →
      (∀ j oj, ops[j]? = some oj → j ≠ i → listed.getD j true = false → (∀ e ∈ oj.after, Region.binds md e = true → e.on ≠ i) → oi.apart ops oj = true) →
      i ∈ Region.ready md ops listed → YieldsIn P ops C oi v a →
      midAny P md ops C n T f (listed.setIfInBounds i true) (a.put oi.dst v) → midAny P md ops C n T (f + 1) listed a := by
  intro f
  induction f with
  | zero =>
    intro listed a inv hfree hr hy H
    have hun := (mem_ready.1 hr).1
    refine ⟨fun h => (by rw [h] at hr; cases hr), fun j hj => ?_⟩
    have hjn := htail listed i inv hin hun j hj
    refine ⟨hjn, ?_⟩
    by_cases hji : j = i
    · subst hji; exact hy.qOp hi H
    · have := hdone _ _ H j (ready_mono hj hji)
      omega
  | succ f ih =>
    intro listed a inv hfree hr hy H
    have hun := (mem_ready.1 hr).1
    refine ⟨fun h => (by rw [h] at hr; cases hr), fun j hj => ?_⟩
    have hjn := htail listed i inv hin hun j hj
    refine ⟨hjn, ?_⟩
    by_cases hji : j = i
    · subst hji; exact hy.qOp hi H
    · have h1 := (H.2 j (ready_mono hj hji)).2
      obtain ⟨hjun, oj, hoj, hall⟩ := mem_ready.1 hj
      have hnot : ∀ e ∈ oj.after, Region.binds md e = true → e.on ≠ i := fun e he hb heq => by
        have h2 := hall e he hb
        rw [heq, getD_both hun] at h2
        cases h2
      have h2 := qOp_put hoj (hfree j oj hoj hji hjun hnot) (fun cs b => hsel i oi cs b hi) (fun cs b => hsel j oj cs b hoj) hy h1
      refine qOp_mono (fun a' h3 => ?_) h2
      refine ih (listed.setIfInBounds j true) a' (hset _ _ inv hj hjn) ?_ (ready_mono hr (Ne.symm hji)) h3.1 ?_
      · intro k ok hk hki hku hkno
        refine hfree k ok hk hki ?_ hkno
        by_cases hjk : j = k
        · subst hjk; exact hjun
        · rw [getD_set_ne true hjk] at hku; exact hku
      · rw [Array.setIfInBounds_comm _ _ hji]
        exact h3.2

/-! ### the checks -/

/-- every operation below n that is not listed at the start has one that waits for it, up to n; behind n each waits for the one before. -/
def sunkB (md : Region.Mode) (ops : Array Oper) (n : Nat) (l0 : Array Bool) : Bool :=
  ((List.range n).all fun i => l0.getD i false || ((List.range (n + 1)).any fun j => decide (i < j) && Region.waitsFor md ops j i)) && Region.chainB md ops n

structure MidInv (md : Region.Mode) (ops : Array Oper) (n : Nat) (l0 listed : Array Bool) : Prop where
  size : listed.size = ops.size
  closed : ∀ j oj, ops[j]? = some oj → listed.getD j false = true → ∀ e ∈ oj.after, Region.binds md e = true → listed.getD e.on false = true
  tail : ∀ t, n ≤ t → t < ops.size → listed.getD t true = false
  start : ∀ j, l0.getD j false = true → listed.getD j false = true

theorem MidInv.set {n i : Nat} {l0 listed : Array Bool} (inv : MidInv md ops n l0 listed) (hi : i ∈ Region.ready md ops listed) (hin : i < n) : MidInv md ops n l0 (listed.setIfInBounds i true) := by
  obtain ⟨hun, oi, hoi, hall⟩ := mem_ready.1 hi
  refine ⟨by simp [inv.size], fun j oj hj hl e he hb => ?_, fun t ht ht' => ?_, fun j hj => getD_set_true (inv.start j hj)⟩
  · by_cases hij : i = j
    · subst hij
      have : oj = oi := Option.some.inj (hj.symm.trans hoi)
      subst this
      exact getD_set_true (hall e he hb)
    · rw [getD_set_ne false hij] at hl
      exact getD_set_true (inv.closed j oj hj hl e he hb)
  · rw [getD_set_ne true (by omega)]; exact inv.tail t ht ht'

theorem mid_tail {n : Nat} {l0 listed : Array Bool} (hs : sunkB md ops n l0 = true) (hn : n < ops.size) (inv : MidInv md ops n l0 listed) :
    ∀ (d i : Nat), n - i = d → i < n → listed.getD i true = false → ∀ t ∈ Region.ready md ops listed, t < n := by
  simp only [sunkB, Bool.and_eq_true] at hs
  intro d
  induction d using Nat.strongRecOn with
  | _ d ih =>
    intro i hd hi hun t ht
    rcases Nat.lt_or_ge t n with h | h
    · exact h
    exfalso
    obtain ⟨htun, ot, hot, hall⟩ := mem_ready.1 ht
    have htlt : t < ops.size := (Array.getElem?_eq_some_iff.1 hot).1
    -- t waits for n, or is n; n waits (through others) for i
    by_cases htn : t = n
    · subst htn
      have h1 := List.all_eq_true.1 hs.1 i (List.mem_range.2 hi)
      simp only [Bool.or_eq_true] at h1
      rcases h1 with h1 | h1
      · have := inv.start i h1
        rw [getD_both hun] at this
        cases this
      obtain ⟨j, hj, hj2⟩ := List.any_eq_true.1 h1
      simp only [Bool.and_eq_true, decide_eq_true_eq] at hj2
      obtain ⟨oj, hoj, e, he, hb, hon⟩ := Region.waitsFor_spec hj2.2
      by_cases hjt : j = t
      · subst hjt
        have : oj = ot := Option.some.inj (hoj.symm.trans hot)
        subst this
        have h2 := hall e he hb
        rw [hon, getD_both hun] at h2
        cases h2
      · have hjle : j ≤ t := by have := List.mem_range.1 hj; omega
        cases hl : listed.getD j false with
        | true =>
          have h2 := inv.closed j oj hoj hl e he hb
          rw [hon, getD_both hun] at h2
          cases h2
        | false =>
          have hjs : j < listed.size := by rw [inv.size]; omega
          have := ih (t - j) (by omega) j rfl (by omega) (getD_in hjs hl) t ht
          omega
    · have h1 := List.all_eq_true.1 hs.2 t (List.mem_range.2 htlt)
      simp only [Bool.or_eq_true, decide_eq_true_eq] at h1
      rcases h1 with h1 | h1
      · omega
      · obtain ⟨o', ho', e, he, hb, hon⟩ := Region.waitsFor_spec h1
        have : o' = ot := Option.some.inj (ho'.symm.trans hot)
        subst this
        have h2 := hall e he hb
        rw [hon, getD_both (inv.tail (t - 1) (by omega) (by omega))] at h2
        cases h2

/-- the operations with these numbers. -/
def pick (l : List Oper) : List Nat → List Oper
  | [] => []
  | i :: p => (l.drop i).head?.toList ++ pick l p

theorem pick_cons {l : List Oper} {i : Nat} {p : List Nat} {o : Oper} (h : l[i]? = some o) : pick l (i :: p) = o :: pick l p := by
  simp [pick, List.head?_drop, h]

/-- the middle numbers come in this order, each ready and apart from whatever may come beside it; then a forced tail. -/
def midB (md : Region.Mode) (ops : Array Oper) (n g : Nat) : List Nat → Array Bool → Bool
  | [], listed => Region.seqB md ops g n listed
  | i :: p, listed => decide (i < n) && (ops[i]?).isSome && (Region.ready md ops listed).contains i && Region.free md ops listed i && midB md ops n g p (listed.setIfInBounds i true)

/-- the first numbers likewise, none of them a call. -/
def headB (md : Region.Mode) (ops : Array Oper) (n g : Nat) (mid : List Nat) : List Nat → Array Bool → Bool
  | [], listed => sunkB md ops n listed && (List.range ops.size).all (fun t => decide (t < n) || !listed.getD t true) && midB md ops n g mid listed
  | i :: p, listed => decide (i < n) && ((ops[i]?).map simpleOp).getD false && (Region.ready md ops listed).contains i && Region.free md ops listed i && headB md ops n g mid p (listed.setIfInBounds i true)

theorem seqB_ge {g k : Nat} {listed : Array Bool} (h : Region.seqB md ops g k listed = true) : ∀ j ∈ Region.ready md ops listed, k ≤ j := by
  cases g with
  | zero => intro j hj; simp only [Region.seqB, List.isEmpty_iff] at h; rw [h] at hj; cases hj
  | succ g =>
    intro j hj
    simp only [Region.seqB, Bool.and_eq_true, decide_eq_true_eq] at h
    rw [h.1] at hj
    have : j = k := by simpa using hj
    omega

theorem midAny_lex {l : List Oper} {n g : Nat} {l0 : Array Bool} {T : Act → Prop} (hsel : Region.noSelect l.toArray = true) (hs : sunkB md l.toArray n l0 = true) (hn : n < l.length) :
    ∀ (p : List Nat) (listed : Array Bool) (a : Act), MidInv md l.toArray n l0 listed → midB md l.toArray n g p listed = true → wpQuiet P l.toArray C T (pick l p) a →
    midAny P md l.toArray C n (fun listed' a' => Region.seqB md l.toArray g n listed' = true ∧ T a') p.length listed a := by
  intro p
  induction p with
  | nil => intro listed a inv hB h; exact ⟨by simpa [midB] using hB, h⟩
  | cons i p ih =>
    intro listed a inv hB h
    simp only [midB, Bool.and_eq_true, decide_eq_true_eq] at hB
    obtain ⟨⟨⟨⟨hin, ho⟩, hr⟩, hf⟩, hB'⟩ := hB
    obtain ⟨o, ho⟩ := Option.isSome_iff_exists.1 ho
    have ho' : l[i]? = some o := by simpa using ho
    rw [pick_cons ho'] at h
    have hr' : i ∈ Region.ready md l.toArray listed := by simpa using hr
    have hq : qOp P l.toArray C i (wpQuiet P l.toArray C T (pick l p)) a := by unfold qOp; simp only [ho]; exact h
    obtain ⟨v, hy, hK⟩ := yieldsIn_of_qOp ho hq
    exact midAny_first (fun ls => MidInv md l.toArray n l0 ls) (fun _ _ inv hj hjn => inv.set hj hjn)
      (fun ls j inv hj hun => mid_tail hs (by simpa using hn) inv _ j rfl hj hun) ho (Region.noSelect_spec hsel) hin (fun _ _ hT => seqB_ge hT.1) p.length listed a inv (Region.free_spec ho hf) hr' hy
      (ih _ _ (inv.set hr' hin) hB' hK)

theorem headAny {l : List Oper} {n g : Nat} {mid : List Nat} {T : Act → Prop} {Q : Exit → Act → World → Prop} (hQ : ∀ c a a' w, Q (.panic c) a w → Q (.panic c) a' w)
    (hsel : Region.noSelect l.toArray = true) (hn : n < l.length) (hg : n + g = l.length)
    (hT : ∀ listed a w, C w → Region.seqB md l.toArray g n listed = true → T a → wpAny P md l.toArray Q g listed a w) :
    ∀ (p : List Nat) (listed : Array Bool) (a : Act) (w : World), C w → listed.size = l.length → (∀ j oj, l.toArray[j]? = some oj → listed.getD j false = true → ∀ e ∈ oj.after, Region.binds md e = true → listed.getD e.on false = true) →
      headB md l.toArray n g mid p listed = true → wpQuiet P l.toArray (fun _ => True) (fun a' => wpQuiet P l.toArray C T (pick l mid) a') (pick l p) a →
      wpAny P md l.toArray Q (p.length + (mid.length + g)) listed a w := by
  intro p
  induction p with
  | nil =>
    intro listed a w hw hsz hcl hB h
    simp only [headB, Bool.and_eq_true] at hB
    obtain ⟨⟨hs, htl⟩, hm⟩ := hB
    have inv : MidInv md l.toArray n listed listed := ⟨by simpa using hsz, hcl, fun t ht ht' => by
      have := List.all_eq_true.1 htl t (List.mem_range.2 ht')
      simp only [Bool.or_eq_true, decide_eq_true_eq, Bool.not_eq_true'] at this
      rcases this with h | h
      · omega
      · exact h, fun _ h => h⟩
    have H := midAny_lex (C := C) hsel hs hn mid listed a inv hm h
    rw [List.length_nil, Nat.zero_add]
    exact wpAny_of_mid (fun ls a' w' hw' h' => hT ls a' w' hw' h'.1 h'.2) _ _ _ _ hw H
  | cons i p ih =>
    intro listed a w hw hsz hcl hB h
    simp only [headB, Bool.and_eq_true, decide_eq_true_eq] at hB
    obtain ⟨⟨⟨⟨hin, ho⟩, hr⟩, hf⟩, hB'⟩ := hB
    cases ho2 : l.toArray[i]? with
    | none => rw [ho2] at ho; cases ho
    | some o =>
      rw [ho2] at ho
      have hs1 : simpleOp o = true := by simpa using ho
      have ho' : l[i]? = some o := by simpa using ho2
      rw [pick_cons ho'] at h
      have hr' : i ∈ Region.ready md l.toArray listed := by simpa using hr
      have hq : qOp P l.toArray (fun _ => True) i (wpQuiet P l.toArray (fun _ => True) (fun a' => wpQuiet P l.toArray C T (pick l mid) a') (pick l p)) a := by unfold qOp; simp only [ho2]; exact h
      obtain ⟨v, hy, hK⟩ := yields_of_quiet ho2 hs1 hq
      rw [List.length_cons, show p.length + 1 + (mid.length + g) = (p.length + (mid.length + g)) + 1 from by omega]
      refine wpAny_first ho2 (Region.noSelect_spec hsel) (fun c a w h => hQ c _ _ w h) _ listed a w (Region.free_spec ho2 hf) hr' hy ?_
      refine ih _ _ _ hw (by simp [hsz]) ?_ hB' hK
      intro j oj hj hl e he hb
      by_cases hij : i = j
      · subst hij
        have : oj = o := Option.some.inj (hj.symm.trans ho2)
        subst this
        obtain ⟨_, o2, ho3, hall⟩ := mem_ready.1 hr'
        have : oj = o2 := Option.some.inj (hj.symm.trans ho3)
        subst this
        exact getD_set_true (hall e he hb)
      · rw [getD_set_ne false hij] at hl
        exact getD_set_true (hcl j oj hj hl e he hb)

/-- False at a panic. -/
def noPan (Q : Exit → Act → World → Prop) : Exit → Act → World → Prop
  | .panic _, _, _ => False
  | e, a, w => Q e a w

/-- all numbers, each once: the first ones, the middle ones, then from n on. -/
def threeB (l : List Oper) (first mid : List Nat) (n : Nat) : Bool :=
  Region.noSelect l.toArray && decide (n < l.length) && decide (first.length + mid.length = n) && headB .any l.toArray n (l.length - n) mid first (Array.replicate l.length false)

/-- **A region that draws its order.** -/
theorem wp_three {id : Nat} {Q : Exit → Act → World → Prop} {a : Act} {w : World} {l : List Oper} (first mid : List Nat) (n : Nat) (hm : P.follows .mixedOrders = true) (hB : threeB l first mid n = true)
    (h : ∀ Q' : Exit → Act → World → Prop, (∀ a w, Q .normal a w → Q' .normal a w) → wpQuiet P l.toArray (fun _ => True) (fun a1 => wpQuiet P l.toArray (fun w' => ∃ k, w' = w.drewN k) (fun a2 => ∀ k, wpList P l.toArray Q' (l.drop n) a2 (w.drewN k)) (pick l mid) a1) (pick l first) a) :
    (Code.region id l.toArray true).wp P Q a w := by
  simp only [threeB, Bool.and_eq_true, decide_eq_true_eq] at hB
  obtain ⟨⟨⟨hsel, hn⟩, hlen⟩, hB⟩ := hB
  refine Code.wp_mono (Q := noPan Q) (fun e a w hq => by cases e <;> first | exact hq | exact (hq : False).elim) ?_
  refine wp_region_any hm ?_
  have := headAny (C := fun w' => ∃ k, w' = w.drewN k) (md := .any) (Q := noPan Q) (g := l.length - n) (fun c a a' w hq => hq) hsel hn (by omega)
    (fun listed a' w' hw' hseq hT => by
      obtain ⟨k, rfl⟩ := hw'
      have := wpAny_of_seq (md := .any) (Q' := noPan Q) (l.drop n) n listed a' (w.drewN k) (fun j => by simp [List.getElem?_drop]) (by rw [List.length_drop]; exact hseq) (hT k)
      rwa [List.length_drop] at this)
    first (Array.replicate l.length false) a { w with drawn := w.drawn + 1 } ⟨1, rfl⟩ (by simp) (fun j oj _ hl => by rw [getD_replicate_false] at hl; cases hl) hB (h (noPan Q) fun _ _ h => h)
  rw [show first.length + (mid.length + (l.length - n)) = l.toArray.size from by simp; omega] at this
  simpa using this

end
/-- .. the middle part in a class of worlds. -/
theorem wp_three_in {P : Program} (C : World → Prop) {id : Nat} {Q : Exit → Act → World → Prop} {a : Act} {w : World} {l : List Oper} (first mid : List Nat) (n : Nat) (hm : P.follows .mixedOrders = true) (hB : threeB l first mid n = true)
    (hC : C { w with drawn := w.drawn + 1 })
    (h : ∀ Q' : Exit → Act → World → Prop, (∀ a w, Q .normal a w → Q' .normal a w) → wpQuiet P l.toArray (fun _ => True) (fun a1 => wpQuiet P l.toArray C (fun a2 => ∀ w', C w' → wpList P l.toArray Q' (l.drop n) a2 w') (pick l mid) a1) (pick l first) a) :
    (Code.region id l.toArray true).wp P Q a w := by
  simp only [threeB, Bool.and_eq_true, decide_eq_true_eq] at hB
  obtain ⟨⟨⟨hsel, hn⟩, hlen⟩, hB⟩ := hB
  refine Code.wp_mono (Q := noPan Q) (fun e a w hq => by cases e <;> first | exact hq | exact (hq : False).elim) ?_
  refine wp_region_any hm ?_
  have := headAny (C := C) (md := .any) (Q := noPan Q) (g := l.length - n) (fun c a a' w hq => hq) hsel hn (by omega)
    (fun listed a' w' hw' hseq hT => by
      have := wpAny_of_seq (md := .any) (Q' := noPan Q) (l.drop n) n listed a' w' (fun j => by simp [List.getElem?_drop]) (by rw [List.length_drop]; exact hseq) (hT w' hw')
      rwa [List.length_drop] at this)
    first (Array.replicate l.length false) a { w with drawn := w.drawn + 1 } hC (by simp) (fun j oj _ hl => by rw [getD_replicate_false] at hl; cases hl) hB (h (noPan Q) fun _ _ h => h)
  rw [show first.length + (mid.length + (l.length - n)) = l.toArray.size from by simp; omega] at this
  simpa using this

/-- an operation that gives a value and no call is as quiet in one class as in all worlds. -/
theorem quiet_simple {P : Program} {o : Oper} {a : Act} {C : World → Prop} {K : Act → Prop} (hs : simpleOp o = true) (h : o.quiet P a (fun _ => True) K) : o.quiet P a C K := by
  obtain ⟨v, hv, hK⟩ := h
  refine ⟨v, fun w _ => ?_, hK⟩
  have h1 := hv w trivial
  unfold Oper.quietAt at *
  generalize hr : (execOp a.eval o).run P w = r at h1
  cases r with
  | ok n w' =>
    obtain ⟨u, rfl⟩ := simpleOp_value hs hr
    exact h1
  | halt x w' => exact h1

/-- a load of a cell that all worlds of the class hold. -/
theorem quiet_val {P : Program} {o : Oper} {a : Act} {C : World → Prop} {K : Act → Prop} (v : Value) (h : ∀ w, C w → (execOp a.eval o).run P w = .ok (.value v) w) (hK : K (a.put o.dst v)) : o.quiet P a C K :=
  ⟨v, fun w hw => by unfold Oper.quietAt; rw [h w hw]; exact ⟨rfl, rfl⟩, hK⟩
theorem run_load_int {P : Program} {o : Oper} {a : Act} {w : World} {ty : TypeId} {x : Operand} {p : Addr} {v : Value} {k : IntKind} (ho : o.op = .load ty x) (hx : a.eval x = .pointer (some p)) (ht : P.underlying ty = some (.int k)) (hc : w.cell? p = some v) :
    (execOp a.eval o).run P w = .ok (.value v) w := by
  unfold execOp
  simp only [ho, hx]
  simp [go_sem, ht, hc, isAgg, run_underlying ht]
theorem quiet_load {P : Program} {o : Oper} {a : Act} {B : Nat} {w0 : World} {K : Act → Prop} {ty : TypeId} {x : Operand} {b off : Nat} {v : Value} {k : IntKind} (ho : o.op = .load ty x) (hx : a.eval x = .pointer (some ⟨b, off, none⟩)) (ht : P.underlying ty = some (.int k))
    (hc : w0.cell? ⟨b, off, none⟩ = some v) (hb : b < B) (hK : K (a.put o.dst v)) : o.quiet P a (fun w' => Below B w0 w') K :=
  quiet_val v (fun w hw => run_load_int ho hx ht ((hw.cell (p := ⟨b, off, none⟩) hb).trans hc)) hK

/-! ### append -/
/-- t is a slice type of elements e, each of sz cells and so many bytes. -/
def Elem (P : Program) (t e : TypeId) (sz bytes : Nat) : Prop := ∃ i z, P.underlying t = some (.slice e) ∧ P.info? e = some i ∧ i.zero = some z ∧ i.size = sz ∧ i.bytes = bytes ∧ z.cells.size = sz ∧ 0 < sz
theorem Elem.mk {P : Program} {t e : TypeId} {z : Value} {sz bytes : Nat} (ht : P.underlying t = some (.slice e)) (hi : (P.info? e).map (fun i => (i.zero, i.size, i.bytes)) = some (some z, sz, bytes)) (hz : z.cells.size = sz) (hs : 0 < sz) : Elem P t e sz bytes := by
  obtain ⟨i, h1, h2, h3, h4⟩ := info_parts hi
  exact ⟨i, z, ht, h1, h2, h3, h4, hz, hs⟩

/-- What an append does to other memory: below base nothing; of what was there the value's own row alone. -/
structure Pushed (base : Nat) (w w' : World) (v v' : Value) : Prop where
  below : Below base w w'
  other : ∀ k, k < w.heap.size → some k ≠ v.ownBlock → w'.heap[k]? = w.heap[k]?
  lies : v'.ownBlock = v.ownBlock ∨ v'.ownBlock = some w.heap.size

theorem wpList_append_list {P : Program} {ops : Array Oper} {rest : List Oper} {o : Oper} {a : Act} {Q : Exit → Act → World → Prop} {w : World} (hgd : o.guard = none) (s x : Operand) (t : TypeId)
    (ho : o.op = .call { callee := .builtin .append, args := #[s, x], argTypes := #[t, t] }) {e : TypeId} {sz bytes : Nat} (E : Elem P t e sz bytes) (base : Nat)
    (v : Value) (n : Nat) (xs : List Value) (hs : a.eval s = v) (hown : w.ownsRow base e sz v n xs)
    (ao : Option Addr) (m c : Nat) (news : List Value) (hx : a.eval x = .slice ao m c) (hl : news.length = m * sz) (h1 : ∀ u ∈ news, u.oneCell' = true)
    (hsrc : (ao = none ∧ m = 0 ∧ c = 0) ∨ ∃ ad, ao = some ad ∧ ∀ j u, news[j]? = some u → w.cell? (ad.add j) = some u)
    (hb : (n + m) * bytes ≤ 140737488355328) (hn : n + m ≤ maxLen) (hbase : base ≤ w.heap.size)
    (h : ∀ v' w', w'.ownsRow base e sz v' (n + m) (xs ++ news) → Pushed base w w' v v' → (v' = .slice none 0 0 ↔ v = .slice none 0 0 ∧ m = 0) → wpList P ops Q rest (a.put o.dst v') w') : wpList P ops Q (o :: rest) a w := by
  obtain ⟨i, z, ht, hi, hz, hsize, hby, hzs, hsz⟩ := E
  rcases hsrc with ⟨rfl, rfl, rfl⟩ | ⟨ad, rfl, hcells⟩
  · obtain rfl : news = [] := List.eq_nil_of_length_eq_zero (by simpa using hl)
    refine wpList_append_own_none hgd s x t ho base e i sz ht hi v n xs hs hown hx ?_
    exact h v w (by simpa using hown) ⟨Below.refl _ _, fun _ _ _ => rfl, Or.inl rfl⟩ (by simp)
  · obtain ⟨v', w', hr, h2, h3, h4, h5⟩ := run_append_own_at (P := P) w base t o.type e i z sz bytes ht hi hz hsize hby hzs hsz v n xs hown ad m c news hl hcells h1 hn hb hbase
    refine wpList_plain hgd fun K hK => ?_
    unfold Oper.wp execOp
    simp only [ho, resolve, invoke, builtin, Sem.run_bind, Sem.run_pure, Result.andThen_ok, List.map_toArray, List.map_cons, List.map_nil, hs, hx, hr]
    exact hK _ _ (h v' w' h2 ⟨(Below.refl _ _).grown h3 hbase (fun k hk => (hown.lt k hk).1), h3.block, h5⟩ h4)

/-- one element more. -/
theorem wpList_push {P : Program} {ops : Array Oper} {rest : List Oper} {o : Oper} {a : Act} {Q : Exit → Act → World → Prop} {w : World} (hgd : o.guard = none) (s x : Operand) (t : TypeId)
    (ho : o.op = .call { callee := .builtin .append, args := #[s, x], argTypes := #[t, t] }) {e : TypeId} {sz bytes : Nat} (E : Elem P t e sz bytes) (base : Nat)
    (v : Value) (n : Nat) (xs : List Value) (hs : a.eval s = v) (w0 : World) (hown : w0.ownsRow base e sz v n xs) (us : List Value) (hul : us.length = sz) (h1 : ∀ u ∈ us, u.oneCell' = true)
    (hw : w = w0.alloc (.cells us.toArray e)) (N : Nat) (hN : w0.heap.size = N) (hx : a.eval x = .slice (some ⟨N, 0, none⟩) 1 1)
    (hb : (n + 1) * bytes ≤ 140737488355328) (hn : n + 1 ≤ maxLen) (hbase : base ≤ w0.heap.size)
    (h : ∀ v' w', w'.ownsRow base e sz v' (n + 1) (xs ++ us) → Below base w0 w' → (∀ k, k < w0.heap.size → some k ≠ v.ownBlock → w'.heap[k]? = w0.heap[k]?) → (∀ k, v'.ownBlock = some k → v.ownBlock = some k ∨ w0.heap.size ≤ k) → wpList P ops Q rest (a.put o.dst v') w') : wpList P ops Q (o :: rest) a w := by
  subst hw; subst hN
  refine wpList_append_list hgd s x t ho E base v n xs hs (hown.alloc _) _ 1 1 us hx (by omega) h1 (Or.inr ⟨_, rfl, World.news_of_block (cs := us.toArray) (heap_alloc_new w0 _)⟩) hb hn (by simp; omega) ?_
  intro v' w' h2 h3 _
  refine h v' w' h2 (((Below.refl _ _).alloc hbase _).trans h3.below) (fun k hk hne => (h3.other k (by simp; omega) hne).trans (Below.heap_alloc _ _ _ hk)) (fun k hk => ?_)
  rcases h3.lies with e | e
  · exact Or.inl (by rw [← e]; exact hk)
  · right; rw [hk] at e; simp at e; omega

theorem ownsRow_drewN {w : World} {base : Nat} {e : TypeId} {size : Nat} {v : Value} {n : Nat} {xs : List Value} (k : Nat) (h : w.ownsRow base e size v n xs) : (w.drewN k).ownsRow base e size v n xs := h

end Go.Proofs.Ytlmdmpjfehpjeaa

/- A statement whose order is open: operations that yield the same in every world first, then the others in the one order that is left. -/
set_option linter.unusedVariables false
set_option linter.unusedSimpArgs false
namespace Go.Proofs.Ytlmdmpjfehpjeaa
open Go.RowKit
section
variable {P : Program} {md : Region.Mode}

/-- these numbers can only come in this order. -/
def seqL (md : Region.Mode) (ops : Array Oper) : List Nat → Array Bool → Bool
  | [], listed => (Region.ready md ops listed).isEmpty
  | k :: p, listed => decide (Region.ready md ops listed = [k]) && (ops[k]?).isSome && seqL md ops p (listed.setIfInBounds k true)

theorem wpAny_of_seqL {l : List Oper} {Q : Exit → Act → World → Prop} : ∀ (p : List Nat) (listed : Array Bool) (a : Act) (w : World), seqL md l.toArray p listed = true → wpList P l.toArray Q (pick l p) a w → wpAny P md l.toArray Q p.length listed a w := by
  intro p
  induction p with
  | nil => intro listed a w hB h; exact ⟨by simpa [seqL] using hB, h⟩
  | cons k p ih =>
    intro listed a w hB h
    simp only [seqL, Bool.and_eq_true, decide_eq_true_eq] at hB
    obtain ⟨⟨hr, ho⟩, hB'⟩ := hB
    obtain ⟨o, ho⟩ := Option.isSome_iff_exists.1 ho
    have ho' : l[k]? = some o := by simpa using ho
    rw [pick_cons ho'] at h
    refine ⟨fun h1 => (by rw [hr] at h1; cases h1), fun i hi => ?_⟩
    rw [hr] at hi
    have hik : i = k := by simpa using hi
    subst hik
    have hw : wpOp P l.toArray Q i (wpList P l.toArray Q (pick l p)) a w := by unfold wpOp; simp only [ho]; exact h
    exact wpOp_mono (fun a' w' h' => ih _ _ _ hB' h') hw

def twoB (md : Region.Mode) (ops : Array Oper) (tail : List Nat) : List Nat → Array Bool → Bool
  | [], listed => seqL md ops tail listed
  | i :: p, listed => ((ops[i]?).map simpleOp).getD false && (Region.ready md ops listed).contains i && Region.free md ops listed i && twoB md ops tail p (listed.setIfInBounds i true)

theorem wpAny_two {l : List Oper} {tail : List Nat} {Q : Exit → Act → World → Prop} (hQ : ∀ c a a' w, Q (.panic c) a w → Q (.panic c) a' w) (hsel : Region.noSelect l.toArray = true) :
    ∀ (p : List Nat) (listed : Array Bool) (a : Act) (w : World), twoB md l.toArray tail p listed = true → wpQuiet P l.toArray (fun _ => True) (fun a' => wpList P l.toArray Q (pick l tail) a' w) (pick l p) a →
      wpAny P md l.toArray Q (p.length + tail.length) listed a w := by
  intro p
  induction p with
  | nil => intro listed a w hB h; rw [List.length_nil, Nat.zero_add]; exact wpAny_of_seqL tail listed a w hB h
  | cons i p ih =>
    intro listed a w hB h
    simp only [twoB, Bool.and_eq_true] at hB
    obtain ⟨⟨⟨ho, hr⟩, hf⟩, hB'⟩ := hB
    cases ho2 : l.toArray[i]? with
    | none => rw [ho2] at ho; cases ho
    | some o =>
      rw [ho2] at ho
      have hs1 : simpleOp o = true := by simpa using ho
      have ho' : l[i]? = some o := by simpa using ho2
      rw [pick_cons ho'] at h
      have hr' : i ∈ Region.ready md l.toArray listed := by simpa using hr
      have hq : qOp P l.toArray (fun _ => True) i (wpQuiet P l.toArray (fun _ => True) (fun a' => wpList P l.toArray Q (pick l tail) a' w) (pick l p)) a := by unfold qOp; simp only [ho2]; exact h
      obtain ⟨v, hy, hK⟩ := yields_of_quiet ho2 hs1 hq
      rw [List.length_cons, show p.length + 1 + tail.length = (p.length + tail.length) + 1 from by omega]
      exact wpAny_first ho2 (Region.noSelect_spec hsel) (fun c a w h => hQ c _ _ w h) _ listed a w (Region.free_spec ho2 hf) hr' hy (ih _ _ _ hB' hK)

def twoAllB (l : List Oper) (first tail : List Nat) : Bool :=
  Region.noSelect l.toArray && decide (first.length + tail.length = l.length) && twoB .any l.toArray tail first (Array.replicate l.length false)

theorem wp_two {id : Nat} {Q : Exit → Act → World → Prop} {a : Act} {w : World} {l : List Oper} (first tail : List Nat) (hm : P.follows .mixedOrders = true) (hB : twoAllB l first tail = true)
    (h : ∀ Q' : Exit → Act → World → Prop, (∀ a w, Q .normal a w → Q' .normal a w) → wpQuiet P l.toArray (fun _ => True) (fun a1 => wpList P l.toArray Q' (pick l tail) a1 w.drew) (pick l first) a) :
    (Code.region id l.toArray true).wp P Q a w := by
  simp only [twoAllB, Bool.and_eq_true, decide_eq_true_eq] at hB
  obtain ⟨⟨hsel, hlen⟩, hB⟩ := hB
  refine Code.wp_mono (Q := noPan Q) (fun e a w hq => by cases e <;> first | exact hq | exact (hq : False).elim) ?_
  refine wp_region_any hm ?_
  have := wpAny_two (md := .any) (Q := noPan Q) (fun c a a' w hq => hq) hsel first (Array.replicate l.length false) a w.drew hB (h (noPan Q) fun _ _ h => h)
  rw [show first.length + tail.length = l.toArray.size from by simp; omega] at this
  simpa using this
end

/-- an empty slice literal. -/
theorem ownsRow_empty {P : Program} (w : World) {t e : TypeId} {sz bytes : Nat} (E : Elem P t e sz bytes) : (w.alloc (.cells #[] e)).ownsRow w.heap.size e sz (.slice (some ⟨w.heap.size, 0, none⟩) 0 0) 0 [] :=
  World.ownsRow_made w #[] 0 (Nat.le_refl _) (by simp [maxLen]) (by simp)

end Go.Proofs.Ytlmdmpjfehpjeaa

