/- Coverages: greater shares have more ways; bands and limits rise; what limits leave out is small. -/
import Derived.Test.YtllddidjiabegaaX6
set_option linter.unusedVariables false
set_option linter.unusedSimpArgs false
namespace Go.Proofs.Ytllddidjiabegaa
open Go.RowKit

theorem waysN_rec {s t h : Nat} (hs : s ≤ 10) : waysN s (t + 1) (h + 1) = s * waysN s t h + (10 - s) * waysN s t (h + 1) := by
  -- from the greatest count down
  have key : ∀ d h, t + 1 - h = d → waysN s (t + 1) (h + 1) = s * waysN s t h + (10 - s) * waysN s t (h + 1) := by
    intro d
    induction d with
    | zero => intro h hd; rw [waysN_big (by omega), waysN_big (by omega), waysN_big (by omega)]; simp
    | succ d ih =>
      intro h hd
      by_cases e : h = t + 1
      · rw [waysN_big (by omega), waysN_big (by omega), waysN_big (by omega)]; simp
      · rw [waysN_step (show h + 1 ≤ t + 1 by omega), ih (h + 1) (by omega)]
        have e1 : waysN s t h = ex s (10 - s) t h + waysN s t (h + 1) := waysN_step (by omega)
        have e2 : waysN s t (h + 1) = ex s (10 - s) t (h + 1) + waysN s t (h + 1 + 1) := by
          by_cases e3 : h + 1 ≤ t
          · exact waysN_step e3
          · rw [waysN_big (by omega), waysN_big (by omega), ex_big (by omega)]
        rw [e1]
        generalize waysN s t (h + 1 + 1) = z at *
        rw [e2]
        simp only [ex]
        grind
  exact key _ h rfl

theorem waysN_mono {s t : Nat} (hs : s + 1 ≤ 10) : ∀ h, waysN s t h ≤ waysN (s + 1) t h := by
  induction t with
  | zero =>
    intro h
    cases h with
    | zero => rw [waysN_zero (by omega), waysN_zero hs]; exact Nat.le_refl _
    | succ h => rw [waysN_big (by omega)]; exact Nat.zero_le _
  | succ t ih =>
    intro h
    cases h with
    | zero => rw [waysN_zero (by omega), waysN_zero hs]; exact Nat.le_refl _
    | succ h =>
      rw [waysN_rec (by omega), waysN_rec hs]
      have h1 := ih h
      have h2 := ih (h + 1)
      have h3 := waysN_anti (s := s + 1) (t := t) (Nat.le_succ h)
      obtain ⟨u, hu⟩ : ∃ u, 10 - s = u + 1 := ⟨9 - s, by omega⟩
      have hu2 : 10 - (s + 1) = u := by omega
      rw [hu, hu2]
      have a1 : s * waysN s t h ≤ s * waysN (s + 1) t h := Nat.mul_le_mul_left _ h1
      have a2 : (u + 1) * waysN s t (h + 1) ≤ (u + 1) * waysN (s + 1) t (h + 1) := Nat.mul_le_mul_left _ h2
      rw [Nat.add_mul u 1, Nat.one_mul] at a2
      rw [Nat.add_mul s 1, Nat.one_mul]
      rw [Nat.add_mul u 1, Nat.one_mul] at *
      have h3' : waysN (s + 1) t (h + 1) ≤ waysN (s + 1) t h := h3
      omega
theorem waysN_le_of {s s' t : Nat} (h : s ≤ s') (hs : s' ≤ 10) (k : Nat) : waysN s t k ≤ waysN s' t k := by
  induction s' with
  | zero => have : s = 0 := by omega
            subst this; exact Nat.le_refl _
  | succ s' ih =>
    by_cases e : s = s' + 1
    · subst e; exact Nat.le_refl _
    · exact Nat.le_trans (ih (by omega) (by omega)) (waysN_mono hs k)

theorem upTo_spec {p : Nat → Bool} : ∀ (f a : Nat), (∃ j, a ≤ j ∧ j < a + f ∧ p j = false) → a ≤ upTo p f a ∧ p (upTo p f a) = false ∧ ∀ j, a ≤ j → j < upTo p f a → p j = true := by
  intro f
  induction f with
  | zero => rintro a ⟨j, h1, h2, _⟩; omega
  | succ f ih =>
    rintro a ⟨j, h1, h2, h3⟩
    simp only [upTo]
    cases hp : p a
    · simp only [Bool.false_eq_true, if_false]
      exact ⟨Nat.le_refl _, hp, fun j hj hj2 => by omega⟩
    · simp only [if_true]
      have hne : j ≠ a := by rintro rfl; rw [hp] at h3; cases h3
      obtain ⟨k1, k2, k3⟩ := ih (a + 1) ⟨j, by omega, by omega, h3⟩
      refine ⟨by omega, k2, fun i hi hi2 => ?_⟩
      by_cases e : i = a
      · subst e; exact hp
      · exact k3 i (by omega) hi2
theorem downTo_spec {p : Nat → Bool} : ∀ (b : Nat), downTo p b ≤ b ∧ (∀ j, downTo p b < j → j ≤ b → p j = true) ∧ (downTo p b = 0 ∨ p (downTo p b) = false) := by
  intro b
  induction b with
  | zero => exact ⟨Nat.le_refl _, fun j h1 h2 => by simp only [downTo] at h1; omega, Or.inl rfl⟩
  | succ b ih =>
    simp only [downTo]
    cases hp : p (b + 1)
    · simp only [Bool.false_eq_true, if_false]
      exact ⟨Nat.le_refl _, fun j h1 h2 => by omega, Or.inr hp⟩
    · simp only [if_true]
      obtain ⟨k1, k2, k3⟩ := ih
      refine ⟨by omega, fun j h1 h2 => ?_, k3⟩
      by_cases e : j = b + 1
      · subst e; exact hp
      · exact k2 j h1 (by omega)
theorem bandLo_spec {T S r : Nat} (hr : r < 2000) : loP T S r (bandLo T S r) = false ∧ (∀ j, j < bandLo T S r → loP T S r j = true) := by
  have := upTo_spec (p := loP T S r) (T + 1) 0 ⟨T, by omega, by omega, loP_end hr⟩
  exact ⟨this.2.1, fun j hj => this.2.2 j (by omega) hj⟩
theorem bandHi_spec {T S r : Nat} : bandHi T S r ≤ T ∧ (∀ j, bandHi T S r < j → j ≤ T → hiP T S r j = true) := by
  have := downTo_spec (p := hiP T S r) T
  exact ⟨this.1, this.2.1⟩
theorem bandLo_mono {T s s' r : Nat} (h : s ≤ s') (hs : s' ≤ 10) (hr : r < 2000) : bandLo T s r ≤ bandLo T s' r := by
  have h1 := bandLo_spec (T := T) (S := s) hr
  have h2 := bandLo_spec (T := T) (S := s') hr
  rcases Nat.lt_or_ge (bandLo T s' r) (bandLo T s r) with hl | hl
  · have h3 := h1.2 _ hl
    have h4 := h2.1
    simp only [loP, decide_eq_true_iff, decide_eq_false_iff_not] at h3 h4
    have h5 := waysN_le_of (t := T) h hs (bandLo T s' r + 1)
    exfalso; apply h4
    exact Nat.le_trans (Nat.mul_le_mul_left _ (Nat.sub_le_sub_left h5 _)) h3
  · exact hl
theorem bandHi_mono {T s s' r : Nat} (h : s ≤ s') (hs : s' ≤ 10) : bandHi T s r ≤ bandHi T s' r := by
  have h1 := downTo_spec (p := hiP T s r) T
  have h2 := downTo_spec (p := hiP T s' r) T
  unfold bandHi
  rcases Nat.lt_or_ge (downTo (hiP T s' r) T) (downTo (hiP T s r) T) with hl | hl
  · have h3 := h2.2.1 _ hl h1.1
    rcases h1.2.2 with h4 | h4
    · omega
    · simp only [hiP, decide_eq_true_iff, decide_eq_false_iff_not] at h3 h4
      have h5 := waysN_le_of (t := T) h hs (downTo (hiP T s r) T)
      exfalso; apply h4
      exact Nat.le_trans (Nat.mul_le_mul_left _ h5) h3
  · exact hl

/-! limits -/
theorem lim_spec (T h r : Int) (n : Nat) (hn11 : n ≤ 11) : (∀ s : Nat, s < n → inBandB T h r s = true → limLo T h r n ≤ s ∧ (s : Int) ≤ limHi T h r n) ∧ (limHi T h r n ≠ -1 → ∃ a b : Nat, a < n ∧ b < n ∧ a ≤ b ∧ limLo T h r n = a ∧ limHi T h r n = b ∧ inBandB T h r a = true ∧ inBandB T h r b = true) ∧ (limHi T h r n = -1 → limLo T h r n = 11 ∧ ∀ s : Nat, s < n → inBandB T h r s = false) := by
  induction n with
  | zero => exact ⟨fun s hs => absurd hs (by omega), fun h => absurd rfl h, fun _ => ⟨rfl, fun s hs => absurd hs (by omega)⟩⟩
  | succ n ih =>
    obtain ⟨i1, i2, i3⟩ := ih (by omega)
    have hle := limHi_le T h r n
    simp only [limLo, limHi]
    cases hb : inBandB T h r n
    · simp only [Bool.false_eq_true, if_false]
      refine ⟨fun s hs hi => ?_, fun hne => ?_, fun he => ⟨(i3 he).1, fun s hs => ?_⟩⟩
      · by_cases e : s = n
        · subst e; rw [hb] at hi; cases hi
        · exact i1 s (by omega) hi
      · obtain ⟨a, b, h1, h2, h3⟩ := i2 hne
        exact ⟨a, b, by omega, by omega, h3⟩
      · by_cases e : s = n
        · subst e; exact hb
        · exact (i3 he).2 s (by omega)
    · simp only [if_true]
      refine ⟨fun s hs hi => ?_, fun _ => ?_, fun he => absurd he (by omega)⟩
      · by_cases e : s = n
        · subst e; omega
        · have := i1 s (by omega) hi; omega
      · by_cases he : limHi T h r n = -1
        · have h11 := (i3 he).1
          exact ⟨n, n, by omega, by omega, by omega, by rw [h11]; omega, rfl, hb, hb⟩
        · obtain ⟨a, b, h1, h2, h3, h4, h5, h6, h7⟩ := i2 he
          refine ⟨a, n, by omega, by omega, by omega, by rw [h4]; omega, rfl, h6, hb⟩

theorem inBand_iff {t rr s : Nat} {h : Int} : inBandB t h rr s = true ↔ (bandLo t s rr : Int) ≤ h ∧ h ≤ (bandHi t s rr : Int) := by
  simp only [inBandB, inB_true, bandLoI, bandHiI, Int.toNat_natCast]
theorem lim_mono {t rr : Nat} {h h' : Int} (hr : rr < 2000) (hh : h ≤ h') (f : limHi t h rr 11 ≠ -1) (f' : limHi t h' rr 11 ≠ -1) : limLo t h rr 11 ≤ limLo t h' rr 11 ∧ limHi t h rr 11 ≤ limHi t h' rr 11 := by
  obtain ⟨k1, k2, _⟩ := lim_spec t h rr 11 (Nat.le_refl _)
  obtain ⟨m1, m2, _⟩ := lim_spec t h' rr 11 (Nat.le_refl _)
  obtain ⟨a, b, ha, hb, hab, e1, e2, i1, i2⟩ := k2 f
  obtain ⟨a', b', ha', hb', hab', e1', e2', i1', i2'⟩ := m2 f'
  rw [inBand_iff] at i1 i2 i1' i2'
  constructor
  · rcases Nat.lt_or_ge a' a with hl | hl
    · have h1 := bandLo_mono (T := t) (r := rr) (show a' ≤ a by omega) (by omega) hr
      have := (k1 a' ha' (inBand_iff.2 (by omega))).1
      omega
    · omega
  · rcases Nat.lt_or_ge b' b with hl | hl
    · have h1 := bandHi_mono (T := t) (r := rr) (show b' ≤ b by omega) (by omega)
      have := (m1 b hb (inBand_iff.2 (by omega))).2
      omega
    · omega

/-! coverages -/
theorem covB_of_band {t s rr h : Nat} (hs : s ≤ 10) (h1 : bandLo t s rr ≤ h) (h2 : h ≤ bandHi t s rr) : covB t s rr h = true := by
  obtain ⟨k1, k2, _⟩ := lim_spec t h rr 11 (Nat.le_refl _)
  have h3 := k1 s (by omega) (inBand_iff.2 (by omega))
  have hle := limHi_le t h rr 11
  simp only [covB, Bool.and_eq_true, bne_iff_ne, ne_eq, inB_true]
  omega
theorem exI_nat (t s h : Nat) : exI t h s = (ex s (10 - s) t h : Nat) := by simp [exI]
theorem cov_step (t s rr n : Nat) : cov t s rr (n + 1) = cov t s rr n + (if covB t s rr n = true then ((ex s (10 - s) t n : Nat) : Int) else 0) := by
  rw [cov, exI_nat]
theorem cov_up {t s rr n m : Nat} (h : n ≤ m) : cov t s rr n ≤ cov t s rr m := by
  induction m with
  | zero => have : n = 0 := by omega
            subst this; exact Int.le_refl _
  | succ m ih =>
    by_cases e : n = m + 1
    · subst e; exact Int.le_refl _
    · have := ih (by omega)
      rw [cov_step]
      split <;> omega
theorem cov_from {t s rr : Nat} (hs : s ≤ 10) {n : Nat} (h1 : bandLo t s rr ≤ n) (h2 : n ≤ bandHi t s rr + 1) : (waysN s t (bandLo t s rr) : Int) - waysN s t n ≤ cov t s rr n := by
  induction n with
  | zero =>
    have : bandLo t s rr = 0 := by omega
    rw [this]; simp [cov]
  | succ n ih =>
    by_cases e : bandLo t s rr = n + 1
    · have h3 : 0 ≤ cov t s rr (n + 1) := by have := cov_up (t := t) (s := s) (rr := rr) (Nat.zero_le (n + 1)); simpa [cov] using this
      rw [e]; omega
    · have h3 := ih (by omega) (by omega)
      have hT := (bandHi_spec (T := t) (S := s) (r := rr)).1
      rw [cov_step, covB_of_band hs (by omega) (by omega), if_pos rfl]
      have := waysN_step (s := s) (show n ≤ t by omega)
      omega
theorem cov_low {t s rr : Nat} (hs : s ≤ 10) (hr : rr ≤ 999) : (1000 - (rr : Int)) * ((10 ^ t : Nat) : Int) ≤ 1000 * cov t s rr (t + 1) := by
  have hlo := bandLo_spec (T := t) (S := s) (r := rr) (by omega)
  have hhi := bandHi_spec (T := t) (S := s) (r := rr)
  have hw0 := waysN_zero (s := s) (t := t) hs
  have hpos : 0 < 10 ^ t := Nat.pow_pos (by decide)
  -- the sequences with fewer hits
  have t1 : 2000 * (10 ^ t - waysN s t (bandLo t s rr)) ≤ rr * 10 ^ t := by
    by_cases e : bandLo t s rr = 0
    · rw [e, hw0]; simp
    · have := hlo.2 (bandLo t s rr - 1) (by omega)
      simp only [loP, decide_eq_true_iff] at this
      rwa [show bandLo t s rr - 1 + 1 = bandLo t s rr from by omega] at this
  -- with more hits
  have t2 : 2000 * waysN s t (bandHi t s rr + 1) ≤ rr * 10 ^ t := by
    by_cases e : bandHi t s rr = t
    · rw [e, waysN_big (by omega)]; simp
    · have := hhi.2 (bandHi t s rr + 1) (by omega) (by omega)
      simpa only [hiP, decide_eq_true_iff] using this
  have hwl := waysN_le (s := s) (t := t) (h := bandLo t s rr) hs
  obtain ⟨A, hA⟩ : ∃ A, A = 10 ^ t := ⟨_, rfl⟩
  rw [← hA] at t1 t2 hwl hpos ⊢
  have hra : rr * A ≤ 999 * A := Nat.mul_le_mul_right _ hr
  have e9 : (1000 - (rr : Int)) * (A : Int) = 1000 * (A : Int) - ((rr * A : Nat) : Int) := by rw [Int.sub_mul, Int.natCast_mul]
  rw [e9]
  generalize rr * A = R at *
  by_cases hle : bandLo t s rr ≤ bandHi t s rr + 1
  · have h1 := cov_from hs hle (Nat.le_refl _)
    have h2 := cov_up (t := t) (s := s) (rr := rr) (show bandHi t s rr + 1 ≤ t + 1 by omega)
    omega
  · have h3 := waysN_anti (s := s) (t := t) (show bandHi t s rr + 1 ≤ bandLo t s rr by omega)
    omega
theorem cov_high {t s rr : Nat} (hs : s ≤ 10) : 0 ≤ cov t s rr (t + 1) ∧ cov t s rr (t + 1) ≤ ((10 ^ t : Nat) : Int) := by
  have h := cov_bound t s rr (t + 1)
  simp only [Int.toNat_natCast] at h
  rw [ex_sum, show s + (10 - s) = 10 from by omega] at h
  exact h

end Go.Proofs.Ytllddidjiabegaa
