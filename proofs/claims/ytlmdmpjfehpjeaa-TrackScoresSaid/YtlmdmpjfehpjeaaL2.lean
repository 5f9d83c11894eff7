/- Tracks: plain law of reached places, answers, scores, divided boxes, best steps, covers. -/
import Derived.Test.YtlmdmpjfehpjeaaL1
set_option linter.unusedVariables false
set_option linter.unusedSimpArgs false
namespace Go.Proofs.Ytlmdmpjfehpjeaa

structure TMod where
  (px py pz tm tk lo hi li ea la no mi : Int)
structure V3 where
  (x y z : Int)
def V3.dot (a b : V3) : Int := a.x * b.x + a.y * b.y + a.z * b.z
def TMod.slow (m : TMod) : Int := m.li * m.tk * m.tk
def TMod.way (m : TMod) (s p : V3) (t : Int) : V3 := ⟨m.tk * (p.x - m.px) - (t - m.tm) * s.x, m.tk * (p.y - m.py) - (t - m.tm) * s.y, m.tk * (p.z - m.pz) - (t - m.tm) * s.z⟩
def reachB (a b c : Int) : Bool := decide (c = 0) || (decide (b ≤ 0) && decide (a * c ≤ b * b))
def TMod.reached (m : TMod) (s p : V3) (t : Int) : Bool := reachB (s.dot s - m.slow) ((m.way s p t).dot s) ((m.way s p t).dot (m.way s p t))
theorem sq_nn (a : Int) : 0 ≤ a * a := by have h : ((a.natAbs * a.natAbs : Nat) : Int) = a * a := Int.natAbs_mul_self; omega
theorem V3.dot_self (a : V3) : 0 ≤ a.dot a := by
  have h1 := sq_nn a.x 
  have h2 := sq_nn a.y
  have h3 := sq_nn a.z
  unfold V3.dot; omega
theorem V3.dot_zero {a : V3} (h : a.dot a = 0) : a.x = 0 ∧ a.y = 0 ∧ a.z = 0 := by
  have h1 := sq_nn a.x
  have h2 := sq_nn a.y
  have h3 := sq_nn a.z
  unfold V3.dot at h
  have e1 : a.x * a.x = 0 := by omega
  have e2 : a.y * a.y = 0 := by omega
  have e3 : a.z * a.z = 0 := by omega
  exact ⟨(Int.mul_eq_zero.1 e1).elim id id, (Int.mul_eq_zero.1 e2).elim id id, (Int.mul_eq_zero.1 e3).elim id id⟩
/-- light that has reached a place stays there. -/
theorem reached_succ (m : TMod) (s p : V3) (t : Int) (hs : 0 ≤ m.slow) (ha : m.slow < s.dot s) (h : m.reached s p t = true) : m.reached s p (t + 1) = true := by
  obtain ⟨w, hw⟩ : ∃ w, w = m.way s p t := ⟨_, rfl⟩
  obtain ⟨w', hw'⟩ : ∃ w', w' = m.way s p (t + 1) := ⟨_, rfl⟩
  have ex : w'.x = w.x - s.x := by rw [hw, hw']; simp only [TMod.way]; grind
  have ey : w'.y = w.y - s.y := by rw [hw, hw']; simp only [TMod.way]; grind
  have ez : w'.z = w.z - s.z := by rw [hw, hw']; simp only [TMod.way]; grind
  unfold TMod.reached at *
  rw [← hw] at h
  rw [← hw']
  obtain ⟨S, hS⟩ : ∃ S, S = s.dot s := ⟨_, rfl⟩
  obtain ⟨b, hb⟩ : ∃ b, b = w.dot s := ⟨_, rfl⟩
  obtain ⟨c, hc⟩ : ∃ c, c = w.dot w := ⟨_, rfl⟩
  have eb : w'.dot s = b - S := by rw [hb, hS]; simp only [V3.dot, ex, ey, ez]; grind
  have ec : w'.dot w' = c - 2 * b + S := by rw [hc, hb, hS]; simp only [V3.dot, ex, ey, ez]; grind
  rw [eb, ec, ← hS]
  rw [← hb, ← hc, ← hS] at h
  rw [← hS] at ha
  have hc0 : 0 ≤ c := by rw [hc]; exact V3.dot_self w
  unfold reachB at *
  simp only [Bool.or_eq_true, Bool.and_eq_true, decide_eq_true_eq] at *
  right
  have hb0 : b ≤ 0 ∧ (S - m.slow) * c ≤ b * b := by
    rcases h with h | h
    · have := V3.dot_zero (hc.symm.trans h)
      have e0 : b = 0 := by rw [hb]; simp only [V3.dot, this.1, this.2.1, this.2.2]; omega
      exact ⟨by omega, by rw [h, e0]; omega⟩
    · exact h
  refine ⟨by omega, ?_⟩
  generalize m.slow = q at *
  have h1 := Int.mul_nonneg (show 0 ≤ -b by omega) hs
  have h2 := Int.mul_nonneg (show 0 ≤ S by omega) hs
  have e : (b - S) * (b - S) - (S - q) * (c - 2 * b + S) = (b * b - (S - q) * c) + 2 * (-b * q) + S * q := by grind
  omega
theorem reached_mono (m : TMod) (s p : V3) (hs : 0 ≤ m.slow) (ha : m.slow < s.dot s) {t u : Int} (htu : t ≤ u) (h : m.reached s p t = true) : m.reached s p u = true := by
  obtain ⟨k, rfl⟩ : ∃ k : Nat, u = t + k := ⟨(u - t).toNat, by omega⟩
  induction k with
  | zero => simpa using h
  | succ k ih =>
    have := reached_succ m s p (t + k) hs ha (ih (by omega))
    rwa [show t + (k : Int) + 1 = t + ((k + 1 : Nat) : Int) by push_cast; omega] at this
/-- the first number from t on, among so many. -/
def fstN (f : Int → Bool) : Nat → Int → Int
  | 0, t => t
  | n + 1, t => if f t then t else fstN f n (t + 1)
theorem fstN_spec (f : Int → Bool) : ∀ (n : Nat) (t : Int), t ≤ fstN f n t ∧ fstN f n t ≤ t + n ∧ (∀ u, t ≤ u → u < fstN f n t → f u = false) ∧ (fstN f n t < t + n → f (fstN f n t) = true) := by
  intro n
  induction n with
  | zero => intro t; exact ⟨Int.le_refl _, by simp [fstN], fun u h1 h2 => by simp only [fstN] at h2; omega, fun h => by simp [fstN] at h⟩
  | succ n ih =>
    intro t
    unfold fstN
    split
    · next h => exact ⟨Int.le_refl _, by omega, fun u h1 h2 => by omega, fun _ => h⟩
    · next h =>
      obtain ⟨h1, h2, h3, h4⟩ := ih (t + 1)
      refine ⟨by omega, by push_cast; omega, fun u hu1 hu2 => ?_, fun hh => h4 (by push_cast at hh; omega)⟩
      rcases (by omega : u = t ∨ t + 1 ≤ u) with rfl | h5
      · simpa using h
      · exact h3 u h5 hu2
theorem fstN_eq {f : Int → Bool} {n : Nat} {t u : Int} (h1 : t ≤ u) (h2 : u ≤ t + n) (h3 : ∀ v, t ≤ v → v < u → f v = false) (h4 : u < t + n → f u = true) : fstN f n t = u := by
  obtain ⟨a1, a2, a3, a4⟩ := fstN_spec f n t
  rcases Int.lt_trichotomy (fstN f n t) u with h | h | h
  · have := h3 _ a1 h; rw [a4 (by omega)] at this; cases this
  · exact h
  · have := a3 u h1 h; rw [h4 (by omega)] at this; cases this
/-- the first time, from the time before the first that counts. -/
def TMod.first (m : TMod) (s p : V3) : Int := fstN (m.reached s p) 2000002 (-1000001)
theorem first_spec (m : TMod) (s p : V3) (hs : 0 ≤ m.slow) (ha : m.slow < s.dot s) {u : Int} (h1 : -1000001 ≤ u) (h2 : u ≤ 1000000) : m.reached s p u = decide (m.first s p ≤ u) := by
  obtain ⟨a1, a2, a3, a4⟩ := fstN_spec (m.reached s p) 2000002 (-1000001)
  by_cases h : m.first s p ≤ u
  · rw [decide_eq_true h]
    exact reached_mono m s p hs ha h (a4 (by unfold TMod.first at h; omega))
  · rw [decide_eq_false h]
    exact a3 u h1 (by unfold TMod.first at h; omega)
/-- products of numbers of a size. -/
theorem mul_sz {x y : Int} {A B : Nat} (hx : x.natAbs ≤ A) (hy : y.natAbs ≤ B) : (x * y).natAbs ≤ A * B := by
  rw [Int.natAbs_mul]; exact Nat.mul_le_mul hx hy
theorem mul_rg {x y A B C : Int} (hx : -A ≤ x ∧ x ≤ A) (hy : -B ≤ y ∧ y ≤ B) (hC : A * B ≤ C) : -C ≤ x * y ∧ x * y ≤ C := by
  have h := mul_sz (x := x) (y := y) (A := A.natAbs) (B := B.natAbs) (by omega) (by omega)
  have e : ((A.natAbs * B.natAbs : Nat) : Int) = A * B := by push_cast; congr 1 <;> omega
  omega
theorem reached_iff (m : TMod) (s p : V3) (hs : 0 ≤ m.slow) (ha : m.slow < s.dot s) {n : Int} (h1 : m.reached s p n = true) (h0 : m.reached s p (n - 1) = false) (u : Int) : m.reached s p u = decide (n ≤ u) := by
  by_cases h : n ≤ u
  · rw [decide_eq_true h]; exact reached_mono m s p hs ha h h1
  · rw [decide_eq_false h]
    cases e : m.reached s p u
    · rfl
    · rw [reached_mono m s p hs ha (show u ≤ n - 1 by omega) e] at h0; cases h0
theorem first_of (m : TMod) (s p : V3) {n : Int} (h : ∀ u, m.reached s p u = decide (n ≤ u)) (h1 : -1000001 ≤ n) (h2 : n ≤ 1000001) : m.first s p = n :=
  fstN_eq h1 (by omega) (fun v _ hv => by rw [h, decide_eq_false (by omega)]) (fun _ => by rw [h, decide_eq_true (Int.le_refl _)])
/-- a first time that counts is one. -/
theorem first_at (m : TMod) (s p : V3) (hs : 0 ≤ m.slow) (ha : m.slow < s.dot s) (h1 : -1000000 ≤ m.first s p) (h2 : m.first s p ≤ 1000000) : ∀ u, m.reached s p u = decide (m.first s p ≤ u) := by
  have a := first_spec m s p hs ha (u := m.first s p) (by omega) h2
  have b := first_spec m s p hs ha (u := m.first s p - 1) (by omega) (by omega)
  exact reached_iff m s p hs ha (by rw [a]; simp) (by rw [b]; simp; omega)
def V3.add (a b : V3) : V3 := ⟨a.x + b.x, a.y + b.y, a.z + b.z⟩
def V3.mul (a : V3) (k : Int) : V3 := ⟨a.x * k, a.y * k, a.z * k⟩
def V3.swap (a : V3) : V3 := ⟨a.y, a.x, a.z⟩
def TMod.pl (m : TMod) : V3 := ⟨m.px, m.py, m.pz⟩
def TMod.put (m : TMod) (p : V3) (t : Int) : TMod := { m with px := p.x, py := p.y, pz := p.z, tm := t }
theorem reached_move (m : TMod) (s p d : V3) (t dt : Int) : (m.put (m.pl.add d) (m.tm + dt)).reached s (p.add d) (t + dt) = m.reached s p t := by
  have e : (m.put (m.pl.add d) (m.tm + dt)).way s (p.add d) (t + dt) = m.way s p t := by
    simp only [TMod.way, TMod.put, TMod.pl, V3.add, V3.mk.injEq]
    refine ⟨?_, ?_, ?_⟩ <;> grind
  unfold TMod.reached
  rw [e]; rfl
theorem reached_turn (m : TMod) (s p : V3) (t : Int) : (m.put m.pl.swap m.tm).reached s.swap p.swap t = m.reached s p t := by
  have e : (m.put m.pl.swap m.tm).way s.swap p.swap t = (m.way s p t).swap := by simp only [TMod.way, TMod.put, TMod.pl, V3.swap]
  have e2 : ∀ a b : V3, a.swap.dot b.swap = a.dot b := fun a b => by simp only [V3.dot, V3.swap]; omega
  unfold TMod.reached
  rw [e, e2, e2, e2]; rfl
theorem reached_own (m : TMod) (s : V3) (k : Int) : m.reached s (m.pl.add (s.mul k)) (m.tm + m.tk * k) = true := by
  have e : m.way s (m.pl.add (s.mul k)) (m.tm + m.tk * k) = ⟨0, 0, 0⟩ := by
    simp only [TMod.way, TMod.pl, V3.add, V3.mul, V3.mk.injEq]
    refine ⟨?_, ?_, ?_⟩ <;> grind
  unfold TMod.reached
  rw [e]; simp [reachB, V3.dot]
structure TBox where
  (lo hi : V3)
/-- a range of numbers. -/
structure Rg where
  (lo hi : Int)
def Rg.plus (r s : Rg) : Rg := ⟨r.lo + s.lo, r.hi + s.hi⟩
def mn4 (a b c d : Int) : Int := min (min (min a b) c) d
def mx4 (a b c d : Int) : Int := max (max (max a b) c) d
def Rg.times (r s : Rg) : Rg := ⟨mn4 (r.lo * s.lo) (r.lo * s.hi) (r.hi * s.lo) (r.hi * s.hi), mx4 (r.lo * s.lo) (r.lo * s.hi) (r.hi * s.lo) (r.hi * s.hi)⟩
def Rg.square (r : Rg) : Rg := if r.lo ≤ 0 ∧ 0 ≤ r.hi then ⟨0, max (r.lo * r.lo) (r.hi * r.hi)⟩ else ⟨min (r.lo * r.lo) (r.hi * r.hi), max (r.lo * r.lo) (r.hi * r.hi)⟩
def Rg.has (r : Rg) (n : Int) : Prop := r.lo ≤ n ∧ n ≤ r.hi
theorem Rg.plus_has {r s : Rg} {a b : Int} (h : r.has a) (g : s.has b) : (r.plus s).has (a + b) := by unfold Rg.has Rg.plus at *; simp only; omega
theorem mul_between {x lo hi : Int} (c : Int) (h : lo ≤ x ∧ x ≤ hi) : min (lo * c) (hi * c) ≤ x * c ∧ x * c ≤ max (lo * c) (hi * c) := by
  rcases Int.le_total 0 c with h0 | h0
  · have h1 := Int.mul_le_mul_of_nonneg_right h.1 h0
    have h2 := Int.mul_le_mul_of_nonneg_right h.2 h0
    omega
  · have h1 := Int.mul_le_mul_of_nonpos_right h.1 h0
    have h2 := Int.mul_le_mul_of_nonpos_right h.2 h0
    omega
theorem Rg.times_has {r s : Rg} {a b : Int} (h : r.has a) (g : s.has b) : (r.times s).has (a * b) := by
  obtain ⟨h1, h2⟩ := mul_between b h
  obtain ⟨h3, h4⟩ := mul_between r.lo g
  obtain ⟨h5, h6⟩ := mul_between r.hi g
  have e1 := Int.mul_comm b r.lo
  have e2 := Int.mul_comm b r.hi
  have e3 := Int.mul_comm s.lo r.lo
  have e4 := Int.mul_comm s.hi r.lo
  have e5 := Int.mul_comm s.lo r.hi
  have e6 := Int.mul_comm s.hi r.hi
  unfold Rg.has Rg.times mn4 mx4
  simp only
  omega
theorem sq_le {a b : Int} (h0 : 0 ≤ a) (h : a ≤ b) : a * a ≤ b * b := Int.mul_le_mul h h h0 (by omega)
theorem sq_le_neg {a b : Int} (h0 : b ≤ 0) (h : a ≤ b) : b * b ≤ a * a := by
  have := sq_le (a := -b) (b := -a) (by omega) (by omega)
  rwa [Int.neg_mul_neg, Int.neg_mul_neg] at this
theorem Rg.square_has {r : Rg} {a : Int} (h : r.has a) : r.square.has (a * a) := by
  obtain ⟨h1, h2⟩ := h
  have h0 : 0 ≤ a * a := by have h : ((a.natAbs * a.natAbs : Nat) : Int) = a * a := Int.natAbs_mul_self; omega
  have hp : 0 ≤ a → a * a ≤ r.hi * r.hi := fun h => sq_le h h2
  have hn : a ≤ 0 → a * a ≤ r.lo * r.lo := fun h => sq_le_neg h h1
  have hl : 0 ≤ r.lo → r.lo * r.lo ≤ a * a := fun h => sq_le h h1
  have hh : r.hi ≤ 0 → r.hi * r.hi ≤ a * a := fun h => sq_le_neg h h2
  unfold Rg.square Rg.has
  split <;> simp only <;> omega
def TBox.rx (b : TBox) : Rg := ⟨b.lo.x, b.hi.x⟩
def TBox.ry (b : TBox) : Rg := ⟨b.lo.y, b.hi.y⟩
def TBox.rz (b : TBox) : Rg := ⟨b.lo.z, b.hi.z⟩
def TBox.has (b : TBox) (s : V3) : Prop := b.rx.has s.x ∧ b.ry.has s.y ∧ b.rz.has s.z
def restR (tk : Int) (r : Rg) (d a : Int) : Rg := (r.times ⟨-a, -a⟩).plus ⟨tk * d, tk * d⟩
def TMod.prodR (m : TMod) (b : TBox) (p : V3) (t : Int) : Rg :=
  (((⟨0, 0⟩ : Rg).plus ((restR m.tk b.rx (p.x - m.px) (t - m.tm)).times b.rx)).plus ((restR m.tk b.ry (p.y - m.py) (t - m.tm)).times b.ry)).plus ((restR m.tk b.rz (p.z - m.pz) (t - m.tm)).times b.rz)
def TMod.leftR (m : TMod) (b : TBox) (p : V3) (t : Int) : Rg :=
  (((⟨0, 0⟩ : Rg).plus (restR m.tk b.rx (p.x - m.px) (t - m.tm)).square).plus (restR m.tk b.ry (p.y - m.py) (t - m.tm)).square).plus (restR m.tk b.rz (p.z - m.pz) (t - m.tm)).square
def TBox.squares (b : TBox) : Rg := (((⟨0, 0⟩ : Rg).plus b.rx.square).plus b.ry.square).plus b.rz.square
def TMod.fast (m : TMod) (b : TBox) : Rg := ⟨max b.squares.lo m.lo - m.slow, min b.squares.hi m.hi - m.slow⟩
/-- the answer for a box: 2 surely, 0 surely not, 1 undecided. -/
def ansR (prod left fast : Rg) : Int :=
  if left.hi = 0 ∨ (prod.hi ≤ 0 ∧ fast.hi * left.hi ≤ prod.hi * prod.hi) then 2 else if 0 < left.lo ∧ (0 < prod.lo ∨ prod.lo * prod.lo < fast.lo * left.lo) then 0 else 1
def TMod.ans (m : TMod) (b : TBox) (p : V3) (t : Int) : Int := ansR (m.prodR b p t) (m.leftR b p t) (m.fast b)
def TMod.permit (m : TMod) (s : V3) : Prop := m.lo ≤ s.dot s ∧ s.dot s ≤ m.hi
theorem rest_has {tk d a x : Int} {r : Rg} (h : r.has x) : (restR tk r d a).has (tk * d - a * x) := by
  have h1 := Rg.plus_has (Rg.times_has h (s := ⟨-a, -a⟩) (b := -a) ⟨Int.le_refl _, Int.le_refl _⟩) (s := ⟨tk * d, tk * d⟩) (b := tk * d) ⟨Int.le_refl _, Int.le_refl _⟩
  rwa [show x * -a + tk * d = tk * d - a * x by grind] at h1
theorem zero_has : (⟨0, 0⟩ : Rg).has 0 := ⟨Int.le_refl _, Int.le_refl _⟩
theorem prod_has {m : TMod} {b : TBox} {s p : V3} {t : Int} (h : b.has s) : (m.prodR b p t).has ((m.way s p t).dot s) := by
  have := Rg.plus_has (Rg.plus_has (Rg.plus_has zero_has (Rg.times_has (rest_has (tk := m.tk) (d := p.x - m.px) (a := t - m.tm) h.1) h.1)) (Rg.times_has (rest_has (tk := m.tk) (d := p.y - m.py) (a := t - m.tm) h.2.1) h.2.1)) (Rg.times_has (rest_has (tk := m.tk) (d := p.z - m.pz) (a := t - m.tm) h.2.2) h.2.2)
  rw [Int.zero_add] at this
  exact this
theorem left_has {m : TMod} {b : TBox} {s p : V3} {t : Int} (h : b.has s) : (m.leftR b p t).has ((m.way s p t).dot (m.way s p t)) := by
  have := Rg.plus_has (Rg.plus_has (Rg.plus_has zero_has (Rg.square_has (rest_has (tk := m.tk) (d := p.x - m.px) (a := t - m.tm) h.1))) (Rg.square_has (rest_has (tk := m.tk) (d := p.y - m.py) (a := t - m.tm) h.2.1))) (Rg.square_has (rest_has (tk := m.tk) (d := p.z - m.pz) (a := t - m.tm) h.2.2))
  rw [Int.zero_add] at this
  exact this
theorem squares_has {b : TBox} {s : V3} (h : b.has s) : b.squares.has (s.dot s) := by
  have := Rg.plus_has (Rg.plus_has (Rg.plus_has zero_has (Rg.square_has h.1)) (Rg.square_has h.2.1)) (Rg.square_has h.2.2)
  rw [Int.zero_add] at this
  exact this
theorem fast_has {m : TMod} {b : TBox} {s : V3} (h : b.has s) (hp : m.permit s) : (m.fast b).has (s.dot s - m.slow) := by
  have h1 := squares_has h
  unfold TMod.fast TMod.permit Rg.has at *; simp only; omega
/-- an answer that is sure holds for every permitted step of the box. -/
theorem ans_sure {m : TMod} {b : TBox} {s p : V3} {t : Int} (h : b.has s) (hp : m.permit s) (hsl : m.slow < m.lo) : (m.ans b p t = 2 → m.reached s p t = true) ∧ (m.ans b p t = 0 → m.reached s p t = false) := by
  have h1 := prod_has (m := m) (p := p) (t := t) h
  have h2 := left_has (m := m) (p := p) (t := t) h
  have h3 := fast_has h hp
  have h4 := V3.dot_self (m.way s p t)
  have h5 : 0 < s.dot s - m.slow := by have := hp.1; omega
  have h6 : 0 < (m.fast b).lo := by unfold TMod.fast; simp only; omega
  unfold TMod.reached reachB TMod.ans ansR
  generalize m.prodR b p t = P at *
  generalize m.leftR b p t = L at *
  generalize m.fast b = F at *
  generalize s.dot s - m.slow = A at *
  generalize (m.way s p t).dot s = B at *
  generalize (m.way s p t).dot (m.way s p t) = C at *
  obtain ⟨p1, p2⟩ := h1
  obtain ⟨l1, l2⟩ := h2
  obtain ⟨f1, f2⟩ := h3
  constructor
  · intro hh
    split at hh
    · next hc =>
      simp only [Bool.or_eq_true, Bool.and_eq_true, decide_eq_true_eq]
      rcases hc with hc | ⟨hc1, hc2⟩
      · left; omega
      · right
        refine ⟨by omega, ?_⟩
        have a1 := sq_le_neg hc1 p2
        have a2 : A * C ≤ F.hi * L.hi := Int.mul_le_mul f2 l2 h4 (by omega)
        omega
    · split at hh <;> omega
  · intro hh
    split at hh
    · omega
    · split at hh
      · next hc =>
        obtain ⟨hc1, hc2⟩ := hc
        simp only [Bool.or_eq_false_iff, Bool.and_eq_false_iff, decide_eq_false_iff_not]
        refine ⟨by omega, ?_⟩
        rcases hc2 with hc2 | hc2
        · left; omega
        · rcases Int.lt_or_le 0 B with hb | hb
          · left; omega
          · right
            have a1 := sq_le_neg hb p1
            have a2 : F.lo * L.lo ≤ A * C := Int.mul_le_mul f1 l1 (by omega) (by omega)
            omega
      · omega
structure THit where
  (p : V3)
  (t w : Int)
def TMod.pen (m : TMod) (s : V3) (h : THit) : Int :=
  if m.reached s h.p (h.t + m.ea) = false then h.w * m.mi else if m.reached s h.p (h.t - m.la - 1) = true then h.w * m.no else 0
def TMod.pens (m : TMod) (s : V3) (l : List THit) : List Int := l.map (m.pen s)
def TMod.score (m : TMod) (s : V3) (l : List THit) : Int := (m.pens s l).foldl (· + ·) 0
def ownR (early late miss noise : Int) : Rg :=
  ⟨if early = 0 ∧ late = 2 then min miss noise else if early = 0 then miss else if late = 2 then noise else 0,
   if late ≠ 0 then max (if early ≠ 2 then miss else 0) noise else if early ≠ 2 then miss else 0⟩
def TMod.hitR (m : TMod) (b : TBox) (h : THit) : Rg := ownR (m.ans b h.p (h.t + m.ea)) (m.ans b h.p (h.t - m.la - 1)) (h.w * m.mi) (h.w * m.no)
def TMod.scores (m : TMod) (b : TBox) (l : List THit) : Rg := l.foldl (fun r h => r.plus (m.hitR b h)) ⟨0, 0⟩
theorem pen_has {m : TMod} {b : TBox} {s : V3} {h : THit} (hb : b.has s) (hp : m.permit s) (hs : 0 ≤ m.slow) (hsl : m.slow < m.lo) (he : 0 ≤ m.ea ∧ 0 ≤ m.la) (hw : 0 ≤ h.w ∧ 0 ≤ m.mi ∧ 0 ≤ m.no) : (m.hitR b h).has (m.pen s h) := by
  have h1 := ans_sure (p := h.p) (t := h.t + m.ea) hb hp hsl
  have h2 := ans_sure (p := h.p) (t := h.t - m.la - 1) hb hp hsl
  have h3 : m.reached s h.p (h.t - m.la - 1) = true → m.reached s h.p (h.t + m.ea) = true := fun hr => reached_mono m s h.p hs (by have := hp.1; omega) (by omega) hr
  have h4 := Int.mul_nonneg hw.1 hw.2.1
  have h5 := Int.mul_nonneg hw.1 hw.2.2
  unfold TMod.hitR ownR TMod.pen Rg.has
  simp only
  generalize m.ans b h.p (h.t + m.ea) = E at *
  generalize m.ans b h.p (h.t - m.la - 1) = L at *
  generalize m.reached s h.p (h.t + m.ea) = re at *
  generalize m.reached s h.p (h.t - m.la - 1) = rl at *
  generalize h.w * m.mi = mi at *
  generalize h.w * m.no = no at *
  cases re <;> cases rl <;> simp at h1 h2 h3 ⊢ <;> constructor <;> (repeat' (first | omega | split))
theorem foldl_plus {α : Type} (f : α → Rg) (g : α → Int) : ∀ (l : List α) (r : Rg) (n : Int), r.has n → (∀ x ∈ l, (f x).has (g x)) → (l.foldl (fun r h => r.plus (f h)) r).has ((l.map g).foldl (· + ·) n) := by
  intro l
  induction l with
  | nil => intro r n h _; exact h
  | cons x l ih => intro r n h hx; exact ih _ _ (Rg.plus_has h (hx x (by simp))) (fun y hy => hx y (by simp [hy]))
theorem score_has {m : TMod} {b : TBox} {s : V3} {l : List THit} (hb : b.has s) (hp : m.permit s) (hs : 0 ≤ m.slow) (hsl : m.slow < m.lo) (he : 0 ≤ m.ea ∧ 0 ≤ m.la) (hw : 0 ≤ m.mi ∧ 0 ≤ m.no) (hl : ∀ h ∈ l, 0 ≤ h.w) : (m.scores b l).has (m.score s l) :=
  foldl_plus (m.hitR b) (m.pen s) l ⟨0, 0⟩ 0 zero_has (fun h hh => pen_has hb hp hs hsl he ⟨hl h hh, hw⟩)
def Rg.sub (r s : Rg) : Prop := s.lo ≤ r.lo ∧ r.hi ≤ s.hi
def Rg.ok (r : Rg) : Prop := r.lo ≤ r.hi
theorem Rg.plus_sub {r s r' s' : Rg} (h : r.sub r') (g : s.sub s') : (r.plus s).sub (r'.plus s') := by unfold Rg.sub Rg.plus at *; simp only; omega
theorem Rg.plus_ok {r s : Rg} (h : r.ok) (g : s.ok) : (r.plus s).ok := by unfold Rg.ok Rg.plus at *; simp only; omega
theorem Rg.ends {r r' : Rg} (h : r.sub r') (o : r.ok) : r'.has r.lo ∧ r'.has r.hi := by unfold Rg.sub Rg.ok Rg.has at *; omega
theorem Rg.times_sub {r s r' s' : Rg} (h : r.sub r') (g : s.sub s') (o : r.ok) (p : s.ok) : (r.times s).sub (r'.times s') := by
  obtain ⟨h1, h2⟩ := Rg.ends h o
  obtain ⟨g1, g2⟩ := Rg.ends g p
  have a := Rg.times_has h1 g1
  have b := Rg.times_has h1 g2
  have c := Rg.times_has h2 g1
  have d := Rg.times_has h2 g2
  generalize r'.times s' = T at *
  unfold Rg.times Rg.sub Rg.has mn4 mx4 at *
  simp only; omega
theorem Rg.times_ok (r s : Rg) : (r.times s).ok := by unfold Rg.times Rg.ok mn4 mx4; simp only; omega
theorem Rg.square_ok (r : Rg) : r.square.ok ∧ 0 ≤ r.square.lo := by
  have h1 := sq_nn r.lo
  have h2 := sq_nn r.hi
  unfold Rg.square Rg.ok
  split <;> simp only <;> omega
theorem Rg.square_sub {r r' : Rg} (h : r.sub r') (o : r.ok) : r.square.sub r'.square := by
  obtain ⟨h1, h2⟩ := Rg.ends h o
  have a := Rg.square_has h1
  have b := Rg.square_has h2
  by_cases h0 : r.lo ≤ 0 ∧ 0 ≤ r.hi
  · have c : r'.square.has (0 * 0) := Rg.square_has (by unfold Rg.has at *; omega)
    generalize r'.square = T at *
    unfold Rg.square Rg.sub Rg.has at *
    rw [if_pos h0]; simp only; omega
  · generalize r'.square = T at *
    unfold Rg.square Rg.sub Rg.has at *
    rw [if_neg h0]; simp only; omega
def TBox.sub (b c : TBox) : Prop := b.rx.sub c.rx ∧ b.ry.sub c.ry ∧ b.rz.sub c.rz
def TBox.ok (b : TBox) : Prop := b.rx.ok ∧ b.ry.ok ∧ b.rz.ok
theorem Rg.sub_rfl (r : Rg) : r.sub r := ⟨Int.le_refl _, Int.le_refl _⟩
theorem rest_sub {tk d a : Int} {r r' : Rg} (h : r.sub r') (o : r.ok) : (restR tk r d a).sub (restR tk r' d a) := Rg.plus_sub (Rg.times_sub h (Rg.sub_rfl _) o (Int.le_refl _)) (Rg.sub_rfl _)
theorem rest_ok (tk d a : Int) (r : Rg) : (restR tk r d a).ok := Rg.plus_ok (Rg.times_ok _ _) (Int.le_refl _)
theorem prod_sub {m : TMod} {b c : TBox} {p : V3} {t : Int} (h : b.sub c) (o : b.ok) : (m.prodR b p t).sub (m.prodR c p t) ∧ (m.prodR b p t).ok :=
  ⟨Rg.plus_sub (Rg.plus_sub (Rg.plus_sub (Rg.sub_rfl _) (Rg.times_sub (rest_sub h.1 o.1) h.1 (rest_ok ..) o.1)) (Rg.times_sub (rest_sub h.2.1 o.2.1) h.2.1 (rest_ok ..) o.2.1)) (Rg.times_sub (rest_sub h.2.2 o.2.2) h.2.2 (rest_ok ..) o.2.2),
   Rg.plus_ok (Rg.plus_ok (Rg.plus_ok (Int.le_refl _) (Rg.times_ok ..)) (Rg.times_ok ..)) (Rg.times_ok ..)⟩
theorem left_sub {m : TMod} {b c : TBox} {p : V3} {t : Int} (h : b.sub c) (o : b.ok) : (m.leftR b p t).sub (m.leftR c p t) ∧ (m.leftR b p t).ok ∧ 0 ≤ (m.leftR b p t).lo := by
  refine ⟨Rg.plus_sub (Rg.plus_sub (Rg.plus_sub (Rg.sub_rfl _) (Rg.square_sub (rest_sub h.1 o.1) (rest_ok ..))) (Rg.square_sub (rest_sub h.2.1 o.2.1) (rest_ok ..))) (Rg.square_sub (rest_sub h.2.2 o.2.2) (rest_ok ..)),
   Rg.plus_ok (Rg.plus_ok (Rg.plus_ok (Int.le_refl _) (Rg.square_ok _).1) (Rg.square_ok _).1) (Rg.square_ok _).1, ?_⟩
  have h1 := (Rg.square_ok (restR m.tk b.rx (p.x - m.px) (t - m.tm))).2
  have h2 := (Rg.square_ok (restR m.tk b.ry (p.y - m.py) (t - m.tm))).2
  have h3 := (Rg.square_ok (restR m.tk b.rz (p.z - m.pz) (t - m.tm))).2
  unfold TMod.leftR Rg.plus; simp only; omega
theorem squares_sub {b c : TBox} (h : b.sub c) (o : b.ok) : b.squares.sub c.squares ∧ b.squares.ok :=
  ⟨Rg.plus_sub (Rg.plus_sub (Rg.plus_sub (Rg.sub_rfl _) (Rg.square_sub h.1 o.1)) (Rg.square_sub h.2.1 o.2.1)) (Rg.square_sub h.2.2 o.2.2),
   Rg.plus_ok (Rg.plus_ok (Rg.plus_ok (Int.le_refl _) (Rg.square_ok _).1) (Rg.square_ok _).1) (Rg.square_ok _).1⟩
/-- a box may have a permitted step. -/
def TMod.canBe (m : TMod) (b : TBox) : Prop := m.lo ≤ b.squares.hi ∧ b.squares.lo ≤ m.hi
theorem canBe_of {m : TMod} {b : TBox} {s : V3} (h : b.has s) (hp : m.permit s) : m.canBe b := by
  have := squares_has h; unfold TMod.canBe TMod.permit Rg.has at *; omega
theorem canBe_sub {m : TMod} {b c : TBox} (h : b.sub c) (o : b.ok) (hb : m.canBe b) : m.canBe c := by
  have := (squares_sub h o).1; unfold TMod.canBe Rg.sub at *; omega
theorem fast_sub {m : TMod} {b c : TBox} (h : b.sub c) (o : b.ok) (hb : m.canBe b) (hm : m.lo ≤ m.hi) (hsl : m.slow < m.lo) : (m.fast b).sub (m.fast c) ∧ (m.fast b).ok ∧ 0 < (m.fast b).lo := by
  obtain ⟨h1, h2⟩ := squares_sub h o
  unfold TMod.fast TMod.canBe Rg.sub Rg.ok at *; simp only; omega
/-- a part of a box has an answer that is not less sure. -/
theorem ans_part {m : TMod} {b c : TBox} {p : V3} {t : Int} (h : b.sub c) (o : b.ok) (hb : m.canBe b) (hm : m.lo ≤ m.hi) (hsl : m.slow < m.lo) : (m.ans c p t = 2 → m.ans b p t = 2) ∧ (m.ans c p t = 0 → m.ans b p t = 0) := by
  obtain ⟨p1, p2⟩ := prod_sub (m := m) (p := p) (t := t) h o
  obtain ⟨l1, l2, l3⟩ := left_sub (m := m) (p := p) (t := t) h o
  obtain ⟨f1, f2, f3⟩ := fast_sub h o hb hm hsl
  have f4 : 0 < (m.fast c).lo := by unfold TMod.fast; simp only; omega
  unfold TMod.ans
  generalize m.prodR b p t = P at *
  generalize m.leftR b p t = L at *
  generalize m.fast b = F at *
  generalize m.prodR c p t = P' at *
  generalize m.leftR c p t = L' at *
  generalize m.fast c = F' at *
  unfold Rg.sub Rg.ok at *
  unfold ansR
  constructor
  · intro hh
    split at hh
    · next hc =>
      rw [if_pos]
      rcases hc with hc | ⟨hc1, hc2⟩
      · left; omega
      · right
        refine ⟨by omega, ?_⟩
        have a1 := sq_le_neg hc1 p1.2
        have a2 : F.hi * L.hi ≤ F'.hi * L'.hi := Int.mul_le_mul f1.2 l1.2 (by omega) (by omega)
        omega
    · split at hh <;> omega
  · intro hh
    split at hh
    · omega
    · split at hh
      · next hc =>
        obtain ⟨hc1, hc2⟩ := hc
        have b2 : F'.lo * L'.lo ≤ F.lo * L.lo := Int.mul_le_mul f1.1 l1.1 (by omega) (by omega)
        have b3 : F.lo * L.lo ≤ F.hi * L.hi := Int.mul_le_mul f2 l2 (by omega) (by omega)
        rw [if_neg, if_pos]
        · refine ⟨by omega, ?_⟩
          rcases Int.lt_or_le 0 P.lo with h0 | h0
          · left; exact h0
          · right
            rcases hc2 with hc2 | hc2
            · omega
            · have b1 := sq_le_neg h0 p1.1
              omega
        · rintro (h0 | ⟨h0, h9⟩)
          · omega
          · rcases hc2 with hc2 | hc2
            · omega
            · have b1 := sq_le_neg h0 p2
              have b4 := sq_le_neg (show P.lo ≤ 0 by omega) p1.1
              omega
      · omega
theorem hit_part {m : TMod} {b c : TBox} {x : THit} (h : b.sub c) (o : b.ok) (hb : m.canBe b) (hm : m.lo ≤ m.hi) (hs : 0 ≤ m.slow) (hsl : m.slow < m.lo) (he : 0 ≤ m.ea ∧ 0 ≤ m.la) (hw : 0 ≤ x.w ∧ 0 ≤ m.mi ∧ 0 ≤ m.no) :
    (m.hitR b x).hi ≤ (m.hitR c x).hi ∧ ((∃ s, b.has s ∧ m.permit s) → (m.hitR c x).lo ≤ (m.hitR b x).lo) := by
  have h1 := ans_part (p := x.p) (t := x.t + m.ea) h o hb hm hsl
  have h2 := ans_part (p := x.p) (t := x.t - m.la - 1) h o hb hm hsl
  have h3 : (∃ s, b.has s ∧ m.permit s) → ¬ (m.ans b x.p (x.t + m.ea) = 0 ∧ m.ans b x.p (x.t - m.la - 1) = 2) := by
    rintro ⟨s, hbs, hp⟩ ⟨e1, e2⟩
    have a1 := (ans_sure (p := x.p) (t := x.t + m.ea) hbs hp hsl).2 e1
    have a2 := (ans_sure (p := x.p) (t := x.t - m.la - 1) hbs hp hsl).1 e2
    have a3 := reached_mono m s x.p hs (by have := hp.1; omega) (show x.t - m.la - 1 ≤ x.t + m.ea by omega) a2
    rw [a1] at a3; cases a3
  have h4 := Int.mul_nonneg hw.1 hw.2.1
  have h5 := Int.mul_nonneg hw.1 hw.2.2
  generalize (∃ s, b.has s ∧ m.permit s) = S at *
  unfold TMod.hitR ownR
  simp only
  generalize m.ans b x.p (x.t + m.ea) = E at *
  generalize m.ans b x.p (x.t - m.la - 1) = L at *
  generalize m.ans c x.p (x.t + m.ea) = E' at *
  generalize m.ans c x.p (x.t - m.la - 1) = L' at *
  generalize x.w * m.mi = mi at *
  generalize x.w * m.no = no at *
  constructor
  · repeat' (first | omega | split)
  · intro hS
    have h6 := h3 hS
    repeat' (first | omega | split)
theorem scores_part {m : TMod} {b c : TBox} {l : List THit} (h : b.sub c) (o : b.ok) (hb : m.canBe b) (hm : m.lo ≤ m.hi) (hs : 0 ≤ m.slow) (hsl : m.slow < m.lo) (he : 0 ≤ m.ea ∧ 0 ≤ m.la) (hw : 0 ≤ m.mi ∧ 0 ≤ m.no) (hl : ∀ x ∈ l, 0 ≤ x.w) :
    (m.scores b l).hi ≤ (m.scores c l).hi ∧ ((∃ s, b.has s ∧ m.permit s) → (m.scores c l).lo ≤ (m.scores b l).lo) := by
  have key : ∀ (l : List THit) (r r' : Rg), (∀ x ∈ l, 0 ≤ x.w) → r.hi ≤ r'.hi → ((∃ s, b.has s ∧ m.permit s) → r'.lo ≤ r.lo) →
      (l.foldl (fun r h => r.plus (m.hitR b h)) r).hi ≤ (l.foldl (fun r h => r.plus (m.hitR c h)) r').hi ∧ ((∃ s, b.has s ∧ m.permit s) → (l.foldl (fun r h => r.plus (m.hitR c h)) r').lo ≤ (l.foldl (fun r h => r.plus (m.hitR b h)) r).lo) := by
    intro l
    induction l with
    | nil => intro r r' _ h1 h2; exact ⟨h1, h2⟩
    | cons x l ih =>
      intro r r' hl h1 h2
      obtain ⟨a1, a2⟩ := hit_part (x := x) h o hb hm hs hsl he ⟨hl x (by simp), hw⟩
      refine ih _ _ (fun y hy => hl y (by simp [hy])) ?_ (fun hS => ?_)
      · unfold Rg.plus; simp only; omega
      · have b1 := a2 hS
        have b2 := h2 hS
        unfold Rg.plus; simp only; omega
  exact key l ⟨0, 0⟩ ⟨0, 0⟩ hl (Int.le_refl _) (fun _ => Int.le_refl _)
/-- which side of a box is divided, and where. -/
def TBox.side (b : TBox) : Nat :=
  let s1 := if b.hi.x - b.lo.x < b.hi.y - b.lo.y then 1 else 0
  if (if s1 = 1 then b.hi.y - b.lo.y else b.hi.x - b.lo.x) < b.hi.z - b.lo.z then 2 else s1
def TBox.half1 (b : TBox) : TBox := match b.side with
  | 0 => ⟨b.lo, ⟨b.lo.x + (b.hi.x - b.lo.x) / 2, b.hi.y, b.hi.z⟩⟩
  | 1 => ⟨b.lo, ⟨b.hi.x, b.lo.y + (b.hi.y - b.lo.y) / 2, b.hi.z⟩⟩
  | _ => ⟨b.lo, ⟨b.hi.x, b.hi.y, b.lo.z + (b.hi.z - b.lo.z) / 2⟩⟩
def TBox.half2 (b : TBox) : TBox := match b.side with
  | 0 => ⟨⟨b.lo.x + (b.hi.x - b.lo.x) / 2 + 1, b.lo.y, b.lo.z⟩, b.hi⟩
  | 1 => ⟨⟨b.lo.x, b.lo.y + (b.hi.y - b.lo.y) / 2 + 1, b.lo.z⟩, b.hi⟩
  | _ => ⟨⟨b.lo.x, b.lo.y, b.lo.z + (b.hi.z - b.lo.z) / 2 + 1⟩, b.hi⟩
def TBox.count (b : TBox) : Int := (b.hi.x - b.lo.x + 1) * (b.hi.y - b.lo.y + 1) * (b.hi.z - b.lo.z + 1)
theorem side_cases (b : TBox) : (b.side = 0 ∧ b.hi.y - b.lo.y ≤ b.hi.x - b.lo.x ∧ b.hi.z - b.lo.z ≤ b.hi.x - b.lo.x) ∨ (b.side = 1 ∧ b.hi.x - b.lo.x < b.hi.y - b.lo.y ∧ b.hi.z - b.lo.z ≤ b.hi.y - b.lo.y) ∨ (b.side = 2 ∧ b.hi.x - b.lo.x < b.hi.z - b.lo.z ∧ b.hi.y - b.lo.y < b.hi.z - b.lo.z) := by
  unfold TBox.side
  by_cases h1 : b.hi.x - b.lo.x < b.hi.y - b.lo.y
  · simp only [if_pos h1, if_true]
    by_cases h2 : b.hi.y - b.lo.y < b.hi.z - b.lo.z
    · rw [if_pos h2]; omega
    · rw [if_neg h2]; omega
  · simp only [if_neg h1, if_neg (show ¬ (0 = 1) by decide)]
    by_cases h2 : b.hi.x - b.lo.x < b.hi.z - b.lo.z
    · rw [if_pos h2]; omega
    · rw [if_neg h2]; omega
theorem halves_sub {b : TBox} (o : b.ok) (hne : b.lo.x < b.hi.x ∨ b.lo.y < b.hi.y ∨ b.lo.z < b.hi.z) : b.half1.sub b ∧ b.half1.ok ∧ b.half2.sub b ∧ b.half2.ok := by
  unfold TBox.ok TBox.rx TBox.ry TBox.rz Rg.ok at o
  simp only at o
  unfold TBox.half1 TBox.half2
  rcases side_cases b with ⟨h, h1, h2⟩ | ⟨h, h1, h2⟩ | ⟨h, h1, h2⟩
  all_goals
    rw [h]
    simp only [TBox.sub, TBox.ok, TBox.rx, TBox.ry, TBox.rz, Rg.sub, Rg.ok]
    omega
theorem halves_has {b : TBox} (s : V3) : b.has s → b.half1.has s ∨ b.half2.has s := by
  unfold TBox.has TBox.half1 TBox.half2
  rcases side_cases b with ⟨h, _, _⟩ | ⟨h, _, _⟩ | ⟨h, _, _⟩
  all_goals
    rw [h]
    simp only [TBox.rx, TBox.ry, TBox.rz, Rg.has]
    omega
theorem sub_has {b c : TBox} {s : V3} (h : b.sub c) (hs : b.has s) : c.has s := by
  unfold TBox.has TBox.sub TBox.rx TBox.ry TBox.rz Rg.has Rg.sub at *; simp only at *; omega
theorem halves_iff {b : TBox} (o : b.ok) (hne : b.lo.x < b.hi.x ∨ b.lo.y < b.hi.y ∨ b.lo.z < b.hi.z) (s : V3) : b.has s ↔ b.half1.has s ∨ b.half2.has s := by
  obtain ⟨h1, _, h2, _⟩ := halves_sub o hne
  exact ⟨halves_has s, fun h => h.elim (sub_has h1) (sub_has h2)⟩
theorem halves_apart {b : TBox} (s : V3) : ¬ (b.half1.has s ∧ b.half2.has s) := by
  unfold TBox.has TBox.half1 TBox.half2
  rcases side_cases b with ⟨h, _, _⟩ | ⟨h, _, _⟩ | ⟨h, _, _⟩
  all_goals
    rw [h]
    simp only [TBox.rx, TBox.ry, TBox.rz, Rg.has]
    omega
theorem halves_count (b : TBox) : b.half1.count + b.half2.count = b.count := by
  unfold TBox.count TBox.half1 TBox.half2
  rcases side_cases b with ⟨h, _, _⟩ | ⟨h, _, _⟩ | ⟨h, _, _⟩
  all_goals
    rw [h]
    simp only
  · generalize (b.hi.x - b.lo.x) / 2 = q; grind
  · generalize (b.hi.y - b.lo.y) / 2 = q; grind
  · generalize (b.hi.z - b.lo.z) / 2 = q; grind
theorem count_pos {b : TBox} (o : b.ok) : 0 < b.count := by
  unfold TBox.ok TBox.rx TBox.ry TBox.rz Rg.ok at o; simp only at o
  unfold TBox.count
  exact Int.mul_pos (Int.mul_pos (by omega) (by omega)) (by omega)
theorem count_one {b : TBox} (o : b.ok) : b.count = 1 ↔ b.lo = b.hi := by
  have o' := o
  unfold TBox.ok TBox.rx TBox.ry TBox.rz Rg.ok at o; simp only at o
  constructor
  · intro h
    obtain ⟨⟨lx, ly, lz⟩, ⟨hx, hy, hz⟩⟩ := b
    simp only [TBox.count] at *
    have a1 : 1 ≤ hx - lx + 1 := by omega
    have a2 : 1 ≤ hy - ly + 1 := by omega
    have a3 : 1 ≤ hz - lz + 1 := by omega
    generalize eX : hx - lx + 1 = X at *
    generalize eY : hy - ly + 1 = Y at *
    generalize eZ : hz - lz + 1 = Z at *
    have b1 := Int.mul_le_mul a1 a2 (by omega) (by omega : 0 ≤ X)
    have b2 : X * Y ≤ X * Y * Z := by have := Int.mul_le_mul_of_nonneg_left a3 (show 0 ≤ X * Y by omega); omega
    have c1 : X * Y = 1 := by omega
    have c2 : X ≤ X * Y := by have := Int.mul_le_mul_of_nonneg_left a2 (show 0 ≤ X by omega); omega
    have c3 : Y ≤ X * Y := by have := Int.mul_le_mul_of_nonneg_right a1 (show 0 ≤ Y by omega); omega
    have c4 : Z = 1 := by rw [c1] at h; omega
    simp only [V3.mk.injEq]; omega
  · intro h
    unfold TBox.count; rw [h]; simp
/-- a range of one number. -/
theorem one_times (a b : Int) : (⟨a, a⟩ : Rg).times ⟨b, b⟩ = ⟨a * b, a * b⟩ := by unfold Rg.times mn4 mx4; simp
theorem one_square (a : Int) : (⟨a, a⟩ : Rg).square = ⟨a * a, a * a⟩ := by
  unfold Rg.square
  split
  · next h => have : a = 0 := by simp only at h; omega
              subst this; simp
  · simp
theorem one_rest (tk a d x : Int) : restR tk ⟨x, x⟩ d a = ⟨tk * d - a * x, tk * d - a * x⟩ := by
  unfold restR
  rw [one_times]
  unfold Rg.plus
  simp only [Rg.mk.injEq]
  constructor <;> grind
/-- the answers and the scores for a box of one permitted step are its own. -/
theorem ans_one {m : TMod} {s p : V3} {t : Int} (hp : m.permit s) (hsl : m.slow < m.lo) : m.ans ⟨s, s⟩ p t = if m.reached s p t = true then 2 else 0 := by
  have h1 : m.prodR ⟨s, s⟩ p t = ⟨(m.way s p t).dot s, (m.way s p t).dot s⟩ := by
    unfold TMod.prodR TBox.rx TBox.ry TBox.rz
    simp only [one_rest, one_times, Rg.plus, TMod.way, V3.dot, Int.zero_add]
  have h2 : m.leftR ⟨s, s⟩ p t = ⟨(m.way s p t).dot (m.way s p t), (m.way s p t).dot (m.way s p t)⟩ := by
    unfold TMod.leftR TBox.rx TBox.ry TBox.rz
    simp only [one_rest, one_square, Rg.plus, TMod.way, V3.dot, Int.zero_add]
  have h3 : m.fast ⟨s, s⟩ = ⟨s.dot s - m.slow, s.dot s - m.slow⟩ := by
    have h4 : (⟨s, s⟩ : TBox).squares = ⟨s.dot s, s.dot s⟩ := by
      unfold TBox.squares TBox.rx TBox.ry TBox.rz
      simp only [one_square, Rg.plus, V3.dot, Int.zero_add]
    unfold TMod.fast
    rw [h4]
    have := hp
    unfold TMod.permit at this
    simp only [Rg.mk.injEq]
    omega
  have h5 := V3.dot_self (m.way s p t)
  unfold TMod.ans
  rw [h1, h2, h3]
  unfold ansR TMod.reached reachB
  simp only
  generalize (m.way s p t).dot s = B at *
  generalize (m.way s p t).dot (m.way s p t) = C at *
  have h6 : 0 < s.dot s - m.slow := by have := hp.1; omega
  generalize s.dot s - m.slow = A at *
  by_cases hc : C = 0
  · simp [hc]
  · by_cases hb : B ≤ 0
    · by_cases hq : A * C ≤ B * B
      · simp [hc, hb, hq]
      · rw [if_neg (by omega), if_pos (by omega)]; simp [hc, hq]
    · rw [if_neg (by omega), if_pos (by omega)]; simp [hc, hb]
theorem own_one (re rl : Bool) (mi no : Int) (h : rl = true → re = true) (hn : 0 ≤ no) : ownR (if re = true then 2 else 0) (if rl = true then 2 else 0) mi no = (let v := if re = false then mi else if rl = true then no else 0; ⟨v, v⟩) := by
  cases re <;> cases rl <;> simp [ownR] at h ⊢ <;> omega
theorem scores_one {m : TMod} {s : V3} {l : List THit} (hp : m.permit s) (hs : 0 ≤ m.slow) (hsl : m.slow < m.lo) (he : 0 ≤ m.ea ∧ 0 ≤ m.la) (hw : 0 ≤ m.mi ∧ 0 ≤ m.no) (hl : ∀ h ∈ l, 0 ≤ h.w) : m.scores ⟨s, s⟩ l = ⟨m.score s l, m.score s l⟩ := by
  have key : ∀ (l : List THit) (n : Int), (∀ h ∈ l, 0 ≤ h.w) → l.foldl (fun (r : Rg) h => r.plus (m.hitR ⟨s, s⟩ h)) (⟨n, n⟩ : Rg) = (⟨(l.map (m.pen s)).foldl (· + ·) n, (l.map (m.pen s)).foldl (· + ·) n⟩ : Rg) := by
    intro l
    induction l with
    | nil => intro n _; rfl
    | cons x l ih =>
      intro n hl
      have hx := hl x (by simp)
      have e : m.hitR ⟨s, s⟩ x = ⟨m.pen s x, m.pen s x⟩ := by
        unfold TMod.hitR
        rw [ans_one hp hsl, ans_one hp hsl, own_one _ _ _ _ (fun hr => reached_mono m s x.p hs (by have := hp.1; omega) (by omega) hr) (Int.mul_nonneg hx hw.2)]
        rfl
      simp only [List.foldl_cons, List.map_cons]
      rw [e]
      exact ih (n + m.pen s x) (fun h hh => hl h (by simp [hh]))
  exact key l 0 hl
theorem canBe_one {m : TMod} {s : V3} (h : m.canBe ⟨s, s⟩) : m.permit s := by
  have h4 : (⟨s, s⟩ : TBox).squares = ⟨s.dot s, s.dot s⟩ := by
    unfold TBox.squares TBox.rx TBox.ry TBox.rz
    simp only [one_square, Rg.plus, V3.dot, Int.zero_add]
  unfold TMod.canBe at h; rw [h4] at h; exact h
/-- the numbers from lo to hi, and the steps of a box, ascending. -/
def upto (lo hi : Int) : List Int := (List.range (hi - lo + 1).toNat).map (fun k : Nat => lo + (k : Int))
def TBox.all (b : TBox) : List V3 := (upto b.lo.x b.hi.x).flatMap fun x => (upto b.lo.y b.hi.y).flatMap fun y => (upto b.lo.z b.hi.z).map fun z => ⟨x, y, z⟩
def TMod.permB (m : TMod) (s : V3) : Bool := decide (m.lo ≤ s.dot s) && decide (s.dot s ≤ m.hi)
theorem permB_iff {m : TMod} {s : V3} : m.permB s = true ↔ m.permit s := by simp [TMod.permB, TMod.permit]
def TMod.steps (m : TMod) (b : TBox) : List V3 := b.all.filter m.permB
theorem mem_upto {lo hi n : Int} : n ∈ upto lo hi ↔ lo ≤ n ∧ n ≤ hi := by
  unfold upto
  rw [List.mem_map]
  constructor
  · rintro ⟨k, hk, rfl⟩; have := List.mem_range.1 hk; omega
  · rintro ⟨h1, h2⟩; exact ⟨(n - lo).toNat, List.mem_range.2 (by omega), by omega⟩
theorem mem_all {b : TBox} {s : V3} : s ∈ b.all ↔ b.has s := by
  unfold TBox.all TBox.has TBox.rx TBox.ry TBox.rz Rg.has
  simp only [List.mem_flatMap, List.mem_map, mem_upto]
  constructor
  · rintro ⟨x, hx, y, hy, z, hz, rfl⟩; exact ⟨hx, hy, hz⟩
  · rintro ⟨hx, hy, hz⟩; exact ⟨_, hx, _, hy, _, hz, rfl⟩
theorem mem_steps {m : TMod} {b : TBox} {s : V3} : s ∈ m.steps b ↔ b.has s ∧ m.permit s := by
  unfold TMod.steps; rw [List.mem_filter, mem_all, permB_iff]
def lexB (a b : V3) : Prop := a.x < b.x ∨ (a.x = b.x ∧ (a.y < b.y ∨ (a.y = b.y ∧ a.z < b.z)))
theorem upto_sorted (lo hi : Int) : (upto lo hi).Pairwise (· < ·) := by
  unfold upto
  rw [List.pairwise_map]
  exact List.pairwise_lt_range.imp (fun h => by omega)
theorem all_sorted (b : TBox) : b.all.Pairwise lexB := by
  unfold TBox.all
  rw [List.pairwise_flatMap]
  constructor
  · intro x hx
    rw [List.pairwise_flatMap]
    constructor
    · intro y hy
      rw [List.pairwise_map]
      exact (upto_sorted _ _).imp (fun h => Or.inr ⟨rfl, Or.inr ⟨rfl, h⟩⟩)
    · exact (upto_sorted _ _).imp (fun h a ha c hc => by
        simp only [List.mem_map] at ha hc
        obtain ⟨_, _, rfl⟩ := ha
        obtain ⟨_, _, rfl⟩ := hc
        exact Or.inr ⟨rfl, Or.inl h⟩)
  · exact (upto_sorted _ _).imp (fun h a ha c hc => by
      simp only [List.mem_flatMap, List.mem_map] at ha hc
      obtain ⟨_, _, _, _, rfl⟩ := ha
      obtain ⟨_, _, _, _, rfl⟩ := hc
      exact Or.inl h)
theorem steps_sorted (m : TMod) (b : TBox) : (m.steps b).Pairwise lexB := (all_sorted b).filter _
theorem len_upto (lo hi : Int) : (upto lo hi).length = (hi - lo + 1).toNat := by unfold upto; simp
theorem len_flat {α β : Type} (f : α → List β) (n : Nat) : ∀ (l : List α), (∀ x ∈ l, (f x).length = n) → (l.flatMap f).length = l.length * n := by
  intro l
  induction l with
  | nil => intro _; simp
  | cons x l ih => intro h; rw [List.flatMap_cons, List.length_append, ih (fun y hy => h y (by simp [hy])), h x (by simp), List.length_cons, Nat.succ_mul, Nat.add_comm]
theorem len_all {b : TBox} (o : b.ok) : (b.all.length : Int) = b.count := by
  unfold TBox.ok TBox.rx TBox.ry TBox.rz Rg.ok at o; simp only at o
  unfold TBox.all TBox.count
  rw [len_flat _ ((upto b.lo.y b.hi.y).length * (upto b.lo.z b.hi.z).length) _ (fun x _ => len_flat _ (upto b.lo.z b.hi.z).length _ (fun y _ => by rw [List.length_map])), len_upto, len_upto, len_upto]
  push_cast
  rw [Int.toNat_of_nonneg (by omega), Int.toNat_of_nonneg (by omega), Int.toNat_of_nonneg (by omega), Int.mul_assoc]
/-- one step is better than another: a smaller score, or the same one and it comes first. -/
def TMod.better (m : TMod) (l : List THit) (a b : V3) : Prop := m.score a l < m.score b l ∨ (m.score a l = m.score b l ∧ lexB a b)
def TMod.isBest (m : TMod) (l : List THit) (S : V3 → Prop) (s : V3) : Prop := S s ∧ ∀ u, S u → u = s ∨ m.better l s u
/-- what is known of steps: none, or the best one. -/
def TMod.knows (m : TMod) (l : List THit) (S : V3 → Prop) : Option V3 → Prop
  | none => ∀ s, ¬ S s
  | some s => m.isBest l S s
theorem lexB_irr (a : V3) : ¬ lexB a a := by unfold lexB; omega
theorem lexB_trans {a b c : V3} (h : lexB a b) (g : lexB b c) : lexB a c := by unfold lexB at *; omega
theorem lexB_total (a b : V3) : a = b ∨ lexB a b ∨ lexB b a := by
  obtain ⟨a1, a2, a3⟩ := a
  obtain ⟨b1, b2, b3⟩ := b
  unfold lexB; simp only [V3.mk.injEq]; omega
theorem better_trans {m : TMod} {l : List THit} {a b c : V3} (h : m.better l a b) (g : m.better l b c) : m.better l a c := by
  unfold TMod.better at *
  rcases h with h | ⟨h, h'⟩ <;> rcases g with g | ⟨g, g'⟩
  · left; omega
  · left; omega
  · left; omega
  · right; exact ⟨by omega, lexB_trans h' g'⟩
theorem better_irr {m : TMod} {l : List THit} {a b : V3} (h : m.better l a b) (g : m.better l b a) : False := by
  have := better_trans h g
  unfold TMod.better at this
  rcases this with h | ⟨_, h⟩
  · omega
  · exact lexB_irr _ h
theorem better_total {m : TMod} {l : List THit} (a b : V3) : a = b ∨ m.better l a b ∨ m.better l b a := by
  unfold TMod.better
  rcases Int.lt_trichotomy (m.score a l) (m.score b l) with h | h | h
  · exact Or.inr (Or.inl (Or.inl h))
  · rcases lexB_total a b with g | g | g
    · exact Or.inl g
    · exact Or.inr (Or.inl (Or.inr ⟨h, g⟩))
    · exact Or.inr (Or.inr (Or.inr ⟨h.symm, g⟩))
  · exact Or.inr (Or.inr (Or.inl h))
theorem best_unique {m : TMod} {l : List THit} {S : V3 → Prop} {a b : V3} (h : m.isBest l S a) (g : m.isBest l S b) : a = b := by
  rcases h.2 b g.1 with h1 | h1
  · exact h1.symm
  · rcases g.2 a h.1 with h2 | h2
    · exact h2
    · exact (better_irr h1 h2).elim
theorem knows_unique {m : TMod} {l : List THit} {S : V3 → Prop} {a b : Option V3} (h : m.knows l S a) (g : m.knows l S b) : a = b := by
  cases a <;> cases b
  · rfl
  · exact (h _ g.1).elim
  · exact (g _ h.1).elim
  · exact congrArg some (best_unique h g)
theorem knows_congr {m : TMod} {l : List THit} {S T : V3 → Prop} {o : Option V3} (h : m.knows l S o) (e : ∀ s, S s ↔ T s) : m.knows l T o := by
  have : S = T := funext fun s => propext (e s)
  rwa [← this]
/-- a further step. -/
theorem knows_add {m : TMod} {l : List THit} {S : V3 → Prop} {s u : V3} (h : m.isBest l S s) : (m.better l u s → m.isBest l (fun x => S x ∨ x = u) u) ∧ (¬ m.better l u s → m.isBest l (fun x => S x ∨ x = u) s) := by
  constructor
  · intro hb
    refine ⟨Or.inr rfl, fun x hx => ?_⟩
    rcases hx with hx | rfl
    · rcases h.2 x hx with rfl | h2
      · exact Or.inr hb
      · exact Or.inr (better_trans hb h2)
    · exact Or.inl rfl
  · intro hb
    refine ⟨Or.inl h.1, fun x hx => ?_⟩
    rcases hx with hx | rfl
    · exact h.2 x hx
    · rcases better_total (m := m) (l := l) x s with h1 | h1 | h1
      · exact Or.inl h1
      · exact (hb h1).elim
      · exact Or.inr h1
theorem knows_first {m : TMod} {l : List THit} {S : V3 → Prop} (u : V3) (h : ∀ s, ¬ S s) : m.isBest l (fun x => S x ∨ x = u) u :=
  ⟨Or.inr rfl, fun x hx => hx.elim (fun h1 => (h x h1).elim) Or.inl⟩
/-- steps that are all worse change nothing. -/
theorem knows_worse {m : TMod} {l : List THit} {S T : V3 → Prop} {s : V3} (h : m.isBest l S s) (hT : ∀ u, T u → m.score s l < m.score u l) : m.isBest l (fun x => S x ∨ T x) s :=
  ⟨Or.inl h.1, fun x hx => hx.elim (h.2 x) (fun h1 => Or.inr (Or.inl (hT x h1)))⟩
/-- the reference's scan for the best step. -/
def TMod.bestF (m : TMod) (l : List THit) : List V3 → Option V3
  | [] => none
  | s :: r => some (r.foldl (fun a u => if m.score u l < m.score a l then u else a) s)
theorem scan_best (m : TMod) (l : List THit) : ∀ (r : List V3) (S : V3 → Prop) (a : V3), m.isBest l S a → (∀ u ∈ r, ∀ x, S x → lexB x u) → r.Pairwise lexB → m.isBest l (fun x => S x ∨ x ∈ r) (r.foldl (fun a u => if m.score u l < m.score a l then u else a) a) := by
  intro r
  induction r with
  | nil => intro S a h _ _; exact ⟨Or.inl h.1, fun u hu => hu.elim (h.2 u) (fun h1 => by cases h1)⟩
  | cons u r ih =>
    intro S a h hl hp
    obtain ⟨hp1, hp2⟩ := List.pairwise_cons.1 hp
    have hau : lexB a u := hl u (by simp) a h.1
    have hk := knows_add (u := u) h
    have hnew : m.isBest l (fun x => S x ∨ x = u) (if m.score u l < m.score a l then u else a) := by
      by_cases hs : m.score u l < m.score a l
      · rw [if_pos hs]; exact hk.1 (Or.inl hs)
      · rw [if_neg hs]
        refine hk.2 (fun hb => ?_)
        rcases hb with hb | ⟨_, hb⟩
        · exact hs hb
        · exact lexB_irr _ (lexB_trans hau hb)
    have := ih (fun x => S x ∨ x = u) _ hnew (fun v hv x hx => hx.elim (hl v (by simp [hv]) x) (fun e => by rw [e]; exact hp1 v hv)) hp2
    rw [List.foldl_cons]
    have e : (fun x => S x ∨ x ∈ u :: r) = (fun x => (S x ∨ x = u) ∨ x ∈ r) := funext fun x => propext (by simp only [List.mem_cons]; exact or_assoc.symm)
    rw [e]; exact this
theorem bestF_knows (m : TMod) (l : List THit) (L : List V3) (hp : L.Pairwise lexB) : m.knows l (· ∈ L) (m.bestF l L) := by
  cases L with
  | nil => intro s hs; cases hs
  | cons s r =>
    obtain ⟨h1, h2⟩ := List.pairwise_cons.1 hp
    have := scan_best m l r (fun x => x = s) s ⟨rfl, fun u hu => Or.inl hu⟩ (fun u hu x hx => by rw [hx]; exact h1 u hu) h2
    have e : (fun x => x ∈ s :: r) = (fun x => x = s ∨ x ∈ r) := funext fun x => propext List.mem_cons
    show m.isBest l (fun x => x ∈ s :: r) _
    rw [e]; exact this
/-- two boxes have no step in common, coordinate by coordinate. -/
def TBox.apart (a b : TBox) : Prop := a.hi.x < b.lo.x ∨ b.hi.x < a.lo.x ∨ a.hi.y < b.lo.y ∨ b.hi.y < a.lo.y ∨ a.hi.z < b.lo.z ∨ b.hi.z < a.lo.z
theorem apart_symm {a b : TBox} (h : a.apart b) : b.apart a := by unfold TBox.apart at *; omega
theorem apart_sub {a b c d : TBox} (h : c.apart d) (ha : a.sub c) (hb : b.sub d) : a.apart b := by
  unfold TBox.apart TBox.sub TBox.rx TBox.ry TBox.rz Rg.sub at *; simp only at *; omega
theorem halves_ap (b : TBox) : b.half1.apart b.half2 := by
  unfold TBox.apart TBox.half1 TBox.half2
  rcases side_cases b with ⟨h, _, _⟩ | ⟨h, _, _⟩ | ⟨h, _, _⟩
  all_goals
    rw [h]
    simp only
    omega
theorem sub_trans {a b c : TBox} (h : a.sub b) (g : b.sub c) : a.sub c := by
  unfold TBox.sub TBox.rx TBox.ry TBox.rz Rg.sub at *; simp only at *; omega
theorem sub_refl (b : TBox) : b.sub b := ⟨Rg.sub_rfl _, Rg.sub_rfl _, Rg.sub_rfl _⟩
theorem count_mono {b c : TBox} (h : b.sub c) (o : b.ok) : b.count ≤ c.count := by
  unfold TBox.sub TBox.ok TBox.rx TBox.ry TBox.rz Rg.sub Rg.ok at *; simp only at *
  unfold TBox.count
  have h1 := Int.mul_le_mul (show b.hi.x - b.lo.x + 1 ≤ c.hi.x - c.lo.x + 1 by omega) (show b.hi.y - b.lo.y + 1 ≤ c.hi.y - c.lo.y + 1 by omega) (by omega) (by omega)
  exact Int.mul_le_mul h1 (by omega) (by omega) (Int.mul_nonneg (by omega) (by omega))
def TMod.proved (m : TMod) (l : List THit) (K : Int) (b : TBox) : Prop := ¬ m.canBe b ∨ K ≤ (m.scores b l).lo
def sumC (L : List TBox) : Int := (L.map TBox.count).foldl (· + ·) 0
theorem foldl_add : ∀ (l : List Int) (n : Int), l.foldl (· + ·) n = n + l.foldl (· + ·) 0 := by
  intro l
  induction l with
  | nil => intro n; simp
  | cons x l ih => intro n; rw [List.foldl_cons, List.foldl_cons, ih (n + x), ih (0 + x)]; omega
theorem sumC_cons (b : TBox) (L : List TBox) : sumC (b :: L) = b.count + sumC L := by unfold sumC; rw [List.map_cons, List.foldl_cons, foldl_add]; omega
theorem sumC_app (L M : List TBox) : sumC (L ++ M) = sumC L + sumC M := by unfold sumC; rw [List.map_append, List.foldl_append, foldl_add]
/-- boxes that make up a box, each of which is proved. -/
structure TMod.covers (m : TMod) (l : List THit) (K : Int) (b : TBox) (L : List TBox) : Prop where
  each : ∀ c ∈ L, c.ok ∧ c.sub b ∧ m.proved l K c
  apart : L.Pairwise TBox.apart
  count : sumC L = b.count
theorem covers_one {m : TMod} {l : List THit} {K : Int} {b : TBox} (o : b.ok) (h : m.proved l K b) : m.covers l K b [b] :=
  ⟨fun c hc => by rw [List.mem_singleton.1 hc]; exact ⟨o, sub_refl b, h⟩, List.pairwise_singleton _ _, by rw [sumC_cons]; simp [sumC]⟩
theorem covers_two {m : TMod} {l : List THit} {K : Int} {b : TBox} {L M : List TBox} (o : b.ok) (hne : b.lo.x < b.hi.x ∨ b.lo.y < b.hi.y ∨ b.lo.z < b.hi.z) (h : m.covers l K b.half1 L) (g : m.covers l K b.half2 M) : m.covers l K b (L ++ M) := by
  obtain ⟨s1, o1, s2, o2⟩ := halves_sub o hne
  refine ⟨fun c hc => ?_, ?_, by rw [sumC_app, h.count, g.count, halves_count]⟩
  · rcases List.mem_append.1 hc with hc | hc
    · obtain ⟨a1, a2, a3⟩ := h.each c hc; exact ⟨a1, sub_trans a2 s1, a3⟩
    · obtain ⟨a1, a2, a3⟩ := g.each c hc; exact ⟨a1, sub_trans a2 s2, a3⟩
  · rw [List.pairwise_append]
    exact ⟨h.apart, g.apart, fun c hc d hd => apart_sub (halves_ap b) (h.each c hc).2.1 (g.each d hd).2.1⟩
theorem covers_len {m : TMod} {l : List THit} {K : Int} {b : TBox} {L : List TBox} (h : m.covers l K b L) : (L.length : Int) ≤ b.count := by
  rw [← h.count]
  have : ∀ M : List TBox, (∀ c ∈ M, c.ok) → (M.length : Int) ≤ sumC M := by
    intro M
    induction M with
    | nil => intro _; simp [sumC]
    | cons c M ih => intro hM; rw [sumC_cons, List.length_cons]; have := ih (fun d hd => hM d (by simp [hd])); have := count_pos (hM c (by simp)); push_cast; omega
  exact this L (fun c hc => (h.each c hc).1)
/-- a proved box has no step with a smaller score. -/
theorem proved_ge {m : TMod} {l : List THit} {K : Int} {b : TBox} {s : V3} (h : m.proved l K b) (hb : b.has s) (hp : m.permit s) (hs : 0 ≤ m.slow) (hsl : m.slow < m.lo) (he : 0 ≤ m.ea ∧ 0 ≤ m.la) (hw : 0 ≤ m.mi ∧ 0 ≤ m.no) (hl : ∀ h ∈ l, 0 ≤ h.w) : K ≤ m.score s l := by
  rcases h with h | h
  · exact (h (canBe_of hb hp)).elim
  · have := (score_has (l := l) hb hp hs hsl he hw hl).1; omega
theorem not_proved_one {m : TMod} {l : List THit} {K : Int} {s : V3} (h : ¬ m.proved l K ⟨s, s⟩) (hs : 0 ≤ m.slow) (hsl : m.slow < m.lo) (he : 0 ≤ m.ea ∧ 0 ≤ m.la) (hw : 0 ≤ m.mi ∧ 0 ≤ m.no) (hl : ∀ h ∈ l, 0 ≤ h.w) : m.permit s ∧ m.score s l < K := by
  unfold TMod.proved at h
  have h1 : m.canBe ⟨s, s⟩ := Classical.byContradiction fun hn => h (Or.inl hn)
  have hp := canBe_one h1
  refine ⟨hp, ?_⟩
  have h2 : ¬ K ≤ (m.scores ⟨s, s⟩ l).lo := fun hk => h (Or.inr hk)
  rw [scores_one hp hs hsl he hw hl] at h2
  simp only at h2; omega
end Go.Proofs.Ytlmdmpjfehpjeaa

/- Tracks: errors, and the sizes of what is reckoned. -/
set_option linter.unusedVariables false
set_option linter.unusedSimpArgs false
namespace Go.Proofs.Ytlmdmpjfehpjeaa

/-- errors of places, times, models, steps, moments, boxes, hits. -/
def V3.inS (p : V3) (k : Int) : Bool := inB p.x (-k) k && inB p.y (-k) k && inB p.z (-k) k
def plE (p : V3) : Int := unl (p.inS 1000) 2
def tmE (n : Int) : Int := unl (inB n (-10000) 10000) 2
def TMod.right (m : TMod) : Bool := inB m.tk 1 20 && inB m.lo 1 1200 && inB m.hi 1 1200 && inB m.li 1 100 && inB m.ea 0 100 && inB m.la 0 100 && inB m.no 0 100 && inB m.mi 0 100
def TMod.err (m : TMod) : Int := firstNZ [plE m.pl, tmE m.tm, unl m.right 2, unl (decide (m.lo ≤ m.hi)) 9, unl (decide (m.slow < m.lo)) 13]
def TMod.stE (m : TMod) (s : V3) : Int := firstNZ [unl (s.inS 20) 2, unl (m.permB s) 24]
def TMod.both (m : TMod) (s : V3) : Int := firstNZ [m.err, m.stE s]
def momE (p : V3) (t : Int) : Int := firstNZ [plE p, unl (inB t (-1000000) 1000000) 2]
def TBox.err (b : TBox) : Int := firstNZ [unl (b.lo.inS 20 && b.hi.inS 20) 2, unl (decide (b.lo.x ≤ b.hi.x) && decide (b.lo.y ≤ b.hi.y) && decide (b.lo.z ≤ b.hi.z)) 9, unl (decide (b.count ≤ 700)) 8]
def THit.err (h : THit) : Int := firstNZ [plE h.p, tmE h.t, unl (inB h.w 0 100) 2]
theorem firstNZ_cons {x : Int} {l : List Int} : firstNZ (x :: l) = 0 ↔ x = 0 ∧ firstNZ l = 0 := by
  simp only [firstNZ]; split
  · next h => simp [h]
  · next h => simp [h]
theorem unl_zero {b : Bool} {n : Int} (hn : n ≠ 0) : unl b n = 0 ↔ b = true := by unfold unl; split <;> simp_all
theorem inS_iff {p : V3} {k : Int} : p.inS k = true ↔ (-k ≤ p.x ∧ p.x ≤ k) ∧ (-k ≤ p.y ∧ p.y ≤ k) ∧ (-k ≤ p.z ∧ p.z ≤ k) := by
  unfold V3.inS; simp only [Bool.and_eq_true, inB_true, and_assoc]
structure TMod.Ok (m : TMod) : Prop where
  px : -1000 ≤ m.px ∧ m.px ≤ 1000
  py : -1000 ≤ m.py ∧ m.py ≤ 1000
  pz : -1000 ≤ m.pz ∧ m.pz ≤ 1000
  tm : -10000 ≤ m.tm ∧ m.tm ≤ 10000
  tk : 1 ≤ m.tk ∧ m.tk ≤ 20
  lo : 1 ≤ m.lo ∧ m.lo ≤ 1200
  hi : 1 ≤ m.hi ∧ m.hi ≤ 1200
  li : 1 ≤ m.li ∧ m.li ≤ 100
  ea : 0 ≤ m.ea ∧ m.ea ≤ 100
  la : 0 ≤ m.la ∧ m.la ≤ 100
  no : 0 ≤ m.no ∧ m.no ≤ 100
  mi : 0 ≤ m.mi ∧ m.mi ≤ 100
  ord : m.lo ≤ m.hi
  slo : m.slow < m.lo
  slp : 0 ≤ m.slow
theorem err_ok {m : TMod} (h : m.err = 0) : m.Ok := by
  unfold TMod.err at h
  rw [firstNZ_cons, firstNZ_cons, firstNZ_cons, firstNZ_cons, firstNZ_cons] at h
  obtain ⟨h1, h2, h3, h4, h5, _⟩ := h
  unfold plE at h1; unfold tmE at h2
  rw [unl_zero (by decide)] at h1 h2 h3 h4 h5
  rw [inS_iff] at h1
  unfold TMod.right at h3
  simp only [Bool.and_eq_true, inB_true, decide_eq_true_eq] at h2 h3 h4 h5
  obtain ⟨a1, a2, a3⟩ := h1
  obtain ⟨⟨⟨⟨⟨⟨⟨b1, b2⟩, b3⟩, b4⟩, b5⟩, b6⟩, b7⟩, b8⟩ := h3
  refine ⟨a1, a2, a3, h2, b1, b2, b3, b4, b5, b6, b7, b8, h4, h5, ?_⟩
  unfold TMod.slow
  exact Int.mul_nonneg (Int.mul_nonneg (by omega) (by omega)) (by omega)
theorem both_ok {m : TMod} {s : V3} (h : m.both s = 0) : m.Ok ∧ s.inS 20 = true ∧ m.permit s ∧ m.slow < s.dot s := by
  unfold TMod.both at h
  rw [firstNZ_cons, firstNZ_cons] at h
  obtain ⟨h1, h2, _⟩ := h
  unfold TMod.stE at h2
  rw [firstNZ_cons, firstNZ_cons] at h2
  obtain ⟨h3, h4, _⟩ := h2
  rw [unl_zero (by decide)] at h3 h4
  have ho := err_ok h1
  have hp := permB_iff.1 h4
  exact ⟨ho, h3, hp, by have := ho.slo; have := hp.1; omega⟩
theorem boxErr_ok {b : TBox} (h : b.err = 0) : b.lo.inS 20 = true ∧ b.hi.inS 20 = true ∧ b.ok ∧ b.count ≤ 700 := by
  unfold TBox.err at h
  rw [firstNZ_cons, firstNZ_cons, firstNZ_cons] at h
  obtain ⟨h1, h2, h3, _⟩ := h
  rw [unl_zero (by decide)] at h1 h2 h3
  simp only [Bool.and_eq_true, decide_eq_true_eq] at h1 h2 h3
  exact ⟨h1.1, h1.2, ⟨h2.1.1, h2.1.2, h2.2⟩, h3⟩
/-- sizes inside the reckoning of reached places. -/
theorem dot_sz {a b : V3} {A B : Int} (ha : a.inS A = true) (hb : b.inS B = true) (hA : 0 ≤ A) (hB : 0 ≤ B) : (-(A * B) ≤ a.x * b.x ∧ a.x * b.x ≤ A * B) ∧ (-(A * B) ≤ a.y * b.y ∧ a.y * b.y ≤ A * B) ∧ (-(A * B) ≤ a.z * b.z ∧ a.z * b.z ≤ A * B) := by
  rw [inS_iff] at ha hb
  exact ⟨mul_rg ha.1 hb.1 (Int.le_refl _), mul_rg ha.2.1 hb.2.1 (Int.le_refl _), mul_rg ha.2.2 hb.2.2 (Int.le_refl _)⟩
theorem way_sz {m : TMod} {s p : V3} {t : Int} (ho : m.Ok) (hs : s.inS 20 = true) (hp : p.inS 1000 = true) (ht : -1000101 ≤ t ∧ t ≤ 1000100) : (m.way s p t).inS 20242020 = true := by
  rw [inS_iff] at *
  have h1 := mul_rg (x := m.tk) (y := p.x - m.px) (A := 20) (B := 2000) (C := 40000) (by have := ho.tk; omega) (by have := ho.px; omega) (by decide)
  have h2 := mul_rg (x := m.tk) (y := p.y - m.py) (A := 20) (B := 2000) (C := 40000) (by have := ho.tk; omega) (by have := ho.py; omega) (by decide)
  have h3 := mul_rg (x := m.tk) (y := p.z - m.pz) (A := 20) (B := 2000) (C := 40000) (by have := ho.tk; omega) (by have := ho.pz; omega) (by decide)
  have g1 := mul_rg (x := t - m.tm) (y := s.x) (A := 1010101) (B := 20) (C := 20202020) (by have := ho.tm; omega) hs.1 (by decide)
  have g2 := mul_rg (x := t - m.tm) (y := s.y) (A := 1010101) (B := 20) (C := 20202020) (by have := ho.tm; omega) hs.2.1 (by decide)
  have g3 := mul_rg (x := t - m.tm) (y := s.z) (A := 1010101) (B := 20) (C := 20202020) (by have := ho.tm; omega) hs.2.2 (by decide)
  unfold TMod.way; simp only; omega
end Go.Proofs.Ytlmdmpjfehpjeaa

/- Tracks: contracts of the small functions on numbers. -/
set_option linter.unusedVariables false
set_option linter.unusedSimpArgs false
namespace Go.Proofs.Ytlmdmpjfehpjeaa
open Go.RowKit

theorem track_within (n lo hi : Int) (w : World) :
    Calls Try.prog 68 #[.int .i64 n, .int .i64 lo, .int .i64 hi] w fun e w' => e = .returned (.bool (inB n lo hi)) ∧ w = w' := by
  go_enter Try.func68, Try.ntmps68
  go_wp2
  all_goals (go_ret; exact ⟨by simp [inB]; omega, rfl⟩)

theorem base_Within (n lo hi : Int) (w : World) :
    Calls Try.prog 26 #[.int .i64 n, .int .i64 lo, .int .i64 hi] w fun e w' => e = .returned (.bool (inB n lo hi)) ∧ w = w' := by
  go_enter Try.func26, Try.ntmps26
  go_wp2
  all_goals (go_ret; exact ⟨by simp [inB]; omega, rfl⟩)

theorem track_unless (b : Bool) (n : Int) (w : World) :
    Calls Try.prog 72 #[.bool b, .int .i64 n] w fun e w' => e = .returned (.int .i64 (unl b n)) ∧ w = w' := by
  cases b
  all_goals
    go_enter Try.func72, Try.ntmps72
    go_wp2
    go_ret
    exact ⟨rfl, rfl⟩

theorem track_first (l : List Int) (v : Value) (w : World) (h : IntsAt w v l) :
    Calls Try.prog 69 #[v] w fun e w' => e = .returned (.int .i64 (firstNZ l)) ∧ w = w' := by
  obtain ⟨ao, cap, rfl, h1, h2, h3⟩ := h.open
  unfold maxLen at h2
  go_enter Try.func69, Try.ntmps69
  go_wp2_with fail
  go_loop [7] (fun i => ∃ k : Nat, k ≤ l.length ∧ i = .int .i64 k ∧ ∀ x ∈ l.take k, x = 0) (fun i => l.length - (intOf i).toNat)
  case atStart => exact ⟨0, Nat.zero_le _, rfl, by simp⟩
  case round =>
    obtain ⟨k, hk, rfl, hz⟩ := hrel
    have HZ := hid hz
    clear hz
    by_cases hlt : k < l.length
    · obtain ⟨b, off, rfl, hb, hc⟩ := h3 k hlt
      have hck := hc k hlt
      clear hc h3
      by_cases h0 : l.getD k 0 = 0
      · have H0 := hid h0
        have h0' : (l.getD k 0 != 0) = false := by simpa using h0
        clear h0
        obtain ⟨x, hx⟩ : ∃ x, x = l.getD k 0 := ⟨_, rfl⟩
        rw [← hx] at hck h0'
        have HX := hid hx
        clear hx
        go_wp2_with fail
        go_round
        case rel =>
          refine ⟨k + 1, by omega, by go_num, ?_⟩
          intro y hy
          rw [take_getD 0 hlt] at hy
          rcases List.mem_append.1 hy with hy | hy
          · exact HZ.out y hy
          · rw [List.mem_singleton.1 hy]; exact H0.out
        case measure => simp [intOf]; omega
      · have h0' : (l.getD k 0 != 0) = true := by simpa using h0
        obtain ⟨x, hx⟩ : ∃ x, x = l.getD k 0 := ⟨_, rfl⟩
        rw [← hx] at hck h0' h0
        have HX := hid hx
        have H0 := hid h0
        clear hx h0
        go_wp2_with fail
        go_ret
        refine ⟨ret_int ?_, rfl⟩
        have e1 : l = l.take k ++ (x :: l.drop (k + 1)) := by
          rw [HX.out]; exact cut_getD 0 hlt
        rw [e1, firstNZ_append_zero HZ.out]
        simp [firstNZ, H0.out]
    · go_wp2_with fail
      go_ret
      refine ⟨ret_int ?_, rfl⟩
      rw [firstNZ_zero.2]
      have := HZ.out
      rwa [List.take_of_length_le (by omega)] at this

end Go.Proofs.Ytlmdmpjfehpjeaa

