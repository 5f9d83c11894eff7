/- Texts of this claim, together. -/
import Derived.Test.YtfadkjcfjkmalaaGreatDoorLT1
import Derived.Test.YtfadkjcfjkmalaaGreatDoorLT6
import Derived.LoopN
import Derived.Test.YtfadkjcfjkmalaaGreatDoorLT7

set_option maxRecDepth 100000
set_option linter.unusedVariables false
set_option linter.unusedSimpArgs false
namespace Go.Proofs.YtfadkjcfjkmalaaGreatDoor
structure TM where
 (px py pz tm tk lo hi li ea la no mi : Int)
structure V3 where
 (x y z : Int)
def V3.dot (a b : V3) : Int := a.x * b.x + a.y * b.y + a.z * b.z
def TM.slow (m : TM) : Int := m.li * m.tk * m.tk
def TM.way (m : TM) (s p : V3) (t : Int) : V3 := ⟨m.tk * (p.x - m.px) - (t - m.tm) * s.x, m.tk * (p.y - m.py) - (t - m.tm) * s.y, m.tk * (p.z - m.pz) - (t - m.tm) * s.z⟩
def qdJ (a b c : Int) : Bool := decide (c = 0) || (decide (b ≤ 0) && decide (a * c ≤ b * b))
def TM.reached (m : TM) (s p : V3) (t : Int) : Bool := qdJ (s.dot s - m.slow) ((m.way s p t).dot s) ((m.way s p t).dot (m.way s p t))
theorem sq_nn (a : Int) : 0 ≤ a * a := by have h : ((a.natAbs * a.natAbs : Nat) : Int) = a * a := Int.natAbs_mul_self; omega
theorem V3.dot_self (a : V3) : 0 ≤ a.dot a := by
 have h1 := sq_nn a.x 
 have h2 := sq_nn a.y
 have h3 := sq_nn a.z
 unfold V3.dot; omega
theorem V3.dot_zero {a : V3} (h : a.dot a = 0) : a.x = 0 ∧ a.y = 0 ∧ a.z = 0 := by
 have h1 := sq_nn a.x
 have h2 := sq_nn a.y
 have h3 := sq_nn a.z
 unfold V3.dot at h
 have e1 : a.x * a.x = 0 := by omega
 have e2 : a.y * a.y = 0 := by omega
 have e3 : a.z * a.z = 0 := by omega
 exact ⟨(Int.mul_eq_zero.1 e1).elim id id, (Int.mul_eq_zero.1 e2).elim id id, (Int.mul_eq_zero.1 e3).elim id id⟩
theorem qk1 (m : TM) (s p : V3) (t : Int) (hs : 0 ≤ m.slow) (ha : m.slow < s.dot s) (h : m.reached s p t = true) : m.reached s p (t + 1) = true := by
 obtain ⟨w, hw⟩ : ∃ w, w = m.way s p t := ⟨_, rfl⟩
 obtain ⟨w', hw'⟩ : ∃ w', w' = m.way s p (t + 1) := ⟨_, rfl⟩
 have ex : w'.x = w.x - s.x := by rw [hw, hw']; simp only [TM.way]; grind
 have ey : w'.y = w.y - s.y := by rw [hw, hw']; simp only [TM.way]; grind
 have ez : w'.z = w.z - s.z := by rw [hw, hw']; simp only [TM.way]; grind
 unfold TM.reached at *
 rw [← hw] at h
 rw [← hw']
 obtain ⟨S, hS⟩ : ∃ S, S = s.dot s := ⟨_, rfl⟩
 obtain ⟨b, hb⟩ : ∃ b, b = w.dot s := ⟨_, rfl⟩
 obtain ⟨c, hc⟩ : ∃ c, c = w.dot w := ⟨_, rfl⟩
 have eb : w'.dot s = b - S := by rw [hb, hS]; simp only [V3.dot, ex, ey, ez]; grind
 have ec : w'.dot w' = c - 2 * b + S := by rw [hc, hb, hS]; simp only [V3.dot, ex, ey, ez]; grind
 rw [eb, ec, ← hS]
 rw [← hb, ← hc, ← hS] at h
 rw [← hS] at ha
 have hc0 : 0 ≤ c := by rw [hc]; exact V3.dot_self w
 unfold qdJ at *
 simp only [Bool.or_eq_true, Bool.and_eq_true, decide_eq_true_eq] at *
 right
 have hb0 : b ≤ 0 ∧ (S - m.slow) * c ≤ b * b := by
  rcases h with h | h
  ·have := V3.dot_zero (hc.symm.trans h)
   have e0 : b = 0 := by rw [hb]; simp only [V3.dot, this.1, this.2.1, this.2.2]; omega
   exact ⟨by omega, by rw [h, e0]; omega⟩
  ·exact h
 refine ⟨by omega, ?_⟩
 generalize m.slow = q at *
 have h1 := Int.mul_nonneg (show 0 ≤ -b by omega) hs
 have h2 := Int.mul_nonneg (show 0 ≤ S by omega) hs
 have e : (b - S) * (b - S) - (S - q) * (c - 2 * b + S) = (b * b - (S - q) * c) + 2 * (-b * q) + S * q := by grind
 omega
theorem q2y (m : TM) (s p : V3) (hs : 0 ≤ m.slow) (ha : m.slow < s.dot s) {t u : Int} (htu : t ≤ u) (h : m.reached s p t = true) : m.reached s p u = true := by
 obtain ⟨k, rfl⟩ : ∃ k : Nat, u = t + k := ⟨(u - t).toNat, by omega⟩
 induction k with
 | zero => simpa using h
 | succ k ih =>
  have := qk1 m s p (t + k) hs ha (ih (by omega))
  rwa [show t + (k : Int) + 1 = t + ((k + 1 : Nat) : Int) by push_cast; omega] at this
def fstN (f : Int → Bool) : Nat → Int → Int
 | 0, t => t
 | n + 1, t => if f t then t else fstN f n (t + 1)
theorem qcQ (f : Int → Bool) : ∀ (n : Nat) (t : Int), t ≤ fstN f n t ∧ fstN f n t ≤ t + n ∧ (∀ u, t ≤ u → u < fstN f n t → f u = false) ∧ (fstN f n t < t + n → f (fstN f n t) = true) := by
 intro n
 induction n with
 | zero => intro t; exact ⟨Int.le_refl _, by simp [fstN], fun u h1 h2 => by simp only [fstN] at h2; omega, fun h => by simp [fstN] at h⟩
 | succ n ih =>
  intro t
  unfold fstN
  split
  ·next h => exact ⟨Int.le_refl _, by omega, fun u h1 h2 => by omega, fun _ => h⟩
  ·next h =>
   obtain ⟨h1, h2, h3, h4⟩ := ih (t + 1)
   refine ⟨by omega, by push_cast; omega, fun u hu1 hu2 => ?_, fun hh => h4 (by push_cast at hh; omega)⟩
   rcases (by omega : u = t ∨ t + 1 ≤ u) with rfl | h5
   ·simpa using h
   ·exact h3 u h5 hu2
theorem fstN_eq {f : Int → Bool} {n : Nat} {t u : Int} (h1 : t ≤ u) (h2 : u ≤ t + n) (h3 : ∀ v, t ≤ v → v < u → f v = false) (h4 : u < t + n → f u = true) : fstN f n t = u := by
 obtain ⟨a1, a2, a3, a4⟩ := qcQ f n t
 rcases Int.lt_trichotomy (fstN f n t) u with h | h | h
 ·have := h3 _ a1 h; rw [a4 (by omega)] at this; cases this
 ·exact h
 ·have := a3 u h1 h; rw [h4 (by omega)] at this; cases this
def TM.first (m : TM) (s p : V3) : Int := fstN (m.reached s p) 2000002 (-1000001)
theorem qbp (m : TM) (s p : V3) (hs : 0 ≤ m.slow) (ha : m.slow < s.dot s) {u : Int} (h1 : -1000001 ≤ u) (h2 : u ≤ 1000000) : m.reached s p u = decide (m.first s p ≤ u) := by
 obtain ⟨a1, a2, a3, a4⟩ := qcQ (m.reached s p) 2000002 (-1000001)
 by_cases h : m.first s p ≤ u
 ·rw [decide_eq_true h]
  exact q2y m s p hs ha h (a4 (by unfold TM.first at h; omega))
 ·rw [decide_eq_false h]
  exact a3 u h1 (by unfold TM.first at h; omega)
theorem mul_sz {x y : Int} {A B : Nat} (hx : x.natAbs ≤ A) (hy : y.natAbs ≤ B) : (x * y).natAbs ≤ A * B := by
 rw [Int.natAbs_mul]; exact Nat.mul_le_mul hx hy
theorem qv {x y A B C : Int} (hx : -A ≤ x ∧ x ≤ A) (hy : -B ≤ y ∧ y ≤ B) (hC : A * B ≤ C) : -C ≤ x * y ∧ x * y ≤ C := by
 have h := mul_sz (x := x) (y := y) (A := A.natAbs) (B := B.natAbs) (by omega) (by omega)
 have e : ((A.natAbs * B.natAbs : Nat) : Int) = A * B := by push_cast; congr 1 <;> omega
 omega
theorem qeO (m : TM) (s p : V3) (hs : 0 ≤ m.slow) (ha : m.slow < s.dot s) {n : Int} (h1 : m.reached s p n = true) (h0 : m.reached s p (n - 1) = false) (u : Int) : m.reached s p u = decide (n ≤ u) := by
 by_cases h : n ≤ u
 ·rw [decide_eq_true h]; exact q2y m s p hs ha h h1
 ·rw [decide_eq_false h]
  cases e : m.reached s p u
  ·rfl
  ·rw [q2y m s p hs ha (show u ≤ n - 1 by omega) e] at h0; cases h0
theorem first_of (m : TM) (s p : V3) {n : Int} (h : ∀ u, m.reached s p u = decide (n ≤ u)) (h1 : -1000001 ≤ n) (h2 : n ≤ 1000001) : m.first s p = n :=
 fstN_eq h1 (by omega) (fun v _ hv => by rw [h, decide_eq_false (by omega)]) (fun _ => by rw [h, decide_eq_true (Int.le_refl _)])
theorem first_at (m : TM) (s p : V3) (hs : 0 ≤ m.slow) (ha : m.slow < s.dot s) (h1 : -1000000 ≤ m.first s p) (h2 : m.first s p ≤ 1000000) : ∀ u, m.reached s p u = decide (m.first s p ≤ u) := by
 have a := qbp m s p hs ha (u := m.first s p) (by omega) h2
 have b := qbp m s p hs ha (u := m.first s p - 1) (by omega) (by omega)
 exact qeO m s p hs ha (by rw [a]; simp) (by rw [b]; simp; omega)
def V3.add (a b : V3) : V3 := ⟨a.x + b.x, a.y + b.y, a.z + b.z⟩
def TM.pl (m : TM) : V3 := ⟨m.px, m.py, m.pz⟩
def TM.put (m : TM) (p : V3) (t : Int) : TM := { m with px := p.x, py := p.y, pz := p.z, tm := t }
structure TB where
 (lo hi : V3)
structure Rg where
 (lo hi : Int)
def Rg.plus (r s : Rg) : Rg := ⟨r.lo + s.lo, r.hi + s.hi⟩
def mn4 (a b c d : Int) : Int := min (min (min a b) c) d
def mx4 (a b c d : Int) : Int := max (max (max a b) c) d
def Rg.times (r s : Rg) : Rg := ⟨mn4 (r.lo * s.lo) (r.lo * s.hi) (r.hi * s.lo) (r.hi * s.hi), mx4 (r.lo * s.lo) (r.lo * s.hi) (r.hi * s.lo) (r.hi * s.hi)⟩
def Rg.square (r : Rg) : Rg := if r.lo ≤ 0 ∧ 0 ≤ r.hi then ⟨0, max (r.lo * r.lo) (r.hi * r.hi)⟩ else ⟨min (r.lo * r.lo) (r.hi * r.hi), max (r.lo * r.lo) (r.hi * r.hi)⟩
def Rg.has (r : Rg) (n : Int) : Prop := r.lo ≤ n ∧ n ≤ r.hi
theorem Rg.plus_has {r s : Rg} {a b : Int} (h : r.has a) (g : s.has b) : (r.plus s).has (a + b) := by unfold Rg.has Rg.plus at *; simp only; omega
theorem q9O {x lo hi : Int} (c : Int) (h : lo ≤ x ∧ x ≤ hi) : min (lo * c) (hi * c) ≤ x * c ∧ x * c ≤ max (lo * c) (hi * c) := by
 rcases Int.le_total 0 c with h0 | h0
 ·have h1 := Int.mul_le_mul_of_nonneg_right h.1 h0
  have h2 := Int.mul_le_mul_of_nonneg_right h.2 h0
  omega
 ·have h1 := Int.mul_le_mul_of_nonpos_right h.1 h0
  have h2 := Int.mul_le_mul_of_nonpos_right h.2 h0
  omega
theorem Rg.times_has {r s : Rg} {a b : Int} (h : r.has a) (g : s.has b) : (r.times s).has (a * b) := by
 obtain ⟨h1, h2⟩ := q9O b h
 obtain ⟨h3, h4⟩ := q9O r.lo g
 obtain ⟨h5, h6⟩ := q9O r.hi g
 have e1 := Int.mul_comm b r.lo
 have e2 := Int.mul_comm b r.hi
 have e3 := Int.mul_comm s.lo r.lo
 have e4 := Int.mul_comm s.hi r.lo
 have e5 := Int.mul_comm s.lo r.hi
 have e6 := Int.mul_comm s.hi r.hi
 unfold Rg.has Rg.times mn4 mx4
 simp only
 omega
theorem sq_le {a b : Int} (h0 : 0 ≤ a) (h : a ≤ b) : a * a ≤ b * b := Int.mul_le_mul h h h0 (by omega)
theorem q2P {a b : Int} (h0 : b ≤ 0) (h : a ≤ b) : b * b ≤ a * a := by
 have := sq_le (a := -b) (b := -a) (by omega) (by omega)
 rwa [Int.neg_mul_neg, Int.neg_mul_neg] at this
theorem Rg.square_has {r : Rg} {a : Int} (h : r.has a) : r.square.has (a * a) := by
 obtain ⟨h1, h2⟩ := h
 have h0 : 0 ≤ a * a := by have h : ((a.natAbs * a.natAbs : Nat) : Int) = a * a := Int.natAbs_mul_self; omega
 have hp : 0 ≤ a → a * a ≤ r.hi * r.hi := fun h => sq_le h h2
 have hn : a ≤ 0 → a * a ≤ r.lo * r.lo := fun h => q2P h h1
 have hl : 0 ≤ r.lo → r.lo * r.lo ≤ a * a := fun h => sq_le h h1
 have hh : r.hi ≤ 0 → r.hi * r.hi ≤ a * a := fun h => q2P h h2
 unfold Rg.square Rg.has
 split <;> simp only <;> omega
def TB.rx (b : TB) : Rg := ⟨b.lo.x, b.hi.x⟩
def TB.ry (b : TB) : Rg := ⟨b.lo.y, b.hi.y⟩
def TB.rz (b : TB) : Rg := ⟨b.lo.z, b.hi.z⟩
def TB.has (b : TB) (s : V3) : Prop := b.rx.has s.x ∧ b.ry.has s.y ∧ b.rz.has s.z
def qS (tk : Int) (r : Rg) (d a : Int) : Rg := (r.times ⟨-a, -a⟩).plus ⟨tk * d, tk * d⟩
def TM.prodR (m : TM) (b : TB) (p : V3) (t : Int) : Rg :=
 (((Rg.mk 0 0).plus ((qS m.tk b.rx (p.x - m.px) (t - m.tm)).times b.rx)).plus ((qS m.tk b.ry (p.y - m.py) (t - m.tm)).times b.ry)).plus ((qS m.tk b.rz (p.z - m.pz) (t - m.tm)).times b.rz)
def TM.leftR (m : TM) (b : TB) (p : V3) (t : Int) : Rg :=
 (((Rg.mk 0 0).plus (qS m.tk b.rx (p.x - m.px) (t - m.tm)).square).plus (qS m.tk b.ry (p.y - m.py) (t - m.tm)).square).plus (qS m.tk b.rz (p.z - m.pz) (t - m.tm)).square
def TB.squares (b : TB) : Rg := (((Rg.mk 0 0).plus b.rx.square).plus b.ry.square).plus b.rz.square
def TM.fast (m : TM) (b : TB) : Rg := ⟨max b.squares.lo m.lo - m.slow, min b.squares.hi m.hi - m.slow⟩
def ansR (prod left fast : Rg) : Int :=
 if left.hi = 0 ∨ (prod.hi ≤ 0 ∧ fast.hi * left.hi ≤ prod.hi * prod.hi) then 2 else if 0 < left.lo ∧ (0 < prod.lo ∨ prod.lo * prod.lo < fast.lo * left.lo) then 0 else 1
def TM.ans (m : TM) (b : TB) (p : V3) (t : Int) : Int := ansR (m.prodR b p t) (m.leftR b p t) (m.fast b)
def TM.permit (m : TM) (s : V3) : Prop := m.lo ≤ s.dot s ∧ s.dot s ≤ m.hi
theorem q6E {tk d a x : Int} {r : Rg} (h : r.has x) : (qS tk r d a).has (tk * d - a * x) := by
 have h1 := Rg.plus_has (Rg.times_has h (s := ⟨-a, -a⟩) (b := -a) ⟨Int.le_refl _, Int.le_refl _⟩) (s := ⟨tk * d, tk * d⟩) (b := tk * d) ⟨Int.le_refl _, Int.le_refl _⟩
 rwa [show x * -a + tk * d = tk * d - a * x by grind] at h1
theorem qbq : (Rg.mk 0 0).has 0 := ⟨Int.le_refl _, Int.le_refl _⟩
theorem prod_has {m : TM} {b : TB} {s p : V3} {t : Int} (h : b.has s) : (m.prodR b p t).has ((m.way s p t).dot s) := by
 have := Rg.plus_has (Rg.plus_has (Rg.plus_has qbq (Rg.times_has (q6E (tk := m.tk) (d := p.x - m.px) (a := t - m.tm) h.1) h.1)) (Rg.times_has (q6E (tk := m.tk) (d := p.y - m.py) (a := t - m.tm) h.2.1) h.2.1)) (Rg.times_has (q6E (tk := m.tk) (d := p.z - m.pz) (a := t - m.tm) h.2.2) h.2.2)
 rw [Int.zero_add] at this
 exact this
theorem left_has {m : TM} {b : TB} {s p : V3} {t : Int} (h : b.has s) : (m.leftR b p t).has ((m.way s p t).dot (m.way s p t)) := by
 have := Rg.plus_has (Rg.plus_has (Rg.plus_has qbq (Rg.square_has (q6E (tk := m.tk) (d := p.x - m.px) (a := t - m.tm) h.1))) (Rg.square_has (q6E (tk := m.tk) (d := p.y - m.py) (a := t - m.tm) h.2.1))) (Rg.square_has (q6E (tk := m.tk) (d := p.z - m.pz) (a := t - m.tm) h.2.2))
 rw [Int.zero_add] at this
 exact this
theorem qeP {b : TB} {s : V3} (h : b.has s) : b.squares.has (s.dot s) := by
 have := Rg.plus_has (Rg.plus_has (Rg.plus_has qbq (Rg.square_has h.1)) (Rg.square_has h.2.1)) (Rg.square_has h.2.2)
 rw [Int.zero_add] at this
 exact this
theorem fast_has {m : TM} {b : TB} {s : V3} (h : b.has s) (hp : m.permit s) : (m.fast b).has (s.dot s - m.slow) := by
 have h1 := qeP h
 unfold TM.fast TM.permit Rg.has at *; simp only; omega
theorem q8q {m : TM} {b : TB} {s p : V3} {t : Int} (h : b.has s) (hp : m.permit s) (hsl : m.slow < m.lo) : (m.ans b p t = 2 → m.reached s p t = true) ∧ (m.ans b p t = 0 → m.reached s p t = false) := by
 have h1 := prod_has (m := m) (p := p) (t := t) h
 have h2 := left_has (m := m) (p := p) (t := t) h
 have h3 := fast_has h hp
 have h4 := V3.dot_self (m.way s p t)
 have h5 : 0 < s.dot s - m.slow := by have := hp.1; omega
 have h6 : 0 < (m.fast b).lo := by unfold TM.fast; simp only; omega
 unfold TM.reached qdJ TM.ans ansR
 generalize m.prodR b p t = P at *
 generalize m.leftR b p t = L at *
 generalize m.fast b = F at *
 generalize s.dot s - m.slow = A at *
 generalize (m.way s p t).dot s = B at *
 generalize (m.way s p t).dot (m.way s p t) = C at *
 obtain ⟨p1, p2⟩ := h1
 obtain ⟨l1, l2⟩ := h2
 obtain ⟨f1, f2⟩ := h3
 constructor
 ·intro hh
  split at hh
  ·next hc =>
   simp only [Bool.or_eq_true, Bool.and_eq_true, decide_eq_true_eq]
   rcases hc with hc | ⟨hc1, hc2⟩
   ·left; omega
   ·right
    refine ⟨by omega, ?_⟩
    have a1 := q2P hc1 p2
    have a2 : A * C ≤ F.hi * L.hi := Int.mul_le_mul f2 l2 h4 (by omega)
    omega
  ·split at hh <;> omega
 ·intro hh
  split at hh
  ·omega
  ·split at hh
   ·next hc =>
    obtain ⟨hc1, hc2⟩ := hc
    simp only [Bool.or_eq_false_iff, Bool.and_eq_false_iff, decide_eq_false_iff_not]
    refine ⟨by omega, ?_⟩
    rcases hc2 with hc2 | hc2
    ·left; omega
    ·rcases Int.lt_or_le 0 B with hb | hb
     ·left; omega
     ·right
      have a1 := q2P hb p1
      have a2 : F.lo * L.lo ≤ A * C := Int.mul_le_mul f1 l1 (by omega) (by omega)
      omega
   ·omega
structure TH where
 (p : V3)
 (t w : Int)
def TM.pen (m : TM) (s : V3) (h : TH) : Int :=
 if m.reached s h.p (h.t + m.ea) = false then h.w * m.mi else if m.reached s h.p (h.t - m.la - 1) = true then h.w * m.no else 0
def TM.pens (m : TM) (s : V3) (l : List TH) : List Int := l.map (m.pen s)
def TM.score (m : TM) (s : V3) (l : List TH) : Int := (m.pens s l).foldl (· + ·) 0
def ownR (early late miss noise : Int) : Rg :=
  ⟨if early = 0 ∧ late = 2 then min miss noise else if early = 0 then miss else if late = 2 then noise else 0,
   if late ≠ 0 then max (if early ≠ 2 then miss else 0) noise else if early ≠ 2 then miss else 0⟩
def TM.hitR (m : TM) (b : TB) (h : TH) : Rg := ownR (m.ans b h.p (h.t + m.ea)) (m.ans b h.p (h.t - m.la - 1)) (h.w * m.mi) (h.w * m.no)
def TM.scores (m : TM) (b : TB) (l : List TH) : Rg := l.foldl (fun r h => r.plus (m.hitR b h)) ⟨0, 0⟩
theorem pen_has {m : TM} {b : TB} {s : V3} {h : TH} (hb : b.has s) (hp : m.permit s) (hs : 0 ≤ m.slow) (hsl : m.slow < m.lo) (he : 0 ≤ m.ea ∧ 0 ≤ m.la) (hw : 0 ≤ h.w ∧ 0 ≤ m.mi ∧ 0 ≤ m.no) : (m.hitR b h).has (m.pen s h) := by
 have h1 := q8q (p := h.p) (t := h.t + m.ea) hb hp hsl
 have h2 := q8q (p := h.p) (t := h.t - m.la - 1) hb hp hsl
 have h3 : m.reached s h.p (h.t - m.la - 1) = true → m.reached s h.p (h.t + m.ea) = true := fun hr => q2y m s h.p hs (by have := hp.1; omega) (by omega) hr
 have h4 := Int.mul_nonneg hw.1 hw.2.1
 have h5 := Int.mul_nonneg hw.1 hw.2.2
 unfold TM.hitR ownR TM.pen Rg.has
 simp only
 generalize m.ans b h.p (h.t + m.ea) = E at *
 generalize m.ans b h.p (h.t - m.la - 1) = L at *
 generalize m.reached s h.p (h.t + m.ea) = re at *
 generalize m.reached s h.p (h.t - m.la - 1) = rl at *
 generalize h.w * m.mi = mi at *
 generalize h.w * m.no = no at *
 cases re <;> cases rl <;> simp at h1 h2 h3 ⊢ <;> constructor <;> (repeat' (first | omega | split))
theorem qmm {α : Type} (f : α → Rg) (g : α → Int) : ∀ (l : List α) (r : Rg) (n : Int), r.has n → (∀ x ∈ l, (f x).has (g x)) → (l.foldl (fun r h => r.plus (f h)) r).has ((l.map g).foldl (· + ·) n) := by
 intro l
 induction l with
 | nil => intro r n h _; exact h
 | cons x l ih => intro r n h hx; exact ih _ _ (Rg.plus_has h (hx x (by simp))) (fun y hy => hx y (by simp [hy]))
theorem q9l {m : TM} {b : TB} {s : V3} {l : List TH} (hb : b.has s) (hp : m.permit s) (hs : 0 ≤ m.slow) (hsl : m.slow < m.lo) (he : 0 ≤ m.ea ∧ 0 ≤ m.la) (hw : 0 ≤ m.mi ∧ 0 ≤ m.no) (hl : ∀ h ∈ l, 0 ≤ h.w) : (m.scores b l).has (m.score s l) :=
 qmm (m.hitR b) (m.pen s) l ⟨0, 0⟩ 0 qbq (fun h hh => pen_has hb hp hs hsl he ⟨hl h hh, hw⟩)
def Rg.sub (r s : Rg) : Prop := s.lo ≤ r.lo ∧ r.hi ≤ s.hi
def Rg.ok (r : Rg) : Prop := r.lo ≤ r.hi
theorem Rg.plus_sub {r s r' s' : Rg} (h : r.sub r') (g : s.sub s') : (r.plus s).sub (r'.plus s') := by unfold Rg.sub Rg.plus at *; simp only; omega
theorem Rg.plus_ok {r s : Rg} (h : r.ok) (g : s.ok) : (r.plus s).ok := by unfold Rg.ok Rg.plus at *; simp only; omega
theorem Rg.ends {r r' : Rg} (h : r.sub r') (o : r.ok) : r'.has r.lo ∧ r'.has r.hi := by unfold Rg.sub Rg.ok Rg.has at *; omega
theorem Rg.times_sub {r s r' s' : Rg} (h : r.sub r') (g : s.sub s') (o : r.ok) (p : s.ok) : (r.times s).sub (r'.times s') := by
 obtain ⟨h1, h2⟩ := Rg.ends h o
 obtain ⟨g1, g2⟩ := Rg.ends g p
 have a := Rg.times_has h1 g1
 have b := Rg.times_has h1 g2
 have c := Rg.times_has h2 g1
 have d := Rg.times_has h2 g2
 generalize r'.times s' = T at *
 unfold Rg.times Rg.sub Rg.has mn4 mx4 at *
 simp only; omega
theorem Rg.times_ok (r s : Rg) : (r.times s).ok := by unfold Rg.times Rg.ok mn4 mx4; simp only; omega
theorem Rg.square_ok (r : Rg) : r.square.ok ∧ 0 ≤ r.square.lo := by
 have h1 := sq_nn r.lo
 have h2 := sq_nn r.hi
 unfold Rg.square Rg.ok
 split <;> simp only <;> omega
theorem Rg.square_sub {r r' : Rg} (h : r.sub r') (o : r.ok) : r.square.sub r'.square := by
 obtain ⟨h1, h2⟩ := Rg.ends h o
 have a := Rg.square_has h1
 have b := Rg.square_has h2
 by_cases h0 : r.lo ≤ 0 ∧ 0 ≤ r.hi
 ·have c : r'.square.has (0 * 0) := Rg.square_has (by unfold Rg.has at *; omega)
  generalize r'.square = T at *
  unfold Rg.square Rg.sub Rg.has at *
  rw [if_pos h0]; simp only; omega
 ·generalize r'.square = T at *
  unfold Rg.square Rg.sub Rg.has at *
  rw [if_neg h0]; simp only; omega
def TB.sub (b c : TB) : Prop := b.rx.sub c.rx ∧ b.ry.sub c.ry ∧ b.rz.sub c.rz
def TB.ok (b : TB) : Prop := b.rx.ok ∧ b.ry.ok ∧ b.rz.ok
theorem Rg.sub_rfl (r : Rg) : r.sub r := ⟨Int.le_refl _, Int.le_refl _⟩
theorem q6F {tk d a : Int} {r r' : Rg} (h : r.sub r') (o : r.ok) : (qS tk r d a).sub (qS tk r' d a) := Rg.plus_sub (Rg.times_sub h (Rg.sub_rfl _) o (Int.le_refl _)) (Rg.sub_rfl _)
theorem q8e (tk d a : Int) (r : Rg) : (qS tk r d a).ok := Rg.plus_ok (Rg.times_ok _ _) (Int.le_refl _)
theorem prod_sub {m : TM} {b c : TB} {p : V3} {t : Int} (h : b.sub c) (o : b.ok) : (m.prodR b p t).sub (m.prodR c p t) ∧ (m.prodR b p t).ok :=
  ⟨Rg.plus_sub (Rg.plus_sub (Rg.plus_sub (Rg.sub_rfl _) (Rg.times_sub (q6F h.1 o.1) h.1 (q8e ..) o.1)) (Rg.times_sub (q6F h.2.1 o.2.1) h.2.1 (q8e ..) o.2.1)) (Rg.times_sub (q6F h.2.2 o.2.2) h.2.2 (q8e ..) o.2.2),
   Rg.plus_ok (Rg.plus_ok (Rg.plus_ok (Int.le_refl _) (Rg.times_ok ..)) (Rg.times_ok ..)) (Rg.times_ok ..)⟩
theorem left_sub {m : TM} {b c : TB} {p : V3} {t : Int} (h : b.sub c) (o : b.ok) : (m.leftR b p t).sub (m.leftR c p t) ∧ (m.leftR b p t).ok ∧ 0 ≤ (m.leftR b p t).lo := by
  refine ⟨Rg.plus_sub (Rg.plus_sub (Rg.plus_sub (Rg.sub_rfl _) (Rg.square_sub (q6F h.1 o.1) (q8e ..))) (Rg.square_sub (q6F h.2.1 o.2.1) (q8e ..))) (Rg.square_sub (q6F h.2.2 o.2.2) (q8e ..)),
   Rg.plus_ok (Rg.plus_ok (Rg.plus_ok (Int.le_refl _) (Rg.square_ok _).1) (Rg.square_ok _).1) (Rg.square_ok _).1, ?_⟩
  have h1 := (Rg.square_ok (qS m.tk b.rx (p.x - m.px) (t - m.tm))).2
  have h2 := (Rg.square_ok (qS m.tk b.ry (p.y - m.py) (t - m.tm))).2
  have h3 := (Rg.square_ok (qS m.tk b.rz (p.z - m.pz) (t - m.tm))).2
  unfold TM.leftR Rg.plus; simp only; omega
theorem qkQ {b c : TB} (h : b.sub c) (o : b.ok) : b.squares.sub c.squares ∧ b.squares.ok :=
  ⟨Rg.plus_sub (Rg.plus_sub (Rg.plus_sub (Rg.sub_rfl _) (Rg.square_sub h.1 o.1)) (Rg.square_sub h.2.1 o.2.1)) (Rg.square_sub h.2.2 o.2.2),
   Rg.plus_ok (Rg.plus_ok (Rg.plus_ok (Int.le_refl _) (Rg.square_ok _).1) (Rg.square_ok _).1) (Rg.square_ok _).1⟩
def TM.canBe (m : TM) (b : TB) : Prop := m.lo ≤ b.squares.hi ∧ b.squares.lo ≤ m.hi
theorem qbr {m : TM} {b : TB} {s : V3} (h : b.has s) (hp : m.permit s) : m.canBe b := by
 have := qeP h; unfold TM.canBe TM.permit Rg.has at *; omega
theorem fast_sub {m : TM} {b c : TB} (h : b.sub c) (o : b.ok) (hb : m.canBe b) (hm : m.lo ≤ m.hi) (hsl : m.slow < m.lo) : (m.fast b).sub (m.fast c) ∧ (m.fast b).ok ∧ 0 < (m.fast b).lo := by
 obtain ⟨h1, h2⟩ := qkQ h o
 unfold TM.fast TM.canBe Rg.sub Rg.ok at *; simp only; omega
theorem qf8 {m : TM} {b c : TB} {p : V3} {t : Int} (h : b.sub c) (o : b.ok) (hb : m.canBe b) (hm : m.lo ≤ m.hi) (hsl : m.slow < m.lo) : (m.ans c p t = 2 → m.ans b p t = 2) ∧ (m.ans c p t = 0 → m.ans b p t = 0) := by
 obtain ⟨p1, p2⟩ := prod_sub (m := m) (p := p) (t := t) h o
 obtain ⟨l1, l2, l3⟩ := left_sub (m := m) (p := p) (t := t) h o
 obtain ⟨f1, f2, f3⟩ := fast_sub h o hb hm hsl
 have f4 : 0 < (m.fast c).lo := by unfold TM.fast; simp only; omega
 unfold TM.ans
 generalize m.prodR b p t = P at *
 generalize m.leftR b p t = L at *
 generalize m.fast b = F at *
 generalize m.prodR c p t = P' at *
 generalize m.leftR c p t = L' at *
 generalize m.fast c = F' at *
 unfold Rg.sub Rg.ok at *
 unfold ansR
 constructor
 ·intro hh
  split at hh
  ·next hc =>
   rw [if_pos]
   rcases hc with hc | ⟨hc1, hc2⟩
   ·left; omega
   ·right
    refine ⟨by omega, ?_⟩
    have a1 := q2P hc1 p1.2
    have a2 : F.hi * L.hi ≤ F'.hi * L'.hi := Int.mul_le_mul f1.2 l1.2 (by omega) (by omega)
    omega
  ·split at hh <;> omega
 ·intro hh
  split at hh
  ·omega
  ·split at hh
   ·next hc =>
    obtain ⟨hc1, hc2⟩ := hc
    have b2 : F'.lo * L'.lo ≤ F.lo * L.lo := Int.mul_le_mul f1.1 l1.1 (by omega) (by omega)
    have b3 : F.lo * L.lo ≤ F.hi * L.hi := Int.mul_le_mul f2 l2 (by omega) (by omega)
    rw [if_neg, if_pos]
    ·refine ⟨by omega, ?_⟩
     rcases Int.lt_or_le 0 P.lo with h0 | h0
     ·left; exact h0
     ·right
      rcases hc2 with hc2 | hc2
      ·omega
      ·have b1 := q2P h0 p1.1
       omega
    ·rintro (h0 | ⟨h0, h9⟩)
     ·omega
     ·rcases hc2 with hc2 | hc2
      ·omega
      ·have b1 := q2P h0 p2
       have b4 := q2P (show P.lo ≤ 0 by omega) p1.1
       omega
   ·omega
theorem hit_part {m : TM} {b c : TB} {x : TH} (h : b.sub c) (o : b.ok) (hb : m.canBe b) (hm : m.lo ≤ m.hi) (hs : 0 ≤ m.slow) (hsl : m.slow < m.lo) (he : 0 ≤ m.ea ∧ 0 ≤ m.la) (hw : 0 ≤ x.w ∧ 0 ≤ m.mi ∧ 0 ≤ m.no) :
  (m.hitR b x).hi ≤ (m.hitR c x).hi ∧ ((∃ s, b.has s ∧ m.permit s) → (m.hitR c x).lo ≤ (m.hitR b x).lo) := by
 have h1 := qf8 (p := x.p) (t := x.t + m.ea) h o hb hm hsl
 have h2 := qf8 (p := x.p) (t := x.t - m.la - 1) h o hb hm hsl
 have h3 : (∃ s, b.has s ∧ m.permit s) → ¬ (m.ans b x.p (x.t + m.ea) = 0 ∧ m.ans b x.p (x.t - m.la - 1) = 2) := by
  rintro ⟨s, hbs, hp⟩ ⟨e1, e2⟩
  have a1 := (q8q (p := x.p) (t := x.t + m.ea) hbs hp hsl).2 e1
  have a2 := (q8q (p := x.p) (t := x.t - m.la - 1) hbs hp hsl).1 e2
  have a3 := q2y m s x.p hs (by have := hp.1; omega) (show x.t - m.la - 1 ≤ x.t + m.ea by omega) a2
  rw [a1] at a3; cases a3
 have h4 := Int.mul_nonneg hw.1 hw.2.1
 have h5 := Int.mul_nonneg hw.1 hw.2.2
 generalize (∃ s, b.has s ∧ m.permit s) = S at *
 unfold TM.hitR ownR
 simp only
 generalize m.ans b x.p (x.t + m.ea) = E at *
 generalize m.ans b x.p (x.t - m.la - 1) = L at *
 generalize m.ans c x.p (x.t + m.ea) = E' at *
 generalize m.ans c x.p (x.t - m.la - 1) = L' at *
 generalize x.w * m.mi = mi at *
 generalize x.w * m.no = no at *
 constructor
 ·repeat' (first | omega | split)
 ·intro hS
  have h6 := h3 hS
  repeat' (first | omega | split)
theorem qkR {m : TM} {b c : TB} {l : List TH} (h : b.sub c) (o : b.ok) (hb : m.canBe b) (hm : m.lo ≤ m.hi) (hs : 0 ≤ m.slow) (hsl : m.slow < m.lo) (he : 0 ≤ m.ea ∧ 0 ≤ m.la) (hw : 0 ≤ m.mi ∧ 0 ≤ m.no) (hl : ∀ x ∈ l, 0 ≤ x.w) :
  (m.scores b l).hi ≤ (m.scores c l).hi ∧ ((∃ s, b.has s ∧ m.permit s) → (m.scores c l).lo ≤ (m.scores b l).lo) := by
 have key : ∀ (l : List TH) (r r' : Rg), (∀ x ∈ l, 0 ≤ x.w) → r.hi ≤ r'.hi → ((∃ s, b.has s ∧ m.permit s) → r'.lo ≤ r.lo) →
   (l.foldl (fun r h => r.plus (m.hitR b h)) r).hi ≤ (l.foldl (fun r h => r.plus (m.hitR c h)) r').hi ∧ ((∃ s, b.has s ∧ m.permit s) → (l.foldl (fun r h => r.plus (m.hitR c h)) r').lo ≤ (l.foldl (fun r h => r.plus (m.hitR b h)) r).lo) := by
  intro l
  induction l with
  | nil => intro r r' _ h1 h2; exact ⟨h1, h2⟩
  | cons x l ih =>
   intro r r' hl h1 h2
   obtain ⟨a1, a2⟩ := hit_part (x := x) h o hb hm hs hsl he ⟨hl x (by simp), hw⟩
   refine ih _ _ (fun y hy => hl y (by simp [hy])) ?_ (fun hS => ?_)
   ·unfold Rg.plus; simp only; omega
   ·have b1 := a2 hS
    have b2 := h2 hS
    unfold Rg.plus; simp only; omega
 exact key l ⟨0, 0⟩ ⟨0, 0⟩ hl (Int.le_refl _) (fun _ => Int.le_refl _)
def TB.side (b : TB) : Nat :=
 let s1 := if b.hi.x - b.lo.x < b.hi.y - b.lo.y then 1 else 0
 if (if s1 = 1 then b.hi.y - b.lo.y else b.hi.x - b.lo.x) < b.hi.z - b.lo.z then 2 else s1
def TB.half1 (b : TB) : TB := match b.side with
 | 0 => ⟨b.lo, ⟨b.lo.x + (b.hi.x - b.lo.x) / 2, b.hi.y, b.hi.z⟩⟩
 | 1 => ⟨b.lo, ⟨b.hi.x, b.lo.y + (b.hi.y - b.lo.y) / 2, b.hi.z⟩⟩
 | _ => ⟨b.lo, ⟨b.hi.x, b.hi.y, b.lo.z + (b.hi.z - b.lo.z) / 2⟩⟩
def TB.half2 (b : TB) : TB := match b.side with
 | 0 => ⟨⟨b.lo.x + (b.hi.x - b.lo.x) / 2 + 1, b.lo.y, b.lo.z⟩, b.hi⟩
 | 1 => ⟨⟨b.lo.x, b.lo.y + (b.hi.y - b.lo.y) / 2 + 1, b.lo.z⟩, b.hi⟩
 | _ => ⟨⟨b.lo.x, b.lo.y, b.lo.z + (b.hi.z - b.lo.z) / 2 + 1⟩, b.hi⟩
def TB.count (b : TB) : Int := (b.hi.x - b.lo.x + 1) * (b.hi.y - b.lo.y + 1) * (b.hi.z - b.lo.z + 1)
theorem q5M (b : TB) : (b.side = 0 ∧ b.hi.y - b.lo.y ≤ b.hi.x - b.lo.x ∧ b.hi.z - b.lo.z ≤ b.hi.x - b.lo.x) ∨ (b.side = 1 ∧ b.hi.x - b.lo.x < b.hi.y - b.lo.y ∧ b.hi.z - b.lo.z ≤ b.hi.y - b.lo.y) ∨ (b.side = 2 ∧ b.hi.x - b.lo.x < b.hi.z - b.lo.z ∧ b.hi.y - b.lo.y < b.hi.z - b.lo.z) := by
 unfold TB.side
 by_cases h1 : b.hi.x - b.lo.x < b.hi.y - b.lo.y
 ·simp only [if_pos h1, if_true]
  by_cases h2 : b.hi.y - b.lo.y < b.hi.z - b.lo.z
  ·rw [if_pos h2]; omega
  ·rw [if_neg h2]; omega
 ·simp only [if_neg h1, if_neg (show ¬ (0 = 1) by decide)]
  by_cases h2 : b.hi.x - b.lo.x < b.hi.z - b.lo.z
  ·rw [if_pos h2]; omega
  ·rw [if_neg h2]; omega
theorem qg8 {b : TB} (o : b.ok) (hne : b.lo.x < b.hi.x ∨ b.lo.y < b.hi.y ∨ b.lo.z < b.hi.z) : b.half1.sub b ∧ b.half1.ok ∧ b.half2.sub b ∧ b.half2.ok := by
 unfold TB.ok TB.rx TB.ry TB.rz Rg.ok at o
 simp only at o
 unfold TB.half1 TB.half2
 rcases q5M b with ⟨h, h1, h2⟩ | ⟨h, h1, h2⟩ | ⟨h, h1, h2⟩
 all_goals
  rw [h]
  simp only [TB.sub, TB.ok, TB.rx, TB.ry, TB.rz, Rg.sub, Rg.ok]
  omega
theorem qmn {b : TB} (s : V3) : b.has s → b.half1.has s ∨ b.half2.has s := by
 unfold TB.has TB.half1 TB.half2
 rcases q5M b with ⟨h, _, _⟩ | ⟨h, _, _⟩ | ⟨h, _, _⟩
 all_goals
  rw [h]
  simp only [TB.rx, TB.ry, TB.rz, Rg.has]
  omega
theorem qhs {b c : TB} {s : V3} (h : b.sub c) (hs : b.has s) : c.has s := by
 unfold TB.has TB.sub TB.rx TB.ry TB.rz Rg.has Rg.sub at *; simp only at *; omega
theorem q0R (b : TB) : b.half1.count + b.half2.count = b.count := by
 unfold TB.count TB.half1 TB.half2
 rcases q5M b with ⟨h, _, _⟩ | ⟨h, _, _⟩ | ⟨h, _, _⟩
 all_goals
  rw [h]
  simp only
 ·generalize (b.hi.x - b.lo.x) / 2 = q; grind
 ·generalize (b.hi.y - b.lo.y) / 2 = q; grind
 ·generalize (b.hi.z - b.lo.z) / 2 = q; grind
theorem q0e {b : TB} (o : b.ok) : 0 < b.count := by
 unfold TB.ok TB.rx TB.ry TB.rz Rg.ok at o; simp only at o
 unfold TB.count
 exact Int.mul_pos (Int.mul_pos (by omega) (by omega)) (by omega)
theorem q7j {b : TB} (o : b.ok) : b.count = 1 ↔ b.lo = b.hi := by
 have o' := o
 unfold TB.ok TB.rx TB.ry TB.rz Rg.ok at o; simp only at o
 constructor
 ·intro h
  obtain ⟨⟨lx, ly, lz⟩, ⟨hx, hy, hz⟩⟩ := b
  simp only [TB.count] at *
  have a1 : 1 ≤ hx - lx + 1 := by omega
  have a2 : 1 ≤ hy - ly + 1 := by omega
  have a3 : 1 ≤ hz - lz + 1 := by omega
  generalize eX : hx - lx + 1 = X at *
  generalize eY : hy - ly + 1 = Y at *
  generalize eZ : hz - lz + 1 = Z at *
  have b1 := Int.mul_le_mul a1 a2 (by omega) (by omega : 0 ≤ X)
  have b2 : X * Y ≤ X * Y * Z := by have := Int.mul_le_mul_of_nonneg_left a3 (show 0 ≤ X * Y by omega); omega
  have c1 : X * Y = 1 := by omega
  have c2 : X ≤ X * Y := by have := Int.mul_le_mul_of_nonneg_left a2 (show 0 ≤ X by omega); omega
  have c3 : Y ≤ X * Y := by have := Int.mul_le_mul_of_nonneg_right a1 (show 0 ≤ Y by omega); omega
  have c4 : Z = 1 := by rw [c1] at h; omega
  simp only [V3.mk.injEq]; omega
 ·intro h
  unfold TB.count; rw [h]; simp
theorem qiA (a b : Int) : (Rg.mk a a).times ⟨b, b⟩ = ⟨a * b, a * b⟩ := by unfold Rg.times mn4 mx4; simp
theorem qbs (a : Int) : (Rg.mk a a).square = ⟨a * a, a * a⟩ := by
  unfold Rg.square
  split
  · next h => have : a = 0 := by simp only at h; omega
              subst this; simp
  · simp
theorem qk2 (tk a d x : Int) : qS tk ⟨x, x⟩ d a = ⟨tk * d - a * x, tk * d - a * x⟩ := by
 unfold qS
 rw [qiA]
 unfold Rg.plus
 simp only [Rg.mk.injEq]
 constructor <;> grind
theorem ans_one {m : TM} {s p : V3} {t : Int} (hp : m.permit s) (hsl : m.slow < m.lo) : m.ans ⟨s, s⟩ p t = if m.reached s p t = true then 2 else 0 := by
 have h1 : m.prodR ⟨s, s⟩ p t = ⟨(m.way s p t).dot s, (m.way s p t).dot s⟩ := by
  unfold TM.prodR TB.rx TB.ry TB.rz
  simp only [qk2, qiA, Rg.plus, TM.way, V3.dot, Int.zero_add]
 have h2 : m.leftR ⟨s, s⟩ p t = ⟨(m.way s p t).dot (m.way s p t), (m.way s p t).dot (m.way s p t)⟩ := by
  unfold TM.leftR TB.rx TB.ry TB.rz
  simp only [qk2, qbs, Rg.plus, TM.way, V3.dot, Int.zero_add]
 have h3 : m.fast ⟨s, s⟩ = ⟨s.dot s - m.slow, s.dot s - m.slow⟩ := by
  have h4 : (⟨s, s⟩ : TB).squares = ⟨s.dot s, s.dot s⟩ := by
   unfold TB.squares TB.rx TB.ry TB.rz
   simp only [qbs, Rg.plus, V3.dot, Int.zero_add]
  unfold TM.fast
  rw [h4]
  have := hp
  unfold TM.permit at this
  simp only [Rg.mk.injEq]
  omega
 have h5 := V3.dot_self (m.way s p t)
 unfold TM.ans
 rw [h1, h2, h3]
 unfold ansR TM.reached qdJ
 simp only
 generalize (m.way s p t).dot s = B at *
 generalize (m.way s p t).dot (m.way s p t) = C at *
 have h6 : 0 < s.dot s - m.slow := by have := hp.1; omega
 generalize s.dot s - m.slow = A at *
 by_cases hc : C = 0
 ·simp [hc]
 ·by_cases hb : B ≤ 0
  ·by_cases hq : A * C ≤ B * B
   ·simp [hc, hb, hq]
   ·rw [if_neg (by omega), if_pos (by omega)]; simp [hc, hq]
  ·rw [if_neg (by omega), if_pos (by omega)]; simp [hc, hb]
theorem own_one (re rl : Bool) (mi no : Int) (h : rl = true → re = true) (hn : 0 ≤ no) : ownR (if re = true then 2 else 0) (if rl = true then 2 else 0) mi no = (let v := if re = false then mi else if rl = true then no else 0; ⟨v, v⟩) := by
 cases re <;> cases rl <;> simp [ownR] at h ⊢ <;> omega
theorem qmo {m : TM} {s : V3} {l : List TH} (hp : m.permit s) (hs : 0 ≤ m.slow) (hsl : m.slow < m.lo) (he : 0 ≤ m.ea ∧ 0 ≤ m.la) (hw : 0 ≤ m.mi ∧ 0 ≤ m.no) (hl : ∀ h ∈ l, 0 ≤ h.w) : m.scores ⟨s, s⟩ l = ⟨m.score s l, m.score s l⟩ := by
 have key : ∀ (l : List TH) (n : Int), (∀ h ∈ l, 0 ≤ h.w) → l.foldl (fun (r : Rg) h => r.plus (m.hitR ⟨s, s⟩ h)) (Rg.mk n n) = (⟨(l.map (m.pen s)).foldl (· + ·) n, (l.map (m.pen s)).foldl (· + ·) n⟩ : Rg) := by
  intro l
  induction l with
  | nil => intro n _; rfl
  | cons x l ih =>
   intro n hl
   have hx := hl x (by simp)
   have e : m.hitR ⟨s, s⟩ x = ⟨m.pen s x, m.pen s x⟩ := by
    unfold TM.hitR
    rw [ans_one hp hsl, ans_one hp hsl, own_one _ _ _ _ (fun hr => q2y m s x.p hs (by have := hp.1; omega) (by omega) hr) (Int.mul_nonneg hx hw.2)]
    rfl
   simp only [List.foldl_cons, List.map_cons]
   rw [e]
   exact ih (n + m.pen s x) (fun h hh => hl h (by simp [hh]))
 exact key l 0 hl
theorem qcR {m : TM} {s : V3} (h : m.canBe ⟨s, s⟩) : m.permit s := by
 have h4 : (⟨s, s⟩ : TB).squares = ⟨s.dot s, s.dot s⟩ := by
  unfold TB.squares TB.rx TB.ry TB.rz
  simp only [qbs, Rg.plus, V3.dot, Int.zero_add]
 unfold TM.canBe at h; rw [h4] at h; exact h
def upto (lo hi : Int) : List Int := (List.range (hi - lo + 1).toNat).map (fun k : Nat => lo + (k : Int))
def TB.all (b : TB) : List V3 := (upto b.lo.x b.hi.x).flatMap fun x => (upto b.lo.y b.hi.y).flatMap fun y => (upto b.lo.z b.hi.z).map fun z => ⟨x, y, z⟩
def TM.permB (m : TM) (s : V3) : Bool := decide (m.lo ≤ s.dot s) && decide (s.dot s ≤ m.hi)
theorem q5t {m : TM} {s : V3} : m.permB s = true ↔ m.permit s := by simp [TM.permB, TM.permit]
def TM.steps (m : TM) (b : TB) : List V3 := b.all.filter m.permB
theorem mem_upto {lo hi n : Int} : n ∈ upto lo hi ↔ lo ≤ n ∧ n ≤ hi := by
 unfold upto
 rw [List.mem_map]
 constructor
 ·rintro ⟨k, hk, rfl⟩; have := List.mem_range.1 hk; omega
 ·rintro ⟨h1, h2⟩; exact ⟨(n - lo).toNat, List.mem_range.2 (by omega), by omega⟩
theorem q8f {b : TB} {s : V3} : s ∈ b.all ↔ b.has s := by
 unfold TB.all TB.has TB.rx TB.ry TB.rz Rg.has
 simp only [List.mem_flatMap, List.mem_map, mem_upto]
 constructor
 ·rintro ⟨x, hx, y, hy, z, hz, rfl⟩; exact ⟨hx, hy, hz⟩
 ·rintro ⟨hx, hy, hz⟩; exact ⟨_, hx, _, hy, _, hz, rfl⟩
theorem q0L {m : TM} {b : TB} {s : V3} : s ∈ m.steps b ↔ b.has s ∧ m.permit s := by
 unfold TM.steps; rw [List.mem_filter, q8f, q5t]
def lexB (a b : V3) : Prop := a.x < b.x ∨ (a.x = b.x ∧ (a.y < b.y ∨ (a.y = b.y ∧ a.z < b.z)))
theorem q9P (lo hi : Int) : (upto lo hi).Pairwise (· < ·) := by
 unfold upto
 rw [List.pairwise_map]
 exact List.pairwise_lt_range.imp (fun h => by omega)
theorem qg9 (b : TB) : b.all.Pairwise lexB := by
 unfold TB.all
 rw [List.pairwise_flatMap]
 constructor
 ·intro x hx
  rw [List.pairwise_flatMap]
  constructor
  ·intro y hy
   rw [List.pairwise_map]
   exact (q9P _ _).imp (fun h => Or.inr ⟨rfl, Or.inr ⟨rfl, h⟩⟩)
  ·exact (q9P _ _).imp (fun h a ha c hc => by
    simp only [List.mem_map] at ha hc
    obtain ⟨_, _, rfl⟩ := ha
    obtain ⟨_, _, rfl⟩ := hc
    exact Or.inr ⟨rfl, Or.inl h⟩)
 ·exact (q9P _ _).imp (fun h a ha c hc => by
   simp only [List.mem_flatMap, List.mem_map] at ha hc
   obtain ⟨_, _, _, _, rfl⟩ := ha
   obtain ⟨_, _, _, _, rfl⟩ := hc
   exact Or.inl h)
theorem qk3 (m : TM) (b : TB) : (m.steps b).Pairwise lexB := (qg9 b).filter _
theorem qf9 (lo hi : Int) : (upto lo hi).length = (hi - lo + 1).toNat := by unfold upto; simp
theorem qk4 {α β : Type} (f : α → List β) (n : Nat) : ∀ (l : List α), (∀ x ∈ l, (f x).length = n) → (l.flatMap f).length = l.length * n := by
 intro l
 induction l with
 | nil => intro _; simp
 | cons x l ih => intro h; rw [List.flatMap_cons, List.length_append, ih (fun y hy => h y (by simp [hy])), h x (by simp), List.length_cons, Nat.succ_mul, Nat.add_comm]
theorem qah {b : TB} (o : b.ok) : (b.all.length : Int) = b.count := by
 unfold TB.ok TB.rx TB.ry TB.rz Rg.ok at o; simp only at o
 unfold TB.all TB.count
 rw [qk4 _ ((upto b.lo.y b.hi.y).length * (upto b.lo.z b.hi.z).length) _ (fun x _ => qk4 _ (upto b.lo.z b.hi.z).length _ (fun y _ => by rw [List.length_map])), qf9, qf9, qf9]
 push_cast
 rw [Int.toNat_of_nonneg (by omega), Int.toNat_of_nonneg (by omega), Int.toNat_of_nonneg (by omega), Int.mul_assoc]
def TM.better (m : TM) (l : List TH) (a b : V3) : Prop := m.score a l < m.score b l ∨ (m.score a l = m.score b l ∧ lexB a b)
def TM.isBest (m : TM) (l : List TH) (S : V3 → Prop) (s : V3) : Prop := S s ∧ ∀ u, S u → u = s ∨ m.better l s u
def TM.knows (m : TM) (l : List TH) (S : V3 → Prop) : Option V3 → Prop
 | none => ∀ s, ¬ S s
 | some s => m.isBest l S s
theorem qfa (a : V3) : ¬ lexB a a := by unfold lexB; omega
theorem qga {a b c : V3} (h : lexB a b) (g : lexB b c) : lexB a c := by unfold lexB at *; omega
theorem qmp (a b : V3) : a = b ∨ lexB a b ∨ lexB b a := by
 obtain ⟨a1, a2, a3⟩ := a
 obtain ⟨b1, b2, b3⟩ := b
 unfold lexB; simp only [V3.mk.injEq]; omega
theorem qcS {m : TM} {l : List TH} {a b c : V3} (h : m.better l a b) (g : m.better l b c) : m.better l a c := by
 unfold TM.better at *
 rcases h with h | ⟨h, h'⟩ <;> rcases g with g | ⟨g, g'⟩
 ·left; omega
 ·left; omega
 ·left; omega
 ·right; exact ⟨by omega, qga h' g'⟩
theorem qmq {m : TM} {l : List TH} {a b : V3} (h : m.better l a b) (g : m.better l b a) : False := by
 have := qcS h g
 unfold TM.better at this
 rcases this with h | ⟨_, h⟩
 ·omega
 ·exact qfa _ h
theorem qk5 {m : TM} {l : List TH} (a b : V3) : a = b ∨ m.better l a b ∨ m.better l b a := by
 unfold TM.better
 rcases Int.lt_trichotomy (m.score a l) (m.score b l) with h | h | h
 ·exact Or.inr (Or.inl (Or.inl h))
 ·rcases qmp a b with g | g | g
  ·exact Or.inl g
  ·exact Or.inr (Or.inl (Or.inr ⟨h, g⟩))
  ·exact Or.inr (Or.inr (Or.inr ⟨h.symm, g⟩))
 ·exact Or.inr (Or.inr (Or.inl h))
theorem qkS {m : TM} {l : List TH} {S : V3 → Prop} {a b : V3} (h : m.isBest l S a) (g : m.isBest l S b) : a = b := by
 rcases h.2 b g.1 with h1 | h1
 ·exact h1.symm
 ·rcases g.2 a h.1 with h2 | h2
  ·exact h2
  ·exact (qmq h1 h2).elim
theorem qcT {m : TM} {l : List TH} {S : V3 → Prop} {s u : V3} (h : m.isBest l S s) : (m.better l u s → m.isBest l (fun x => S x ∨ x = u) u) ∧ (¬ m.better l u s → m.isBest l (fun x => S x ∨ x = u) s) := by
 constructor
 ·intro hb
  refine ⟨Or.inr rfl, fun x hx => ?_⟩
  rcases hx with hx | rfl
  ·rcases h.2 x hx with rfl | h2
   ·exact Or.inr hb
   ·exact Or.inr (qcS hb h2)
  ·exact Or.inl rfl
 ·intro hb
  refine ⟨Or.inl h.1, fun x hx => ?_⟩
  rcases hx with hx | rfl
  ·exact h.2 x hx
  ·rcases qk5 (m := m) (l := l) x s with h1 | h1 | h1
   ·exact Or.inl h1
   ·exact (hb h1).elim
   ·exact Or.inr h1
theorem qkT {m : TM} {l : List TH} {S : V3 → Prop} (u : V3) (h : ∀ s, ¬ S s) : m.isBest l (fun x => S x ∨ x = u) u :=
 ⟨Or.inr rfl, fun x hx => hx.elim (fun h1 => (h x h1).elim) Or.inl⟩
theorem qkU {m : TM} {l : List TH} {S T : V3 → Prop} {s : V3} (h : m.isBest l S s) (hT : ∀ u, T u → m.score s l < m.score u l) : m.isBest l (fun x => S x ∨ T x) s :=
 ⟨Or.inl h.1, fun x hx => hx.elim (h.2 x) (fun h1 => Or.inr (Or.inl (hT x h1)))⟩
def TM.bestF (m : TM) (l : List TH) : List V3 → Option V3
 | [] => none
 | s :: r => some (r.foldl (fun a u => if m.score u l < m.score a l then u else a) s)
theorem scan_best (m : TM) (l : List TH) : ∀ (r : List V3) (S : V3 → Prop) (a : V3), m.isBest l S a → (∀ u ∈ r, ∀ x, S x → lexB x u) → r.Pairwise lexB → m.isBest l (fun x => S x ∨ x ∈ r) (r.foldl (fun a u => if m.score u l < m.score a l then u else a) a) := by
 intro r
 induction r with
 | nil => intro S a h _ _; exact ⟨Or.inl h.1, fun u hu => hu.elim (h.2 u) (fun h1 => by cases h1)⟩
 | cons u r ih =>
  intro S a h hl hp
  obtain ⟨hp1, hp2⟩ := List.pairwise_cons.1 hp
  have hau : lexB a u := hl u (by simp) a h.1
  have hk := qcT (u := u) h
  have hnew : m.isBest l (fun x => S x ∨ x = u) (if m.score u l < m.score a l then u else a) := by
   by_cases hs : m.score u l < m.score a l
   ·rw [if_pos hs]; exact hk.1 (Or.inl hs)
   ·rw [if_neg hs]
    refine hk.2 (fun hb => ?_)
    rcases hb with hb | ⟨_, hb⟩
    ·exact hs hb
    ·exact qfa _ (qga hau hb)
  have := ih (fun x => S x ∨ x = u) _ hnew (fun v hv x hx => hx.elim (hl v (by simp [hv]) x) (fun e => by rw [e]; exact hp1 v hv)) hp2
  rw [List.foldl_cons]
  have e : (fun x => S x ∨ x ∈ u :: r) = (fun x => (S x ∨ x = u) ∨ x ∈ r) := funext fun x => propext (by simp only [List.mem_cons]; exact or_assoc.symm)
  rw [e]; exact this
theorem qkV (m : TM) (l : List TH) (L : List V3) (hp : L.Pairwise lexB) : m.knows l (· ∈ L) (m.bestF l L) := by
 cases L with
 | nil => intro s hs; cases hs
 | cons s r =>
  obtain ⟨h1, h2⟩ := List.pairwise_cons.1 hp
  have := scan_best m l r (fun x => x = s) s ⟨rfl, fun u hu => Or.inl hu⟩ (fun u hu x hx => by rw [hx]; exact h1 u hu) h2
  have e : (fun x => x ∈ s :: r) = (fun x => x = s ∨ x ∈ r) := funext fun x => propext List.mem_cons
  show m.isBest l (fun x => x ∈ s :: r) _
  rw [e]; exact this
def TB.apart (a b : TB) : Prop := a.hi.x < b.lo.x ∨ b.hi.x < a.lo.x ∨ a.hi.y < b.lo.y ∨ b.hi.y < a.lo.y ∨ a.hi.z < b.lo.z ∨ b.hi.z < a.lo.z
theorem qmr {a b : TB} (h : a.apart b) : b.apart a := by unfold TB.apart at *; omega
theorem apart_sub {a b c d : TB} (h : c.apart d) (ha : a.sub c) (hb : b.sub d) : a.apart b := by
 unfold TB.apart TB.sub TB.rx TB.ry TB.rz Rg.sub at *; simp only at *; omega
theorem halves_ap (b : TB) : b.half1.apart b.half2 := by
 unfold TB.apart TB.half1 TB.half2
 rcases q5M b with ⟨h, _, _⟩ | ⟨h, _, _⟩ | ⟨h, _, _⟩
 all_goals
  rw [h]
  simp only
  omega
theorem qiB {a b c : TB} (h : a.sub b) (g : b.sub c) : a.sub c := by
 unfold TB.sub TB.rx TB.ry TB.rz Rg.sub at *; simp only at *; omega
theorem sub_refl (b : TB) : b.sub b := ⟨Rg.sub_rfl _, Rg.sub_rfl _, Rg.sub_rfl _⟩
theorem qgb {b c : TB} (h : b.sub c) (o : b.ok) : b.count ≤ c.count := by
 unfold TB.sub TB.ok TB.rx TB.ry TB.rz Rg.sub Rg.ok at *; simp only at *
 unfold TB.count
 have h1 := Int.mul_le_mul (show b.hi.x - b.lo.x + 1 ≤ c.hi.x - c.lo.x + 1 by omega) (show b.hi.y - b.lo.y + 1 ≤ c.hi.y - c.lo.y + 1 by omega) (by omega) (by omega)
 exact Int.mul_le_mul h1 (by omega) (by omega) (Int.mul_nonneg (by omega) (by omega))
def TM.proved (m : TM) (l : List TH) (K : Int) (b : TB) : Prop := ¬ m.canBe b ∨ K ≤ (m.scores b l).lo
def sumC (L : List TB) : Int := (L.map TB.count).foldl (· + ·) 0
theorem qiC : ∀ (l : List Int) (n : Int), l.foldl (· + ·) n = n + l.foldl (· + ·) 0 := by
 intro l
 induction l with
 | nil => intro n; simp
 | cons x l ih => intro n; rw [List.foldl_cons, List.foldl_cons, ih (n + x), ih (0 + x)]; omega
theorem q9m (b : TB) (L : List TB) : sumC (b :: L) = b.count + sumC L := by unfold sumC; rw [List.map_cons, List.foldl_cons, qiC]; omega
theorem qfb (L M : List TB) : sumC (L ++ M) = sumC L + sumC M := by unfold sumC; rw [List.map_append, List.foldl_append, qiC]
structure TM.covers (m : TM) (l : List TH) (K : Int) (b : TB) (L : List TB) : Prop where
 each : ∀ c ∈ L, c.ok ∧ c.sub b ∧ m.proved l K c
 apart : L.Pairwise TB.apart
 count : sumC L = b.count
theorem qgc {m : TM} {l : List TH} {K : Int} {b : TB} (o : b.ok) (h : m.proved l K b) : m.covers l K b [b] :=
 ⟨fun c hc => by rw [List.mem_singleton.1 hc]; exact ⟨o, sub_refl b, h⟩, List.pairwise_singleton _ _, by rw [q9m]; simp [sumC]⟩
theorem qms {m : TM} {l : List TH} {K : Int} {b : TB} {L M : List TB} (o : b.ok) (hne : b.lo.x < b.hi.x ∨ b.lo.y < b.hi.y ∨ b.lo.z < b.hi.z) (h : m.covers l K b.half1 L) (g : m.covers l K b.half2 M) : m.covers l K b (L ++ M) := by
 obtain ⟨s1, o1, s2, o2⟩ := qg8 o hne
 refine ⟨fun c hc => ?_, ?_, by rw [qfb, h.count, g.count, q0R]⟩
 ·rcases List.mem_append.1 hc with hc | hc
  ·obtain ⟨a1, a2, a3⟩ := h.each c hc; exact ⟨a1, qiB a2 s1, a3⟩
  ·obtain ⟨a1, a2, a3⟩ := g.each c hc; exact ⟨a1, qiB a2 s2, a3⟩
 ·rw [List.pairwise_append]
  exact ⟨h.apart, g.apart, fun c hc d hd => apart_sub (halves_ap b) (h.each c hc).2.1 (g.each d hd).2.1⟩
theorem qgd {m : TM} {l : List TH} {K : Int} {b : TB} {L : List TB} (h : m.covers l K b L) : (L.length : Int) ≤ b.count := by
 rw [← h.count]
 have : ∀ M : List TB, (∀ c ∈ M, c.ok) → (M.length : Int) ≤ sumC M := by
  intro M
  induction M with
  | nil => intro _; simp [sumC]
  | cons c M ih => intro hM; rw [q9m, List.length_cons]; have := ih (fun d hd => hM d (by simp [hd])); have := q0e (hM c (by simp)); push_cast; omega
 exact this L (fun c hc => (h.each c hc).1)
theorem proved_ge {m : TM} {l : List TH} {K : Int} {b : TB} {s : V3} (h : m.proved l K b) (hb : b.has s) (hp : m.permit s) (hs : 0 ≤ m.slow) (hsl : m.slow < m.lo) (he : 0 ≤ m.ea ∧ 0 ≤ m.la) (hw : 0 ≤ m.mi ∧ 0 ≤ m.no) (hl : ∀ h ∈ l, 0 ≤ h.w) : K ≤ m.score s l := by
 rcases h with h | h
 ·exact (h (qbr hb hp)).elim
 ·have := (q9l (l := l) hb hp hs hsl he hw hl).1; omega
theorem qht {m : TM} {l : List TH} {K : Int} {s : V3} (h : ¬ m.proved l K ⟨s, s⟩) (hs : 0 ≤ m.slow) (hsl : m.slow < m.lo) (he : 0 ≤ m.ea ∧ 0 ≤ m.la) (hw : 0 ≤ m.mi ∧ 0 ≤ m.no) (hl : ∀ h ∈ l, 0 ≤ h.w) : m.permit s ∧ m.score s l < K := by
 unfold TM.proved at h
 have h1 : m.canBe ⟨s, s⟩ := Classical.byContradiction fun hn => h (Or.inl hn)
 have hp := qcR h1
 refine ⟨hp, ?_⟩
 have h2 : ¬ K ≤ (m.scores ⟨s, s⟩ l).lo := fun hk => h (Or.inr hk)
 rw [qmo hp hs hsl he hw hl] at h2
 simp only at h2; omega
def V3.inS (p : V3) (k : Int) : Bool := inB p.x (-k) k && inB p.y (-k) k && inB p.z (-k) k
def plE (p : V3) : Int := unl (p.inS 1000) 2
def tmE (n : Int) : Int := unl (inB n (-10000) 10000) 2
def TM.right (m : TM) : Bool := inB m.tk 1 20 && inB m.lo 1 1200 && inB m.hi 1 1200 && inB m.li 1 100 && inB m.ea 0 100 && inB m.la 0 100 && inB m.no 0 100 && inB m.mi 0 100
def TM.err (m : TM) : Int := qd [plE m.pl, tmE m.tm, unl m.right 2, unl (decide (m.lo ≤ m.hi)) 9, unl (decide (m.slow < m.lo)) 13]
def TM.stE (m : TM) (s : V3) : Int := qd [unl (s.inS 20) 2, unl (m.permB s) 24]
def TM.both (m : TM) (s : V3) : Int := qd [m.err, m.stE s]
def momE (p : V3) (t : Int) : Int := qd [plE p, unl (inB t (-1000000) 1000000) 2]
def TB.err (b : TB) : Int := qd [unl (b.lo.inS 20 && b.hi.inS 20) 2, unl (decide (b.lo.x ≤ b.hi.x) && decide (b.lo.y ≤ b.hi.y) && decide (b.lo.z ≤ b.hi.z)) 9, unl (decide (b.count ≤ 700)) 8]
def TH.err (h : TH) : Int := qd [plE h.p, tmE h.t, unl (inB h.w 0 100) 2]
theorem qD {x : Int} {l : List Int} : qd (x :: l) = 0 ↔ x = 0 ∧ qd l = 0 := by
 simp only [qd]; split
 ·next h => simp [h]
 ·next h => simp [h]
theorem q6G {b : Bool} {n : Int} (hn : n ≠ 0) : unl b n = 0 ↔ b = true := by unfold unl; split <;> simp_all
theorem qn {p : V3} {k : Int} : p.inS k = true ↔ (-k ≤ p.x ∧ p.x ≤ k) ∧ (-k ≤ p.y ∧ p.y ≤ k) ∧ (-k ≤ p.z ∧ p.z ≤ k) := by
 unfold V3.inS; simp only [Bool.and_eq_true, q0Q, and_assoc]
structure TM.Ok (m : TM) : Prop where
 px : -1000 ≤ m.px ∧ m.px ≤ 1000
 py : -1000 ≤ m.py ∧ m.py ≤ 1000
 pz : -1000 ≤ m.pz ∧ m.pz ≤ 1000
 tm : -10000 ≤ m.tm ∧ m.tm ≤ 10000
 tk : 1 ≤ m.tk ∧ m.tk ≤ 20
 lo : 1 ≤ m.lo ∧ m.lo ≤ 1200
 hi : 1 ≤ m.hi ∧ m.hi ≤ 1200
 li : 1 ≤ m.li ∧ m.li ≤ 100
 ea : 0 ≤ m.ea ∧ m.ea ≤ 100
 la : 0 ≤ m.la ∧ m.la ≤ 100
 no : 0 ≤ m.no ∧ m.no ≤ 100
 mi : 0 ≤ m.mi ∧ m.mi ≤ 100
 ord : m.lo ≤ m.hi
 slo : m.slow < m.lo
 slp : 0 ≤ m.slow
theorem q1g {m : TM} (h : m.err = 0) : m.Ok := by
 unfold TM.err at h
 rw [qD, qD, qD, qD, qD] at h
 obtain ⟨h1, h2, h3, h4, h5, _⟩ := h
 unfold plE at h1; unfold tmE at h2
 rw [q6G (by decide)] at h1 h2 h3 h4 h5
 rw [qn] at h1
 unfold TM.right at h3
 simp only [Bool.and_eq_true, q0Q, decide_eq_true_eq] at h2 h3 h4 h5
 obtain ⟨a1, a2, a3⟩ := h1
 obtain ⟨⟨⟨⟨⟨⟨⟨b1, b2⟩, b3⟩, b4⟩, b5⟩, b6⟩, b7⟩, b8⟩ := h3
 refine ⟨a1, a2, a3, h2, b1, b2, b3, b4, b5, b6, b7, b8, h4, h5, ?_⟩
 unfold TM.slow
 exact Int.mul_nonneg (Int.mul_nonneg (by omega) (by omega)) (by omega)
theorem qhu {m : TM} {s : V3} (h : m.both s = 0) : m.Ok ∧ s.inS 20 = true ∧ m.permit s ∧ m.slow < s.dot s := by
 unfold TM.both at h
 rw [qD, qD] at h
 obtain ⟨h1, h2, _⟩ := h
 unfold TM.stE at h2
 rw [qD, qD] at h2
 obtain ⟨h3, h4, _⟩ := h2
 rw [q6G (by decide)] at h3 h4
 have ho := q1g h1
 have hp := q5t.1 h4
 exact ⟨ho, h3, hp, by have := ho.slo; have := hp.1; omega⟩
theorem boxErr_ok {b : TB} (h : b.err = 0) : b.lo.inS 20 = true ∧ b.hi.inS 20 = true ∧ b.ok ∧ b.count ≤ 700 := by
 unfold TB.err at h
 rw [qD, qD, qD] at h
 obtain ⟨h1, h2, h3, _⟩ := h
 rw [q6G (by decide)] at h1 h2 h3
 simp only [Bool.and_eq_true, decide_eq_true_eq] at h1 h2 h3
 exact ⟨h1.1, h1.2, ⟨h2.1.1, h2.1.2, h2.2⟩, h3⟩
theorem qge {a b : V3} {A B : Int} (ha : a.inS A = true) (hb : b.inS B = true) (hA : 0 ≤ A) (hB : 0 ≤ B) : (-(A * B) ≤ a.x * b.x ∧ a.x * b.x ≤ A * B) ∧ (-(A * B) ≤ a.y * b.y ∧ a.y * b.y ≤ A * B) ∧ (-(A * B) ≤ a.z * b.z ∧ a.z * b.z ≤ A * B) := by
 rw [qn] at ha hb
 exact ⟨qv ha.1 hb.1 (Int.le_refl _), qv ha.2.1 hb.2.1 (Int.le_refl _), qv ha.2.2 hb.2.2 (Int.le_refl _)⟩
theorem way_sz {m : TM} {s p : V3} {t : Int} (ho : m.Ok) (hs : s.inS 20 = true) (hp : p.inS 1000 = true) (ht : -1000101 ≤ t ∧ t ≤ 1000100) : (m.way s p t).inS 20242020 = true := by
 rw [qn] at *
 have h1 := qv (x := m.tk) (y := p.x - m.px) (A := 20) (B := 2000) (C := 40000) (by have := ho.tk; omega) (by have := ho.px; omega) (by decide)
 have h2 := qv (x := m.tk) (y := p.y - m.py) (A := 20) (B := 2000) (C := 40000) (by have := ho.tk; omega) (by have := ho.py; omega) (by decide)
 have h3 := qv (x := m.tk) (y := p.z - m.pz) (A := 20) (B := 2000) (C := 40000) (by have := ho.tk; omega) (by have := ho.pz; omega) (by decide)
 have g1 := qv (x := t - m.tm) (y := s.x) (A := 1010101) (B := 20) (C := 20202020) (by have := ho.tm; omega) hs.1 (by decide)
 have g2 := qv (x := t - m.tm) (y := s.y) (A := 1010101) (B := 20) (C := 20202020) (by have := ho.tm; omega) hs.2.1 (by decide)
 have g3 := qv (x := t - m.tm) (y := s.z) (A := 1010101) (B := 20) (C := 20202020) (by have := ho.tm; omega) hs.2.2 (by decide)
 unfold TM.way; simp only; omega
end Go.Proofs.YtfadkjcfjkmalaaGreatDoor
namespace Go.Proofs.YtfadkjcfjkmalaaGreatDoor
open Go.RowKit
def KeepB (G : List Nat) (W wc : World) : Prop := ∀ g ∈ G, g < wc.heap.size ∧ wc.heap[g]? = W.heap[g]?
theorem KeepB.refl {G : List Nat} {W : World} (h : ∀ g ∈ G, g < W.heap.size) : KeepB G W W := fun g hg => ⟨h g hg, rfl⟩
theorem KeepB.drew {G : List Nat} {W w : World} (h : KeepB G W w) : KeepB G W w.drew := fun g hg => h g hg
theorem KeepB.below {G : List Nat} {W w w' : World} (h : KeepB G W w) (hb : Below w.heap.size w w') : KeepB G W w' := fun g hg => ⟨Nat.lt_of_lt_of_le (h g hg).1 hb.size, (hb.block g (h g hg).1).trans (h g hg).2⟩
theorem KeepB.alloc {G : List Nat} {W w : World} (h : KeepB G W w) (o : Obj) : KeepB G W (w.alloc o) := KeepB.below h ((Below.refl _ _).alloc (Nat.le_refl _) o)
theorem qgf (w : World) (g k off : Nat) (v : Value) (h : g ≠ k) : (w.setCell ⟨k, off, none⟩ v).heap[g]? = w.heap[g]? := heap_setCell_other w ⟨k, off, none⟩ g v h
theorem KeepB.setCell {G : List Nat} {W w : World} {k off : Nat} {v : Value} (h : KeepB G W w) (hk : ∀ g ∈ G, g ≠ k) : KeepB G W (w.setCell ⟨k, off, none⟩ v) := fun g hg => by
 rw [World.size_setCell, qgf _ _ _ _ _ (hk g hg)]; exact h g hg
theorem KeepB.cell {G : List Nat} {W w : World} (h : KeepB G W w) {g off : Nat} (hg : g ∈ G) : w.cell? ⟨g, off, none⟩ = W.cell? ⟨g, off, none⟩ := by
 simp only [World.cell?, (h g hg).2]
section
variable {P : Program} {md : Region.Mode} {ops : Array Oper} {Q : Exit → Act → World → Prop} {C : World → Prop}
end
end Go.Proofs.YtfadkjcfjkmalaaGreatDoor
namespace Go.Proofs.YtfadkjcfjkmalaaGreatDoor
open Go.RowKit
def V3.v (p : V3) : Value := .agg #[.int .i64 p.x, .int .i64 p.y, .int .i64 p.z]
def TM.v (m : TM) : Value := .agg #[.int .i64 m.px, .int .i64 m.py, .int .i64 m.pz, .int .i64 m.tm, .int .i64 m.tk, .int .i64 m.lo, .int .i64 m.hi, .int .i64 m.li, .int .i64 m.ea, .int .i64 m.la, .int .i64 m.no, .int .i64 m.mi]
theorem BelowA {h : Nat} {w w' : World} (g : Below h w w' := by (repeat (with_reducible first | exact Below.refl _ _ | assumption | refine Below.drewN _ ?_ | refine Below.drew ?_ | refine qkH ?_ _ | refine Below.alloc ?_ (by first | (simp; done) | (simp; omega) | omega) _ | refine Below.setCell ?_ (by first | (simp; done) | (simp; omega) | omega) _ | refine qm1 ?_ (by assumption) | refine Below.trans ?_ (by assumption)))) : Below h w w' := g
def V3.sm (a b : V3) : Prop := (-1000000000000000000 ≤ a.x * b.x ∧ a.x * b.x ≤ 1000000000000000000) ∧ (-1000000000000000000 ≤ a.y * b.y ∧ a.y * b.y ≤ 1000000000000000000) ∧ (-1000000000000000000 ≤ a.z * b.z ∧ a.z * b.z ≤ 1000000000000000000)
theorem al2 (w : World) (a b : Array Value) (t s : TypeId) : ∀ W, W = (w.alloc (.cells a t)).alloc (.cells b s) → W.heap[w.heap.size]? = some (.cells a t (0, 0)) ∧ W.heap[w.heap.size + 1]? = some (.cells b s (0, 0)) ∧ w.heap.size < W.heap.size ∧ w.heap.size + 1 < W.heap.size := by
 rintro W rfl
 refine ⟨?_, ?_, by simp; omega, by simp⟩
 ·rw [Below.heap_alloc _ _ _ (by simp), heap_alloc_new]
 ·have := heap_alloc_new (w.alloc (.cells a t)) (.cells b s)
  simpa using this
--ENDC
--ENDC
def V3.at (a : V3) (k : Nat) : Int := if k = 0 then a.x else if k = 1 then a.y else a.z
theorem at_rg {a : V3} {A : Int} (h : a.inS A = true) (k : Nat) : -A ≤ a.at k ∧ a.at k ≤ A := by
 obtain ⟨h1, h2, h3⟩ := qn.1 h
 unfold V3.at
 split
 ·exact h1
 ·split
  ·exact h2
  ·exact h3
theorem qfc {m : TM} {s p : V3} {t : Int} (ho : m.Ok) (hs : s.inS 20 = true) (hp : p.inS 1000 = true) (ht : -1000101 ≤ t ∧ t ≤ 1000100) (k : Nat) :
  (-2000 ≤ p.at k - m.pl.at k ∧ p.at k - m.pl.at k ≤ 2000) ∧ (-40000 ≤ m.tk * (p.at k - m.pl.at k) ∧ m.tk * (p.at k - m.pl.at k) ≤ 40000) ∧ (-1010101 ≤ t - m.tm ∧ t - m.tm ≤ 1010101) ∧ (-20202020 ≤ (t - m.tm) * s.at k ∧ (t - m.tm) * s.at k ≤ 20202020) := by
 have hpl : m.pl.inS 1000 = true := qn.2 ⟨ho.px, ho.py, ho.pz⟩
 have h1 := at_rg hpl k
 have h2 := at_rg hp k
 have h3 := at_rg hs k
 have h4 := ho.tm
 have h5 := ho.tk
 exact ⟨by omega, qv (A := 20) (B := 2000) (by omega) (by omega) (by decide), by omega, qv (A := 1010101) (B := 20) (by omega) h3 (by decide)⟩
theorem qmt {m : TM} {s p : V3} {t : Int} (ho : m.Ok) (hs : s.inS 20 = true) (hpm : m.permit s) (hp : p.inS 1000 = true) (ht : -1000101 ≤ t ∧ t ≤ 1000100) :
  s.sm s ∧ (m.way s p t).sm s ∧ (m.way s p t).sm (m.way s p t) ∧ (1 ≤ s.dot s ∧ s.dot s ≤ 1200) ∧ (1 ≤ s.dot s - m.slow ∧ s.dot s - m.slow ≤ 1200) ∧
  (-1214521200 ≤ (m.way s p t).dot s ∧ (m.way s p t).dot s ≤ 1214521200) ∧ (0 ≤ (m.way s p t).dot (m.way s p t) ∧ (m.way s p t).dot (m.way s p t) ≤ 1229218121041200) ∧
  (0 ≤ (m.way s p t).dot s * (m.way s p t).dot s ∧ (m.way s p t).dot s * (m.way s p t).dot s ≤ 2000000000000000000) ∧
  (0 ≤ (s.dot s - m.slow) * (m.way s p t).dot (m.way s p t) ∧ (s.dot s - m.slow) * (m.way s p t).dot (m.way s p t) ≤ 2000000000000000000) := by
 have hw := way_sz ho hs hp ht
 have h1 := qge hs hs (by omega) (by omega)
 have h2 := qge hw hs (by omega) (by omega)
 have h3 := qge hw hw (by omega) (by omega)
 have hS := hpm.1
 have hS2 := hpm.2
 have hl := ho.lo
 have hh := ho.hi
 have hsl := ho.slo
 have hsp := ho.slp
 have hn := V3.dot_self (m.way s p t)
 have hb : -1214521200 ≤ (m.way s p t).dot s ∧ (m.way s p t).dot s ≤ 1214521200 := by unfold V3.dot; omega
 have hc : (m.way s p t).dot (m.way s p t) ≤ 1229218121041200 := by unfold V3.dot; omega
 have hbb := qv hb hb (C := 1475061745249440000) (by decide)
 have hac := qv (x := s.dot s - m.slow) (y := (m.way s p t).dot (m.way s p t)) (A := 1200) (B := 1229218121041200) (C := 1475061745249440000) (by omega) (by omega) (by decide)
 have hbn := sq_nn ((m.way s p t).dot s)
 have han := Int.mul_nonneg (show 0 ≤ s.dot s - m.slow by omega) hn
 refine ⟨?_, ?_, ?_, by omega, by omega, hb, ⟨hn, hc⟩, ⟨hbn, by omega⟩, ⟨han, by omega⟩⟩
 all_goals (unfold V3.sm; omega)
def At3 (w : World) (b : Nat) (a : V3) : Prop := ∀ k, k < 3 → w.cell? ⟨b, k, none⟩ = some (.int .i64 (a.at k))
theorem At3.below {w w' : World} {B b : Nat} {a : V3} (h : At3 w b a) (hb : Below B w w') (hlt : b < B) : At3 w' b a := fun k hk => (hb.cell (p := ⟨b, k, none⟩) hlt).trans (h k hk)
theorem al3 (w : World) (a b c : Array Value) (t s r : TypeId) : ∀ W, W = ((w.alloc (.cells a t)).alloc (.cells b s)).alloc (.cells c r) →
  W.heap[w.heap.size]? = some (.cells a t (0, 0)) ∧ W.heap[w.heap.size + 1]? = some (.cells b s (0, 0)) ∧ W.heap[w.heap.size + 1 + 1]? = some (.cells c r (0, 0)) := by
 rintro W rfl
 refine ⟨?_, ?_, ?_⟩
 ·rw [Below.heap_alloc _ _ _ (by simp <;> omega), Below.heap_alloc _ _ _ (by simp), heap_alloc_new]
 ·rw [Below.heap_alloc _ _ _ (by simp)]
  have := heap_alloc_new (w.alloc (.cells a t)) (.cells b s)
  simpa using this
 ·have := heap_alloc_new ((w.alloc (.cells a t)).alloc (.cells b s)) (.cells c r)
  simpa using this
--ENDC
--ENDC
theorem qk6 (m : TM) (s p : V3) : -1000001 ≤ m.first s p ∧ m.first s p ≤ 1000001 := by
 obtain ⟨a1, a2, _, _⟩ := qcQ (m.reached s p) 2000002 (-1000001)
 unfold TM.first; omega
--ENDC
structure Three (m : TM) (s p : V3) (b0 b1 b2 : Nat) (W : World) : Prop where
 r0 : W.heap[b0]? = some (.cells #[.int .i64 m.px, .int .i64 m.py, .int .i64 m.pz, .int .i64 m.tm, .int .i64 m.tk, .int .i64 m.lo, .int .i64 m.hi, .int .i64 m.li, .int .i64 m.ea, .int .i64 m.la, .int .i64 m.no, .int .i64 m.mi] 106 (0, 0))
 r1 : W.heap[b1]? = some (.cells #[.int .i64 s.x, .int .i64 s.y, .int .i64 s.z] 107 (0, 0))
 r2 : W.heap[b2]? = some (.cells #[.int .i64 p.x, .int .i64 p.y, .int .i64 p.z] 23 (0, 0))
theorem Three.below {m : TM} {s p : V3} {b0 b1 b2 : Nat} {W W' : World} (h : Three m s p b0 b1 b2 W) (hb : Below W.heap.size W W') : Three m s p b0 b1 b2 W' :=
 ⟨(hb.block _ (Array.getElem?_eq_some_iff.1 h.r0).1).trans h.r0, (hb.block _ (Array.getElem?_eq_some_iff.1 h.r1).1).trans h.r1, (hb.block _ (Array.getElem?_eq_some_iff.1 h.r2).1).trans h.r2⟩
theorem plE_ok {p : V3} (h : plE p = 0) : p.inS 1000 = true := by
 unfold plE at h; rwa [q6G (by decide)] at h
--ENDC
end Go.Proofs.YtfadkjcfjkmalaaGreatDoor
namespace Go.Proofs.YtfadkjcfjkmalaaGreatDoor
def dig (n : Nat) : List Int := if h : n = 0 then [] else ((n % 1000000000 : Nat) : Int) :: dig (n / 1000000000)
termination_by n
decreasing_by omega
def sg (z : Int) : Int := if z < 0 then -1 else if z = 0 then 0 else 1
end Go.Proofs.YtfadkjcfjkmalaaGreatDoor
namespace Go.Proofs.YtfadkjcfjkmalaaGreatDoor
open Go.RowKit
def DigIn (w : World) (v : Value) (l : List Int) (N : Nat → Prop) : Prop := SlIn w v l.length 1 (fun i _ => .int .i64 (nth l i)) N
theorem DigIn.ints {w : World} {v : Value} {l : List Int} {N : Nat → Prop} (h : DigIn w v l N) : IntsAt w v l := SlIn.sl h
theorem DigIn.keep {w w' : World} {v : Value} {l : List Int} {N N' : Nat → Prop} (h : DigIn w v l N) (hs : w.heap.size ≤ w'.heap.size) (hk : ∀ b, b < w.heap.size → N b → w'.heap[b]? = w.heap[b]? ∧ N' b) : DigIn w' v l N' := SlIn.keep h hs hk
theorem DigIn.mono {w w' : World} {v : Value} {l : List Int} {N N' : Nat → Prop} (h : DigIn w v l N) (hb : Below w.heap.size w w') (hk : ∀ b, b < w.heap.size → N b → N' b) : DigIn w' v l N' :=
 DigIn.keep h hb.size fun b hlt hN => ⟨hb.block b hlt, hk b hlt hN⟩
theorem IntsAt.dig {w : World} {v : Value} {l : List Int} (h : IntsAt w v l) : DigIn w v l (fun b => b < w.heap.size) := by
 obtain ⟨ao, cap, rfl, h1, h2, h3, h4⟩ := h
 exact ⟨ao, cap, rfl, h1, h2, fun h0 => by obtain ⟨b, off, e, hlt, hc⟩ := h3 h0; exact ⟨b, off, e, hlt, hlt, hc⟩, h4⟩
def WideAt (w : World) (v : Value) (z : Int) (N : Nat → Prop) : Prop := ∃ ao cap, v = .agg #[.int .i64 (sg z), .slice ao (dig z.natAbs).length cap] ∧ DigIn w (.slice ao (dig z.natAbs).length cap) (dig z.natAbs) N
theorem WideAt.keep {w w' : World} {v : Value} {z : Int} {N N' : Nat → Prop} (h : WideAt w v z N) (hs : w.heap.size ≤ w'.heap.size) (hk : ∀ b, b < w.heap.size → N b → w'.heap[b]? = w.heap[b]? ∧ N' b) : WideAt w' v z N' := by
 obtain ⟨ao, cap, rfl, h1⟩ := h
 exact ⟨ao, cap, rfl, h1.keep hs hk⟩
theorem WideAt.mono {w w' : World} {v : Value} {z : Int} {N N' : Nat → Prop} (h : WideAt w v z N) (hb : Below w.heap.size w w') (hk : ∀ b, b < w.heap.size → N b → N' b) : WideAt w' v z N' :=
 WideAt.keep h hb.size fun b hlt hN => ⟨hb.block b hlt, hk b hlt hN⟩
theorem IntsAt.prefix {w : World} {ao : Option Addr} {l : List Int} {cap n : Nat} (h : IntsAt w (.slice ao l.length cap) l) (hn : n ≤ l.length) : IntsAt w (.slice ao n cap) (l.take n) := by
 obtain ⟨ao', cap', e, h1, h2, h3, h4⟩ := h
 cases e
 refine ⟨ao, cap, by rw [List.length_take, Nat.min_eq_left hn], by rw [List.length_take, Nat.min_eq_left hn]; omega, h2, fun h0 => ?_, h4⟩
 rw [List.length_take, Nat.min_eq_left hn] at h0 ⊢
 obtain ⟨b, off, e, hlt, hc⟩ := h3 (by omega)
 refine ⟨b, off, e, hlt, fun i j hi hj => ?_⟩
 rw [hc i j (by omega) hj]
 simp [List.getD_eq_getElem?_getD, List.getElem?_take, hi]
--ENDC
--ENDC
--ENDC
--ENDC
--ENDC
--ENDC
--ENDC
--ENDC
--ENDC
theorem DigIn.shape {w : World} {v : Value} {l : List Int} {N : Nat → Prop} (h : DigIn w v l N) : ∃ ao cap, v = .slice ao l.length cap := by
 obtain ⟨ao, cap, rfl, _⟩ := h
 exact ⟨ao, cap, rfl⟩
--ENDC
--ENDC
theorem WideAt.shape {w : World} {v : Value} {z : Int} {N : Nat → Prop} (h : WideAt w v z N) : ∃ ao n cap, v = .agg #[.int .i64 (sg z), .slice ao n cap] := by
 obtain ⟨ao, cap, rfl, _⟩ := h
 exact ⟨ao, _, cap, rfl⟩
--ENDC
--ENDC
--ENDC
end Go.Proofs.YtfadkjcfjkmalaaGreatDoor
namespace Go.Proofs.YtfadkjcfjkmalaaGreatDoor
end Go.Proofs.YtfadkjcfjkmalaaGreatDoor
namespace Go.Proofs.YtfadkjcfjkmalaaGreatDoor
open Go.RowKit
def RatAt (w : World) (v : Value) (n d : Int) (N : Nat → Prop) : Prop := ∃ a b c e, v = .agg #[a, b, c, e] ∧ WideAt w (.agg #[a, b]) n N ∧ WideAt w (.agg #[c, e]) d N
theorem RatAt.mono {w w' : World} {v : Value} {n d : Int} {N N' : Nat → Prop} (h : RatAt w v n d N) (hb : Below w.heap.size w w') (hk : ∀ b, b < w.heap.size → N b → N' b) : RatAt w' v n d N' := by
 obtain ⟨a, b, c, e, rfl, h1, h2⟩ := h
 exact ⟨a, b, c, e, rfl, h1.mono hb hk, h2.mono hb hk⟩
theorem RatAt.shape {w : World} {v : Value} {n d : Int} {N : Nat → Prop} (h : RatAt w v n d N) : ∃ ao k cap bo m cap2, v = .agg #[.int .i64 (sg n), .slice ao k cap, .int .i64 (sg d), .slice bo m cap2] ∧ WideAt w (.agg #[.int .i64 (sg n), .slice ao k cap]) n N ∧ WideAt w (.agg #[.int .i64 (sg d), .slice bo m cap2]) d N := by
 obtain ⟨a, b, c, e, rfl, ⟨ao, cap, h1, h2⟩, ⟨bo, cap2, h3, h4⟩⟩ := h
 cases h1; cases h3
 exact ⟨ao, _, cap, bo, _, cap2, rfl, ⟨ao, cap, rfl, h2⟩, ⟨bo, cap2, rfl, h4⟩⟩
def rN (n d : Int) : Int := n / (Int.gcd n d : Int)
def rD (n d : Int) : Int := d / (Int.gcd n d : Int)
end Go.Proofs.YtfadkjcfjkmalaaGreatDoor
namespace Go.Proofs.YtfadkjcfjkmalaaGreatDoor
theorem nodup_len {α : Type} [DecidableEq α] : ∀ (l m : List α), l.Nodup → (∀ x ∈ l, x ∈ m) → l.length ≤ m.length := by
 intro l
 induction l with
 | nil => intro m _ _; exact Nat.zero_le _
 | cons x l ih =>
  intro m hn hs
  obtain ⟨h1, h2⟩ := List.nodup_cons.1 hn
  have hx : x ∈ m := hs x (by simp)
  have h3 := ih (m.erase x) h2 (fun y hy => by
   have hy2 := hs y (by simp [hy])
   have hne : y ≠ x := fun e => h1 (e ▸ hy)
   exact (List.mem_erase_of_ne hne).2 hy2)
  rw [List.length_erase_of_mem hx] at h3
  have : 0 < m.length := List.length_pos_of_mem hx
  rw [List.length_cons]; omega
instance : DecidableEq V3 := fun a b => decidable_of_iff (a.x = b.x ∧ a.y = b.y ∧ a.z = b.z) (by
 obtain ⟨a1, a2, a3⟩ := a; obtain ⟨b1, b2, b3⟩ := b; simp [V3.mk.injEq])
theorem all_nodup (b : TB) : b.all.Nodup := (qg9 b).imp (fun h e => by subst e; exact qfa _ h)
theorem apart_has {a b : TB} (h : a.apart b) (s : V3) : ¬ (a.has s ∧ b.has s) := by
 unfold TB.apart TB.has TB.rx TB.ry TB.rz Rg.has at *; simp only at *; omega
theorem sum_le {b : TB} (L : List TB) (o : b.ok) (h : ∀ c ∈ L, c.ok ∧ c.sub b) (hp : L.Pairwise TB.apart) : sumC L ≤ b.count := by
 have hlen : ∀ M : List TB, (∀ c ∈ M, c.ok) → ((M.flatMap TB.all).length : Int) = sumC M := by
  intro M
  induction M with
  | nil => intro _; simp [sumC]
  | cons c M ih => intro hM; rw [List.flatMap_cons, List.length_append, q9m, ← qah (hM c (by simp)), ← ih (fun d hd => hM d (by simp [hd]))]; push_cast; rfl
 have hnd : ∀ M : List TB, M.Pairwise TB.apart → (M.flatMap TB.all).Nodup := by
  intro M
  induction M with
  | nil => intro _; simp
  | cons c M ih =>
   intro hM
   obtain ⟨h1, h2⟩ := List.pairwise_cons.1 hM
   rw [List.flatMap_cons]
   refine List.nodup_append.2 ⟨all_nodup c, ih h2, fun x hx y hy e => ?_⟩
   subst e
   obtain ⟨d, hd, hxd⟩ := List.mem_flatMap.1 hy
   exact apart_has (h1 d hd) x ⟨q8f.1 hx, q8f.1 hxd⟩
 rw [← hlen L (fun c hc => (h c hc).1), ← qah o]
 have := nodup_len (L.flatMap TB.all) b.all (hnd L hp) (fun x hx => by
  obtain ⟨c, hc, hxc⟩ := List.mem_flatMap.1 hx
  exact q8f.2 (qhs (h c hc).2 (q8f.1 hxc)))
 omega
theorem sum_full {b : TB} (L : List TB) (o : b.ok) (h : ∀ c ∈ L, c.ok ∧ c.sub b) (hp : L.Pairwise TB.apart) (hc : sumC L = b.count) (s : V3) (hs : b.has s) : ∃ c ∈ L, c.has s := by
 refine Classical.byContradiction fun hn => ?_
 have hb : ∀ c ∈ L, c.apart ⟨s, s⟩ := fun c hcL => by
  have h1 : ¬ c.has s := fun hh => hn ⟨c, hcL, hh⟩
  unfold TB.apart; simp only
  unfold TB.has TB.rx TB.ry TB.rz Rg.has at h1; simp only at h1; omega
 have ho : (⟨s, s⟩ : TB).ok := ⟨Int.le_refl _, Int.le_refl _, Int.le_refl _⟩
 have := sum_le (b := b) (⟨s, s⟩ :: L) o (fun c hcL => by
  rcases List.mem_cons.1 hcL with rfl | hcL
  ·exact ⟨ho, ⟨⟨hs.1.1, hs.1.2⟩, ⟨hs.2.1.1, hs.2.1.2⟩, ⟨hs.2.2.1, hs.2.2.2⟩⟩⟩
  ·exact h c hcL) (List.pairwise_cons.2 ⟨fun c hcL => qmr (hb c hcL), hp⟩)
 rw [q9m, hc] at this
 have := q0e ho
 omega
theorem qiD {m : TM} {l : List TH} {K : Int} {b : TB} {L : List TB} (h : m.covers l K b L) (o : b.ok) {s : V3} (hb : b.has s) (hp : m.permit s) (hs : 0 ≤ m.slow) (hsl : m.slow < m.lo) (he : 0 ≤ m.ea ∧ 0 ≤ m.la) (hw : 0 ≤ m.mi ∧ 0 ≤ m.no) (hl : ∀ h ∈ l, 0 ≤ h.w) : K ≤ m.score s l := by
 obtain ⟨c, hc, hcs⟩ := sum_full L o (fun c hc => ⟨(h.each c hc).1, (h.each c hc).2.1⟩) h.apart h.count s hb
 exact proved_ge (h.each c hc).2.2 hcs hp hs hsl he hw hl
end Go.Proofs.YtfadkjcfjkmalaaGreatDoor
namespace Go.Proofs.YtfadkjcfjkmalaaGreatDoor
open Go.RowKit
section
variable {P : Program} {md : Region.Mode} {ops : Array Oper} {Q : Exit → Act → World → Prop} {C : World → Prop}
end
end Go.Proofs.YtfadkjcfjkmalaaGreatDoor
namespace Go.Proofs.YtfadkjcfjkmalaaGreatDoor
open Go.RowKit
def TM.off (m : TM) (p : V3) : V3 := ⟨p.x - m.px, p.y - m.py, p.z - m.pz⟩
def TM.num (m : TM) (s p : V3) : Int := (m.off p).dot (m.off p) * s.dot s - (m.off p).dot s * (m.off p).dot s
def TH.zero : TH := ⟨⟨0, 0, 0⟩, 0, 0⟩
def TH.cell (x : TH) : Nat → Value
 | 0 => .int .i64 x.p.x
 | 1 => .int .i64 x.p.y
 | 2 => .int .i64 x.p.z
 | 3 => .int .i64 x.t
 | _ => .int .i64 x.w
def TH.v (x : TH) : Value := .agg #[.int .i64 x.p.x, .int .i64 x.p.y, .int .i64 x.p.z, .int .i64 x.t, .int .i64 x.w]
def qe (l : List TH) (i : Nat) : TH := l.getD i TH.zero
theorem hitAt_lt {l : List TH} {i : Nat} (h : i < l.length) : qe l i = l[i] := by simp [qe, List.getD, h]
theorem qgg {l : List TH} {k : Nat} (h : k < l.length) : l.take (k + 1) = l.take k ++ [qe l k] := by
 rw [List.take_succ_eq_append_getElem h, hitAt_lt h]
def HitsAt (w : World) (v : Value) (l : List TH) : Prop := SlAt w v l.length 5 (fun i j => (qe l i).cell j)
theorem HitsAt.below {w w' : World} {v : Value} {l : List TH} (h : HitsAt w v l) (hb : Below w.heap.size w w') : HitsAt w' v l := SlAt.below h hb
theorem HitsAt.opn {w : World} {v : Value} {l : List TH} (h : HitsAt w v l) : ∃ ao cap, v = .slice ao l.length cap ∧ l.length ≤ cap ∧ cap ≤ maxLen ∧
  ∀ k, k < l.length → ∃ b off, ao = some ⟨b, off, none⟩ ∧ b < w.heap.size ∧ ∀ i, i < l.length →
   w.cell? ⟨b, off + i * 5, none⟩ = some (.int .i64 (qe l i).p.x) ∧ w.cell? ⟨b, off + i * 5 + 1, none⟩ = some (.int .i64 (qe l i).p.y) ∧ w.cell? ⟨b, off + i * 5 + 2, none⟩ = some (.int .i64 (qe l i).p.z) ∧ w.cell? ⟨b, off + i * 5 + 3, none⟩ = some (.int .i64 (qe l i).t) ∧ w.cell? ⟨b, off + i * 5 + 4, none⟩ = some (.int .i64 (qe l i).w) := by
 obtain ⟨ao, cap, rfl, h1, h2, h3, _⟩ := h
 refine ⟨ao, cap, rfl, h1, h2, fun k hk => ?_⟩
 obtain ⟨b, off, e, hlt, hc⟩ := h3 (by omega)
 exact ⟨b, off, e, hlt, fun i hi => ⟨hc i 0 hi (by omega), hc i 1 hi (by omega), hc i 2 hi (by omega), hc i 3 hi (by omega), hc i 4 hi (by omega)⟩⟩
def q1p (l : List TH) : Int := if 12 < l.length then 0 else qc3 (fun i => (qe l i).err) l.length
def ql (l : List TH) : Int := if 12 < l.length then 8 else scan (fun i => (qe l i).err) l.length
structure TH.Ok (h : TH) : Prop where
 p : h.p.inS 1000 = true
 t : -10000 ≤ h.t ∧ h.t ≤ 10000
 w : 0 ≤ h.w ∧ h.w ≤ 100
theorem hit_ok {h : TH} (e : h.err = 0) : h.Ok := by
 unfold TH.err at e
 rw [qD, qD, qD] at e
 obtain ⟨h1, h2, h3, _⟩ := e
 unfold tmE at h2
 rw [q6G (by decide)] at h2 h3
 exact ⟨plE_ok h1, q0Q.1 h2, q0Q.1 h3⟩
theorem qgh (m : TM) (s : V3) {l : List TH} {k : Nat} (h : k < l.length) : m.score s (l.take (k + 1)) = m.score s (l.take k) + m.pen s (qe l k) := by
 rw [qgg h]; unfold TM.score TM.pens; rw [List.map_append, List.foldl_append]; rfl
theorem pen_rg {m : TM} {s : V3} {h : TH} (ho : m.Ok) (hh : h.Ok) : -10000 ≤ m.pen s h ∧ m.pen s h ≤ 10000 := by
 have h1 := qv (x := h.w) (y := m.mi) (A := 100) (B := 100) (C := 10000) (by have := hh.w; omega) (by have := ho.mi; omega) (by decide)
 have h2 := qv (x := h.w) (y := m.no) (A := 100) (B := 100) (C := 10000) (by have := hh.w; omega) (by have := ho.no; omega) (by decide)
 unfold TM.pen
 split
 ·exact h1
 ·split
  ·exact h2
  ·omega
theorem q1N {l : List TH} (h : ql l = 0) : l.length ≤ 12 ∧ ∀ i, i < l.length → (qe l i).Ok := by
 unfold ql at h
 split at h
 ·cases h
 ·next hb => exact ⟨by omega, fun i hi => hit_ok (qiy h i hi)⟩
def TB.v (b : TB) : Value := .agg #[.int .i64 b.lo.x, .int .i64 b.lo.y, .int .i64 b.lo.z, .int .i64 b.hi.x, .int .i64 b.hi.y, .int .i64 b.hi.z]
def Rg.v (r : Rg) : Value := .agg #[.int .i64 r.lo, .int .i64 r.hi]
set_option maxHeartbeats 4000000 in
theorem qbt (r s : Rg) (w : World) (h1 : -4000000000000000000 ≤ r.lo ∧ r.lo ≤ 4000000000000000000) (h2 : -4000000000000000000 ≤ r.hi ∧ r.hi ≤ 4000000000000000000) (h3 : -4000000000000000000 ≤ s.lo ∧ s.lo ≤ 4000000000000000000) (h4 : -4000000000000000000 ≤ s.hi ∧ s.hi ≤ 4000000000000000000) :
  Calls Tryz.prog 101 #[r.v, s.v] w fun e w' => e = .returned (r.plus s).v ∧ Below w.heap.size w w' := by
 obtain ⟨a, b⟩ := r
 obtain ⟨c, d⟩ := s
 unfold Rg.v Rg.plus
 simp only at *
 go_enter Tryz.func101, Tryz.ntmps101
 go_wp2_with fail
 ((try simp only [Exit.inBlock, Exit.then]); refine bodyPost_ret (v := .agg #[.int .i64 (a + c), .int .i64 (b + d)]) ?_ rfl ?_; (next => simp [results, Tryz.results101, go_sem]); refine ⟨?_, ?_⟩; (next => rfl); (next => exact BelowA))
set_option maxHeartbeats 4000000 in
theorem qk7 (r : Rg) (w : World) (h1 : -3000000000 ≤ r.lo ∧ r.lo ≤ 3000000000) (h2 : -3000000000 ≤ r.hi ∧ r.hi ≤ 3000000000) :
  Calls Tryz.prog 102 #[r.v] w fun e w' => e = .returned r.square.v ∧ Below w.heap.size w w' := by
 obtain ⟨a, b⟩ := r
 simp only at *
 have g1 := qv h1 h1 (C := 9000000000000000000) (by decide)
 have g2 := qv h2 h2 (C := 9000000000000000000) (by decide)
 have HV : Hid ((Rg.mk a b).square = if a ≤ 0 ∧ 0 ≤ b then ⟨0, max (a * a) (b * b)⟩ else ⟨min (a * a) (b * b), max (a * a) (b * b)⟩) := hid rfl
 obtain ⟨A, hA⟩ : ∃ A, a * a = A := ⟨_, rfl⟩
 obtain ⟨B, hB⟩ : ∃ B, b * b = B := ⟨_, rfl⟩
 have k1 : IntKind.i64.wrap (a * a) = A := by rw [hA]; exact IntWalk.i64_in _ (by omega)
 have k2 : IntKind.i64.wrap (b * b) = B := by rw [hB]; exact IntWalk.i64_in _ (by omega)
 rw [hA] at g1 HV
 rw [hB] at g2 HV
 generalize (Rg.mk a b).square = Q at HV ⊢
 unfold Rg.v
 simp only
 obtain ⟨W, hW⟩ : ∃ W, W = (w.alloc (.cells #[.int .i64 a, .int .i64 b] 127)).alloc (.cells #[.int .i64 0, .int .i64 0] 127) := ⟨_, rfl⟩
 have hbW : Below w.heap.size w W := by rw [hW]; exact BelowA
 obtain ⟨q0, q1, l0, l1⟩ := al2 w _ _ _ _ W hW
 obtain ⟨c0, c1, fc0, fc1, hlc⟩ := qcP q0
 obtain ⟨g0, g1', fg0, fg1, hlg⟩ := qcP q1
 clear q0 q1 hA hB fc0 fc1
 by_cases p1 : a ≤ 0
 ·by_cases p2 : 0 ≤ b
  ·have HQ : Hid (Q.lo = 0 ∧ Q.hi = max A B) := hid (by rw [HV.out, if_pos ⟨p1, p2⟩]; exact ⟨rfl, rfl⟩)
   go_enter Tryz.func102, Tryz.ntmps102
   go_wp2_with fail
   rw [← hW]
   clear hW
   refine qdM (fun wc => Below (W.heap.size) W wc) 11 [.q [0, 1, 2, 3, 4, 5, 6, 7, 8, 9, 10]] [.q [11]] (by kernel_rfl) (by kernel_rfl) ((Below.refl _ _).drew) ?_
   intro Q' hQ'
   (rw [q0J]; simp only [pick, List.drop_succ_cons, List.drop_zero, List.head?_cons, Option.toList_some, List.cons_append, List.nil_append])
   (repeat (first | go_big_quiet_skip | (go_big_quiet_want; refine q3S rfl ?_; go_big_quiet_op; go_big_quiet_on) | (go_big_quiet_want; refine q9N (ty := 3) rfl rfl (by kernel_rfl) (by assumption) (by first | omega | (simp; omega)) ?_; simp only [Act.put, List.setIfInBounds_toArray, List.set_cons_succ, List.set_cons_zero]; go_big_quiet_on)))
   (try refine wpQuiet_nil ?_)
   (rw [q0J])
   (rw [q1H]; simp only [pick, List.drop_succ_cons, List.drop_zero, List.head?_cons, Option.toList_some, List.cons_append, List.nil_append])
   (repeat (first | (go_big_quiet_step (fail)) | (quiet_step (fail))))
   (try refine wpQuiet_nil ?_)
   (rw [q1H])
   (refine hQ' _ _ ?_)
   go_wp2_with fail
   all_goals
    ((try simp only [Exit.inBlock, Exit.then]); refine bodyPost_ret (v := .agg #[.int .i64 0, .int .i64 (max A B)]) ?_ rfl ?_; (next => (simp [results, Tryz.results102, go_sem, hlg, g0, g1'] <;> omega)))
    exact ⟨by rw [HQ.out.1, HQ.out.2], by exact BelowA⟩
  ·have HQ : Hid (Q.lo = min A B ∧ Q.hi = max A B) := hid (by rw [HV.out, if_neg (fun h => p2 h.2)]; exact ⟨rfl, rfl⟩)
   go_enter Tryz.func102, Tryz.ntmps102
   go_wp2_with fail
   rw [← hW]
   clear hW
   refine qdM (fun wc => Below (W.heap.size) W wc) 11 [.q [0, 1, 2, 3, 4, 5, 6, 7, 8, 9, 10]] [.q [11]] (by kernel_rfl) (by kernel_rfl) ((Below.refl _ _).drew) ?_
   intro Q' hQ'
   (rw [q0J]; simp only [pick, List.drop_succ_cons, List.drop_zero, List.head?_cons, Option.toList_some, List.cons_append, List.nil_append])
   (repeat (first | go_big_quiet_skip | (go_big_quiet_want; refine q3S rfl ?_; go_big_quiet_op; go_big_quiet_on) | (go_big_quiet_want; refine q9N (ty := 3) rfl rfl (by kernel_rfl) (by assumption) (by first | omega | (simp; omega)) ?_; simp only [Act.put, List.setIfInBounds_toArray, List.set_cons_succ, List.set_cons_zero]; go_big_quiet_on)))
   (try refine wpQuiet_nil ?_)
   (rw [q0J])
   (rw [q1H]; simp only [pick, List.drop_succ_cons, List.drop_zero, List.head?_cons, Option.toList_some, List.cons_append, List.nil_append])
   (repeat (first | (go_big_quiet_step (fail)) | (quiet_step (fail))))
   (try refine wpQuiet_nil ?_)
   (rw [q1H])
   (refine hQ' _ _ ?_)
   go_wp2_with fail
   all_goals
    ((try simp only [Exit.inBlock, Exit.then]); refine bodyPost_ret (v := .agg #[.int .i64 (min A B), .int .i64 (max A B)]) ?_ rfl ?_; (next => (simp [results, Tryz.results102, go_sem, hlg, g0, g1'] <;> omega)))
    exact ⟨by rw [HQ.out.1, HQ.out.2], by exact BelowA⟩
 ·have HQ : Hid (Q.lo = min A B ∧ Q.hi = max A B) := hid (by rw [HV.out, if_neg (fun h => p1 h.1)]; exact ⟨rfl, rfl⟩)
  go_enter Tryz.func102, Tryz.ntmps102
  go_wp2_with fail
  rw [← hW]
  clear hW
  refine qdM (fun wc => Below (W.heap.size) W wc) 11 [.q [0, 1, 2, 3, 4, 5, 6, 7, 8, 9, 10]] [.q [11]] (by kernel_rfl) (by kernel_rfl) ((Below.refl _ _).drew) ?_
  intro Q' hQ'
  (rw [q0J]; simp only [pick, List.drop_succ_cons, List.drop_zero, List.head?_cons, Option.toList_some, List.cons_append, List.nil_append])
  (repeat (first | go_big_quiet_skip | (go_big_quiet_want; refine q3S rfl ?_; go_big_quiet_op; go_big_quiet_on) | (go_big_quiet_want; refine q9N (ty := 3) rfl rfl (by kernel_rfl) (by assumption) (by first | omega | (simp; omega)) ?_; simp only [Act.put, List.setIfInBounds_toArray, List.set_cons_succ, List.set_cons_zero]; go_big_quiet_on)))
  (try refine wpQuiet_nil ?_)
  (rw [q0J])
  (rw [q1H]; simp only [pick, List.drop_succ_cons, List.drop_zero, List.head?_cons, Option.toList_some, List.cons_append, List.nil_append])
  (repeat (first | (go_big_quiet_step (fail)) | (quiet_step (fail))))
  (try refine wpQuiet_nil ?_)
  (rw [q1H])
  (refine hQ' _ _ ?_)
  go_wp2_with fail
  all_goals
   ((try simp only [Exit.inBlock, Exit.then]); refine bodyPost_ret (v := .agg #[.int .i64 (min A B), .int .i64 (max A B)]) ?_ rfl ?_; (next => (simp [results, Tryz.results102, go_sem, hlg, g0, g1'] <;> omega)))
   exact ⟨by rw [HQ.out.1, HQ.out.2], by exact BelowA⟩
set_option maxHeartbeats 4000000 in
theorem qgi (a b c d : Int) (v : Value) (w : World) (h : IntsAt w v [a, b, c, d]) :
  Calls Tryz.prog 137 #[v] w fun e w' => e = .returned (.int .i64 (mn4 a b c d)) ∧ Below w.heap.size w w' := by
 obtain ⟨ao, cap, rfl, h1, h2, h3⟩ := h.opn
 obtain ⟨g, off, rfl, hb, hc⟩ := h3 0 (by simp)
 have c0 := hc 0 (by simp)
 have c1 := hc 1 (by simp)
 have c2 := hc 2 (by simp)
 have c3 := hc 3 (by simp)
 rw [show nth [a, b, c, d] 0 = a from rfl, Nat.add_zero] at c0
 rw [show nth [a, b, c, d] 1 = b from rfl] at c1
 rw [show nth [a, b, c, d] 2 = c from rfl] at c2
 rw [show nth [a, b, c, d] 3 = d from rfl] at c3
 have HV : Hid (mn4 a b c d = min (min (min a b) c) d) := hid rfl
 generalize mn4 a b c d = R at HV ⊢
 simp only [List.length_cons, List.length_nil, Nat.zero_add, Nat.reduceAdd] at *
 clear hc h3 h
 unfold maxLen at h2
 go_enter Tryz.func137, Tryz.ntmps137
 go_wp2_with fail
 refine wp_loop_rounds 4 ?_
 repeat any_goals (rw [rounds_succ]; go_wp2_with fail)
 all_goals go_ret
 all_goals exact ⟨ret_int (by rw [HV.out]; omega), Below.refl _ _⟩
set_option maxHeartbeats 4000000 in
theorem qgj (a b c d : Int) (v : Value) (w : World) (h : IntsAt w v [a, b, c, d]) :
  Calls Tryz.prog 138 #[v] w fun e w' => e = .returned (.int .i64 (mx4 a b c d)) ∧ Below w.heap.size w w' := by
 obtain ⟨ao, cap, rfl, h1, h2, h3⟩ := h.opn
 obtain ⟨g, off, rfl, hb, hc⟩ := h3 0 (by simp)
 have c0 := hc 0 (by simp)
 have c1 := hc 1 (by simp)
 have c2 := hc 2 (by simp)
 have c3 := hc 3 (by simp)
 rw [show nth [a, b, c, d] 0 = a from rfl, Nat.add_zero] at c0
 rw [show nth [a, b, c, d] 1 = b from rfl] at c1
 rw [show nth [a, b, c, d] 2 = c from rfl] at c2
 rw [show nth [a, b, c, d] 3 = d from rfl] at c3
 have HV : Hid (mx4 a b c d = max (max (max a b) c) d) := hid rfl
 generalize mx4 a b c d = R at HV ⊢
 simp only [List.length_cons, List.length_nil, Nat.zero_add, Nat.reduceAdd] at *
 clear hc h3 h
 unfold maxLen at h2
 go_enter Tryz.func138, Tryz.ntmps138
 go_wp2_with fail
 refine wp_loop_rounds 4 ?_
 repeat any_goals (rw [rounds_succ]; go_wp2_with fail)
 all_goals go_ret
 all_goals exact ⟨ret_int (by rw [HV.out]; omega), Below.refl _ _⟩
theorem run_sl4 (b : Nat) (w : World) : (Instr.sliceAt 199 (.pointer (some ⟨b, 0, none⟩)) none none none).run Tryz.prog w = .ok (.slice (some ⟨b, 0, none⟩) 4 4) w := by kernel_rfl
theorem qeQ {o : Oper} {a : Act} {C : World → Prop} {K : Act → Prop} {x : Operand} {b : Nat} (ho : o.op = .slice 199 x none none none) (hx : a.eval x = .pointer (some ⟨b, 0, none⟩)) (hK : K (a.put o.dst (.slice (some ⟨b, 0, none⟩) 4 4))) : o.quiet Tryz.prog a C K :=
 qix _ (fun w _ => by
  unfold execOp
  simp only [ho, hx, Option.map_none]
  simp [go_sem, run_sl4]) hK
set_option maxHeartbeats 4000000 in
theorem qeR (r s : Rg) (w : World) (h1 : -4000000000000000000 ≤ r.lo * s.lo ∧ r.lo * s.lo ≤ 4000000000000000000) (h2 : -4000000000000000000 ≤ r.lo * s.hi ∧ r.lo * s.hi ≤ 4000000000000000000) (h3 : -4000000000000000000 ≤ r.hi * s.lo ∧ r.hi * s.lo ≤ 4000000000000000000) (h4 : -4000000000000000000 ≤ r.hi * s.hi ∧ r.hi * s.hi ≤ 4000000000000000000) :
  Calls Tryz.prog 121 #[r.v, s.v] w fun e w' => e = .returned (r.times s).v ∧ Below w.heap.size w w' := by
 have HV : Hid ((r.times s).lo = mn4 (r.lo * s.lo) (r.lo * s.hi) (r.hi * s.lo) (r.hi * s.hi) ∧ (r.times s).hi = mx4 (r.lo * s.lo) (r.lo * s.hi) (r.hi * s.lo) (r.hi * s.hi)) := hid ⟨rfl, rfl⟩
 generalize r.times s = T at HV ⊢
 obtain ⟨a, b⟩ := r
 obtain ⟨c, d⟩ := s
 simp only at *
 obtain ⟨P1, hP1⟩ : ∃ P, a * c = P := ⟨_, rfl⟩
 obtain ⟨P2, hP2⟩ : ∃ P, a * d = P := ⟨_, rfl⟩
 obtain ⟨P3, hP3⟩ : ∃ P, b * c = P := ⟨_, rfl⟩
 obtain ⟨P4, hP4⟩ : ∃ P, b * d = P := ⟨_, rfl⟩
 rw [hP1] at h1 HV
 rw [hP2] at h2 HV
 rw [hP3] at h3 HV
 rw [hP4] at h4 HV
 have HMIN : Hid (∀ (v : Value) (w : World), IntsAt w v [P1, P2, P3, P4] → Calls Tryz.prog 137 #[v] w fun e w' => e = .returned (.int .i64 T.lo) ∧ Below w.heap.size w w') := hid (fun v w h => by rw [HV.out.1]; exact qgi _ _ _ _ v w h)
 have HMAX : Hid (∀ (v : Value) (w : World), IntsAt w v [P1, P2, P3, P4] → Calls Tryz.prog 138 #[v] w fun e w' => e = .returned (.int .i64 T.hi) ∧ Below w.heap.size w w') := hid (fun v w h => by rw [HV.out.2]; exact qgj _ _ _ _ v w h)
 clear HV
 obtain ⟨tl, th⟩ := T
 unfold Rg.v
 simp only at *
 obtain ⟨W0, hW0⟩ : ∃ W0, W0 = ((w.alloc (.cells #[.int .i64 a, .int .i64 b] 127)).alloc (.cells #[.int .i64 c, .int .i64 d] 127)).alloc (.cells #[.int .i64 0, .int .i64 0] 127) := ⟨_, rfl⟩
 have hbW0 : Below w.heap.size w W0 := by rw [hW0]; exact BelowA
 obtain ⟨q0, q1, q2⟩ := al3 w _ _ _ _ _ _ W0 hW0
 have l2 := (Array.getElem?_eq_some_iff.1 q2).1
 have Q2 := hid q2
 have hzW0 := hbW0.size
 clear q0 q1 q2
 go_enter Tryz.func121, Tryz.ntmps121
 go_wp2_with fail
 rw [← hW0]
 obtain ⟨W, hW⟩ : ∃ W, W = W0.alloc (.cells #[.int .i64 P1, .int .i64 P2, .int .i64 P3, .int .i64 P4] 199) := ⟨_, rfl⟩
 have hbW : Below W0.heap.size W0 W := by rw [hW]; exact BelowA
 have HI : Hid (∀ W', Below W.heap.size W W' → IntsAt W' (.slice (some ⟨W0.heap.size, 0, none⟩) 4 4) [P1, P2, P3, P4]) := hid (fun W' h => ((by rw [hW]; exact qm2 W0 199 [P1, P2, P3, P4] 4 W0.heap.size rfl (by omega) rfl) : IntsAt W _ _).below h)
 have R2 := hid ((hbW.block (w.heap.size + 1 + 1) l2).trans Q2.out)
 have hlW0 : W0.heap.size < W.heap.size := by rw [hW]; simp
 have hz0 : W0.heap.size = w.heap.size + 1 + 1 + 1 := by rw [hW0]; simp
 rw [← hW]
 rw [hz0] at HI hlW0
 clear hW hW0
 have fin : ∀ w5 : World, Below W.heap.size W w5 → Below w.heap.size w w5 := fun w5 h => (hbW0.trans (hbW.mono hzW0)).trans (h.mono (Nat.le_trans hzW0 hbW.size))
 have hlR := (Array.getElem?_eq_some_iff.1 R2.out).1
 refine qdM (fun wc => Below ((w.heap.size + 1 + 1)) W wc) 5 [.q [0, 2], .f [1, 3], .q [4]] [.f [5]] (by kernel_rfl) (by kernel_rfl) ((Below.refl _ _).drew) ?_
 intro Q' hQ'
 (rw [q0J]; simp only [pick, List.drop_succ_cons, List.drop_zero, List.head?_cons, Option.toList_some, List.cons_append, List.nil_append])
 (repeat (first | go_big_quiet_skip | (go_big_quiet_want; refine q3S rfl ?_; go_big_quiet_op; go_big_quiet_on) | (go_big_quiet_want; refine qeQ rfl rfl ?_; simp only [Act.put, List.setIfInBounds_toArray, List.set_cons_succ, List.set_cons_zero]; go_big_quiet_on)))
 (try refine wpQuiet_nil ?_)
 (rw [q0J]; simp only [pick, List.drop_succ_cons, List.drop_zero, List.head?_cons, Option.toList_some, List.cons_append, List.nil_append])
 (rw [q0N]; go_wp2_with ((go_at_call 137; have hbq : Below W.heap.size W W.drew := (by exact BelowA); ((with_reducible refine (HMIN.out _ _ (HI.out _ hbq)).mono ?_); rintro _ w3 ⟨rfl, hb3⟩); have hz3 : W.heap.size ≤ w3.heap.size := hb3.size; have hbm3 : Below (w.heap.size + 1 + 1) W w3 := ((Below.refl (w.heap.size + 1 + 1) W).drew).trans (hb3.mono (by show _ ≤ W.heap.size; omega)))); rw [q1G]; refine ⟨?_, ?_⟩; (next => exact BelowA))
 (rw [q0N]; go_wp2_with ((go_at_call 138; have hbq3 : Below W.heap.size W w3 := (by exact BelowA); ((with_reducible refine (HMAX.out _ _ (HI.out _ hbq3)).mono ?_); rintro _ w4 ⟨rfl, hb4⟩); have hbm4 : Below (w.heap.size + 1 + 1) W w4 := hbm3.trans (hb4.mono (by omega)); obtain ⟨g0, g1, fg0, fg1, hgl⟩ := qcP (((hbq3.trans (hb4.mono hbq3.size)).block (w.heap.size + 1 + 1) hlR).trans R2.out))); rw [q1G]; refine ⟨?_, ?_⟩; (next => exact BelowA))
 (rw [q0N])
 (rw [q0J]; simp only [pick, List.drop_succ_cons, List.drop_zero, List.head?_cons, Option.toList_some, List.cons_append, List.nil_append])
 (repeat (first | go_big_quiet_skip | (go_big_quiet_want; refine q3S rfl ?_; go_big_quiet_op; go_big_quiet_on) | (go_big_quiet_want; refine qeQ rfl rfl ?_; simp only [Act.put, List.setIfInBounds_toArray, List.set_cons_succ, List.set_cons_zero]; go_big_quiet_on)))
 (try refine wpQuiet_nil ?_)
 (rw [q0J])
 (rw [q1H]; simp only [pick, List.drop_succ_cons, List.drop_zero, List.head?_cons, Option.toList_some, List.cons_append, List.nil_append])
 (go_wp2_with ((first | fail)); rw [q1G])
 (rw [q1H])
 (refine hQ' _ _ ?_)
 go_wp2_with fail
 have hbe := fin _ (hbq3.trans (hb4.mono hbq3.size))
 ((try simp only [Exit.inBlock, Exit.then]); refine bodyPost_ret (v := .agg #[.int .i64 tl, .int .i64 th]) ?_ rfl ?_; (next => simp [results, Tryz.results121, go_sem, hgl, g0, g1]); refine ⟨?_, ?_⟩; (next => rfl); (next => exact BelowA))
theorem Rg.square_sz {r : Rg} {A C : Int} (h1 : -A ≤ r.lo ∧ r.lo ≤ A) (h2 : -A ≤ r.hi ∧ r.hi ≤ A) (hC : A * A ≤ C) : (0 ≤ r.square.lo ∧ r.square.lo ≤ C) ∧ (0 ≤ r.square.hi ∧ r.square.hi ≤ C) := by
 have g1 := qv h1 h1 hC
 have g2 := qv h2 h2 hC
 have g3 := sq_nn r.lo
 have g4 := sq_nn r.hi
 unfold Rg.square
 split <;> simp only <;> omega
def TM.canB (m : TM) (b : TB) : Bool := decide (m.lo ≤ b.squares.hi) && decide (b.squares.lo ≤ m.hi)
theorem q3U {m : TM} {b : TB} : m.canB b = true ↔ m.canBe b := by simp [TM.canB, TM.canBe]
section
variable {P : Program} {md : Region.Mode} {ops : Array Oper} {Q : Exit → Act → World → Prop} {C : World → Prop}
end
end Go.Proofs.YtfadkjcfjkmalaaGreatDoor
namespace Go.Proofs.YtfadkjcfjkmalaaGreatDoor
open Go.RowKit
def Rg.bd (r : Rg) (A : Int) : Prop := (-A ≤ r.lo ∧ r.lo ≤ A) ∧ (-A ≤ r.hi ∧ r.hi ≤ A)
theorem Rg.times_bd {r s : Rg} {A B C : Int} (h : r.bd A) (g : s.bd B) (hC : A * B ≤ C) : (r.times s).bd C := by
 have h1 := qv h.1 g.1 hC
 have h2 := qv h.1 g.2 hC
 have h3 := qv h.2 g.1 hC
 have h4 := qv h.2 g.2 hC
 unfold Rg.bd Rg.times mn4 mx4; simp only; omega
theorem Rg.plus_bd {r s : Rg} {A B C : Int} (h : r.bd A) (g : s.bd B) (hC : A + B ≤ C) : (r.plus s).bd C := by
 unfold Rg.bd Rg.plus at *; simp only; omega
theorem Rg.square_bd {r : Rg} {A C : Int} (h : r.bd A) (hC : A * A ≤ C) : r.square.bd C ∧ 0 ≤ r.square.lo ∧ 0 ≤ r.square.hi := by
 have := Rg.square_sz h.1 h.2 hC
 unfold Rg.bd; omega
def CR (f : FuncId) (args : Array Value) (v : Value) : Prop := ∀ W, Calls Tryz.prog f args W fun e w' => e = .returned v ∧ Below W.heap.size W w'
def Stg (tk d A : Int) (r P L P' L' : Rg) : Prop :=
 ∃ (R S U V : Rg) (TD : Int), IntKind.i64.wrap (tk * d) = TD ∧ CR 121 #[r.v, .agg #[.int .i64 (-A), .int .i64 (-A)]] R.v ∧ CR 101 #[R.v, .agg #[.int .i64 TD, .int .i64 TD]] S.v ∧ CR 121 #[S.v, r.v] U.v ∧ CR 101 #[P.v, U.v] P'.v ∧ CR 102 #[S.v] V.v ∧ CR 101 #[L.v, V.v] L'.v
theorem stg {tk d A : Int} {r P L : Rg} (htk : 1 ≤ tk ∧ tk ≤ 20) (hd : -2000 ≤ d ∧ d ≤ 2000) (hA : -1010101 ≤ A ∧ A ≤ 1010101) (hr : r.bd 20) (hP : P.bd 1000000000) (hL : L.bd 1000000000000000) :
  Stg tk d A r P L (P.plus ((qS tk r d A).times r)) (L.plus (qS tk r d A).square) ∧ ((qS tk r d A).times r).bd 404840400 ∧ ((qS tk r d A).square.bd 409739373680400 ∧ 0 ≤ (qS tk r d A).square.lo ∧ 0 ≤ (qS tk r d A).square.hi) := by
 have hT := qv (x := tk) (y := d) (A := 20) (B := 2000) (C := 40000) (by omega) hd (by decide)
 have hn : (⟨-A, -A⟩ : Rg).bd 1010101 := by unfold Rg.bd; simp only; omega
 have hR := Rg.times_bd hr hn (C := 20202020) (by decide)
 have hTD : (⟨tk * d, tk * d⟩ : Rg).bd 40000 := ⟨hT, hT⟩
 have hS := Rg.plus_bd hR hTD (C := 20242020) (by decide)
 have hU := Rg.times_bd hS hr (C := 404840400) (by decide)
 have hV := Rg.square_bd hS (C := 409739373680400) (by decide)
 refine ⟨⟨r.times ⟨-A, -A⟩, qS tk r d A, (qS tk r d A).times r, (qS tk r d A).square, tk * d, IntWalk.i64_in _ (by omega), ?_, ?_, ?_, ?_, ?_, ?_⟩, hU, hV⟩
 ·intro W
  have m1 := qv hr.1 hn.1 (C := 20202020) (by decide)
  have m2 := qv hr.2 hn.1 (C := 20202020) (by decide)
  exact qeR r ⟨-A, -A⟩ W (by simp only at *; omega) (by simp only at *; omega) (by simp only at *; omega) (by simp only at *; omega)
 ·intro W
  exact qbt _ ⟨tk * d, tk * d⟩ W (by have := hR.1; omega) (by have := hR.2; omega) (by simp only; omega) (by simp only; omega)
 ·intro W
  have hS' : (qS tk r d A).bd 20242020 := hS
  have m1 := qv hS'.1 hr.1 (C := 404840400) (by decide)
  have m2 := qv hS'.1 hr.2 (C := 404840400) (by decide)
  have m3 := qv hS'.2 hr.1 (C := 404840400) (by decide)
  have m4 := qv hS'.2 hr.2 (C := 404840400) (by decide)
  exact qeR _ _ W (by omega) (by omega) (by omega) (by omega)
 ·intro W
  have hU' : ((qS tk r d A).times r).bd 404840400 := hU
  unfold Rg.bd at hU' hP
  exact qbt _ _ W (by omega) (by omega) (by omega) (by omega)
 ·intro W
  have hS' : (qS tk r d A).bd 20242020 := hS
  unfold Rg.bd at hS'
  exact qk7 _ W (by omega) (by omega)
 ·intro W
  have hV' : (qS tk r d A).square.bd 409739373680400 := hV.1
  unfold Rg.bd at hV' hL
  exact qbt _ _ W (by omega) (by omega) (by omega) (by omega)
theorem stg3 {m : TM} {b : TB} {p : V3} {t : Int} (ho : m.Ok) (hl : b.lo.inS 20 = true) (hh : b.hi.inS 20 = true) (hp : p.inS 1000 = true) (ht : -1000101 ≤ t ∧ t ≤ 1000100) :
  ∃ P1 P2 L1 L2 : Rg, Stg m.tk (p.x - m.px) (t - m.tm) b.rx ⟨0, 0⟩ ⟨0, 0⟩ P1 L1 ∧ Stg m.tk (p.y - m.py) (t - m.tm) b.ry P1 L1 P2 L2 ∧ Stg m.tk (p.z - m.pz) (t - m.tm) b.rz P2 L2 (m.prodR b p t) (m.leftR b p t) ∧ (m.prodR b p t).bd 1214521200 ∧ (m.leftR b p t).bd 1229218121041200 ∧ 0 ≤ (m.leftR b p t).lo ∧ 0 ≤ (m.leftR b p t).hi := by
 obtain ⟨a1, a2, a3⟩ := qn.1 hl
 obtain ⟨b1, b2, b3⟩ := qn.1 hh
 obtain ⟨c1, c2, c3⟩ := qn.1 hp
 have hA : -1010101 ≤ t - m.tm ∧ t - m.tm ≤ 1010101 := by have := ho.tm; omega
 have z : (Rg.mk 0 0).bd 0 := by unfold Rg.bd; simp
 have zw : ∀ (C : Int), 0 ≤ C → (Rg.mk 0 0).bd C := fun C h => by unfold Rg.bd; simp only; omega
 have s0 := stg (tk := m.tk) (d := p.x - m.px) (A := t - m.tm) (r := b.rx) (P := ⟨0, 0⟩) (L := ⟨0, 0⟩) ho.tk (by have := ho.px; omega) hA ⟨a1, b1⟩ (zw _ (by decide)) (zw _ (by decide))
 have p1 := Rg.plus_bd z s0.2.1 (C := 404840400) (by decide)
 have l1 := Rg.plus_bd z s0.2.2.1 (C := 409739373680400) (by decide)
 have w : ∀ {r : Rg} {A B : Int}, r.bd A → A ≤ B → r.bd B := fun h g => by unfold Rg.bd at *; omega
 have s1 := stg (tk := m.tk) (d := p.y - m.py) (A := t - m.tm) (r := b.ry) ho.tk (by have := ho.py; omega) hA ⟨a2, b2⟩ (w p1 (by decide)) (w l1 (by decide))
 have p2 := Rg.plus_bd p1 s1.2.1 (C := 809680800) (by decide)
 have l2 := Rg.plus_bd l1 s1.2.2.1 (C := 819478747360800) (by decide)
 have s2 := stg (tk := m.tk) (d := p.z - m.pz) (A := t - m.tm) (r := b.rz) ho.tk (by have := ho.pz; omega) hA ⟨a3, b3⟩ (w p2 (by decide)) (w l2 (by decide))
 have p3 := Rg.plus_bd p2 s2.2.1 (C := 1214521200) (by decide)
 have l3 := Rg.plus_bd l2 s2.2.2.1 (C := 1229218121041200) (by decide)
 have h0 := s0.2.2.2
 have h1 := s1.2.2.2
 have h2 := s2.2.2.2
 refine ⟨_, _, _, _, s0.1, s1.1, s2.1, p3, l3, ?_, ?_⟩
 ·unfold TM.leftR Rg.plus; simp only; omega
 ·unfold TM.leftR Rg.plus; simp only; omega
theorem fast_bd {m : TM} {b : TB} (ho : m.Ok) (hl : b.lo.inS 20 = true) (hh : b.hi.inS 20 = true) (hc : m.canBe b) :
  (1 ≤ (m.fast b).lo ∧ (m.fast b).lo ≤ 1200) ∧ (1 ≤ (m.fast b).hi ∧ (m.fast b).hi ≤ 1200) ∧ IntKind.i64.wrap (max b.squares.lo m.lo - m.slow) = (m.fast b).lo ∧ IntKind.i64.wrap (min b.squares.hi m.hi - m.slow) = (m.fast b).hi := by
 obtain ⟨a1, a2, a3⟩ := qn.1 hl
 obtain ⟨b1, b2, b3⟩ := qn.1 hh
 have s1 := Rg.square_sz (r := b.rx) (A := 20) (C := 400) a1 b1 (by decide)
 have s2 := Rg.square_sz (r := b.ry) (A := 20) (C := 400) a2 b2 (by decide)
 have s3 := Rg.square_sz (r := b.rz) (A := 20) (C := 400) a3 b3 (by decide)
 have hsq : (0 ≤ b.squares.lo ∧ b.squares.lo ≤ 1200) ∧ (0 ≤ b.squares.hi ∧ b.squares.hi ≤ 1200) := by unfold TB.squares Rg.plus; simp only; omega
 have h1 := ho.slo; have h2 := ho.slp; have h3 := ho.lo; have h4 := ho.hi; have h5 := ho.ord
 unfold TM.canBe at hc
 have e1 : (m.fast b).lo = max b.squares.lo m.lo - m.slow := rfl
 have e2 : (m.fast b).hi = min b.squares.hi m.hi - m.slow := rfl
 refine ⟨by omega, by omega, ?_, ?_⟩
 ·rw [e1]; exact IntWalk.i64_in _ (by omega)
 ·rw [e2]; exact IntWalk.i64_in _ (by omega)
end Go.Proofs.YtfadkjcfjkmalaaGreatDoor
namespace Go.Proofs.YtfadkjcfjkmalaaGreatDoor
open Go.RowKit Ev
def idxP {α : Type} (p : α → Bool) (l : List α) : Int := if l.findIdx p < l.length then l.findIdx p else -1
theorem qhv {α : Type} {p : α → Bool} {l : List α} {d : α} {k : Nat} (hk : k < l.length) (hz : ∀ j, j < k → p (l.getD j d) = false) (h : p (l.getD k d) = true) : idxP p l = k := by
 have e : l.findIdx p = k := by
  rw [List.findIdx_eq hk]
  refine ⟨by simpa [List.getD, hk] using h, fun j hj => ?_⟩
  simpa [List.getD, show j < l.length by omega] using hz j hj
 unfold idxP
 rw [e, if_pos hk]
theorem q9n {α : Type} {p : α → Bool} {l : List α} {d : α} (hz : ∀ j, j < l.length → p (l.getD j d) = false) : idxP p l = -1 := by
 unfold idxP
 rw [if_neg]
 intro h
 have := List.findIdx_getElem (w := h)
 have h2 := hz _ h
 simp only [List.getD, List.getElem?_eq_getElem h, Option.getD_some] at h2
 rw [this] at h2
 cases h2
theorem qfd {α : Type} {p : α → Bool} {l : List α} : l.any p = decide (idxP p l ≥ 0) := by
 unfold idxP
 by_cases h : l.findIdx p < l.length
 ·rw [if_pos h]
  have := List.findIdx_getElem (w := h)
  rw [decide_eq_true (by omega), List.any_eq_true]
  exact ⟨_, List.getElem_mem h, this⟩
 ·rw [if_neg h, decide_eq_false (by omega), List.any_eq_false]
  intro x hx hp
  exact h (List.findIdx_lt_length_of_exists ⟨x, hx, hp⟩)
def qi (l : List TH) : Nat → Nat → CV := fun i j => match j with
 | 0 => .v (.int .i64 (qe l i).p.x)
 | 1 => .v (.int .i64 (qe l i).p.y)
 | 2 => .v (.int .i64 (qe l i).p.z)
 | 3 => .v (.int .i64 (qe l i).t)
 | _ => .v (.int .i64 (qe l i).w)
def qc (g : Nat → Int) : TH := ⟨⟨g 0, g 1, g 2⟩, g 3, g 4⟩
def qf (x : TH) : List CV := [.v (.int .i64 x.p.x), .v (.int .i64 x.p.y), .v (.int .i64 x.p.z), .v (.int .i64 x.t), .v (.int .i64 x.w)]
theorem hitAt_C {n : Nat} {c : Nat → Nat → CV} {i : Nat} (hi : i < n) : qe (qa n qc c) i = qc fun j => qb (c i j) := q7i hi
theorem qY {n : Nat} {c : Nat → Nat → CV} (hp : qj 5 n c) : LeD (.t (.c (.sl 5 n c))) (.t (.c (.sl 5 (qa n qc c).length (qi (qa n qc c))))) := by
 refine leL hp fun i j hi hj => ?_
 unfold qi
 rw [hitAt_C hi]
 rcases (by omega : j = 0 ∨ j = 1 ∨ j = 2 ∨ j = 3 ∨ j = 4) with rfl | rfl | rfl | rfl | rfl <;> rfl
theorem qA (l : List TH) : qj 5 l.length (qi l) := by
 intro i j hi hj
 rcases (by omega : j = 0 ∨ j = 1 ∨ j = 2 ∨ j = 3 ∨ j = 4) with rfl | rfl | rfl | rfl | rfl <;> rfl
theorem qP (l : List TH) : qa l.length qc (qi l) = l := q8p TH.zero fun i hi => rfl
theorem qbu (l : List TH) (i j : Nat) : ∃ y, qi l i j = .v y := by unfold qi; split <;> exact ⟨_, rfl⟩
theorem qai (l : List TH) : LeD (.t (.c (.sl 5 (l.map qf).length (genC (l.map qf))))) (.t (.c (.sl 5 l.length (qi l)))) := by
 rw [List.length_map]
 refine leSl fun i j hi hj => ?_
 unfold genC qi qe
 simp only [List.getD_eq_getElem?_getD, List.getElem?_map, List.getElem?_eq_getElem hi, Option.map_some, Option.getD_some]
 rcases (by omega : j = 0 ∨ j = 1 ∨ j = 2 ∨ j = 3 ∨ j = 4) with rfl | rfl | rfl | rfl | rfl <;> rfl
theorem hit_ext {a b : TH} : a = b ↔ a.p.x = b.p.x ∧ a.p.y = b.p.y ∧ a.p.z = b.p.z ∧ a.t = b.t ∧ a.w = b.w := by
 obtain ⟨⟨_, _, _⟩, _, _⟩ := a
 obtain ⟨⟨_, _, _⟩, _, _⟩ := b
 simp [and_assoc]
instance : DecidableEq TH := fun a b => decidable_of_iff _ hit_ext.symm
theorem qk8 (l : List TH) : ((List.range l.length).map fun i => fwd ((qi l) i) 0 5) = l.map qf := by
 apply List.ext_getElem?
 intro i
 by_cases hi : i < l.length
 ·simp only [List.getElem?_map, List.getElem?_range hi, List.getElem?_eq_getElem hi, Option.map_some]
  have e : qe l i = l[i] := by simp [qe, List.getD, hi]
  rw [← e]; rfl
 ·rw [List.getElem?_eq_none (by simpa using hi), List.getElem?_eq_none (by simpa using hi)]
theorem qbv (l : List TH) : qj 5 (l.map qf).length (genC (l.map qf)) := by
 rw [List.length_map]
 intro i j hi hj
 have e : genC (l.map qf) i j = qi l i j := by
  unfold genC qi qe
  simp only [List.getD_eq_getElem?_getD, List.getElem?_map, List.getElem?_eq_getElem hi, Option.map_some, Option.getD_some]
  rcases (by omega : j = 0 ∨ j = 1 ∨ j = 2 ∨ j = 3 ∨ j = 4) with rfl | rfl | rfl | rfl | rfl <;> rfl
 rw [e]
 exact qA l i j hi hj
theorem qbw (l : List TH) : qa (l.map qf).length qc (genC (l.map qf)) = l := by
 rw [List.length_map]
 refine q8p TH.zero fun i hi => ?_
 unfold qc genC
 simp only [List.getD_eq_getElem?_getD, List.getElem?_map, List.getElem?_eq_getElem hi, Option.map_some, Option.getD_some]
 rfl
theorem qkW (ty : TypeId) (l : List TH) : qhe (.gen ty 5 (l.map qf)) := by
 intro e he x hx
 simp only [List.mem_map] at he
 obtain ⟨y, _, rfl⟩ := he
 simp only [qf, List.mem_cons, List.not_mem_nil, or_false] at hx
 rcases hx with rfl | rfl | rfl | rfl | rfl <;> exact ⟨_, rfl⟩
theorem qmu (l : List Int) : qj 1 l.length (q2f l) := fun i j hi hj => rfl
theorem qmv (l : List Int) : qa l.length qF (q2f l) = l := q8p 0 fun i hi => rfl
theorem leI {a b : Int} (h : a = b) : LeD (.t (.c (.v (.int .i64 a)))) (.t (.c (.v (.int .i64 b)))) := LeD.of (by rw [h])
theorem leB {a b : Bool} (h : a = b) : LeD (.t (.c (.v (.bool a)))) (.t (.c (.v (.bool b)))) := LeD.of (by rw [h])
theorem le_tu {a a' b b' : TV} (h1 : LeD (.t a) (.t a')) (h2 : LeD (.t b) (.t b')) : LeD (.tu [a, b]) (.tu [a', b']) := by
 rintro w N v ⟨vs, e, g⟩
 match vs, g with
 | [x, y], g => exact ⟨[x, y], e, h1 w N x g.1, h2 w N y g.2.1, trivial⟩
 | [], g => exact g.elim
 | [_], g => exact g.2.elim
 | _ :: _ :: _ :: _, g => exact g.2.2.elim
theorem leC_nil {sz : Nat} {c : Nat → Nat → CV} : LeC1 (.v (.slice none 0 0)) (.sl sz 0 c) := by
 intro w N v h
 exact ⟨none, 0, h.1, Nat.le_refl _, by unfold maxLen; omega, fun _ => rfl, fun h => by omega⟩
theorem q3V {sz : Nat} {c : Nat → Nat → CV} : LeD (.t (.c (.v (.slice none 0 0)))) (.t (.c (.sl sz 0 c))) := leT_c leC_nil
theorem mx_if (a b : Int) : (if b > a then b else a) = max a b := by split <;> omega
theorem mn_if (a b : Int) : (if b < a then b else a) = min a b := by split <;> omega
theorem wi {n : Int} (h : -9000000000000000000 ≤ n ∧ n ≤ 9000000000000000000) : IntKind.i64.wrap n = n := IntWalk.i64_in _ (by omega)
theorem fn3 {a b c : Int} (h : qd [a, b, c] = 0) : a = 0 ∧ b = 0 ∧ c = 0 := by
 simp only [qd] at h
 by_cases h1 : a = 0 <;> by_cases h2 : b = 0 <;> by_cases h3 : c = 0 <;> simp_all
theorem fn2 {a b : Int} (h : qd [a, b] = 0) : a = 0 ∧ b = 0 := by
 simp only [qd] at h
 by_cases h1 : a = 0 <;> by_cases h2 : b = 0 <;> simp_all
theorem unl_0 {b : Bool} {n : Int} (h : n ≠ 0) : unl b n = 0 ↔ b = true := by cases b <;> simp [unl, h]
theorem q0Z {b : TB} (h : b.err = 0) : b.lo.inS 20 = true ∧ b.hi.inS 20 = true := by
 unfold TB.err at h
 obtain ⟨h1, _⟩ := fn3 h
 rw [unl_0 (by decide)] at h1
 simpa using h1
end Go.Proofs.YtfadkjcfjkmalaaGreatDoor
