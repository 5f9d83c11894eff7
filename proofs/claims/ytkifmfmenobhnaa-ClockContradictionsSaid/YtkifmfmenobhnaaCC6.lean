/- Texts of this claim, together. -/
import Derived.Test.YtkifmfmenobhnaaCC5
import Derived.Test.YtkifmfmenobhnaaCC4

set_option linter.unusedVariables false
set_option linter.unusedSimpArgs false
namespace Go.Proofs.Ytkifmfmenobhnaa
open Go.RowKit
structure Rg where
 (lo hi : Int)
theorem unl_0 {b : Bool} {n : Int} (h : n ≠ 0) : unl b n = 0 ↔ b = true := by cases b <;> simp [unl, h]
theorem fn2' {a b : Int} : firstNZ [a, b] = 0 ↔ a = 0 ∧ b = 0 := by
 simp only [firstNZ]
 by_cases h1 : a = 0 <;> by_cases h2 : b = 0 <;> simp_all
theorem fn2 {a b : Int} (h : firstNZ [a, b] = 0) : a = 0 ∧ b = 0 := fn2'.1 h
theorem fn3 {a b c : Int} (h : firstNZ [a, b, c] = 0) : a = 0 ∧ b = 0 ∧ c = 0 := by
 simp only [firstNZ] at h
 by_cases h1 : a = 0 <;> by_cases h2 : b = 0 <;> by_cases h3 : c = 0 <;> simp_all
def rgAt (l : List Rg) (i : Nat) : Rg := l.getD i ⟨0, 0⟩
def meetR (a b : Rg) : Rg := ⟨max a.lo b.lo, min a.hi b.hi⟩
def idxP {α : Type} (p : α → Bool) (l : List α) : Int := if l.findIdx p < l.length then l.findIdx p else -1
theorem idxP_at {α : Type} {p : α → Bool} {l : List α} {d : α} {k : Nat} (hk : k < l.length) (hz : ∀ j, j < k → p (l.getD j d) = false) (h : p (l.getD k d) = true) : idxP p l = k := by
 have e : l.findIdx p = k := by
  rw [List.findIdx_eq hk]
  refine ⟨by simpa [List.getD, hk] using h, fun j hj => ?_⟩
  have := hz j hj
  simpa [List.getD, show j < l.length by omega] using this
 unfold idxP
 rw [e, if_pos hk]
theorem idxP_none {α : Type} {p : α → Bool} {l : List α} {d : α} (hz : ∀ j, j < l.length → p (l.getD j d) = false) : idxP p l = -1 := by
 have e : l.findIdx p = l.length := by
  rw [List.findIdx_eq_length]
  intro x hx
  obtain ⟨j, hj, rfl⟩ := List.getElem_of_mem hx
  have := hz j hj
  simpa [List.getD, hj] using this
 unfold idxP
 rw [e, if_neg (Nat.lt_irrefl _)]
theorem idxP_or {α : Type} (p : α → Bool) (l : List α) (d : α) : (idxP p l = -1 ∧ ∀ j, j < l.length → p (l.getD j d) = false) ∨ ∃ k : Nat, k < l.length ∧ idxP p l = k ∧ p (l.getD k d) = true ∧ ∀ j, j < k → p (l.getD j d) = false := by
 by_cases h : l.findIdx p < l.length
 ·refine Or.inr ⟨l.findIdx p, h, if_pos h, ?_, fun j hj => ?_⟩
  ·have := List.findIdx_getElem (w := h); simpa [List.getD, h] using this
  ·have := List.not_of_lt_findIdx hj; simpa [List.getD, show j < l.length by omega] using this
 ·refine Or.inl ⟨if_neg h, fun j hj => ?_⟩
  have := List.not_of_lt_findIdx (show j < l.findIdx p by omega)
  simpa [List.getD, hj] using this
theorem idxP_any {α : Type} {p : α → Bool} {l : List α} : l.any p = decide (idxP p l ≥ 0) := by
 unfold idxP
 split
 ·rename_i h
  rw [decide_eq_true (by omega), List.any_eq_true]
  exact ⟨_, List.getElem_mem h, List.findIdx_getElem (w := h)⟩
 ·rename_i h
  rw [decide_eq_false (by omega), Bool.eq_false_iff]
  intro q
  rw [List.any_eq_true] at q
  obtain ⟨x, h1, h2⟩ := q
  exact h (List.findIdx_lt_length_of_exists ⟨x, h1, h2⟩)
def tkB (n : Int) : Bool := inB n 0 1000000000000
theorem tkB_iff {n : Int} : tkB n = true ↔ 0 ≤ n ∧ n ≤ 1000000000000 := inB_true
def pngE (p : Png) : Int := firstNZ [unl (tkB p.sent && tkB p.arr && tkB p.ans && tkB p.back) 2, unl (decide (p.ans ≥ p.arr) && decide (p.back ≥ p.sent)) 9]
def pngOk (p : Png) : Prop := (0 ≤ p.sent ∧ p.sent ≤ p.back ∧ p.back ≤ 1000000000000) ∧ 0 ≤ p.arr ∧ p.arr ≤ p.ans ∧ p.ans ≤ 1000000000000
theorem pngE_0 {p : Png} : pngE p = 0 ↔ pngOk p := by
 unfold pngE pngOk
 rw [fn2', unl_0 (by decide), unl_0 (by decide)]
 simp only [Bool.and_eq_true, tkB_iff, decide_eq_true_eq]
 omega
def cabE (c : Cab) : Int := unl (inB c.drift 0 1000 && inB c.skew 0 1000000) 2
def cabOk (c : Cab) : Prop := (0 ≤ c.drift ∧ c.drift ≤ 1000) ∧ 0 ≤ c.skew ∧ c.skew ≤ 1000000
theorem cabE_0 {c : Cab} : cabE c = 0 ↔ cabOk c := by
 unfold cabE cabOk
 rw [unl_0 (by decide), Bool.and_eq_true, inB_true, inB_true]
theorem cabOk.ok {c : Cab} (h : cabOk c) : c.ok := ⟨h.1.1, h.1.2, h.2.1⟩
theorem slack_rg {d n : Int} (hd : 0 ≤ d ∧ d ≤ 1000) (hn : -4000000000000 ≤ n ∧ n ≤ 4000000000000) : 0 ≤ slackI d n ∧ slackI d n ≤ 4000000000 ∧ (0 ≤ (n.natAbs : Int) * d ∧ (n.natAbs : Int) * d ≤ 4000000000000000) := by
 have h1 := mul_rg (x := (n.natAbs : Int)) (y := d) (A := 4000000000000) (B := 1000) (C := 4000000000000000) (by omega) (by omega) (by decide)
 have h2 := Int.mul_nonneg (show (0 : Int) ≤ (n.natAbs : Int) by omega) hd.1
 unfold slackI
 omega
def canB (c : Cab) (p : Png) : Bool := decide (c.ov p + c.sl p ≥ 0)
def dlR (c : Cab) (p : Png) : Rg := ⟨c.dlo p, c.dhi p⟩
def tmR (c : Cab) (p : Png) : Rg := ⟨p.sent + c.dlo p, p.sent + c.dhi p⟩
def delOk (c : Cab) (p : Png) : Prop := cabOk c ∧ pngOk p
theorem del_rg {c : Cab} {p : Png} (h : delOk c p) : (0 ≤ c.sl p ∧ c.sl p ≤ 4000000000) ∧ (-1000000000000 ≤ c.ov p ∧ c.ov p ≤ 1000000000000) ∧ (0 ≤ c.dlo p ∧ c.dlo p ≤ 1000000000000) ∧ (-1000000000000 ≤ c.dhi p ∧ c.dhi p ≤ 1004000000000) := by
 obtain ⟨⟨h1, h2⟩, h3, h4⟩ := h
 have s := slack_rg (d := c.drift) (n := p.ans - p.arr) h1 (by omega)
 unfold Cab.dlo Cab.dhi Cab.ov Cab.sl
 omega
def Png.zero : Png := ⟨0, 0, 0, 0⟩
def pngAt (l : List Png) (i : Nat) : Png := l.getD i Png.zero
def stpE (l : List Png) (i : Nat) : Int := firstNZ [pngE (pngAt l i), unl (decide ((i : Int) = 0) || (decide ((pngAt l i).sent ≥ (pngAt l (i - 1)).back) && decide ((pngAt l i).arr ≥ (pngAt l (i - 1)).ans))) 9]
def hdE (c : Cab) (l : List Png) : Int := firstNZ [cabE c, unl (decide ((l.length : Int) > 0)) 10, unl (decide ((l.length : Int) ≤ 12)) 8]
def trE (c : Cab) (l : List Png) : Int := if hdE c l = 0 then scan (stpE l) l.length else hdE c l
def trI (c : Cab) (l : List Png) : Int := if hdE c l = 0 then scanI (stpE l) l.length else 0
def trOk (c : Cab) (l : List Png) : Prop := cabOk c ∧ (0 < l.length ∧ l.length ≤ 12) ∧ (∀ i, i < l.length → pngOk (pngAt l i)) ∧ ∀ i, i + 1 < l.length → (pngAt l i).back ≤ (pngAt l (i + 1)).sent ∧ (pngAt l i).ans ≤ (pngAt l (i + 1)).arr
theorem hdE_0 {c : Cab} {l : List Png} : hdE c l = 0 ↔ cabOk c ∧ 0 < l.length ∧ l.length ≤ 12 := by
 unfold hdE
 constructor
 ·intro h
  obtain ⟨h1, h2, h3⟩ := fn3 h
  rw [unl_0 (by decide)] at h2 h3
  have h2 := of_decide_eq_true h2
  have h3 := of_decide_eq_true h3
  exact ⟨cabE_0.1 h1, by omega, by omega⟩
 ·rintro ⟨h1, h2, h3⟩
  rw [cabE_0.2 h1, decide_eq_true (by omega), decide_eq_true (by omega)]
  rfl
theorem trE_0 {c : Cab} {l : List Png} : trE c l = 0 ↔ trOk c l := by
 unfold trE trOk
 constructor
 ·intro h
  split at h
  ·rename_i q
   obtain ⟨q1, q2⟩ := hdE_0.1 q
   have z := scan_zero h
   refine ⟨q1, q2, fun i hi => pngE_0.1 (fn2 (z i hi)).1, fun i hi => ?_⟩
   have := (fn2 (z (i + 1) hi)).2
   rw [unl_0 (by decide), decide_eq_false (by omega), Bool.false_or, Bool.and_eq_true, decide_eq_true_eq, decide_eq_true_eq] at this
   exact this
  ·rename_i q; exact (q h).elim
 ·rintro ⟨q1, q2, q3, q4⟩
  rw [if_pos (hdE_0.2 ⟨q1, q2⟩)]
  refine scan_end fun j hj => ?_
  unfold stpE
  rw [fn2', pngE_0, unl_0 (by decide)]
  refine ⟨q3 j hj, ?_⟩
  cases j with
  | zero => rfl
  | succ i =>
   have := q4 i hj
   rw [show i + 1 - 1 = i by omega, decide_eq_true this.1, decide_eq_true this.2]
   simp
theorem trOk.del {c : Cab} {l : List Png} (h : trOk c l) {i : Nat} (hi : i < l.length) : delOk c (pngAt l i) := ⟨h.1, h.2.2.1 i hi⟩
def badI (c : Cab) (l : List Png) : Int := idxP (fun p => !canB c p) l
def opB (c : Cab) (l : List Png) : Int := if trE c l = 0 then badI c l else -1
def opT (c : Cab) (l : List Png) : List Rg := if trE c l = 0 then (l.takeWhile (canB c)).map (tmR c) else []
def allT (c : Cab) (l : List Png) : List Rg := l.map (tmR c)
theorem allT_len (c : Cab) (l : List Png) : (allT c l).length = l.length := by simp [allT]
theorem allT_at {c : Cab} {l : List Png} {i : Nat} (h : i < l.length) : rgAt (allT c l) i = tmR c (pngAt l i) := by simp [rgAt, allT, pngAt, List.getD, h]
theorem takeWhile_at {c : Cab} {l : List Png} {k : Nat} (hk : k ≤ l.length) (h : ∀ i, i < k → canB c (pngAt l i) = true) (hn : k < l.length → canB c (pngAt l k) = false) : l.takeWhile (canB c) = l.take k := by
 induction l generalizing k with
 | nil => simp
 | cons x l ih =>
  cases k with
  | zero =>
   have := hn (by simp)
   rw [List.takeWhile_cons_of_neg (by simpa [pngAt] using this)]; rfl
  | succ k =>
   have h0 := h 0 (by omega)
   rw [List.takeWhile_cons_of_pos (by simpa [pngAt] using h0), List.take_succ_cons, ih (by simpa using hk) (fun i hi => by have := h (i + 1) (by omega); simpa [pngAt] using this) (fun hl => by have := hn (by simpa using hl); simpa [pngAt] using this)]
theorem bad_none {c : Cab} {l : List Png} (h : badI c l < 0) : (∀ i, i < l.length → canB c (pngAt l i) = true) ∧ l.takeWhile (canB c) = l := by
 unfold badI at h
 rcases idxP_or (fun p => !canB c p) l Png.zero with ⟨_, g⟩ | ⟨k, h1, h2, _⟩
 ·have g2 : ∀ i, i < l.length → canB c (pngAt l i) = true := fun i hi => by have := g i hi; simpa [pngAt] using this
  exact ⟨g2, by rw [takeWhile_at (Nat.le_refl _) g2 (fun h => absurd h (Nat.lt_irrefl _)), List.take_length]⟩
 ·omega
def byR (c : Cab) (p : Png) (n : Int) : Rg := ⟨c.blo p n, c.bhi p n⟩
theorem by_rg {c : Cab} {p : Png} {n : Int} (h : delOk c p) (hn : 0 ≤ n ∧ n ≤ 1000000000001) : (-2000000000000 ≤ n - p.arr ∧ n - p.arr ≤ 2000000000000) ∧ (0 ≤ slackI c.drift (n - p.arr) ∧ slackI c.drift (n - p.arr) ≤ 4000000000) ∧ (-9000000000000 ≤ c.blo p n ∧ c.blo p n ≤ 9000000000000) ∧ (-9000000000000 ≤ c.bhi p n ∧ c.bhi p n ≤ 9000000000000) := by
 have d := del_rg h
 obtain ⟨⟨h1, h2⟩, h3, h4⟩ := h
 have s := slack_rg (d := c.drift) (n := n - p.arr) h1 (by omega)
 unfold Cab.blo Cab.bhi
 omega
def atK (c : Cab) (l : List Png) (n : Int) (k : Nat) : Rg := ((l.drop 1).take k).foldl (fun r q => meetR r (byR c q n)) (byR c (pngAt l 0) n)
def atR (c : Cab) (l : List Png) (n : Int) : Rg := atK c l n (l.length - 1)
theorem atK_succ {c : Cab} {l : List Png} {n : Int} {k : Nat} (hk : k + 1 < l.length) : atK c l n (k + 1) = meetR (atK c l n k) (byR c (pngAt l (k + 1)) n) := by
 have h : k < (l.drop 1).length := by rw [List.length_drop]; omega
 unfold atK
 rw [List.take_succ_eq_append_getElem h, List.foldl_append]
 simp [pngAt, List.getD, hk, Nat.add_comm 1 k]
theorem meet_self (r : Rg) : meetR r r = r := by unfold meetR; rw [Int.max_self, Int.min_self]
def apB (c : Cab) (p q : Png) : Bool := decide (max (tmR c q).lo (c.blo p q.arr) > min (tmR c q).hi (c.bhi p q.arr))
def pB (c : Cab) (l : List Png) (j : Nat) : Bool := decide (j / l.length < j % l.length) && apB c (pngAt l (j / l.length)) (pngAt l (j % l.length))
def prL (c : Cab) (l : List Png) : List Int := ((List.range (l.length * l.length)).find? (pB c l)).elim [] fun j => [((j / l.length : Nat) : Int), ((j % l.length : Nat) : Int)]
theorem pr_lt {n i k : Nat} (hi : i < n) (hk : k < n) : i * n + k < n * n := by
 have := Nat.mul_le_mul_right n (show i + 1 ≤ n by omega)
 rw [Nat.add_mul, Nat.one_mul] at this
 omega
theorem pr_dm {n i k : Nat} (hk : k < n) : (i * n + k) / n = i ∧ (i * n + k) % n = k := by
 rw [Nat.mul_comm, Nat.mul_add_div (by omega), Nat.mul_add_mod, Nat.div_eq_of_lt hk, Nat.mod_eq_of_lt hk]
 exact ⟨rfl, rfl⟩
theorem prL_none {c : Cab} {l : List Png} (h : ∀ j, j < l.length * l.length → pB c l j = false) : prL c l = [] := by
 unfold prL
 rw [List.find?_eq_none.2 fun j hj => by rw [h j (List.mem_range.1 hj)]; simp]
 rfl
theorem prL_at {c : Cab} {l : List Png} {i k : Nat} (hi : i < k) (hk : k < l.length) (h : apB c (pngAt l i) (pngAt l k) = true) (hz : ∀ j, j < i * l.length + k → pB c l j = false) : prL c l = [(i : Int), (k : Int)] := by
 obtain ⟨d, m⟩ := pr_dm (n := l.length) (i := i) hk
 have e : (List.range (l.length * l.length)).find? (pB c l) = some (i * l.length + k) := by
  rw [List.find?_range_eq_some]
  refine ⟨?_, ?_, fun j hj => by rw [hz j hj]; rfl⟩
  ·unfold pB; rw [d, m, h, decide_eq_true hi]; rfl
  ·exact List.mem_range.2 (pr_lt (by omega) hk)
 unfold prL
 rw [e]
 show [((((i * l.length + k) / l.length : Nat)) : Int), (((i * l.length + k) % l.length : Nat) : Int)] = _
 rw [d, m]
def clB (c : Cab) (l : List Png) : Bool := decide (badI c l < 0) && decide (((prL c l).length : Int) = 0)
def obE (c : Cab) (l : List Png) (n : Int) : Int := firstNZ [trE c l, unl (tkB n) 2, unl (clB c l) 13]
def taV (c : Cab) (l : List Png) (n : Int) : Rg := if obE c l n = 0 then atR c l n else ⟨0, 0⟩
def urT (l : List Int) : Nat → Int
 | 0 => 0
 | k + 1 => urT l k + if 0 < k ∧ l.getD k 0 < l.getD (k - 1) 0 then 1 else 0
def urK (l : List Int) (p : Int) (k : Nat) : List Int := (List.range k).map fun i => urT l (i + 1) * p + l.getD i 0
def urV (l : List Int) (p : Int) : List Int := urK l p l.length
def urE (l : List Int) (p : Int) : Int := if inB p 1 1000000000000 = true then firstNZ [unl (decide ((l.length : Int) ≤ 40)) 8, unl (l.all fun n => inB n 0 (p - 1)) 2] else 2
theorem urT_rg (l : List Int) : ∀ k, 0 ≤ urT l k ∧ urT l k ≤ k := by
 intro k
 induction k with
 | zero => exact ⟨Int.le_refl _, Int.le_refl _⟩
 | succ k ih => unfold urT; split <;> omega
theorem urK_succ (l : List Int) (p : Int) (k : Nat) : urK l p (k + 1) = urK l p k ++ [urT l (k + 1) * p + l.getD k 0] := by
 unfold urK; rw [List.range_succ, List.map_append]; rfl
def lppAt (l : List Lp) (i : Nat) : Lp := l.getD i ⟨0, 0⟩
def lpS1 (l : List Lp) (i : Nat) : Int := firstNZ [unl (tkB (lppAt l i).tick && inB (lppAt l i).step (-1000000) 1000000) 2, unl (decide ((lppAt l i).step ≠ 0)) 11, unl (decide ((i : Int) = 0) || decide ((lppAt l i).tick > (lppAt l (i - 1)).tick)) 9]
def lpE (l : List Lp) : Int := if ((l.length : Int) > 10) then 8 else scan (lpS1 l) l.length
def erF (l : List Lp) (i : Nat) : Int := if i = 0 then 0 else (lppAt l (i - 1)).tick
def erT (l : List Lp) (i : Nat) : Int := if i < l.length then (lppAt l i).tick - 1 else 1000000000000
def erS (l : List Lp) (i : Nat) : Int := lpAll (l.take i)
def erB (l : List Lp) (t : Int) (i : Nat) : Bool := inB t (erF l i) (erT l i)
def tfE (l : List Lp) (n : Int) : Int := firstNZ [lpE l, unl (inB n (-2000000000000) 2000000000000) 2]
def tfK (l : List Lp) (n : Int) (k : Nat) : List Int := ((List.range k).filter fun i => erB l (n - erS l i) i).map fun i => n - erS l i
def tfV (l : List Lp) (n : Int) : List Int := if tfE l n = 0 then tfK l n (l.length + 1) else []
def smE (l : List Int) : Int := firstNZ [unl (decide ((l.length : Int) > 0)) 10, unl (decide ((l.length : Int) ≤ 24)) 8, unl (l.all fun n => inB n (-10000) 10000) 2]
def sqK (s p : List Int) (k : Nat) : Nat → Int
 | 0 => 0
 | i + 1 => sqK s p k i + (s.getD (k + i) 0 - p.getD i 0) * (s.getD (k + i) 0 - p.getD i 0)
def arK (s p : List Int) : Nat → Int × Int
 | 0 => (0, -1)
 | k + 1 => if (arK s p k).2 < 0 ∨ sqK s p k p.length < (arK s p k).2 then (k, sqK s p k p.length) else arK s p k
def avE (s p : List Int) : Int := firstNZ [smE s, smE p, unl (decide ((p.length : Int) ≤ s.length)) 12]
def avV (s p : List Int) : Int := if avE s p = 0 then (arK s p (s.length - p.length + 1)).1 else 0
end Go.Proofs.Ytkifmfmenobhnaa
set_option linter.unusedVariables false
set_option linter.unusedSimpArgs false
namespace Go.Proofs.Ytkifmfmenobhnaa
open Go.RowKit Ev
def pngsC (l : List Png) : Nat → Nat → CV := fun i j => match j with
 | 0 => .v (.int .i64 (pngAt l i).sent)
 | 1 => .v (.int .i64 (pngAt l i).arr)
 | 2 => .v (.int .i64 (pngAt l i).ans)
 | _ => .v (.int .i64 (pngAt l i).back)
def mkPng (g : Nat → Int) : Png := ⟨g 0, g 1, g 2, g 3⟩
def pngCv (x : Png) : List CV := [.v (.int .i64 x.sent), .v (.int .i64 x.arr), .v (.int .i64 x.ans), .v (.int .i64 x.back)]
theorem pngAt_C {n : Nat} {c : Nat → Nat → CV} {i : Nat} (hi : i < n) : pngAt (listC n mkPng c) i = mkPng fun j => cvInt (c i j) := listC_get hi
theorem leL_Png {n : Nat} {c : Nat → Nat → CV} (hp : numsP 4 n c) : LeD (.t (.c (.sl 4 n c))) (.t (.c (.sl 4 (listC n mkPng c).length (pngsC (listC n mkPng c))))) := by
 refine leL hp fun i j hi hj => ?_
 unfold pngsC
 rw [pngAt_C hi]
 rcases (by omega : j = 0 ∨ j = 1 ∨ j = 2 ∨ j = 3) with rfl | rfl | rfl | rfl <;> rfl
theorem numsP_pngs (l : List Png) : numsP 4 l.length (pngsC l) := by
 intro i j hi hj
 rcases (by omega : j = 0 ∨ j = 1 ∨ j = 2 ∨ j = 3) with rfl | rfl | rfl | rfl <;> rfl
theorem pngs_listC (l : List Png) : listC l.length mkPng (pngsC l) = l := listC_id Png.zero fun i hi => rfl
theorem plain_Png (l : List Png) (i j : Nat) : ∃ y, pngsC l i j = .v y := by unfold pngsC; split <;> exact ⟨_, rfl⟩
theorem le_pngs (l : List Png) : LeD (.t (.c (.sl 4 (l.map pngCv).length (genC (l.map pngCv))))) (.t (.c (.sl 4 l.length (pngsC l)))) := by
 rw [List.length_map]
 refine leSl fun i j hi hj => ?_
 unfold genC pngsC pngAt
 simp only [List.getD_eq_getElem?_getD, List.getElem?_map, List.getElem?_eq_getElem hi, Option.map_some, Option.getD_some]
 rcases (by omega : j = 0 ∨ j = 1 ∨ j = 2 ∨ j = 3) with rfl | rfl | rfl | rfl <;> rfl
theorem pngAt_take {l : List Png} {k : Nat} (h : k < l.length) : l.take (k + 1) = l.take k ++ [pngAt l k] := by
 rw [List.take_succ_eq_append_getElem h]; simp [pngAt, List.getD, h]
theorem png_ext {a b : Png} : a = b ↔ a.sent = b.sent ∧ a.arr = b.arr ∧ a.ans = b.ans ∧ a.back = b.back := by
 obtain ⟨_, _, _, _⟩ := a
 obtain ⟨_, _, _, _⟩ := b
 simp [and_assoc]
instance : DecidableEq Png := fun a b => decidable_of_iff _ png_ext.symm
def rgsC (l : List Rg) : Nat → Nat → CV := fun i j => match j with
 | 0 => .v (.int .i64 (rgAt l i).lo)
 | _ => .v (.int .i64 (rgAt l i).hi)
def mkRg (g : Nat → Int) : Rg := ⟨g 0, g 1⟩
def rgCv (x : Rg) : List CV := [.v (.int .i64 x.lo), .v (.int .i64 x.hi)]
theorem rgAt_C {n : Nat} {c : Nat → Nat → CV} {i : Nat} (hi : i < n) : rgAt (listC n mkRg c) i = mkRg fun j => cvInt (c i j) := listC_get hi
theorem leL_Rg {n : Nat} {c : Nat → Nat → CV} (hp : numsP 2 n c) : LeD (.t (.c (.sl 2 n c))) (.t (.c (.sl 2 (listC n mkRg c).length (rgsC (listC n mkRg c))))) := by
 refine leL hp fun i j hi hj => ?_
 unfold rgsC
 rw [rgAt_C hi]
 rcases (by omega : j = 0 ∨ j = 1) with rfl | rfl <;> rfl
theorem numsP_rgs (l : List Rg) : numsP 2 l.length (rgsC l) := by
 intro i j hi hj
 rcases (by omega : j = 0 ∨ j = 1) with rfl | rfl <;> rfl
theorem rgs_listC (l : List Rg) : listC l.length mkRg (rgsC l) = l := listC_id ⟨0, 0⟩ fun i hi => rfl
theorem le_rgs (l : List Rg) : LeD (.t (.c (.sl 2 (l.map rgCv).length (genC (l.map rgCv))))) (.t (.c (.sl 2 l.length (rgsC l)))) := by
 rw [List.length_map]
 refine leSl fun i j hi hj => ?_
 unfold genC rgsC rgAt
 simp only [List.getD_eq_getElem?_getD, List.getElem?_map, List.getElem?_eq_getElem hi, Option.map_some, Option.getD_some]
 rcases (by omega : j = 0 ∨ j = 1) with rfl | rfl <;> rfl
theorem rg_ext {a b : Rg} : a = b ↔ a.lo = b.lo ∧ a.hi = b.hi := by
 obtain ⟨_, _⟩ := a
 obtain ⟨_, _⟩ := b
 simp [and_assoc]
instance : DecidableEq Rg := fun a b => decidable_of_iff _ rg_ext.symm
def lppsC (l : List Lp) : Nat → Nat → CV := fun i j => match j with
 | 0 => .v (.int .i64 (lppAt l i).tick)
 | _ => .v (.int .i64 (lppAt l i).step)
def mkLpp (g : Nat → Int) : Lp := ⟨g 0, g 1⟩
theorem lppAt_C {n : Nat} {c : Nat → Nat → CV} {i : Nat} (hi : i < n) : lppAt (listC n mkLpp c) i = mkLpp fun j => cvInt (c i j) := listC_get hi
theorem leL_Lp {n : Nat} {c : Nat → Nat → CV} (hp : numsP 2 n c) : LeD (.t (.c (.sl 2 n c))) (.t (.c (.sl 2 (listC n mkLpp c).length (lppsC (listC n mkLpp c))))) := by
 refine leL hp fun i j hi hj => ?_
 unfold lppsC
 rw [lppAt_C hi]
 rcases (by omega : j = 0 ∨ j = 1) with rfl | rfl <;> rfl
theorem numsP_lpps (l : List Lp) : numsP 2 l.length (lppsC l) := by
 intro i j hi hj
 rcases (by omega : j = 0 ∨ j = 1) with rfl | rfl <;> rfl
theorem lpps_listC (l : List Lp) : listC l.length mkLpp (lppsC l) = l := listC_id ⟨0, 0⟩ fun i hi => rfl
theorem lppAt_take {l : List Lp} {k : Nat} (h : k < l.length) : l.take (k + 1) = l.take k ++ [lppAt l k] := by
 rw [List.take_succ_eq_append_getElem h]; simp [lppAt, List.getD, h]
theorem lpp_ext {a b : Lp} : a = b ↔ a.tick = b.tick ∧ a.step = b.step := by
 obtain ⟨_, _⟩ := a
 obtain ⟨_, _⟩ := b
 simp [and_assoc]
instance : DecidableEq Lp := fun a b => decidable_of_iff _ lpp_ext.symm
theorem leC_k {a b : CV} (h : a = b) : LeC1 a b := by rw [h]; exact LeC1.refl b
theorem leSlC {sz n : Nat} {c c' : Nat → Nat → CV} (h : ∀ i j, i < n → j < sz → LeC1 (c i j) (c' i j)) : LeC1 (.sl sz n c) (.sl sz n c') := by
 rintro w N v ⟨ao, cap, h1, h2, h3, h4, h5⟩
 refine ⟨ao, cap, h1, h2, h3, h4, fun h0 => ?_⟩
 obtain ⟨b, off, g1, g2, g3, g4⟩ := h5 h0
 refine ⟨b, off, g1, g2, g3, fun i j hi hj => ?_⟩
 obtain ⟨x, e1, e2⟩ := g4 i j hi hj
 exact ⟨x, e1, h i j hi hj _ _ _ e2⟩
theorem numsP_ints (l : List Int) : numsP 1 l.length (intsC l) := fun i j hi hj => rfl
theorem ints_listC (l : List Int) : listC l.length mkInt (intsC l) = l := listC_id 0 fun i hi => rfl
theorem leI {a b : Int} (h : a = b) : LeD (.t (.c (.v (.int .i64 a)))) (.t (.c (.v (.int .i64 b)))) := LeD.of (by rw [h])
theorem leB {a b : Bool} (h : a = b) : LeD (.t (.c (.v (.bool a)))) (.t (.c (.v (.bool b)))) := LeD.of (by rw [h])
theorem le2 {a b c d : Int} (h1 : a = c) (h2 : b = d) : LeD (.tu [.c (.v (.int .i64 a)), .c (.v (.int .i64 b))]) (.tu [.c (.v (.int .i64 c)), .c (.v (.int .i64 d))]) := LeD.of (by rw [h1, h2])
theorem le_tu {a a' b b' : TV} (h1 : LeD (.t a) (.t a')) (h2 : LeD (.t b) (.t b')) : LeD (.tu [a, b]) (.tu [a', b']) := by
 rintro w N v ⟨vs, e, g⟩
 match vs, g with
 | [x, y], g => exact ⟨[x, y], e, h1 w N x g.1, h2 w N y g.2.1, trivial⟩
 | [], g => exact g.elim
 | [_], g => exact g.2.elim
 | _ :: _ :: _ :: _, g => exact g.2.2.elim
theorem leC_nil {sz : Nat} {c : Nat → Nat → CV} : LeC1 (.v (.slice none 0 0)) (.sl sz 0 c) := by
 intro w N v h
 exact ⟨none, 0, h.1, Nat.le_refl _, by unfold maxLen; omega, fun _ => rfl, fun h => by omega⟩
theorem le_nil {sz : Nat} {c : Nat → Nat → CV} : LeD (.t (.c (.v (.slice none 0 0)))) (.t (.c (.sl sz 0 c))) := leT_c leC_nil
theorem mx_if (a b : Int) : (if b > a then b else a) = max a b := by split <;> omega
theorem mn_if (a b : Int) : (if b < a then b else a) = min a b := by split <;> omega
theorem wi {n : Int} (h : -9000000000000000000 ≤ n ∧ n ≤ 9000000000000000000) : IntKind.i64.wrap n = n := IntWalk.i64_in _ (by omega)
end Go.Proofs.Ytkifmfmenobhnaa
set_option linter.unusedVariables false
set_option linter.unusedSimpArgs false
namespace Go.Proofs.Ytkifmfmenobhnaa
open Go.RowKit Ev
def rgB (r : Rg) : Prop := (-18000000000000 ≤ r.lo ∧ r.lo ≤ 18000000000000) ∧ -18000000000000 ≤ r.hi ∧ r.hi ≤ 18000000000000
theorem tdiv_rg {d : Int} (n : Int) (h : 0 < d) : (Int.tdiv n d).natAbs ≤ n.natAbs := Int.natAbs_tdiv_le_natAbs n d
theorem ediv_rg {d : Int} (n : Int) (h : 0 < d) : (n / d).natAbs ≤ n.natAbs := by
 rcases Int.le_total 0 n with q | q
 ·have h1 := Int.ediv_nonneg q (Int.le_of_lt h)
  have h2 := Int.ediv_le_self d q
  omega
 ·have h1 : n ≤ n / d := by
   rw [Int.le_ediv_iff_mul_le h]
   have := Int.mul_nonneg (show 0 ≤ -n by omega) (show 0 ≤ d - 1 by omega)
   rw [Int.neg_mul, Int.mul_sub] at this
   omega
  have h2 : n / d ≤ 0 := by
   have := Int.ediv_le_ediv h q
   rwa [Int.zero_ediv] at this
  omega
theorem fl_eq {d : Int} (n : Int) (h : 0 < d) : (if Int.tmod n d < 0 then Int.tdiv n d - 1 else Int.tdiv n d) = n / d := by
 rcases Int.le_total 0 n with q | q
 ·rw [if_neg (by have := Int.tmod_nonneg d q; omega), Int.tdiv_eq_ediv_of_nonneg q]
 ·obtain ⟨m, rfl⟩ : ∃ m : Int, n = -m := ⟨-n, by omega⟩
  have hm : 0 ≤ m := by omega
  rw [Int.neg_tmod, Int.neg_tdiv, Int.tdiv_eq_ediv_of_nonneg hm, Int.tmod_eq_emod_of_nonneg hm, Int.neg_ediv]
  have := Int.emod_nonneg m (show d ≠ 0 by omega)
  by_cases e : d ∣ m
  ·rw [if_pos e, if_neg (by have := Int.emod_eq_zero_of_dvd e; omega)]; omega
  ·rw [if_neg e, Int.sign_eq_one_of_pos h, if_pos (by
    have : m % d ≠ 0 := fun g => e (Int.dvd_of_emod_eq_zero g)
    omega)]
def vc_base_Within (a : Int) (b : Int) (c : Int) (post : DV → Prop) : Prop := cond (decide (b ≤ a)) (post (.t (.c (.v (.bool (decide (a ≤ c))))))) ((false = false) ∧ (post (.t (.c (.v (.bool false))))))
def ann_base_Within : Ann := ⟨fun _ => none, fun _ => none, fun _ => [], noIt, false, fun _ => none, fun _ => none⟩
theorem ev_base_Within (J : Inv) (a : Int) (b : Int) (c : Int) (post : DV → Prop) : evFn Try.prog tab noS ann_base_Within J Try.f26 [.t (.c (.v (.int .i64 a))), .t (.c (.v (.int .i64 b))), .t (.c (.v (.int .i64 c)))] post = vc_base_Within a b c post := by kernel_rfl
theorem fit_base_Within : okFn ann_base_Within Try.f26 = true := by kernel_rfl
theorem lp_base_Within (J : Inv) (post : DV → Prop) : AllG J (loopsFn Try.prog tab noS ann_base_Within J Try.f26 post) = (True) := by kernel_rfl
theorem spec_base_Within (a : Int) (b : Int) (c : Int) : vc_base_Within a b c (fun r => LeD r (.t (.c (.v (.bool (inB a b c)))))) := by
 unfold vc_base_Within
 refine cond_i (fun h => leB ?_) (fun h => ⟨rfl, leB ?_⟩)
 ·unfold inB; rw [h]; rfl
 ·unfold inB; rw [h]; rfl
def con_base_Within : Con := fun args => match args with
 | [.t (.c (.v (.int .i64 a))), .t (.c (.v (.int .i64 b))), .t (.c (.v (.int .i64 c)))] => some (.t (.c (.v (.bool (inB a b c)))), none, false)
 | _ => none
theorem ok_base_Within : Ok Try.prog 26 con_base_Within := by
 refine Ok.fn (ann := ann_base_Within) mixed tabOK Valid.no ValidIt.no (fn := Try.f26) (by kernel_rfl) (by kernel_rfl) fit_base_Within fun args r pre fresh h hp => ?_
 unfold con_base_Within at h
 split at h
 ·rename_i a b c
  cases h
  refine ⟨rfl, fun _ _ _ => False, _, LeA.refl _, Nat.le_of_ble_eq_true (by kernel_rfl), ?_, ?_⟩
  ·rw [ev_base_Within]; exact spec_base_Within a b c
  ·rw [lp_base_Within]; trivial
 ·cases h
def S1 : Sum := addS noS 26 con_base_Within
theorem VS1 : Valid Try.prog S1 := Valid.add Valid.no ok_base_Within
def vc_clock_within (a : Int) (b : Int) (c : Int) (post : DV → Prop) : Prop := cond (decide (b ≤ a)) (post (.t (.c (.v (.bool (decide (a ≤ c))))))) ((false = false) ∧ (post (.t (.c (.v (.bool false))))))
def ann_clock_within : Ann := ⟨fun _ => none, fun _ => none, fun _ => [], noIt, false, fun _ => none, fun _ => none⟩
theorem ev_clock_within (J : Inv) (a : Int) (b : Int) (c : Int) (post : DV → Prop) : evFn Try.prog tab S1 ann_clock_within J Try.f79 [.t (.c (.v (.int .i64 a))), .t (.c (.v (.int .i64 b))), .t (.c (.v (.int .i64 c)))] post = vc_clock_within a b c post := by kernel_rfl
theorem fit_clock_within : okFn ann_clock_within Try.f79 = true := by kernel_rfl
theorem lp_clock_within (J : Inv) (post : DV → Prop) : AllG J (loopsFn Try.prog tab S1 ann_clock_within J Try.f79 post) = (True) := by kernel_rfl
theorem spec_clock_within (a : Int) (b : Int) (c : Int) : vc_clock_within a b c (fun r => LeD r (.t (.c (.v (.bool (inB a b c)))))) := by
 unfold vc_clock_within
 refine cond_i (fun h => leB ?_) (fun h => ⟨rfl, leB ?_⟩)
 ·unfold inB; rw [h]; rfl
 ·unfold inB; rw [h]; rfl
def con_clock_within : Con := fun args => match args with
 | [.t (.c (.v (.int .i64 a))), .t (.c (.v (.int .i64 b))), .t (.c (.v (.int .i64 c)))] => some (.t (.c (.v (.bool (inB a b c)))), none, false)
 | _ => none
theorem ok_clock_within : Ok Try.prog 79 con_clock_within := by
 refine Ok.fn (ann := ann_clock_within) mixed tabOK VS1 ValidIt.no (fn := Try.f79) (by kernel_rfl) (by kernel_rfl) fit_clock_within fun args r pre fresh h hp => ?_
 unfold con_clock_within at h
 split at h
 ·rename_i a b c
  cases h
  refine ⟨rfl, fun _ _ _ => False, _, LeA.refl _, Nat.le_of_ble_eq_true (by kernel_rfl), ?_, ?_⟩
  ·rw [ev_clock_within]; exact spec_clock_within a b c
  ·rw [lp_clock_within]; trivial
 ·cases h
def S2 : Sum := addS S1 79 con_clock_within
theorem VS2 : Valid Try.prog S2 := Valid.add VS1 ok_clock_within
def vc_clock_unless (b : Bool) (n : Int) (post : DV → Prop) : Prop := cond b (post (.t (.c (.v (.int .i64 0))))) (post (.t (.c (.v (.int .i64 n)))))
def ann_clock_unless : Ann := ⟨fun _ => none, fun _ => none, fun _ => [], noIt, false, fun _ => none, fun _ => none⟩
theorem ev_clock_unless (J : Inv) (b : Bool) (n : Int) (post : DV → Prop) : evFn Try.prog tab S2 ann_clock_unless J Try.f83 [.t (.c (.v (.bool b))), .t (.c (.v (.int .i64 n)))] post = vc_clock_unless b n post := by kernel_rfl
theorem fit_clock_unless : okFn ann_clock_unless Try.f83 = true := by kernel_rfl
theorem lp_clock_unless (J : Inv) (post : DV → Prop) : AllG J (loopsFn Try.prog tab S2 ann_clock_unless J Try.f83 post) = (True) := by kernel_rfl
theorem spec_clock_unless (b : Bool) (n : Int) : vc_clock_unless b n (fun r => LeD r (.t (.c (.v (.int .i64 (unl b n)))))) := by
 unfold vc_clock_unless
 exact cond_i (fun h => leI (by rw [h]; rfl)) (fun h => leI (by rw [h]; rfl))
def con_clock_unless : Con := fun args => match args with
 | [.t (.c (.v (.bool b))), .t (.c (.v (.int .i64 n)))] => some (.t (.c (.v (.int .i64 (unl b n)))), none, false)
 | _ => none
theorem ok_clock_unless : Ok Try.prog 83 con_clock_unless := by
 refine Ok.fn (ann := ann_clock_unless) mixed tabOK VS2 ValidIt.no (fn := Try.f83) (by kernel_rfl) (by kernel_rfl) fit_clock_unless fun args r pre fresh h hp => ?_
 unfold con_clock_unless at h
 split at h
 ·rename_i b n
  cases h
  refine ⟨rfl, fun _ _ _ => False, _, LeA.refl _, Nat.le_of_ble_eq_true (by kernel_rfl), ?_, ?_⟩
  ·rw [ev_clock_unless]; exact spec_clock_unless b n
  ·rw [lp_clock_unless]; trivial
 ·cases h
def S3 : Sum := addS S2 83 con_clock_unless
theorem VS3 : Valid Try.prog S3 := Valid.add VS2 ok_clock_unless
def mk_clock_first_0 (l : List Int) (v0_0 : Int) : DS := ⟨[none, none, none, none, none, some (.t (.c (.sl 1 l.length (intsC l)))), some (.t (.c (.v (.int .i64 ((l.length : Nat) : Int))))), some (.t (.c (.v (.int .i64 v0_0)))), none, none, none, none, none, none, none], [none, none, none, none, none, none, none, none, none, none, none, none, none, none, none]⟩
def vc_clock_first (J : Inv) (l : List Int) (post : DV → Prop) : Prop := ∃ n, J 0 (n :: []) (mk_clock_first_0 l 0)
def ann_clock_first : Ann := ⟨fun _ => none, fun b => lookA b [(0, (none, some ⟨[5, 6, 7], [], []⟩))], fun _ => [], noIt, false, fun _ => none, fun _ => none⟩
theorem ev_clock_first (J : Inv) (l : List Int) (post : DV → Prop) : evFn Try.prog tab S3 ann_clock_first J Try.f82 [.t (.c (.sl 1 l.length (intsC l)))] post = vc_clock_first J l post := by kernel_rfl
theorem fit_clock_first : okFn ann_clock_first Try.f82 = true := by kernel_rfl
def rd_clock_first_0 (J : Inv) (l : List Int) (v0_0 : Int) (nn0 : Nat) (post : DV → Prop) : Prop := cond (decide (v0_0 < ((l.length : Nat) : Int))) ((0 ≤ v0_0 ∧ v0_0 < ((l.length : Nat) : Int)) ∧ (cond ((l.getD v0_0.toNat 0) != (0 : Int)) (post (.t (.c (.v (.int .i64 (l.getD v0_0.toNat 0)))))) (lt (IntKind.i64.wrap (v0_0 + (1 : Int))) fun x1 => J 0 (nn0 :: []) (mk_clock_first_0 l x1)))) (post (.t (.c (.v (.int .i64 0)))))
theorem er_clock_first_0 (J : Inv) (l : List Int) (v0_0 : Int) (nn0 : Nat) (post : DV → Prop) : round Try.prog tab S3 ann_clock_first J Try.f82 post 0 (nn0 :: []) (mk_clock_first_0 l v0_0) = rd_clock_first_0 J l v0_0 nn0 post := by kernel_rfl
theorem lp_clock_first (J : Inv) (post : DV → Prop) : AllG J (loopsFn Try.prog tab S3 ann_clock_first J Try.f82 post) = (((∀ F s, ¬ J 0 (0 :: F) s) ∧ ∀ n F s, J 0 ((n + 1) :: F) s → round Try.prog tab S3 ann_clock_first J Try.f82 post 0 (n :: F) s) ∧ True) := by kernel_rfl
def J_clock_first (l : List Int) : Inv := fun b F s => match b, F with
 | 0, [nn0] => ∃ (v0_0 : Int), s = mk_clock_first_0 l v0_0 ∧ (0 ≤ v0_0 ∧ v0_0 ≤ l.length ∧ (nn0 : Int) + v0_0 = l.length + 1 ∧ ∀ j : Nat, (j : Int) < v0_0 → l.getD j 0 = 0)
 | _, _ => False
theorem rnd_clock_first_0 (l : List Int) (v0_0 : Int) (nn0 : Nat) (hp : (l).length ≤ 100) (hi : 0 ≤ v0_0 ∧ v0_0 ≤ l.length ∧ ((nn0 + 1) : Int) + v0_0 = l.length + 1 ∧ ∀ j : Nat, (j : Int) < v0_0 → l.getD j 0 = 0) : rd_clock_first_0 (J_clock_first l) l v0_0 nn0 (fun r => LeD r (.t (.c (.v (.int .i64 (firstNZ l)))))) := by
 obtain ⟨i1, i2, i3, i4⟩ := hi
 obtain ⟨k, rfl⟩ : ∃ k : Nat, v0_0 = k := ⟨v0_0.toNat, by omega⟩
 have hk : (k : Int).toNat = k := rfl
 unfold rd_clock_first_0
 rw [hk]
 have el : firstNZ l = scan (fun i => l.getD i 0) l.length := by
  unfold scan
  congr 1
  apply List.ext_getElem?
  intro i
  by_cases hi : i < l.length
  ·simp [hi, List.getD]
  ·rw [List.getElem?_eq_none (by omega), List.getElem?_eq_none (by simpa using hi)]
 refine cond_i (fun h => ⟨by have := of_decide_eq_true h; omega, cond_i (fun e => leI ?_) (fun e => lt_i fun x hx => ?_)⟩) (fun h => leI ?_)
 ·have h := of_decide_eq_true h
  rw [el, scan_at (k := k) (fun j hj => i4 j (by omega)) (by omega) (by simpa using e)]
 ·have h := of_decide_eq_true h
  rw [IntWalk.i64_in _ (by have := l.length; omega)] at hx
  subst hx
  refine ⟨_, rfl, by omega, by omega, by omega, fun j hj => ?_⟩
  by_cases q : j = k
  ·rw [q]; simpa using e
  ·exact i4 j (by omega)
 ·have h := of_decide_eq_false h
  rw [el, scan_end fun j hj => i4 j (by omega)]
theorem zero_clock_first_0 (l : List Int) (v0_0 : Int)  (hi : 0 ≤ v0_0 ∧ v0_0 ≤ l.length ∧ (0 : Int) + v0_0 = l.length + 1 ∧ ∀ j : Nat, (j : Int) < v0_0 → l.getD j 0 = 0) : False := by
 omega
theorem spec_clock_first (l : List Int) (hp : (l).length ≤ 100) : vc_clock_first (J_clock_first l) l (fun r => LeD r (.t (.c (.v (.int .i64 (firstNZ l)))))) := by
 unfold vc_clock_first
 exact ⟨l.length + 1, 0, rfl, by omega, by omega, by omega, fun j hj => by omega⟩
theorem all_clock_first (l : List Int) (hp : (l).length ≤ 100) : AllG (J_clock_first l) (loopsFn Try.prog tab S3 ann_clock_first (J_clock_first l) Try.f82 (fun r => LeD r (.t (.c (.v (.int .i64 (firstNZ l))))))) := by
 rw [lp_clock_first]
 refine ⟨⟨?_, ?_⟩, trivial⟩
 ·intro F s h
  obtain _ | ⟨g, F⟩ := F
  case cons => exact h.elim
  obtain ⟨w0, rfl, hi⟩ := h
  exact zero_clock_first_0 l w0 hi
 ·intro n F s h
  obtain _ | ⟨g, F⟩ := F
  case cons => exact h.elim
  obtain ⟨w0, rfl, hi⟩ := h
  rw [er_clock_first_0]
  exact rnd_clock_first_0 l _ _ hp hi
def con_clock_first : Con := fun args => match args with
 | [.t (.c (.sl 1 n_l c_l))] => some (.t (.c (.v (.int .i64 (firstNZ (listC n_l mkInt c_l))))), some (numsP 1 n_l c_l ∧ ((listC n_l mkInt c_l)).length ≤ 100), false)
 | _ => none
theorem ok_clock_first : Ok Try.prog 82 con_clock_first := by
 refine Ok.fn (ann := ann_clock_first) mixed tabOK VS3 ValidIt.no (fn := Try.f82) (by kernel_rfl) (by kernel_rfl) fit_clock_first fun args r pre fresh h hp => ?_
 unfold con_clock_first at h
 split at h
 ·rename_i n_l c_l
  cases h
  obtain ⟨hp0, hp⟩ := hp
  refine ⟨rfl, J_clock_first (listC n_l mkInt c_l), [.t (.c (.sl 1 ((listC n_l mkInt c_l).length) (intsC (listC n_l mkInt c_l))))], ?_, Nat.le_of_ble_eq_true (by kernel_rfl), ?_, ?_⟩
  ·exact (LeA_cons (leT_c ((leL_int hp0))) LeA_nil)
  ·rw [ev_clock_first]; exact spec_clock_first (listC n_l mkInt c_l) hp
  ·exact all_clock_first (listC n_l mkInt c_l) hp
 ·cases h
def S4 : Sum := addS S3 82 con_clock_first
theorem VS4 : Valid Try.prog S4 := Valid.add VS3 ok_clock_first
def vc_clock_isTick (n : Int) (post : DV → Prop) : Prop := post (.t (.c (.v (.bool (inB n (0 : Int) (1000000000000 : Int))))))
def ann_clock_isTick : Ann := ⟨fun _ => none, fun _ => none, fun _ => [], noIt, false, fun _ => none, fun _ => none⟩
theorem ev_clock_isTick (J : Inv) (n : Int) (post : DV → Prop) : evFn Try.prog tab S4 ann_clock_isTick J Try.f85 [.t (.c (.v (.int .i64 n)))] post = vc_clock_isTick n post := by kernel_rfl
theorem fit_clock_isTick : okFn ann_clock_isTick Try.f85 = true := by kernel_rfl
theorem lp_clock_isTick (J : Inv) (post : DV → Prop) : AllG J (loopsFn Try.prog tab S4 ann_clock_isTick J Try.f85 post) = (True) := by kernel_rfl
theorem spec_clock_isTick (n : Int) : vc_clock_isTick n (fun r => LeD r (.t (.c (.v (.bool (tkB n)))))) := by
 exact LeD.refl _
def con_clock_isTick : Con := fun args => match args with
 | [.t (.c (.v (.int .i64 n)))] => some (.t (.c (.v (.bool (tkB n)))), none, false)
 | _ => none
theorem ok_clock_isTick : Ok Try.prog 85 con_clock_isTick := by
 refine Ok.fn (ann := ann_clock_isTick) mixed tabOK VS4 ValidIt.no (fn := Try.f85) (by kernel_rfl) (by kernel_rfl) fit_clock_isTick fun args r pre fresh h hp => ?_
 unfold con_clock_isTick at h
 split at h
 ·rename_i n
  cases h
  refine ⟨rfl, fun _ _ _ => False, _, LeA.refl _, Nat.le_of_ble_eq_true (by kernel_rfl), ?_, ?_⟩
  ·rw [ev_clock_isTick]; exact spec_clock_isTick n
  ·rw [lp_clock_isTick]; trivial
 ·cases h
def S5 : Sum := addS S4 85 con_clock_isTick
theorem VS5 : Valid Try.prog S5 := Valid.add VS4 ok_clock_isTick
def S6 : Sum := S5
theorem VS6 : Valid Try.prog S6 := VS5
def vc_clock_floor (n : Int) (d : Int) (post : DV → Prop) : Prop := lt (IntKind.i64.wrap (Int.tdiv n d)) fun x1 => (IntKind.i64 = IntKind.i64 ∧ d ≠ 0) ∧ (lt (Int.tmod n d) fun x2 => (IntKind.i64 = IntKind.i64 ∧ d ≠ 0) ∧ (cond (decide (x2 < (0 : Int))) (lt (IntKind.i64.wrap (x1 - (1 : Int))) fun x3 => post (.t (.c (.v (.int .i64 x3))))) (post (.t (.c (.v (.int .i64 x1)))))))
def ann_clock_floor : Ann := ⟨fun _ => none, fun _ => none, fun _ => [], noIt, false, fun _ => none, fun _ => none⟩
theorem ev_clock_floor (J : Inv) (n : Int) (d : Int) (post : DV → Prop) : evFn Try.prog tab S6 ann_clock_floor J Try.f114 [.t (.c (.v (.int .i64 n))), .t (.c (.v (.int .i64 d)))] post = vc_clock_floor n d post := by kernel_rfl
theorem fit_clock_floor : okFn ann_clock_floor Try.f114 = true := by kernel_rfl
theorem lp_clock_floor (J : Inv) (post : DV → Prop) : AllG J (loopsFn Try.prog tab S6 ann_clock_floor J Try.f114 post) = (True) := by kernel_rfl
theorem spec_clock_floor (n : Int) (d : Int) (hp : 0 < d ∧ -4000000000000000 ≤ n ∧ n ≤ 4000000000000000) : vc_clock_floor n d (fun r => LeD r (.t (.c (.v (.int .i64 (n / d)))))) := by
 obtain ⟨h1, h2⟩ := hp
 unfold vc_clock_floor
 have r := tdiv_rg n h1
 have e := fl_eq n h1
 refine lt_i fun x1 g1 => ⟨⟨rfl, by omega⟩, lt_i fun x2 g2 => ⟨⟨rfl, by omega⟩, cond_i (fun h => lt_i fun x3 g3 => leI ?_) (fun h => leI ?_)⟩⟩
 all_goals
  rw [wi (by omega)] at g1
  subst g1 g2
 ·rw [if_pos (of_decide_eq_true h)] at e
  rw [wi (by omega)] at g3
  omega
 ·rw [if_neg (of_decide_eq_false h)] at e
  exact e
def con_clock_floor : Con := fun args => match args with
 | [.t (.c (.v (.int .i64 n))), .t (.c (.v (.int .i64 d)))] => some (.t (.c (.v (.int .i64 (n / d)))), some (0 < d ∧ -4000000000000000 ≤ n ∧ n ≤ 4000000000000000), false)
 | _ => none
theorem ok_clock_floor : Ok Try.prog 114 con_clock_floor := by
 refine Ok.fn (ann := ann_clock_floor) mixed tabOK VS6 ValidIt.no (fn := Try.f114) (by kernel_rfl) (by kernel_rfl) fit_clock_floor fun args r pre fresh h hp => ?_
 unfold con_clock_floor at h
 split at h
 ·rename_i n d
  cases h
  refine ⟨rfl, fun _ _ _ => False, _, LeA.refl _, Nat.le_of_ble_eq_true (by kernel_rfl), ?_, ?_⟩
  ·rw [ev_clock_floor]; exact spec_clock_floor n d hp
  ·rw [lp_clock_floor]; trivial
 ·cases h
def S7 : Sum := addS S6 114 con_clock_floor
theorem VS7 : Valid Try.prog S7 := Valid.add VS6 ok_clock_floor
def S8 : Sum := S7
theorem VS8 : Valid Try.prog S8 := VS7
def vc_clock_ceil (n : Int) (d : Int) (post : DV → Prop) : Prop := lt (IntKind.i64.wrap ((0 : Int) - n)) fun x1 => (0 < d ∧ -4000000000000000 ≤ x1 ∧ x1 ≤ 4000000000000000) ∧ (lt (IntKind.i64.wrap ((0 : Int) - (x1 / d))) fun x2 => post (.t (.c (.v (.int .i64 x2)))))
def ann_clock_ceil : Ann := ⟨fun _ => none, fun _ => none, fun _ => [], noIt, false, fun _ => none, fun _ => none⟩
theorem ev_clock_ceil (J : Inv) (n : Int) (d : Int) (post : DV → Prop) : evFn Try.prog tab S8 ann_clock_ceil J Try.f131 [.t (.c (.v (.int .i64 n))), .t (.c (.v (.int .i64 d)))] post = vc_clock_ceil n d post := by kernel_rfl
theorem fit_clock_ceil : okFn ann_clock_ceil Try.f131 = true := by kernel_rfl
theorem lp_clock_ceil (J : Inv) (post : DV → Prop) : AllG J (loopsFn Try.prog tab S8 ann_clock_ceil J Try.f131 post) = (True) := by kernel_rfl
theorem spec_clock_ceil (n : Int) (d : Int) (hp : 0 < d ∧ -4000000000000000 ≤ n ∧ n ≤ 4000000000000000) : vc_clock_ceil n d (fun r => LeD r (.t (.c (.v (.int .i64 (-((-n) / d))))))) := by
 unfold vc_clock_ceil
 have r := ediv_rg (-n) hp.1
 refine lt_i fun x1 g1 => ?_
 rw [wi (by omega)] at g1
 rw [Int.zero_sub] at g1
 subst g1
 refine ⟨⟨hp.1, by omega⟩, lt_i fun x2 g2 => leI ?_⟩
 rw [wi (by omega)] at g2
 omega
def con_clock_ceil : Con := fun args => match args with
 | [.t (.c (.v (.int .i64 n))), .t (.c (.v (.int .i64 d)))] => some (.t (.c (.v (.int .i64 (-((-n) / d))))), some (0 < d ∧ -4000000000000000 ≤ n ∧ n ≤ 4000000000000000), false)
 | _ => none
theorem ok_clock_ceil : Ok Try.prog 131 con_clock_ceil := by
 refine Ok.fn (ann := ann_clock_ceil) mixed tabOK VS8 ValidIt.no (fn := Try.f131) (by kernel_rfl) (by kernel_rfl) fit_clock_ceil fun args r pre fresh h hp => ?_
 unfold con_clock_ceil at h
 split at h
 ·rename_i n d
  cases h
  refine ⟨rfl, fun _ _ _ => False, _, LeA.refl _, Nat.le_of_ble_eq_true (by kernel_rfl), ?_, ?_⟩
  ·rw [ev_clock_ceil]; exact spec_clock_ceil n d hp
  ·rw [lp_clock_ceil]; trivial
 ·cases h
def S9 : Sum := addS S8 131 con_clock_ceil
theorem VS9 : Valid Try.prog S9 := Valid.add VS8 ok_clock_ceil
def S10 : Sum := S9
theorem VS10 : Valid Try.prog S10 := VS9
def S11 : Sum := S10
theorem VS11 : Valid Try.prog S11 := VS10
def S12 : Sum := S11
theorem VS12 : Valid Try.prog S12 := VS11
def vc_clock_CheckPing (p0 p1 p2 p3 : Int) (post : DV → Prop) : Prop := cond (tkB p0) (cond (tkB p1) (cond (tkB p2) (cond (decide (p2 ≥ p1)) ((numsP 1 2 (genC [[.v (.int .i64 (unl (tkB p3) (2 : Int)))], [.v (.int .i64 (unl (decide (p3 ≥ p0)) (9 : Int)))]]) ∧ (([(unl (tkB p3) (2 : Int)), (unl (decide (p3 ≥ p0)) (9 : Int))] : List Int)).length ≤ 100) ∧ (post (.t (.c (.v (.int .i64 (firstNZ ([(unl (tkB p3) (2 : Int)), (unl (decide (p3 ≥ p0)) (9 : Int))] : List Int)))))))) ((false = false) ∧ ((numsP 1 2 (genC [[.v (.int .i64 (unl (tkB p3) (2 : Int)))], [.v (.int .i64 (unl false (9 : Int)))]]) ∧ (([(unl (tkB p3) (2 : Int)), (unl false (9 : Int))] : List Int)).length ≤ 100) ∧ (post (.t (.c (.v (.int .i64 (firstNZ ([(unl (tkB p3) (2 : Int)), (unl false (9 : Int))] : List Int)))))))))) ((false = false) ∧ (cond (decide (p2 ≥ p1)) ((numsP 1 2 (genC [[.v (.int .i64 (unl false (2 : Int)))], [.v (.int .i64 (unl (decide (p3 ≥ p0)) (9 : Int)))]]) ∧ (([(unl false (2 : Int)), (unl (decide (p3 ≥ p0)) (9 : Int))] : List Int)).length ≤ 100) ∧ (post (.t (.c (.v (.int .i64 (firstNZ ([(unl false (2 : Int)), (unl (decide (p3 ≥ p0)) (9 : Int))] : List Int)))))))) ((false = false) ∧ ((numsP 1 2 (genC [[.v (.int .i64 (unl false (2 : Int)))], [.v (.int .i64 (unl false (9 : Int)))]]) ∧ (([(unl false (2 : Int)), (unl false (9 : Int))] : List Int)).length ≤ 100) ∧ (post (.t (.c (.v (.int .i64 (firstNZ ([(unl false (2 : Int)), (unl false (9 : Int))] : List Int)))))))))))) ((false = false) ∧ ((false = false) ∧ (cond (decide (p2 ≥ p1)) ((numsP 1 2 (genC [[.v (.int .i64 (unl false (2 : Int)))], [.v (.int .i64 (unl (decide (p3 ≥ p0)) (9 : Int)))]]) ∧ (([(unl false (2 : Int)), (unl (decide (p3 ≥ p0)) (9 : Int))] : List Int)).length ≤ 100) ∧ (post (.t (.c (.v (.int .i64 (firstNZ ([(unl false (2 : Int)), (unl (decide (p3 ≥ p0)) (9 : Int))] : List Int)))))))) ((false = false) ∧ ((numsP 1 2 (genC [[.v (.int .i64 (unl false (2 : Int)))], [.v (.int .i64 (unl false (9 : Int)))]]) ∧ (([(unl false (2 : Int)), (unl false (9 : Int))] : List Int)).length ≤ 100) ∧ (post (.t (.c (.v (.int .i64 (firstNZ ([(unl false (2 : Int)), (unl false (9 : Int))] : List Int))))))))))))) ((false = false) ∧ ((false = false) ∧ ((false = false) ∧ (cond (decide (p2 ≥ p1)) ((numsP 1 2 (genC [[.v (.int .i64 (unl false (2 : Int)))], [.v (.int .i64 (unl (decide (p3 ≥ p0)) (9 : Int)))]]) ∧ (([(unl false (2 : Int)), (unl (decide (p3 ≥ p0)) (9 : Int))] : List Int)).length ≤ 100) ∧ (post (.t (.c (.v (.int .i64 (firstNZ ([(unl false (2 : Int)), (unl (decide (p3 ≥ p0)) (9 : Int))] : List Int)))))))) ((false = false) ∧ ((numsP 1 2 (genC [[.v (.int .i64 (unl false (2 : Int)))], [.v (.int .i64 (unl false (9 : Int)))]]) ∧ (([(unl false (2 : Int)), (unl false (9 : Int))] : List Int)).length ≤ 100) ∧ (post (.t (.c (.v (.int .i64 (firstNZ ([(unl false (2 : Int)), (unl false (9 : Int))] : List Int)))))))))))))
def ann_clock_CheckPing : Ann := ⟨fun r => lookA r [(2, ([[], [0], [], [2], [], [4], [2, 3, 4, 5], [0, 1, 2, 3, 4, 5, 6], [0, 1, 2, 3, 4, 5, 6, 7], [0, 1, 2, 3, 4, 5, 6, 7, 8], [0, 1, 2, 3, 4, 5, 6, 7], [0, 1, 2, 3, 4, 5, 6, 7, 10], [0, 1, 2, 3, 4, 5, 6, 7, 8, 9, 10, 11], [0, 1, 2, 3, 4, 5, 6, 7, 8, 9, 10, 11, 12], [0, 1, 2, 3, 4, 5, 6, 7, 8, 9, 10, 11, 12, 13], [0, 1, 2, 3, 4, 5, 6, 7, 8, 9, 10, 11, 12, 13, 14], [0, 1, 2, 3, 4, 5, 6, 7, 8, 9, 10, 11, 12, 13, 14, 15], [0, 1, 2, 3, 4, 5, 6, 7, 8, 9, 10, 11, 12, 13, 14, 15, 16]], [[23, 36, 37, 38], [36, 37, 38], [23, 36, 37, 38], [23, 36, 37, 38], [23, 36, 37, 38], [23, 36, 37, 38], [23, 36, 37, 38], [36, 37, 38], [36, 37, 38], [36, 37, 38], [36, 37, 38], [36, 37, 38], [36, 37, 38], [36, 37, 38], [37, 38], [38], [], []]))], fun _ => none, fun _ => [], noIt, false, fun _ => none, fun _ => none⟩
theorem ev_clock_CheckPing (J : Inv) (p0 p1 p2 p3 : Int) (post : DV → Prop) : evFn Try.prog tab S12 ann_clock_CheckPing J Try.f53 [.t (.a [.v (.int .i64 p0), .v (.int .i64 p1), .v (.int .i64 p2), .v (.int .i64 p3)])] post = vc_clock_CheckPing p0 p1 p2 p3 post := by kernel_rfl
theorem fit_clock_CheckPing : okFn ann_clock_CheckPing Try.f53 = true := by kernel_rfl
theorem lp_clock_CheckPing (J : Inv) (post : DV → Prop) : AllG J (loopsFn Try.prog tab S12 ann_clock_CheckPing J Try.f53 post) = (True) := by kernel_rfl
theorem spec_clock_CheckPing (p0 p1 p2 p3 : Int) : vc_clock_CheckPing p0 p1 p2 p3 (fun r => LeD r (.t (.c (.v (.int .i64 (pngE (⟨p0, p1, p2, p3⟩ : Png))))))) := by
 unfold vc_clock_CheckPing
 repeat' with_reducible first | (refine cond_i (fun h => ?_) (fun h => ?_)) | (refine And.intro ?_ ?_)
 all_goals first | rfl | (exact numsP_gen [_, _]) | (exact Nat.le_of_ble_eq_true rfl) | (refine leI ?_)
 all_goals (try simp_all [pngE, unl, firstNZ])
 all_goals (repeat' split)
 all_goals first | rfl | omega | simp_all
def con_clock_CheckPing : Con := fun args => match args with
 | [.t (.a [.v (.int .i64 p0), .v (.int .i64 p1), .v (.int .i64 p2), .v (.int .i64 p3)])] => some (.t (.c (.v (.int .i64 (pngE (⟨p0, p1, p2, p3⟩ : Png))))), none, false)
 | _ => none
theorem ok_clock_CheckPing : Ok Try.prog 53 con_clock_CheckPing := by
 refine Ok.fn (ann := ann_clock_CheckPing) mixed tabOK VS12 ValidIt.no (fn := Try.f53) (by kernel_rfl) (by kernel_rfl) fit_clock_CheckPing fun args r pre fresh h hp => ?_
 unfold con_clock_CheckPing at h
 split at h
 ·rename_i p0 p1 p2 p3
  cases h
  refine ⟨rfl, fun _ _ _ => False, _, LeA.refl _, Nat.le_of_ble_eq_true (by kernel_rfl), ?_, ?_⟩
  ·rw [ev_clock_CheckPing]; exact spec_clock_CheckPing p0 p1 p2 p3
  ·rw [lp_clock_CheckPing]; trivial
 ·cases h
def S13 : Sum := addS S12 53 con_clock_CheckPing
theorem VS13 : Valid Try.prog S13 := Valid.add VS12 ok_clock_CheckPing
def S14 : Sum := S13
theorem VS14 : Valid Try.prog S14 := VS13
def vc_clock_isDrift (n : Int) (post : DV → Prop) : Prop := post (.t (.c (.v (.bool (inB n (0 : Int) (1000 : Int))))))
def ann_clock_isDrift : Ann := ⟨fun _ => none, fun _ => none, fun _ => [], noIt, false, fun _ => none, fun _ => none⟩
theorem ev_clock_isDrift (J : Inv) (n : Int) (post : DV → Prop) : evFn Try.prog tab S14 ann_clock_isDrift J Try.f104 [.t (.c (.v (.int .i64 n)))] post = vc_clock_isDrift n post := by kernel_rfl
theorem fit_clock_isDrift : okFn ann_clock_isDrift Try.f104 = true := by kernel_rfl
theorem lp_clock_isDrift (J : Inv) (post : DV → Prop) : AllG J (loopsFn Try.prog tab S14 ann_clock_isDrift J Try.f104 post) = (True) := by kernel_rfl
theorem spec_clock_isDrift (n : Int) : vc_clock_isDrift n (fun r => LeD r (.t (.c (.v (.bool (inB n 0 1000)))))) := by
 exact LeD.refl _
def con_clock_isDrift : Con := fun args => match args with
 | [.t (.c (.v (.int .i64 n)))] => some (.t (.c (.v (.bool (inB n 0 1000)))), none, false)
 | _ => none
theorem ok_clock_isDrift : Ok Try.prog 104 con_clock_isDrift := by
 refine Ok.fn (ann := ann_clock_isDrift) mixed tabOK VS14 ValidIt.no (fn := Try.f104) (by kernel_rfl) (by kernel_rfl) fit_clock_isDrift fun args r pre fresh h hp => ?_
 unfold con_clock_isDrift at h
 split at h
 ·rename_i n
  cases h
  refine ⟨rfl, fun _ _ _ => False, _, LeA.refl _, Nat.le_of_ble_eq_true (by kernel_rfl), ?_, ?_⟩
  ·rw [ev_clock_isDrift]; exact spec_clock_isDrift n
  ·rw [lp_clock_isDrift]; trivial
 ·cases h
def S15 : Sum := addS S14 104 con_clock_isDrift
theorem VS15 : Valid Try.prog S15 := Valid.add VS14 ok_clock_isDrift
def vc_clock_slack (d : Int) (n : Int) (post : DV → Prop) : Prop := lt (IntKind.i64.wrap ((0 : Int) - n)) fun x1 => lt ((if x1 > n then x1 else n)) fun x2 => lt (IntKind.i64.wrap (x2 * d)) fun x3 => (0 < (1000000 : Int) ∧ -4000000000000000 ≤ x3 ∧ x3 ≤ 4000000000000000) ∧ (post (.t (.c (.v (.int .i64 (-((-x3) / (1000000 : Int))))))))
def ann_clock_slack : Ann := ⟨fun _ => none, fun _ => none, fun _ => [], noIt, false, fun _ => none, fun _ => none⟩
theorem ev_clock_slack (J : Inv) (d : Int) (n : Int) (post : DV → Prop) : evFn Try.prog tab S15 ann_clock_slack J Try.f105 [.t (.c (.v (.int .i64 d))), .t (.c (.v (.int .i64 n)))] post = vc_clock_slack d n post := by kernel_rfl
theorem fit_clock_slack : okFn ann_clock_slack Try.f105 = true := by kernel_rfl
theorem lp_clock_slack (J : Inv) (post : DV → Prop) : AllG J (loopsFn Try.prog tab S15 ann_clock_slack J Try.f105 post) = (True) := by kernel_rfl
theorem spec_clock_slack (d : Int) (n : Int) (hp : 0 ≤ d ∧ d ≤ 1000 ∧ -4000000000000 ≤ n ∧ n ≤ 4000000000000) : vc_clock_slack d n (fun r => LeD r (.t (.c (.v (.int .i64 (slackI d n)))))) := by
 unfold vc_clock_slack
 obtain ⟨d1, d2, n1, n2⟩ := hp
 have s := slack_rg (d := d) (n := n) ⟨d1, d2⟩ ⟨n1, n2⟩
 refine lt_i fun x1 g1 => lt_i fun x2 g2 => lt_i fun x3 g3 => ?_
 rw [wi (by omega)] at g1
 have e : x2 = (n.natAbs : Int) := by split at g2 <;> omega
 rw [e, wi (by omega)] at g3
 exact ⟨by omega, leI (by rw [← g3]; rfl)⟩
def con_clock_slack : Con := fun args => match args with
 | [.t (.c (.v (.int .i64 d))), .t (.c (.v (.int .i64 n)))] => some (.t (.c (.v (.int .i64 (slackI d n)))), some (0 ≤ d ∧ d ≤ 1000 ∧ -4000000000000 ≤ n ∧ n ≤ 4000000000000), false)
 | _ => none
theorem ok_clock_slack : Ok Try.prog 105 con_clock_slack := by
 refine Ok.fn (ann := ann_clock_slack) mixed tabOK VS15 ValidIt.no (fn := Try.f105) (by kernel_rfl) (by kernel_rfl) fit_clock_slack fun args r pre fresh h hp => ?_
 unfold con_clock_slack at h
 split at h
 ·rename_i d n
  cases h
  refine ⟨rfl, fun _ _ _ => False, _, LeA.refl _, Nat.le_of_ble_eq_true (by kernel_rfl), ?_, ?_⟩
  ·rw [ev_clock_slack]; exact spec_clock_slack d n hp
  ·rw [lp_clock_slack]; trivial
 ·cases h
def S16 : Sum := addS S15 105 con_clock_slack
theorem VS16 : Valid Try.prog S16 := Valid.add VS15 ok_clock_slack
def S17 : Sum := S16
theorem VS17 : Valid Try.prog S17 := VS16
def S18 : Sum := S17
theorem VS18 : Valid Try.prog S18 := VS17
def vc_clock_cableErr (c0 c1 : Int) (post : DV → Prop) : Prop := cond (inB c0 0 1000) (post (.t (.c (.v (.int .i64 (unl (inB c1 (0 : Int) (1000000 : Int)) (2 : Int))))))) ((false = false) ∧ (post (.t (.c (.v (.int .i64 (unl false (2 : Int))))))))
def ann_clock_cableErr : Ann := ⟨fun _ => none, fun _ => none, fun _ => [], noIt, false, fun _ => none, fun _ => none⟩
theorem ev_clock_cableErr (J : Inv) (c0 c1 : Int) (post : DV → Prop) : evFn Try.prog tab S18 ann_clock_cableErr J Try.f99 [.t (.a [.v (.int .i64 c0), .v (.int .i64 c1)])] post = vc_clock_cableErr c0 c1 post := by kernel_rfl
theorem fit_clock_cableErr : okFn ann_clock_cableErr Try.f99 = true := by kernel_rfl
theorem lp_clock_cableErr (J : Inv) (post : DV → Prop) : AllG J (loopsFn Try.prog tab S18 ann_clock_cableErr J Try.f99 post) = (True) := by kernel_rfl
theorem spec_clock_cableErr (c0 c1 : Int) : vc_clock_cableErr c0 c1 (fun r => LeD r (.t (.c (.v (.int .i64 (cabE (⟨c0, c1⟩ : Cab))))))) := by
 unfold vc_clock_cableErr
 repeat' with_reducible first | (refine cond_i (fun h => ?_) (fun h => ?_)) | (refine And.intro ?_ ?_)
 all_goals first | rfl | (exact numsP_gen [_, _]) | (exact Nat.le_of_ble_eq_true rfl) | (refine leI ?_)
 all_goals (try simp_all [cabE, unl, firstNZ])
 all_goals (repeat' split)
 all_goals first | rfl | omega | simp_all
def con_clock_cableErr : Con := fun args => match args with
 | [.t (.a [.v (.int .i64 c0), .v (.int .i64 c1)])] => some (.t (.c (.v (.int .i64 (cabE (⟨c0, c1⟩ : Cab))))), none, false)
 | _ => none
theorem ok_clock_cableErr : Ok Try.prog 99 con_clock_cableErr := by
 refine Ok.fn (ann := ann_clock_cableErr) mixed tabOK VS18 ValidIt.no (fn := Try.f99) (by kernel_rfl) (by kernel_rfl) fit_clock_cableErr fun args r pre fresh h hp => ?_
 unfold con_clock_cableErr at h
 split at h
 ·rename_i c0 c1
  cases h
  refine ⟨rfl, fun _ _ _ => False, _, LeA.refl _, Nat.le_of_ble_eq_true (by kernel_rfl), ?_, ?_⟩
  ·rw [ev_clock_cableErr]; exact spec_clock_cableErr c0 c1
  ·rw [lp_clock_cableErr]; trivial
 ·cases h
def S19 : Sum := addS S18 99 con_clock_cableErr
theorem VS19 : Valid Try.prog S19 := Valid.add VS18 ok_clock_cableErr
def S20 : Sum := S19
theorem VS20 : Valid Try.prog S20 := VS19
def vc_clock_delay (c0 c1 : Int) (p0 p1 p2 p3 : Int) (post : DV → Prop) : Prop := lt (IntKind.i64.wrap (p2 - p1)) fun x1 => (0 ≤ c0 ∧ c0 ≤ 1000 ∧ -4000000000000 ≤ x1 ∧ x1 ≤ 4000000000000) ∧ (lt (IntKind.i64.wrap (p3 - p0)) fun x2 => lt (IntKind.i64.wrap (x2 - x1)) fun x3 => lt (IntKind.i64.wrap (x3 - (slackI c0 x1))) fun x4 => lt (IntKind.i64.wrap (x4 - c1)) fun x5 => (0 < (2 : Int) ∧ -4000000000000000 ≤ x5 ∧ x5 ≤ 4000000000000000) ∧ (lt ((if (x5 / (2 : Int)) > (0 : Int) then (x5 / (2 : Int)) else (0 : Int))) fun x6 => lt (IntKind.i64.wrap (x3 + (slackI c0 x1))) fun x7 => lt (IntKind.i64.wrap (x3 + (slackI c0 x1))) fun x8 => lt (IntKind.i64.wrap (x8 + c1)) fun x9 => (0 < (2 : Int) ∧ -4000000000000000 ≤ x9 ∧ x9 ≤ 4000000000000000) ∧ (lt ((if (-((-x9) / (2 : Int))) < x7 then (-((-x9) / (2 : Int))) else x7)) fun x10 => lt (IntKind.i64.wrap (x3 + (slackI c0 x1))) fun x11 => post (.tu [.a [.v (.int .i64 x6), .v (.int .i64 x10)], .c (.v (.bool (decide (x11 ≥ (0 : Int)))))]))))
def ann_clock_delay : Ann := ⟨fun r => lookA r [(4, ([[], [], [0, 1], [], [3], [0, 1, 2, 3, 4], [0, 1, 2, 3, 4, 5], [0, 1, 2, 3, 4, 5, 6], [], [], [8, 9], [], [], [11, 12], [], [14], [11, 12, 13, 14, 15], [0, 1, 2, 3, 4, 5, 6, 11, 12, 13, 14, 15, 16], [0, 1, 2, 3, 4, 5, 6, 8, 9, 10, 11, 12, 13, 14, 15, 16, 17], [0, 1, 2, 3, 4, 5, 6, 7, 8, 9, 10, 11, 12, 13, 14, 15, 16, 17, 18], [], [], [20, 21], [20, 21, 22], [0, 1, 2, 3, 4, 5, 6, 7, 8, 9, 10, 11, 12, 13, 14, 15, 16, 17, 18, 19], [0, 1, 2, 3, 4, 5, 6, 7, 8, 9, 10, 11, 12, 13, 14, 15, 16, 17, 18, 19, 20, 21, 22, 23, 24]], [[31, 42], [31, 42], [31, 42], [31, 42], [31, 42], [31, 42], [42], [42], [31, 42], [31, 42], [31, 42], [31, 42], [31, 42], [31, 42], [31, 42], [31, 42], [31, 42], [], [], [], [31, 42], [31, 42], [31, 42], [31, 42], [], []]))], fun _ => none, fun _ => [], noIt, false, fun _ => none, fun _ => none⟩
theorem ev_clock_delay (J : Inv) (c0 c1 : Int) (p0 p1 p2 p3 : Int) (post : DV → Prop) : evFn Try.prog tab S20 ann_clock_delay J Try.f106 [.t (.a [.v (.int .i64 c0), .v (.int .i64 c1)]), .t (.a [.v (.int .i64 p0), .v (.int .i64 p1), .v (.int .i64 p2), .v (.int .i64 p3)])] post = vc_clock_delay c0 c1 p0 p1 p2 p3 post := by kernel_rfl
theorem fit_clock_delay : okFn ann_clock_delay Try.f106 = true := by kernel_rfl
theorem lp_clock_delay (J : Inv) (post : DV → Prop) : AllG J (loopsFn Try.prog tab S20 ann_clock_delay J Try.f106 post) = (True) := by kernel_rfl
theorem spec_clock_delay (c0 c1 : Int) (p0 p1 p2 p3 : Int) (hp : delOk (⟨c0, c1⟩ : Cab) (⟨p0, p1, p2, p3⟩ : Png)) : vc_clock_delay c0 c1 p0 p1 p2 p3 (fun r => LeD r (.tu [.a [.v (.int .i64 ((dlR (⟨c0, c1⟩ : Cab) (⟨p0, p1, p2, p3⟩ : Png)).lo)), .v (.int .i64 ((dlR (⟨c0, c1⟩ : Cab) (⟨p0, p1, p2, p3⟩ : Png)).hi))], .c (.v (.bool (canB (⟨c0, c1⟩ : Cab) (⟨p0, p1, p2, p3⟩ : Png))))])) := by
 have r := del_rg hp
 obtain ⟨⟨⟨c1_, c2_⟩, c3_, c4_⟩, ⟨h1, h2, h3⟩, h4, h5, h6⟩ := hp
 simp only at c1_ c2_ c3_ c4_ h1 h2 h3 h4 h5 h6
 obtain ⟨r1, r2, r3⟩ := r
 obtain ⟨u, hu⟩ : ∃ u, u = ((⟨c0, c1⟩ : Cab)).sl (⟨p0, p1, p2, p3⟩ : Png) := ⟨_, rfl⟩
 obtain ⟨t, ht⟩ : ∃ t, t = ((⟨c0, c1⟩ : Cab)).ov (⟨p0, p1, p2, p3⟩ : Png) := ⟨_, rfl⟩
 have hs : slackI c0 (p2 - p1) = u := hu.symm
 have ho : p3 - p0 - (p2 - p1) = t := ht.symm
 have hs' := hu.symm
 have ho' := ht.symm
 rw [← hu] at r1
 rw [← ht] at r2
 unfold vc_clock_delay
 refine lt_i fun x1 g1 => ?_
 rw [wi (by omega)] at g1
 subst g1
 refine ⟨by omega, lt_i fun x2 g2 => lt_i fun x3 g3 => lt_i fun x4 g4 => lt_i fun x5 g5 => ⟨?_, lt_i fun x6 g6 => lt_i fun x7 g7 => lt_i fun x8 g8 => lt_i fun x9 g9 => ⟨?_, lt_i fun x10 g10 => lt_i fun x11 g11 => ?_⟩⟩⟩
 all_goals
  rw [wi (by omega)] at g2
  subst g2
  rw [wi (by omega)] at g3
  subst g3
  rw [hs, ho] at *
  rw [wi (by omega)] at g4
  subst g4
  rw [wi (by omega)] at g5
  subst g5
 ·omega
 all_goals
  rw [wi (by omega)] at g7 g8
  subst g7 g8
  rw [wi (by omega)] at g9
  subst g9
 ·omega
 rw [wi (by omega)] at g11
 subst g11
 rw [mx_if] at g6
 rw [mn_if] at g10
 subst g6 g10
 unfold dlR canB Cab.dlo Cab.dhi
 rw [hs', ho', Int.max_comm, Int.min_comm]
 exact LeD.refl _
def con_clock_delay : Con := fun args => match args with
 | [.t (.a [.v (.int .i64 c0), .v (.int .i64 c1)]), .t (.a [.v (.int .i64 p0), .v (.int .i64 p1), .v (.int .i64 p2), .v (.int .i64 p3)])] => some (.tu [.a [.v (.int .i64 ((dlR (⟨c0, c1⟩ : Cab) (⟨p0, p1, p2, p3⟩ : Png)).lo)), .v (.int .i64 ((dlR (⟨c0, c1⟩ : Cab) (⟨p0, p1, p2, p3⟩ : Png)).hi))], .c (.v (.bool (canB (⟨c0, c1⟩ : Cab) (⟨p0, p1, p2, p3⟩ : Png))))], some (delOk (⟨c0, c1⟩ : Cab) (⟨p0, p1, p2, p3⟩ : Png)), false)
 | _ => none
theorem ok_clock_delay : Ok Try.prog 106 con_clock_delay := by
 refine Ok.fn (ann := ann_clock_delay) mixed tabOK VS20 ValidIt.no (fn := Try.f106) (by kernel_rfl) (by kernel_rfl) fit_clock_delay fun args r pre fresh h hp => ?_
 unfold con_clock_delay at h
 split at h
 ·rename_i c0 c1 p0 p1 p2 p3
  cases h
  refine ⟨rfl, fun _ _ _ => False, _, LeA.refl _, Nat.le_of_ble_eq_true (by kernel_rfl), ?_, ?_⟩
  ·rw [ev_clock_delay]; exact spec_clock_delay c0 c1 p0 p1 p2 p3 hp
  ·rw [lp_clock_delay]; trivial
 ·cases h
def S21 : Sum := addS S20 106 con_clock_delay
theorem VS21 : Valid Try.prog S21 := Valid.add VS20 ok_clock_delay
def S22 : Sum := S21
theorem VS22 : Valid Try.prog S22 := VS21
def S23 : Sum := S22
theorem VS23 : Valid Try.prog S23 := VS22
def vc_clock_plus (r0 r1 : Int) (n : Int) (post : DV → Prop) : Prop := lt (IntKind.i64.wrap (r0 + n)) fun x1 => lt (IntKind.i64.wrap (r1 + n)) fun x2 => post (.t (.a [.v (.int .i64 x1), .v (.int .i64 x2)]))
def ann_clock_plus : Ann := ⟨fun _ => none, fun _ => none, fun _ => [], noIt, false, fun _ => none, fun _ => none⟩
theorem ev_clock_plus (J : Inv) (r0 r1 : Int) (n : Int) (post : DV → Prop) : evFn Try.prog tab S23 ann_clock_plus J Try.f107 [.t (.a [.v (.int .i64 r0), .v (.int .i64 r1)]), .t (.c (.v (.int .i64 n)))] post = vc_clock_plus r0 r1 n post := by kernel_rfl
theorem fit_clock_plus : okFn ann_clock_plus Try.f107 = true := by kernel_rfl
theorem lp_clock_plus (J : Inv) (post : DV → Prop) : AllG J (loopsFn Try.prog tab S23 ann_clock_plus J Try.f107 post) = (True) := by kernel_rfl
theorem spec_clock_plus (r0 r1 : Int) (n : Int) (hp : rgB (⟨r0, r1⟩ : Rg) ∧ -9000000000000 ≤ n ∧ n ≤ 9000000000000) : vc_clock_plus r0 r1 n (fun r => LeD r (.t (.a [.v (.int .i64 (r0 + n)), .v (.int .i64 (r1 + n))]))) := by
 obtain ⟨⟨a1, a2⟩, a3⟩ := hp
 simp only at a1 a2
 unfold vc_clock_plus
 refine lt_i fun x1 g1 => lt_i fun x2 g2 => ?_
 rw [wi (by omega)] at g1 g2
 subst g1 g2
 exact LeD.refl _
def con_clock_plus : Con := fun args => match args with
 | [.t (.a [.v (.int .i64 r0), .v (.int .i64 r1)]), .t (.c (.v (.int .i64 n)))] => some (.t (.a [.v (.int .i64 (r0 + n)), .v (.int .i64 (r1 + n))]), some (rgB (⟨r0, r1⟩ : Rg) ∧ -9000000000000 ≤ n ∧ n ≤ 9000000000000), false)
 | _ => none
theorem ok_clock_plus : Ok Try.prog 107 con_clock_plus := by
 refine Ok.fn (ann := ann_clock_plus) mixed tabOK VS23 ValidIt.no (fn := Try.f107) (by kernel_rfl) (by kernel_rfl) fit_clock_plus fun args r pre fresh h hp => ?_
 unfold con_clock_plus at h
 split at h
 ·rename_i r0 r1 n
  cases h
  refine ⟨rfl, fun _ _ _ => False, _, LeA.refl _, Nat.le_of_ble_eq_true (by kernel_rfl), ?_, ?_⟩
  ·rw [ev_clock_plus]; exact spec_clock_plus r0 r1 n hp
  ·rw [lp_clock_plus]; trivial
 ·cases h
def S24 : Sum := addS S23 107 con_clock_plus
theorem VS24 : Valid Try.prog S24 := Valid.add VS23 ok_clock_plus
def vc_clock_wider (r0 r1 : Int) (n : Int) (post : DV → Prop) : Prop := lt (IntKind.i64.wrap (r0 - n)) fun x1 => lt (IntKind.i64.wrap (r1 + n)) fun x2 => post (.t (.a [.v (.int .i64 x1), .v (.int .i64 x2)]))
def ann_clock_wider : Ann := ⟨fun _ => none, fun _ => none, fun _ => [], noIt, false, fun _ => none, fun _ => none⟩
theorem ev_clock_wider (J : Inv) (r0 r1 : Int) (n : Int) (post : DV → Prop) : evFn Try.prog tab S24 ann_clock_wider J Try.f135 [.t (.a [.v (.int .i64 r0), .v (.int .i64 r1)]), .t (.c (.v (.int .i64 n)))] post = vc_clock_wider r0 r1 n post := by kernel_rfl
theorem fit_clock_wider : okFn ann_clock_wider Try.f135 = true := by kernel_rfl
theorem lp_clock_wider (J : Inv) (post : DV → Prop) : AllG J (loopsFn Try.prog tab S24 ann_clock_wider J Try.f135 post) = (True) := by kernel_rfl
theorem spec_clock_wider (r0 r1 : Int) (n : Int) (hp : rgB (⟨r0, r1⟩ : Rg) ∧ -9000000000000 ≤ n ∧ n ≤ 9000000000000) : vc_clock_wider r0 r1 n (fun r => LeD r (.t (.a [.v (.int .i64 (r0 - n)), .v (.int .i64 (r1 + n))]))) := by
 obtain ⟨⟨a1, a2⟩, a3⟩ := hp
 simp only at a1 a2
 unfold vc_clock_wider
 refine lt_i fun x1 g1 => lt_i fun x2 g2 => ?_
 rw [wi (by omega)] at g1 g2
 subst g1 g2
 exact LeD.refl _
def con_clock_wider : Con := fun args => match args with
 | [.t (.a [.v (.int .i64 r0), .v (.int .i64 r1)]), .t (.c (.v (.int .i64 n)))] => some (.t (.a [.v (.int .i64 (r0 - n)), .v (.int .i64 (r1 + n))]), some (rgB (⟨r0, r1⟩ : Rg) ∧ -9000000000000 ≤ n ∧ n ≤ 9000000000000), false)
 | _ => none
theorem ok_clock_wider : Ok Try.prog 135 con_clock_wider := by
 refine Ok.fn (ann := ann_clock_wider) mixed tabOK VS24 ValidIt.no (fn := Try.f135) (by kernel_rfl) (by kernel_rfl) fit_clock_wider fun args r pre fresh h hp => ?_
 unfold con_clock_wider at h
 split at h
 ·rename_i r0 r1 n
  cases h
  refine ⟨rfl, fun _ _ _ => False, _, LeA.refl _, Nat.le_of_ble_eq_true (by kernel_rfl), ?_, ?_⟩
  ·rw [ev_clock_wider]; exact spec_clock_wider r0 r1 n hp
  ·rw [lp_clock_wider]; trivial
 ·cases h
def S25 : Sum := addS S24 135 con_clock_wider
theorem VS25 : Valid Try.prog S25 := Valid.add VS24 ok_clock_wider
def vc_clock_common (r0 r1 : Int) (q0 q1 : Int) (post : DV → Prop) : Prop := lt ((if q0 > r0 then q0 else r0)) fun x1 => lt ((if q1 < r1 then q1 else r1)) fun x2 => post (.t (.a [.v (.int .i64 x1), .v (.int .i64 x2)]))
def ann_clock_common : Ann := ⟨fun _ => none, fun _ => none, fun _ => [], noIt, false, fun _ => none, fun _ => none⟩
theorem ev_clock_common (J : Inv) (r0 r1 : Int) (q0 q1 : Int) (post : DV → Prop) : evFn Try.prog tab S25 ann_clock_common J Try.f129 [.t (.a [.v (.int .i64 r0), .v (.int .i64 r1)]), .t (.a [.v (.int .i64 q0), .v (.int .i64 q1)])] post = vc_clock_common r0 r1 q0 q1 post := by kernel_rfl
theorem fit_clock_common : okFn ann_clock_common Try.f129 = true := by kernel_rfl
theorem lp_clock_common (J : Inv) (post : DV → Prop) : AllG J (loopsFn Try.prog tab S25 ann_clock_common J Try.f129 post) = (True) := by kernel_rfl
theorem spec_clock_common (r0 r1 : Int) (q0 q1 : Int) : vc_clock_common r0 r1 q0 q1 (fun r => LeD r (.t (.a [.v (.int .i64 ((meetR (⟨r0, r1⟩ : Rg) (⟨q0, q1⟩ : Rg)).lo)), .v (.int .i64 ((meetR (⟨r0, r1⟩ : Rg) (⟨q0, q1⟩ : Rg)).hi))]))) := by
 unfold vc_clock_common
 refine lt_i fun x1 g1 => lt_i fun x2 g2 => ?_
 rw [mx_if] at g1
 rw [mn_if] at g2
 subst g1 g2
 exact LeD.refl _
def con_clock_common : Con := fun args => match args with
 | [.t (.a [.v (.int .i64 r0), .v (.int .i64 r1)]), .t (.a [.v (.int .i64 q0), .v (.int .i64 q1)])] => some (.t (.a [.v (.int .i64 ((meetR (⟨r0, r1⟩ : Rg) (⟨q0, q1⟩ : Rg)).lo)), .v (.int .i64 ((meetR (⟨r0, r1⟩ : Rg) (⟨q0, q1⟩ : Rg)).hi))]), none, false)
 | _ => none
theorem ok_clock_common : Ok Try.prog 129 con_clock_common := by
 refine Ok.fn (ann := ann_clock_common) mixed tabOK VS25 ValidIt.no (fn := Try.f129) (by kernel_rfl) (by kernel_rfl) fit_clock_common fun args r pre fresh h hp => ?_
 unfold con_clock_common at h
 split at h
 ·rename_i r0 r1 q0 q1
  cases h
  refine ⟨rfl, fun _ _ _ => False, _, LeA.refl _, Nat.le_of_ble_eq_true (by kernel_rfl), ?_, ?_⟩
  ·rw [ev_clock_common]; exact spec_clock_common r0 r1 q0 q1
  ·rw [lp_clock_common]; trivial
 ·cases h
def S26 : Sum := addS S25 129 con_clock_common
theorem VS26 : Valid Try.prog S26 := Valid.add VS25 ok_clock_common
def S27 : Sum := S26
theorem VS27 : Valid Try.prog S27 := VS26
def S28 : Sum := S27
theorem VS28 : Valid Try.prog S28 := VS27
def S29 : Sum := S28
theorem VS29 : Valid Try.prog S29 := VS28
end Go.Proofs.Ytkifmfmenobhnaa