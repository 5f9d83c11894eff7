/- Texts of this claim, together. -/
import Derived.Test.YtkifmfmenobhnaaCR11
import Derived.Test.YtkifmfmenobhnaaCR5
import Derived.ProofKit
import Derived.OpenShut
import Derived.ShutString
import Derived.ChangeOld
import Derived.Below
import Derived.Lib.SmallJoins

set_option linter.unusedVariables false
set_option linter.unusedSimpArgs false
namespace Go.Proofs.Ytkifmfmenobhnaa
open Go.RowKit Ev
theorem n00 : (((0 : Nat) : Int)) = 0 := rfl
theorem lt_v {α : Type} (v : α) (k : α → Prop) : lt v k = k v := by unfold lt; rfl
theorem sl_cases (d n : Int) : (inB d 0 1000 = true ∧ inB n (-1000000000000) 1000000000000 = true ∧ slE d n = 0 ∧ slV d n = slackI d n) ∨ (inB d 0 1000 = false ∧ slE d n = 2 ∧ slV d n = 0) ∨ (inB d 0 1000 = true ∧ inB n (-1000000000000) 1000000000000 = false ∧ slE d n = 2 ∧ slV d n = 0) := by
 unfold slE slV
 cases a : inB d 0 1000 <;> cases b : inB n (-1000000000000) 1000000000000 <;> simp
theorem dl_cases (c : Cab) (p : Png) : ((cabE c == 0) = false ∧ (cabE c != 0) = true ∧ dlE c p = cabE c ∧ dlV c p = ⟨0, 0⟩ ∧ tmV c p = ⟨0, 0⟩) ∨ (cabE c = 0 ∧ (pngE p == 0) = false ∧ (pngE p != 0) = true ∧ dlE c p = pngE p ∧ (dlV c p = ⟨0, 0⟩ ∧ tmV c p = ⟨0, 0⟩)) ∨
  (cabE c = 0 ∧ pngE p = 0 ∧ canB c p = false ∧ dlE c p = 13 ∧ dlV c p = ⟨0, 0⟩ ∧ tmV c p = ⟨0, 0⟩ ∧ delOk c p) ∨ (cabE c = 0 ∧ pngE p = 0 ∧ canB c p = true ∧ dlE c p = 0 ∧ dlV c p = dlK c p ∧ tmV c p = tmK c p ∧ True ∧ delOk c p) := by
 by_cases h1 : cabE c = 0
 ·by_cases h2 : pngE p = 0
  ·have h : cpE c p = 0 := by unfold cpE; rw [h1, h2]; rfl
   have e : dlE c p = unl (canB c p) 13 := if_pos h
   cases h3 : canB c p with
   | false =>
    have e1 : dlE c p = 13 := by rw [e, h3]; rfl
    exact Or.inr (Or.inr (Or.inl ⟨h1, h2, rfl, e1, if_neg (by rw [e1]; decide), if_neg (by rw [e1]; decide), cpE_0.1 h⟩))
   | true =>
    have e1 : dlE c p = 0 := by rw [e, h3]; rfl
    exact Or.inr (Or.inr (Or.inr ⟨h1, h2, rfl, e1, (if_pos e1).trans (if_pos h3).symm, (if_pos e1).trans (if_pos h3).symm, trivial, cpE_0.1 h⟩))
  ·have h : cpE c p = pngE p := by unfold cpE; rw [h1]; by_cases q : pngE p = 0 <;> simp [firstNZ, q]
   have e : dlE c p = pngE p := (if_neg (by rw [h]; exact h2)).trans h
   exact Or.inr (Or.inl ⟨h1, by simpa using h2, by simpa using h2, e, if_neg (by rw [e]; exact h2), if_neg (by rw [e]; exact h2)⟩)
 ·have h : cpE c p = cabE c := by unfold cpE; simp [firstNZ, h1]
  have e : dlE c p = cabE c := (if_neg (by rw [h]; exact h1)).trans h
  exact Or.inl ⟨by simpa using h1, by simpa using h1, e, if_neg (by rw [e]; exact h1), if_neg (by rw [e]; exact h1)⟩
def vc_law01_ClockPings (c0 c1 : Int) (p0 p1 p2 p3 : Int) (ct : Int) (post : DV → Prop) : Prop := cond ((pngE (⟨p0, p1, p2, p3⟩ : Png)) != (pngE (⟨p0, p1, p2, p3⟩ : Png))) (post (.t (.c (.v (.bool false))))) (cond (inB c0 (0 : Int) (1000 : Int)) (cond (inB ct (-1000000000000 : Int) (1000000000000 : Int)) (cond ((slE c0 ct) != (0 : Int)) ((true = true) ∧ ((true = true) ∧ (post (.t (.c (.v (.bool false))))))) ((0 ≤ c0 ∧ c0 ≤ 1000 ∧ -4000000000000 ≤ ct ∧ ct ≤ 4000000000000) ∧ (cond ((slV c0 ct) != (slackI c0 ct)) ((true = true) ∧ (post (.t (.c (.v (.bool false)))))) (cond (!(inB ct (-1000000000000 : Int) (1000000000000 : Int))) (cond ((slE c0 ct) != (2 : Int)) ((true = true) ∧ (post (.t (.c (.v (.bool false)))))) (cond ((slV c0 ct) != (0 : Int)) (post (.t (.c (.v (.bool false))))) (cond ((cabE (⟨c0, c1⟩ : Cab)) == (0 : Int)) (cond ((pngE (⟨p0, p1, p2, p3⟩ : Png)) == (0 : Int)) ((delOk (⟨c0, c1⟩ : Cab) (⟨p0, p1, p2, p3⟩ : Png)) ∧ (cond (!(canB (⟨c0, c1⟩ : Cab) (⟨p0, p1, p2, p3⟩ : Png))) (cond ((dlE (⟨c0, c1⟩ : Cab) (⟨p0, p1, p2, p3⟩ : Png)) == (13 : Int)) (cond ((dlE (⟨c0, c1⟩ : Cab) (⟨p0, p1, p2, p3⟩ : Png)) == (13 : Int)) (cond (bif (((dlV (⟨c0, c1⟩ : Cab) (⟨p0, p1, p2, p3⟩ : Png)).lo) == (0 : Int)) then (bif (((dlV (⟨c0, c1⟩ : Cab) (⟨p0, p1, p2, p3⟩ : Png)).hi) == (0 : Int)) then true else false) else false) (post (.t (.c (.v (.bool (bif (((tmV (⟨c0, c1⟩ : Cab) (⟨p0, p1, p2, p3⟩ : Png)).lo) == (0 : Int)) then (bif (((tmV (⟨c0, c1⟩ : Cab) (⟨p0, p1, p2, p3⟩ : Png)).hi) == (0 : Int)) then true else false) else false)))))) ((false = false) ∧ (post (.t (.c (.v (.bool false))))))) ((false = false) ∧ ((false = false) ∧ (post (.t (.c (.v (.bool false)))))))) ((false = false) ∧ ((false = false) ∧ ((false = false) ∧ (post (.t (.c (.v (.bool false))))))))) (cond ((pngE (⟨p0, p1, p2, p3⟩ : Png)) != (0 : Int)) (cond ((dlE (⟨c0, c1⟩ : Cab) (⟨p0, p1, p2, p3⟩ : Png)) == (pngE (⟨p0, p1, p2, p3⟩ : Png))) (cond ((dlE (⟨c0, c1⟩ : Cab) (⟨p0, p1, p2, p3⟩ : Png)) == (pngE (⟨p0, p1, p2, p3⟩ : Png))) (cond (bif (((dlV (⟨c0, c1⟩ : Cab) (⟨p0, p1, p2, p3⟩ : Png)).lo) == (0 : Int)) then (bif (((dlV (⟨c0, c1⟩ : Cab) (⟨p0, p1, p2, p3⟩ : Png)).hi) == (0 : Int)) then true else false) else false) (post (.t (.c (.v (.bool (bif (((tmV (⟨c0, c1⟩ : Cab) (⟨p0, p1, p2, p3⟩ : Png)).lo) == (0 : Int)) then (bif (((tmV (⟨c0, c1⟩ : Cab) (⟨p0, p1, p2, p3⟩ : Png)).hi) == (0 : Int)) then true else false) else false)))))) ((false = false) ∧ (post (.t (.c (.v (.bool false))))))) ((false = false) ∧ ((false = false) ∧ (post (.t (.c (.v (.bool false)))))))) ((false = false) ∧ ((false = false) ∧ ((false = false) ∧ (post (.t (.c (.v (.bool false))))))))) ((delOk (⟨c0, c1⟩ : Cab) (⟨p0, p1, p2, p3⟩ : Png)) ∧ ((delOk (⟨c0, c1⟩ : Cab) (⟨p0, p1, p2, p3⟩ : Png)) ∧ (cond ((dlE (⟨c0, c1⟩ : Cab) (⟨p0, p1, p2, p3⟩ : Png)) == (0 : Int)) (cond (bif (((dlV (⟨c0, c1⟩ : Cab) (⟨p0, p1, p2, p3⟩ : Png)).lo) == ((dlK (⟨c0, c1⟩ : Cab) (⟨p0, p1, p2, p3⟩ : Png)).lo)) then (bif (((dlV (⟨c0, c1⟩ : Cab) (⟨p0, p1, p2, p3⟩ : Png)).hi) == ((dlK (⟨c0, c1⟩ : Cab) (⟨p0, p1, p2, p3⟩ : Png)).hi)) then true else false) else false) (cond ((dlE (⟨c0, c1⟩ : Cab) (⟨p0, p1, p2, p3⟩ : Png)) == (0 : Int)) (post (.t (.c (.v (.bool (bif (((tmV (⟨c0, c1⟩ : Cab) (⟨p0, p1, p2, p3⟩ : Png)).lo) == ((tmK (⟨c0, c1⟩ : Cab) (⟨p0, p1, p2, p3⟩ : Png)).lo)) then (bif (((tmV (⟨c0, c1⟩ : Cab) (⟨p0, p1, p2, p3⟩ : Png)).hi) == ((tmK (⟨c0, c1⟩ : Cab) (⟨p0, p1, p2, p3⟩ : Png)).hi)) then true else false) else false)))))) ((false = false) ∧ (post (.t (.c (.v (.bool false))))))) ((false = false) ∧ ((false = false) ∧ (post (.t (.c (.v (.bool false)))))))) ((false = false) ∧ ((false = false) ∧ ((false = false) ∧ (post (.t (.c (.v (.bool false)))))))))))))) (cond ((pngE (⟨p0, p1, p2, p3⟩ : Png)) != (0 : Int)) (cond ((dlE (⟨c0, c1⟩ : Cab) (⟨p0, p1, p2, p3⟩ : Png)) == (pngE (⟨p0, p1, p2, p3⟩ : Png))) (cond ((dlE (⟨c0, c1⟩ : Cab) (⟨p0, p1, p2, p3⟩ : Png)) == (pngE (⟨p0, p1, p2, p3⟩ : Png))) (cond (bif (((dlV (⟨c0, c1⟩ : Cab) (⟨p0, p1, p2, p3⟩ : Png)).lo) == (0 : Int)) then (bif (((dlV (⟨c0, c1⟩ : Cab) (⟨p0, p1, p2, p3⟩ : Png)).hi) == (0 : Int)) then true else false) else false) (post (.t (.c (.v (.bool (bif (((tmV (⟨c0, c1⟩ : Cab) (⟨p0, p1, p2, p3⟩ : Png)).lo) == (0 : Int)) then (bif (((tmV (⟨c0, c1⟩ : Cab) (⟨p0, p1, p2, p3⟩ : Png)).hi) == (0 : Int)) then true else false) else false)))))) ((false = false) ∧ (post (.t (.c (.v (.bool false))))))) ((false = false) ∧ ((false = false) ∧ (post (.t (.c (.v (.bool false)))))))) ((false = false) ∧ ((false = false) ∧ ((false = false) ∧ (post (.t (.c (.v (.bool false))))))))) ((delOk (⟨c0, c1⟩ : Cab) (⟨p0, p1, p2, p3⟩ : Png)) ∧ ((delOk (⟨c0, c1⟩ : Cab) (⟨p0, p1, p2, p3⟩ : Png)) ∧ (cond ((dlE (⟨c0, c1⟩ : Cab) (⟨p0, p1, p2, p3⟩ : Png)) == (0 : Int)) (cond (bif (((dlV (⟨c0, c1⟩ : Cab) (⟨p0, p1, p2, p3⟩ : Png)).lo) == ((dlK (⟨c0, c1⟩ : Cab) (⟨p0, p1, p2, p3⟩ : Png)).lo)) then (bif (((dlV (⟨c0, c1⟩ : Cab) (⟨p0, p1, p2, p3⟩ : Png)).hi) == ((dlK (⟨c0, c1⟩ : Cab) (⟨p0, p1, p2, p3⟩ : Png)).hi)) then true else false) else false) (cond ((dlE (⟨c0, c1⟩ : Cab) (⟨p0, p1, p2, p3⟩ : Png)) == (0 : Int)) (post (.t (.c (.v (.bool (bif (((tmV (⟨c0, c1⟩ : Cab) (⟨p0, p1, p2, p3⟩ : Png)).lo) == ((tmK (⟨c0, c1⟩ : Cab) (⟨p0, p1, p2, p3⟩ : Png)).lo)) then (bif (((tmV (⟨c0, c1⟩ : Cab) (⟨p0, p1, p2, p3⟩ : Png)).hi) == ((tmK (⟨c0, c1⟩ : Cab) (⟨p0, p1, p2, p3⟩ : Png)).hi)) then true else false) else false)))))) ((false = false) ∧ (post (.t (.c (.v (.bool false))))))) ((false = false) ∧ ((false = false) ∧ (post (.t (.c (.v (.bool false)))))))) ((false = false) ∧ ((false = false) ∧ ((false = false) ∧ (post (.t (.c (.v (.bool false))))))))))))) (cond ((cabE (⟨c0, c1⟩ : Cab)) == (0 : Int)) ((delOk (⟨c0, c1⟩ : Cab) (⟨p0, p1, p2, p3⟩ : Png)) ∧ (cond (!(canB (⟨c0, c1⟩ : Cab) (⟨p0, p1, p2, p3⟩ : Png))) (cond ((dlE (⟨c0, c1⟩ : Cab) (⟨p0, p1, p2, p3⟩ : Png)) == (13 : Int)) (cond ((dlE (⟨c0, c1⟩ : Cab) (⟨p0, p1, p2, p3⟩ : Png)) == (13 : Int)) (cond (bif (((dlV (⟨c0, c1⟩ : Cab) (⟨p0, p1, p2, p3⟩ : Png)).lo) == (0 : Int)) then (bif (((dlV (⟨c0, c1⟩ : Cab) (⟨p0, p1, p2, p3⟩ : Png)).hi) == (0 : Int)) then true else false) else false) (post (.t (.c (.v (.bool (bif (((tmV (⟨c0, c1⟩ : Cab) (⟨p0, p1, p2, p3⟩ : Png)).lo) == (0 : Int)) then (bif (((tmV (⟨c0, c1⟩ : Cab) (⟨p0, p1, p2, p3⟩ : Png)).hi) == (0 : Int)) then true else false) else false)))))) ((false = false) ∧ (post (.t (.c (.v (.bool false))))))) ((false = false) ∧ ((false = false) ∧ (post (.t (.c (.v (.bool false)))))))) ((false = false) ∧ ((false = false) ∧ ((false = false) ∧ (post (.t (.c (.v (.bool false))))))))) (cond ((cabE (⟨c0, c1⟩ : Cab)) != (0 : Int)) (cond ((dlE (⟨c0, c1⟩ : Cab) (⟨p0, p1, p2, p3⟩ : Png)) == (cabE (⟨c0, c1⟩ : Cab))) (cond ((dlE (⟨c0, c1⟩ : Cab) (⟨p0, p1, p2, p3⟩ : Png)) == (cabE (⟨c0, c1⟩ : Cab))) (cond (bif (((dlV (⟨c0, c1⟩ : Cab) (⟨p0, p1, p2, p3⟩ : Png)).lo) == (0 : Int)) then (bif (((dlV (⟨c0, c1⟩ : Cab) (⟨p0, p1, p2, p3⟩ : Png)).hi) == (0 : Int)) then true else false) else false) (post (.t (.c (.v (.bool (bif (((tmV (⟨c0, c1⟩ : Cab) (⟨p0, p1, p2, p3⟩ : Png)).lo) == (0 : Int)) then (bif (((tmV (⟨c0, c1⟩ : Cab) (⟨p0, p1, p2, p3⟩ : Png)).hi) == (0 : Int)) then true else false) else false)))))) ((false = false) ∧ (post (.t (.c (.v (.bool false))))))) ((false = false) ∧ ((false = false) ∧ (post (.t (.c (.v (.bool false)))))))) ((false = false) ∧ ((false = false) ∧ ((false = false) ∧ (post (.t (.c (.v (.bool false))))))))) ((delOk (⟨c0, c1⟩ : Cab) (⟨p0, p1, p2, p3⟩ : Png)) ∧ ((delOk (⟨c0, c1⟩ : Cab) (⟨p0, p1, p2, p3⟩ : Png)) ∧ (cond ((dlE (⟨c0, c1⟩ : Cab) (⟨p0, p1, p2, p3⟩ : Png)) == (0 : Int)) (cond (bif (((dlV (⟨c0, c1⟩ : Cab) (⟨p0, p1, p2, p3⟩ : Png)).lo) == ((dlK (⟨c0, c1⟩ : Cab) (⟨p0, p1, p2, p3⟩ : Png)).lo)) then (bif (((dlV (⟨c0, c1⟩ : Cab) (⟨p0, p1, p2, p3⟩ : Png)).hi) == ((dlK (⟨c0, c1⟩ : Cab) (⟨p0, p1, p2, p3⟩ : Png)).hi)) then true else false) else false) (cond ((dlE (⟨c0, c1⟩ : Cab) (⟨p0, p1, p2, p3⟩ : Png)) == (0 : Int)) (post (.t (.c (.v (.bool (bif (((tmV (⟨c0, c1⟩ : Cab) (⟨p0, p1, p2, p3⟩ : Png)).lo) == ((tmK (⟨c0, c1⟩ : Cab) (⟨p0, p1, p2, p3⟩ : Png)).lo)) then (bif (((tmV (⟨c0, c1⟩ : Cab) (⟨p0, p1, p2, p3⟩ : Png)).hi) == ((tmK (⟨c0, c1⟩ : Cab) (⟨p0, p1, p2, p3⟩ : Png)).hi)) then true else false) else false)))))) ((false = false) ∧ (post (.t (.c (.v (.bool false))))))) ((false = false) ∧ ((false = false) ∧ (post (.t (.c (.v (.bool false)))))))) ((false = false) ∧ ((false = false) ∧ ((false = false) ∧ (post (.t (.c (.v (.bool false)))))))))))))) (cond ((cabE (⟨c0, c1⟩ : Cab)) != (0 : Int)) (cond ((dlE (⟨c0, c1⟩ : Cab) (⟨p0, p1, p2, p3⟩ : Png)) == (cabE (⟨c0, c1⟩ : Cab))) (cond ((dlE (⟨c0, c1⟩ : Cab) (⟨p0, p1, p2, p3⟩ : Png)) == (cabE (⟨c0, c1⟩ : Cab))) (cond (bif (((dlV (⟨c0, c1⟩ : Cab) (⟨p0, p1, p2, p3⟩ : Png)).lo) == (0 : Int)) then (bif (((dlV (⟨c0, c1⟩ : Cab) (⟨p0, p1, p2, p3⟩ : Png)).hi) == (0 : Int)) then true else false) else false) (post (.t (.c (.v (.bool (bif (((tmV (⟨c0, c1⟩ : Cab) (⟨p0, p1, p2, p3⟩ : Png)).lo) == (0 : Int)) then (bif (((tmV (⟨c0, c1⟩ : Cab) (⟨p0, p1, p2, p3⟩ : Png)).hi) == (0 : Int)) then true else false) else false)))))) ((false = false) ∧ (post (.t (.c (.v (.bool false))))))) ((false = false) ∧ ((false = false) ∧ (post (.t (.c (.v (.bool false)))))))) ((false = false) ∧ ((false = false) ∧ ((false = false) ∧ (post (.t (.c (.v (.bool false))))))))) ((delOk (⟨c0, c1⟩ : Cab) (⟨p0, p1, p2, p3⟩ : Png)) ∧ ((delOk (⟨c0, c1⟩ : Cab) (⟨p0, p1, p2, p3⟩ : Png)) ∧ (cond ((dlE (⟨c0, c1⟩ : Cab) (⟨p0, p1, p2, p3⟩ : Png)) == (0 : Int)) (cond (bif (((dlV (⟨c0, c1⟩ : Cab) (⟨p0, p1, p2, p3⟩ : Png)).lo) == ((dlK (⟨c0, c1⟩ : Cab) (⟨p0, p1, p2, p3⟩ : Png)).lo)) then (bif (((dlV (⟨c0, c1⟩ : Cab) (⟨p0, p1, p2, p3⟩ : Png)).hi) == ((dlK (⟨c0, c1⟩ : Cab) (⟨p0, p1, p2, p3⟩ : Png)).hi)) then true else false) else false) (cond ((dlE (⟨c0, c1⟩ : Cab) (⟨p0, p1, p2, p3⟩ : Png)) == (0 : Int)) (post (.t (.c (.v (.bool (bif (((tmV (⟨c0, c1⟩ : Cab) (⟨p0, p1, p2, p3⟩ : Png)).lo) == ((tmK (⟨c0, c1⟩ : Cab) (⟨p0, p1, p2, p3⟩ : Png)).lo)) then (bif (((tmV (⟨c0, c1⟩ : Cab) (⟨p0, p1, p2, p3⟩ : Png)).hi) == ((tmK (⟨c0, c1⟩ : Cab) (⟨p0, p1, p2, p3⟩ : Png)).hi)) then true else false) else false)))))) ((false = false) ∧ (post (.t (.c (.v (.bool false))))))) ((false = false) ∧ ((false = false) ∧ (post (.t (.c (.v (.bool false)))))))) ((false = false) ∧ ((false = false) ∧ ((false = false) ∧ (post (.t (.c (.v (.bool false)))))))))))))))) ((false = false) ∧ (cond ((cabE (⟨c0, c1⟩ : Cab)) == (0 : Int)) (cond ((pngE (⟨p0, p1, p2, p3⟩ : Png)) == (0 : Int)) ((delOk (⟨c0, c1⟩ : Cab) (⟨p0, p1, p2, p3⟩ : Png)) ∧ (cond (!(canB (⟨c0, c1⟩ : Cab) (⟨p0, p1, p2, p3⟩ : Png))) (cond ((dlE (⟨c0, c1⟩ : Cab) (⟨p0, p1, p2, p3⟩ : Png)) == (13 : Int)) (cond ((dlE (⟨c0, c1⟩ : Cab) (⟨p0, p1, p2, p3⟩ : Png)) == (13 : Int)) (cond (bif (((dlV (⟨c0, c1⟩ : Cab) (⟨p0, p1, p2, p3⟩ : Png)).lo) == (0 : Int)) then (bif (((dlV (⟨c0, c1⟩ : Cab) (⟨p0, p1, p2, p3⟩ : Png)).hi) == (0 : Int)) then true else false) else false) (post (.t (.c (.v (.bool (bif (((tmV (⟨c0, c1⟩ : Cab) (⟨p0, p1, p2, p3⟩ : Png)).lo) == (0 : Int)) then (bif (((tmV (⟨c0, c1⟩ : Cab) (⟨p0, p1, p2, p3⟩ : Png)).hi) == (0 : Int)) then true else false) else false)))))) ((false = false) ∧ (post (.t (.c (.v (.bool false))))))) ((false = false) ∧ ((false = false) ∧ (post (.t (.c (.v (.bool false)))))))) ((false = false) ∧ ((false = false) ∧ ((false = false) ∧ (post (.t (.c (.v (.bool false))))))))) (cond ((pngE (⟨p0, p1, p2, p3⟩ : Png)) != (0 : Int)) (cond ((dlE (⟨c0, c1⟩ : Cab) (⟨p0, p1, p2, p3⟩ : Png)) == (pngE (⟨p0, p1, p2, p3⟩ : Png))) (cond ((dlE (⟨c0, c1⟩ : Cab) (⟨p0, p1, p2, p3⟩ : Png)) == (pngE (⟨p0, p1, p2, p3⟩ : Png))) (cond (bif (((dlV (⟨c0, c1⟩ : Cab) (⟨p0, p1, p2, p3⟩ : Png)).lo) == (0 : Int)) then (bif (((dlV (⟨c0, c1⟩ : Cab) (⟨p0, p1, p2, p3⟩ : Png)).hi) == (0 : Int)) then true else false) else false) (post (.t (.c (.v (.bool (bif (((tmV (⟨c0, c1⟩ : Cab) (⟨p0, p1, p2, p3⟩ : Png)).lo) == (0 : Int)) then (bif (((tmV (⟨c0, c1⟩ : Cab) (⟨p0, p1, p2, p3⟩ : Png)).hi) == (0 : Int)) then true else false) else false)))))) ((false = false) ∧ (post (.t (.c (.v (.bool false))))))) ((false = false) ∧ ((false = false) ∧ (post (.t (.c (.v (.bool false)))))))) ((false = false) ∧ ((false = false) ∧ ((false = false) ∧ (post (.t (.c (.v (.bool false))))))))) ((delOk (⟨c0, c1⟩ : Cab) (⟨p0, p1, p2, p3⟩ : Png)) ∧ ((delOk (⟨c0, c1⟩ : Cab) (⟨p0, p1, p2, p3⟩ : Png)) ∧ (cond ((dlE (⟨c0, c1⟩ : Cab) (⟨p0, p1, p2, p3⟩ : Png)) == (0 : Int)) (cond (bif (((dlV (⟨c0, c1⟩ : Cab) (⟨p0, p1, p2, p3⟩ : Png)).lo) == ((dlK (⟨c0, c1⟩ : Cab) (⟨p0, p1, p2, p3⟩ : Png)).lo)) then (bif (((dlV (⟨c0, c1⟩ : Cab) (⟨p0, p1, p2, p3⟩ : Png)).hi) == ((dlK (⟨c0, c1⟩ : Cab) (⟨p0, p1, p2, p3⟩ : Png)).hi)) then true else false) else false) (cond ((dlE (⟨c0, c1⟩ : Cab) (⟨p0, p1, p2, p3⟩ : Png)) == (0 : Int)) (post (.t (.c (.v (.bool (bif (((tmV (⟨c0, c1⟩ : Cab) (⟨p0, p1, p2, p3⟩ : Png)).lo) == ((tmK (⟨c0, c1⟩ : Cab) (⟨p0, p1, p2, p3⟩ : Png)).lo)) then (bif (((tmV (⟨c0, c1⟩ : Cab) (⟨p0, p1, p2, p3⟩ : Png)).hi) == ((tmK (⟨c0, c1⟩ : Cab) (⟨p0, p1, p2, p3⟩ : Png)).hi)) then true else false) else false)))))) ((false = false) ∧ (post (.t (.c (.v (.bool false))))))) ((false = false) ∧ ((false = false) ∧ (post (.t (.c (.v (.bool false)))))))) ((false = false) ∧ ((false = false) ∧ ((false = false) ∧ (post (.t (.c (.v (.bool false)))))))))))))) (cond ((pngE (⟨p0, p1, p2, p3⟩ : Png)) != (0 : Int)) (cond ((dlE (⟨c0, c1⟩ : Cab) (⟨p0, p1, p2, p3⟩ : Png)) == (pngE (⟨p0, p1, p2, p3⟩ : Png))) (cond ((dlE (⟨c0, c1⟩ : Cab) (⟨p0, p1, p2, p3⟩ : Png)) == (pngE (⟨p0, p1, p2, p3⟩ : Png))) (cond (bif (((dlV (⟨c0, c1⟩ : Cab) (⟨p0, p1, p2, p3⟩ : Png)).lo) == (0 : Int)) then (bif (((dlV (⟨c0, c1⟩ : Cab) (⟨p0, p1, p2, p3⟩ : Png)).hi) == (0 : Int)) then true else false) else false) (post (.t (.c (.v (.bool (bif (((tmV (⟨c0, c1⟩ : Cab) (⟨p0, p1, p2, p3⟩ : Png)).lo) == (0 : Int)) then (bif (((tmV (⟨c0, c1⟩ : Cab) (⟨p0, p1, p2, p3⟩ : Png)).hi) == (0 : Int)) then true else false) else false)))))) ((false = false) ∧ (post (.t (.c (.v (.bool false))))))) ((false = false) ∧ ((false = false) ∧ (post (.t (.c (.v (.bool false)))))))) ((false = false) ∧ ((false = false) ∧ ((false = false) ∧ (post (.t (.c (.v (.bool false))))))))) ((delOk (⟨c0, c1⟩ : Cab) (⟨p0, p1, p2, p3⟩ : Png)) ∧ ((delOk (⟨c0, c1⟩ : Cab) (⟨p0, p1, p2, p3⟩ : Png)) ∧ (cond ((dlE (⟨c0, c1⟩ : Cab) (⟨p0, p1, p2, p3⟩ : Png)) == (0 : Int)) (cond (bif (((dlV (⟨c0, c1⟩ : Cab) (⟨p0, p1, p2, p3⟩ : Png)).lo) == ((dlK (⟨c0, c1⟩ : Cab) (⟨p0, p1, p2, p3⟩ : Png)).lo)) then (bif (((dlV (⟨c0, c1⟩ : Cab) (⟨p0, p1, p2, p3⟩ : Png)).hi) == ((dlK (⟨c0, c1⟩ : Cab) (⟨p0, p1, p2, p3⟩ : Png)).hi)) then true else false) else false) (cond ((dlE (⟨c0, c1⟩ : Cab) (⟨p0, p1, p2, p3⟩ : Png)) == (0 : Int)) (post (.t (.c (.v (.bool (bif (((tmV (⟨c0, c1⟩ : Cab) (⟨p0, p1, p2, p3⟩ : Png)).lo) == ((tmK (⟨c0, c1⟩ : Cab) (⟨p0, p1, p2, p3⟩ : Png)).lo)) then (bif (((tmV (⟨c0, c1⟩ : Cab) (⟨p0, p1, p2, p3⟩ : Png)).hi) == ((tmK (⟨c0, c1⟩ : Cab) (⟨p0, p1, p2, p3⟩ : Png)).hi)) then true else false) else false)))))) ((false = false) ∧ (post (.t (.c (.v (.bool false))))))) ((false = false) ∧ ((false = false) ∧ (post (.t (.c (.v (.bool false)))))))) ((false = false) ∧ ((false = false) ∧ ((false = false) ∧ (post (.t (.c (.v (.bool false))))))))))))) (cond ((cabE (⟨c0, c1⟩ : Cab)) == (0 : Int)) ((delOk (⟨c0, c1⟩ : Cab) (⟨p0, p1, p2, p3⟩ : Png)) ∧ (cond (!(canB (⟨c0, c1⟩ : Cab) (⟨p0, p1, p2, p3⟩ : Png))) (cond ((dlE (⟨c0, c1⟩ : Cab) (⟨p0, p1, p2, p3⟩ : Png)) == (13 : Int)) (cond ((dlE (⟨c0, c1⟩ : Cab) (⟨p0, p1, p2, p3⟩ : Png)) == (13 : Int)) (cond (bif (((dlV (⟨c0, c1⟩ : Cab) (⟨p0, p1, p2, p3⟩ : Png)).lo) == (0 : Int)) then (bif (((dlV (⟨c0, c1⟩ : Cab) (⟨p0, p1, p2, p3⟩ : Png)).hi) == (0 : Int)) then true else false) else false) (post (.t (.c (.v (.bool (bif (((tmV (⟨c0, c1⟩ : Cab) (⟨p0, p1, p2, p3⟩ : Png)).lo) == (0 : Int)) then (bif (((tmV (⟨c0, c1⟩ : Cab) (⟨p0, p1, p2, p3⟩ : Png)).hi) == (0 : Int)) then true else false) else false)))))) ((false = false) ∧ (post (.t (.c (.v (.bool false))))))) ((false = false) ∧ ((false = false) ∧ (post (.t (.c (.v (.bool false)))))))) ((false = false) ∧ ((false = false) ∧ ((false = false) ∧ (post (.t (.c (.v (.bool false))))))))) (cond ((cabE (⟨c0, c1⟩ : Cab)) != (0 : Int)) (cond ((dlE (⟨c0, c1⟩ : Cab) (⟨p0, p1, p2, p3⟩ : Png)) == (cabE (⟨c0, c1⟩ : Cab))) (cond ((dlE (⟨c0, c1⟩ : Cab) (⟨p0, p1, p2, p3⟩ : Png)) == (cabE (⟨c0, c1⟩ : Cab))) (cond (bif (((dlV (⟨c0, c1⟩ : Cab) (⟨p0, p1, p2, p3⟩ : Png)).lo) == (0 : Int)) then (bif (((dlV (⟨c0, c1⟩ : Cab) (⟨p0, p1, p2, p3⟩ : Png)).hi) == (0 : Int)) then true else false) else false) (post (.t (.c (.v (.bool (bif (((tmV (⟨c0, c1⟩ : Cab) (⟨p0, p1, p2, p3⟩ : Png)).lo) == (0 : Int)) then (bif (((tmV (⟨c0, c1⟩ : Cab) (⟨p0, p1, p2, p3⟩ : Png)).hi) == (0 : Int)) then true else false) else false)))))) ((false = false) ∧ (post (.t (.c (.v (.bool false))))))) ((false = false) ∧ ((false = false) ∧ (post (.t (.c (.v (.bool false)))))))) ((false = false) ∧ ((false = false) ∧ ((false = false) ∧ (post (.t (.c (.v (.bool false))))))))) ((delOk (⟨c0, c1⟩ : Cab) (⟨p0, p1, p2, p3⟩ : Png)) ∧ ((delOk (⟨c0, c1⟩ : Cab) (⟨p0, p1, p2, p3⟩ : Png)) ∧ (cond ((dlE (⟨c0, c1⟩ : Cab) (⟨p0, p1, p2, p3⟩ : Png)) == (0 : Int)) (cond (bif (((dlV (⟨c0, c1⟩ : Cab) (⟨p0, p1, p2, p3⟩ : Png)).lo) == ((dlK (⟨c0, c1⟩ : Cab) (⟨p0, p1, p2, p3⟩ : Png)).lo)) then (bif (((dlV (⟨c0, c1⟩ : Cab) (⟨p0, p1, p2, p3⟩ : Png)).hi) == ((dlK (⟨c0, c1⟩ : Cab) (⟨p0, p1, p2, p3⟩ : Png)).hi)) then true else false) else false) (cond ((dlE (⟨c0, c1⟩ : Cab) (⟨p0, p1, p2, p3⟩ : Png)) == (0 : Int)) (post (.t (.c (.v (.bool (bif (((tmV (⟨c0, c1⟩ : Cab) (⟨p0, p1, p2, p3⟩ : Png)).lo) == ((tmK (⟨c0, c1⟩ : Cab) (⟨p0, p1, p2, p3⟩ : Png)).lo)) then (bif (((tmV (⟨c0, c1⟩ : Cab) (⟨p0, p1, p2, p3⟩ : Png)).hi) == ((tmK (⟨c0, c1⟩ : Cab) (⟨p0, p1, p2, p3⟩ : Png)).hi)) then true else false) else false)))))) ((false = false) ∧ (post (.t (.c (.v (.bool false))))))) ((false = false) ∧ ((false = false) ∧ (post (.t (.c (.v (.bool false)))))))) ((false = false) ∧ ((false = false) ∧ ((false = false) ∧ (post (.t (.c (.v (.bool false)))))))))))))) (cond ((cabE (⟨c0, c1⟩ : Cab)) != (0 : Int)) (cond ((dlE (⟨c0, c1⟩ : Cab) (⟨p0, p1, p2, p3⟩ : Png)) == (cabE (⟨c0, c1⟩ : Cab))) (cond ((dlE (⟨c0, c1⟩ : Cab) (⟨p0, p1, p2, p3⟩ : Png)) == (cabE (⟨c0, c1⟩ : Cab))) (cond (bif (((dlV (⟨c0, c1⟩ : Cab) (⟨p0, p1, p2, p3⟩ : Png)).lo) == (0 : Int)) then (bif (((dlV (⟨c0, c1⟩ : Cab) (⟨p0, p1, p2, p3⟩ : Png)).hi) == (0 : Int)) then true else false) else false) (post (.t (.c (.v (.bool (bif (((tmV (⟨c0, c1⟩ : Cab) (⟨p0, p1, p2, p3⟩ : Png)).lo) == (0 : Int)) then (bif (((tmV (⟨c0, c1⟩ : Cab) (⟨p0, p1, p2, p3⟩ : Png)).hi) == (0 : Int)) then true else false) else false)))))) ((false = false) ∧ (post (.t (.c (.v (.bool false))))))) ((false = false) ∧ ((false = false) ∧ (post (.t (.c (.v (.bool false)))))))) ((false = false) ∧ ((false = false) ∧ ((false = false) ∧ (post (.t (.c (.v (.bool false))))))))) ((delOk (⟨c0, c1⟩ : Cab) (⟨p0, p1, p2, p3⟩ : Png)) ∧ ((delOk (⟨c0, c1⟩ : Cab) (⟨p0, p1, p2, p3⟩ : Png)) ∧ (cond ((dlE (⟨c0, c1⟩ : Cab) (⟨p0, p1, p2, p3⟩ : Png)) == (0 : Int)) (cond (bif (((dlV (⟨c0, c1⟩ : Cab) (⟨p0, p1, p2, p3⟩ : Png)).lo) == ((dlK (⟨c0, c1⟩ : Cab) (⟨p0, p1, p2, p3⟩ : Png)).lo)) then (bif (((dlV (⟨c0, c1⟩ : Cab) (⟨p0, p1, p2, p3⟩ : Png)).hi) == ((dlK (⟨c0, c1⟩ : Cab) (⟨p0, p1, p2, p3⟩ : Png)).hi)) then true else false) else false) (cond ((dlE (⟨c0, c1⟩ : Cab) (⟨p0, p1, p2, p3⟩ : Png)) == (0 : Int)) (post (.t (.c (.v (.bool (bif (((tmV (⟨c0, c1⟩ : Cab) (⟨p0, p1, p2, p3⟩ : Png)).lo) == ((tmK (⟨c0, c1⟩ : Cab) (⟨p0, p1, p2, p3⟩ : Png)).lo)) then (bif (((tmV (⟨c0, c1⟩ : Cab) (⟨p0, p1, p2, p3⟩ : Png)).hi) == ((tmK (⟨c0, c1⟩ : Cab) (⟨p0, p1, p2, p3⟩ : Png)).hi)) then true else false) else false)))))) ((false = false) ∧ (post (.t (.c (.v (.bool false))))))) ((false = false) ∧ ((false = false) ∧ (post (.t (.c (.v (.bool false)))))))) ((false = false) ∧ ((false = false) ∧ ((false = false) ∧ (post (.t (.c (.v (.bool false))))))))))))))))))) ((false = false) ∧ (cond (!(inB ct (-1000000000000 : Int) (1000000000000 : Int))) (cond ((slE c0 ct) != (2 : Int)) ((true = true) ∧ (post (.t (.c (.v (.bool false)))))) (cond ((slV c0 ct) != (0 : Int)) (post (.t (.c (.v (.bool false))))) (cond ((cabE (⟨c0, c1⟩ : Cab)) == (0 : Int)) (cond ((pngE (⟨p0, p1, p2, p3⟩ : Png)) == (0 : Int)) ((delOk (⟨c0, c1⟩ : Cab) (⟨p0, p1, p2, p3⟩ : Png)) ∧ (cond (!(canB (⟨c0, c1⟩ : Cab) (⟨p0, p1, p2, p3⟩ : Png))) (cond ((dlE (⟨c0, c1⟩ : Cab) (⟨p0, p1, p2, p3⟩ : Png)) == (13 : Int)) (cond ((dlE (⟨c0, c1⟩ : Cab) (⟨p0, p1, p2, p3⟩ : Png)) == (13 : Int)) (cond (bif (((dlV (⟨c0, c1⟩ : Cab) (⟨p0, p1, p2, p3⟩ : Png)).lo) == (0 : Int)) then (bif (((dlV (⟨c0, c1⟩ : Cab) (⟨p0, p1, p2, p3⟩ : Png)).hi) == (0 : Int)) then true else false) else false) (post (.t (.c (.v (.bool (bif (((tmV (⟨c0, c1⟩ : Cab) (⟨p0, p1, p2, p3⟩ : Png)).lo) == (0 : Int)) then (bif (((tmV (⟨c0, c1⟩ : Cab) (⟨p0, p1, p2, p3⟩ : Png)).hi) == (0 : Int)) then true else false) else false)))))) ((false = false) ∧ (post (.t (.c (.v (.bool false))))))) ((false = false) ∧ ((false = false) ∧ (post (.t (.c (.v (.bool false)))))))) ((false = false) ∧ ((false = false) ∧ ((false = false) ∧ (post (.t (.c (.v (.bool false))))))))) (cond ((pngE (⟨p0, p1, p2, p3⟩ : Png)) != (0 : Int)) (cond ((dlE (⟨c0, c1⟩ : Cab) (⟨p0, p1, p2, p3⟩ : Png)) == (pngE (⟨p0, p1, p2, p3⟩ : Png))) (cond ((dlE (⟨c0, c1⟩ : Cab) (⟨p0, p1, p2, p3⟩ : Png)) == (pngE (⟨p0, p1, p2, p3⟩ : Png))) (cond (bif (((dlV (⟨c0, c1⟩ : Cab) (⟨p0, p1, p2, p3⟩ : Png)).lo) == (0 : Int)) then (bif (((dlV (⟨c0, c1⟩ : Cab) (⟨p0, p1, p2, p3⟩ : Png)).hi) == (0 : Int)) then true else false) else false) (post (.t (.c (.v (.bool (bif (((tmV (⟨c0, c1⟩ : Cab) (⟨p0, p1, p2, p3⟩ : Png)).lo) == (0 : Int)) then (bif (((tmV (⟨c0, c1⟩ : Cab) (⟨p0, p1, p2, p3⟩ : Png)).hi) == (0 : Int)) then true else false) else false)))))) ((false = false) ∧ (post (.t (.c (.v (.bool false))))))) ((false = false) ∧ ((false = false) ∧ (post (.t (.c (.v (.bool false)))))))) ((false = false) ∧ ((false = false) ∧ ((false = false) ∧ (post (.t (.c (.v (.bool false))))))))) ((delOk (⟨c0, c1⟩ : Cab) (⟨p0, p1, p2, p3⟩ : Png)) ∧ ((delOk (⟨c0, c1⟩ : Cab) (⟨p0, p1, p2, p3⟩ : Png)) ∧ (cond ((dlE (⟨c0, c1⟩ : Cab) (⟨p0, p1, p2, p3⟩ : Png)) == (0 : Int)) (cond (bif (((dlV (⟨c0, c1⟩ : Cab) (⟨p0, p1, p2, p3⟩ : Png)).lo) == ((dlK (⟨c0, c1⟩ : Cab) (⟨p0, p1, p2, p3⟩ : Png)).lo)) then (bif (((dlV (⟨c0, c1⟩ : Cab) (⟨p0, p1, p2, p3⟩ : Png)).hi) == ((dlK (⟨c0, c1⟩ : Cab) (⟨p0, p1, p2, p3⟩ : Png)).hi)) then true else false) else false) (cond ((dlE (⟨c0, c1⟩ : Cab) (⟨p0, p1, p2, p3⟩ : Png)) == (0 : Int)) (post (.t (.c (.v (.bool (bif (((tmV (⟨c0, c1⟩ : Cab) (⟨p0, p1, p2, p3⟩ : Png)).lo) == ((tmK (⟨c0, c1⟩ : Cab) (⟨p0, p1, p2, p3⟩ : Png)).lo)) then (bif (((tmV (⟨c0, c1⟩ : Cab) (⟨p0, p1, p2, p3⟩ : Png)).hi) == ((tmK (⟨c0, c1⟩ : Cab) (⟨p0, p1, p2, p3⟩ : Png)).hi)) then true else false) else false)))))) ((false = false) ∧ (post (.t (.c (.v (.bool false))))))) ((false = false) ∧ ((false = false) ∧ (post (.t (.c (.v (.bool false)))))))) ((false = false) ∧ ((false = false) ∧ ((false = false) ∧ (post (.t (.c (.v (.bool false)))))))))))))) (cond ((pngE (⟨p0, p1, p2, p3⟩ : Png)) != (0 : Int)) (cond ((dlE (⟨c0, c1⟩ : Cab) (⟨p0, p1, p2, p3⟩ : Png)) == (pngE (⟨p0, p1, p2, p3⟩ : Png))) (cond ((dlE (⟨c0, c1⟩ : Cab) (⟨p0, p1, p2, p3⟩ : Png)) == (pngE (⟨p0, p1, p2, p3⟩ : Png))) (cond (bif (((dlV (⟨c0, c1⟩ : Cab) (⟨p0, p1, p2, p3⟩ : Png)).lo) == (0 : Int)) then (bif (((dlV (⟨c0, c1⟩ : Cab) (⟨p0, p1, p2, p3⟩ : Png)).hi) == (0 : Int)) then true else false) else false) (post (.t (.c (.v (.bool (bif (((tmV (⟨c0, c1⟩ : Cab) (⟨p0, p1, p2, p3⟩ : Png)).lo) == (0 : Int)) then (bif (((tmV (⟨c0, c1⟩ : Cab) (⟨p0, p1, p2, p3⟩ : Png)).hi) == (0 : Int)) then true else false) else false)))))) ((false = false) ∧ (post (.t (.c (.v (.bool false))))))) ((false = false) ∧ ((false = false) ∧ (post (.t (.c (.v (.bool false)))))))) ((false = false) ∧ ((false = false) ∧ ((false = false) ∧ (post (.t (.c (.v (.bool false))))))))) ((delOk (⟨c0, c1⟩ : Cab) (⟨p0, p1, p2, p3⟩ : Png)) ∧ ((delOk (⟨c0, c1⟩ : Cab) (⟨p0, p1, p2, p3⟩ : Png)) ∧ (cond ((dlE (⟨c0, c1⟩ : Cab) (⟨p0, p1, p2, p3⟩ : Png)) == (0 : Int)) (cond (bif (((dlV (⟨c0, c1⟩ : Cab) (⟨p0, p1, p2, p3⟩ : Png)).lo) == ((dlK (⟨c0, c1⟩ : Cab) (⟨p0, p1, p2, p3⟩ : Png)).lo)) then (bif (((dlV (⟨c0, c1⟩ : Cab) (⟨p0, p1, p2, p3⟩ : Png)).hi) == ((dlK (⟨c0, c1⟩ : Cab) (⟨p0, p1, p2, p3⟩ : Png)).hi)) then true else false) else false) (cond ((dlE (⟨c0, c1⟩ : Cab) (⟨p0, p1, p2, p3⟩ : Png)) == (0 : Int)) (post (.t (.c (.v (.bool (bif (((tmV (⟨c0, c1⟩ : Cab) (⟨p0, p1, p2, p3⟩ : Png)).lo) == ((tmK (⟨c0, c1⟩ : Cab) (⟨p0, p1, p2, p3⟩ : Png)).lo)) then (bif (((tmV (⟨c0, c1⟩ : Cab) (⟨p0, p1, p2, p3⟩ : Png)).hi) == ((tmK (⟨c0, c1⟩ : Cab) (⟨p0, p1, p2, p3⟩ : Png)).hi)) then true else false) else false)))))) ((false = false) ∧ (post (.t (.c (.v (.bool false))))))) ((false = false) ∧ ((false = false) ∧ (post (.t (.c (.v (.bool false)))))))) ((false = false) ∧ ((false = false) ∧ ((false = false) ∧ (post (.t (.c (.v (.bool false))))))))))))) (cond ((cabE (⟨c0, c1⟩ : Cab)) == (0 : Int)) ((delOk (⟨c0, c1⟩ : Cab) (⟨p0, p1, p2, p3⟩ : Png)) ∧ (cond (!(canB (⟨c0, c1⟩ : Cab) (⟨p0, p1, p2, p3⟩ : Png))) (cond ((dlE (⟨c0, c1⟩ : Cab) (⟨p0, p1, p2, p3⟩ : Png)) == (13 : Int)) (cond ((dlE (⟨c0, c1⟩ : Cab) (⟨p0, p1, p2, p3⟩ : Png)) == (13 : Int)) (cond (bif (((dlV (⟨c0, c1⟩ : Cab) (⟨p0, p1, p2, p3⟩ : Png)).lo) == (0 : Int)) then (bif (((dlV (⟨c0, c1⟩ : Cab) (⟨p0, p1, p2, p3⟩ : Png)).hi) == (0 : Int)) then true else false) else false) (post (.t (.c (.v (.bool (bif (((tmV (⟨c0, c1⟩ : Cab) (⟨p0, p1, p2, p3⟩ : Png)).lo) == (0 : Int)) then (bif (((tmV (⟨c0, c1⟩ : Cab) (⟨p0, p1, p2, p3⟩ : Png)).hi) == (0 : Int)) then true else false) else false)))))) ((false = false) ∧ (post (.t (.c (.v (.bool false))))))) ((false = false) ∧ ((false = false) ∧ (post (.t (.c (.v (.bool false)))))))) ((false = false) ∧ ((false = false) ∧ ((false = false) ∧ (post (.t (.c (.v (.bool false))))))))) (cond ((cabE (⟨c0, c1⟩ : Cab)) != (0 : Int)) (cond ((dlE (⟨c0, c1⟩ : Cab) (⟨p0, p1, p2, p3⟩ : Png)) == (cabE (⟨c0, c1⟩ : Cab))) (cond ((dlE (⟨c0, c1⟩ : Cab) (⟨p0, p1, p2, p3⟩ : Png)) == (cabE (⟨c0, c1⟩ : Cab))) (cond (bif (((dlV (⟨c0, c1⟩ : Cab) (⟨p0, p1, p2, p3⟩ : Png)).lo) == (0 : Int)) then (bif (((dlV (⟨c0, c1⟩ : Cab) (⟨p0, p1, p2, p3⟩ : Png)).hi) == (0 : Int)) then true else false) else false) (post (.t (.c (.v (.bool (bif (((tmV (⟨c0, c1⟩ : Cab) (⟨p0, p1, p2, p3⟩ : Png)).lo) == (0 : Int)) then (bif (((tmV (⟨c0, c1⟩ : Cab) (⟨p0, p1, p2, p3⟩ : Png)).hi) == (0 : Int)) then true else false) else false)))))) ((false = false) ∧ (post (.t (.c (.v (.bool false))))))) ((false = false) ∧ ((false = false) ∧ (post (.t (.c (.v (.bool false)))))))) ((false = false) ∧ ((false = false) ∧ ((false = false) ∧ (post (.t (.c (.v (.bool false))))))))) ((delOk (⟨c0, c1⟩ : Cab) (⟨p0, p1, p2, p3⟩ : Png)) ∧ ((delOk (⟨c0, c1⟩ : Cab) (⟨p0, p1, p2, p3⟩ : Png)) ∧ (cond ((dlE (⟨c0, c1⟩ : Cab) (⟨p0, p1, p2, p3⟩ : Png)) == (0 : Int)) (cond (bif (((dlV (⟨c0, c1⟩ : Cab) (⟨p0, p1, p2, p3⟩ : Png)).lo) == ((dlK (⟨c0, c1⟩ : Cab) (⟨p0, p1, p2, p3⟩ : Png)).lo)) then (bif (((dlV (⟨c0, c1⟩ : Cab) (⟨p0, p1, p2, p3⟩ : Png)).hi) == ((dlK (⟨c0, c1⟩ : Cab) (⟨p0, p1, p2, p3⟩ : Png)).hi)) then true else false) else false) (cond ((dlE (⟨c0, c1⟩ : Cab) (⟨p0, p1, p2, p3⟩ : Png)) == (0 : Int)) (post (.t (.c (.v (.bool (bif (((tmV (⟨c0, c1⟩ : Cab) (⟨p0, p1, p2, p3⟩ : Png)).lo) == ((tmK (⟨c0, c1⟩ : Cab) (⟨p0, p1, p2, p3⟩ : Png)).lo)) then (bif (((tmV (⟨c0, c1⟩ : Cab) (⟨p0, p1, p2, p3⟩ : Png)).hi) == ((tmK (⟨c0, c1⟩ : Cab) (⟨p0, p1, p2, p3⟩ : Png)).hi)) then true else false) else false)))))) ((false = false) ∧ (post (.t (.c (.v (.bool false))))))) ((false = false) ∧ ((false = false) ∧ (post (.t (.c (.v (.bool false)))))))) ((false = false) ∧ ((false = false) ∧ ((false = false) ∧ (post (.t (.c (.v (.bool false)))))))))))))) (cond ((cabE (⟨c0, c1⟩ : Cab)) != (0 : Int)) (cond ((dlE (⟨c0, c1⟩ : Cab) (⟨p0, p1, p2, p3⟩ : Png)) == (cabE (⟨c0, c1⟩ : Cab))) (cond ((dlE (⟨c0, c1⟩ : Cab) (⟨p0, p1, p2, p3⟩ : Png)) == (cabE (⟨c0, c1⟩ : Cab))) (cond (bif (((dlV (⟨c0, c1⟩ : Cab) (⟨p0, p1, p2, p3⟩ : Png)).lo) == (0 : Int)) then (bif (((dlV (⟨c0, c1⟩ : Cab) (⟨p0, p1, p2, p3⟩ : Png)).hi) == (0 : Int)) then true else false) else false) (post (.t (.c (.v (.bool (bif (((tmV (⟨c0, c1⟩ : Cab) (⟨p0, p1, p2, p3⟩ : Png)).lo) == (0 : Int)) then (bif (((tmV (⟨c0, c1⟩ : Cab) (⟨p0, p1, p2, p3⟩ : Png)).hi) == (0 : Int)) then true else false) else false)))))) ((false = false) ∧ (post (.t (.c (.v (.bool false))))))) ((false = false) ∧ ((false = false) ∧ (post (.t (.c (.v (.bool false)))))))) ((false = false) ∧ ((false = false) ∧ ((false = false) ∧ (post (.t (.c (.v (.bool false))))))))) ((delOk (⟨c0, c1⟩ : Cab) (⟨p0, p1, p2, p3⟩ : Png)) ∧ ((delOk (⟨c0, c1⟩ : Cab) (⟨p0, p1, p2, p3⟩ : Png)) ∧ (cond ((dlE (⟨c0, c1⟩ : Cab) (⟨p0, p1, p2, p3⟩ : Png)) == (0 : Int)) (cond (bif (((dlV (⟨c0, c1⟩ : Cab) (⟨p0, p1, p2, p3⟩ : Png)).lo) == ((dlK (⟨c0, c1⟩ : Cab) (⟨p0, p1, p2, p3⟩ : Png)).lo)) then (bif (((dlV (⟨c0, c1⟩ : Cab) (⟨p0, p1, p2, p3⟩ : Png)).hi) == ((dlK (⟨c0, c1⟩ : Cab) (⟨p0, p1, p2, p3⟩ : Png)).hi)) then true else false) else false) (cond ((dlE (⟨c0, c1⟩ : Cab) (⟨p0, p1, p2, p3⟩ : Png)) == (0 : Int)) (post (.t (.c (.v (.bool (bif (((tmV (⟨c0, c1⟩ : Cab) (⟨p0, p1, p2, p3⟩ : Png)).lo) == ((tmK (⟨c0, c1⟩ : Cab) (⟨p0, p1, p2, p3⟩ : Png)).lo)) then (bif (((tmV (⟨c0, c1⟩ : Cab) (⟨p0, p1, p2, p3⟩ : Png)).hi) == ((tmK (⟨c0, c1⟩ : Cab) (⟨p0, p1, p2, p3⟩ : Png)).hi)) then true else false) else false)))))) ((false = false) ∧ (post (.t (.c (.v (.bool false))))))) ((false = false) ∧ ((false = false) ∧ (post (.t (.c (.v (.bool false)))))))) ((false = false) ∧ ((false = false) ∧ ((false = false) ∧ (post (.t (.c (.v (.bool false)))))))))))))))) ((false = false) ∧ (cond ((cabE (⟨c0, c1⟩ : Cab)) == (0 : Int)) (cond ((pngE (⟨p0, p1, p2, p3⟩ : Png)) == (0 : Int)) ((delOk (⟨c0, c1⟩ : Cab) (⟨p0, p1, p2, p3⟩ : Png)) ∧ (cond (!(canB (⟨c0, c1⟩ : Cab) (⟨p0, p1, p2, p3⟩ : Png))) (cond ((dlE (⟨c0, c1⟩ : Cab) (⟨p0, p1, p2, p3⟩ : Png)) == (13 : Int)) (cond ((dlE (⟨c0, c1⟩ : Cab) (⟨p0, p1, p2, p3⟩ : Png)) == (13 : Int)) (cond (bif (((dlV (⟨c0, c1⟩ : Cab) (⟨p0, p1, p2, p3⟩ : Png)).lo) == (0 : Int)) then (bif (((dlV (⟨c0, c1⟩ : Cab) (⟨p0, p1, p2, p3⟩ : Png)).hi) == (0 : Int)) then true else false) else false) (post (.t (.c (.v (.bool (bif (((tmV (⟨c0, c1⟩ : Cab) (⟨p0, p1, p2, p3⟩ : Png)).lo) == (0 : Int)) then (bif (((tmV (⟨c0, c1⟩ : Cab) (⟨p0, p1, p2, p3⟩ : Png)).hi) == (0 : Int)) then true else false) else false)))))) ((false = false) ∧ (post (.t (.c (.v (.bool false))))))) ((false = false) ∧ ((false = false) ∧ (post (.t (.c (.v (.bool false)))))))) ((false = false) ∧ ((false = false) ∧ ((false = false) ∧ (post (.t (.c (.v (.bool false))))))))) (cond ((pngE (⟨p0, p1, p2, p3⟩ : Png)) != (0 : Int)) (cond ((dlE (⟨c0, c1⟩ : Cab) (⟨p0, p1, p2, p3⟩ : Png)) == (pngE (⟨p0, p1, p2, p3⟩ : Png))) (cond ((dlE (⟨c0, c1⟩ : Cab) (⟨p0, p1, p2, p3⟩ : Png)) == (pngE (⟨p0, p1, p2, p3⟩ : Png))) (cond (bif (((dlV (⟨c0, c1⟩ : Cab) (⟨p0, p1, p2, p3⟩ : Png)).lo) == (0 : Int)) then (bif (((dlV (⟨c0, c1⟩ : Cab) (⟨p0, p1, p2, p3⟩ : Png)).hi) == (0 : Int)) then true else false) else false) (post (.t (.c (.v (.bool (bif (((tmV (⟨c0, c1⟩ : Cab) (⟨p0, p1, p2, p3⟩ : Png)).lo) == (0 : Int)) then (bif (((tmV (⟨c0, c1⟩ : Cab) (⟨p0, p1, p2, p3⟩ : Png)).hi) == (0 : Int)) then true else false) else false)))))) ((false = false) ∧ (post (.t (.c (.v (.bool false))))))) ((false = false) ∧ ((false = false) ∧ (post (.t (.c (.v (.bool false)))))))) ((false = false) ∧ ((false = false) ∧ ((false = false) ∧ (post (.t (.c (.v (.bool false))))))))) ((delOk (⟨c0, c1⟩ : Cab) (⟨p0, p1, p2, p3⟩ : Png)) ∧ ((delOk (⟨c0, c1⟩ : Cab) (⟨p0, p1, p2, p3⟩ : Png)) ∧ (cond ((dlE (⟨c0, c1⟩ : Cab) (⟨p0, p1, p2, p3⟩ : Png)) == (0 : Int)) (cond (bif (((dlV (⟨c0, c1⟩ : Cab) (⟨p0, p1, p2, p3⟩ : Png)).lo) == ((dlK (⟨c0, c1⟩ : Cab) (⟨p0, p1, p2, p3⟩ : Png)).lo)) then (bif (((dlV (⟨c0, c1⟩ : Cab) (⟨p0, p1, p2, p3⟩ : Png)).hi) == ((dlK (⟨c0, c1⟩ : Cab) (⟨p0, p1, p2, p3⟩ : Png)).hi)) then true else false) else false) (cond ((dlE (⟨c0, c1⟩ : Cab) (⟨p0, p1, p2, p3⟩ : Png)) == (0 : Int)) (post (.t (.c (.v (.bool (bif (((tmV (⟨c0, c1⟩ : Cab) (⟨p0, p1, p2, p3⟩ : Png)).lo) == ((tmK (⟨c0, c1⟩ : Cab) (⟨p0, p1, p2, p3⟩ : Png)).lo)) then (bif (((tmV (⟨c0, c1⟩ : Cab) (⟨p0, p1, p2, p3⟩ : Png)).hi) == ((tmK (⟨c0, c1⟩ : Cab) (⟨p0, p1, p2, p3⟩ : Png)).hi)) then true else false) else false)))))) ((false = false) ∧ (post (.t (.c (.v (.bool false))))))) ((false = false) ∧ ((false = false) ∧ (post (.t (.c (.v (.bool false)))))))) ((false = false) ∧ ((false = false) ∧ ((false = false) ∧ (post (.t (.c (.v (.bool false)))))))))))))) (cond ((pngE (⟨p0, p1, p2, p3⟩ : Png)) != (0 : Int)) (cond ((dlE (⟨c0, c1⟩ : Cab) (⟨p0, p1, p2, p3⟩ : Png)) == (pngE (⟨p0, p1, p2, p3⟩ : Png))) (cond ((dlE (⟨c0, c1⟩ : Cab) (⟨p0, p1, p2, p3⟩ : Png)) == (pngE (⟨p0, p1, p2, p3⟩ : Png))) (cond (bif (((dlV (⟨c0, c1⟩ : Cab) (⟨p0, p1, p2, p3⟩ : Png)).lo) == (0 : Int)) then (bif (((dlV (⟨c0, c1⟩ : Cab) (⟨p0, p1, p2, p3⟩ : Png)).hi) == (0 : Int)) then true else false) else false) (post (.t (.c (.v (.bool (bif (((tmV (⟨c0, c1⟩ : Cab) (⟨p0, p1, p2, p3⟩ : Png)).lo) == (0 : Int)) then (bif (((tmV (⟨c0, c1⟩ : Cab) (⟨p0, p1, p2, p3⟩ : Png)).hi) == (0 : Int)) then true else false) else false)))))) ((false = false) ∧ (post (.t (.c (.v (.bool false))))))) ((false = false) ∧ ((false = false) ∧ (post (.t (.c (.v (.bool false)))))))) ((false = false) ∧ ((false = false) ∧ ((false = false) ∧ (post (.t (.c (.v (.bool false))))))))) ((delOk (⟨c0, c1⟩ : Cab) (⟨p0, p1, p2, p3⟩ : Png)) ∧ ((delOk (⟨c0, c1⟩ : Cab) (⟨p0, p1, p2, p3⟩ : Png)) ∧ (cond ((dlE (⟨c0, c1⟩ : Cab) (⟨p0, p1, p2, p3⟩ : Png)) == (0 : Int)) (cond (bif (((dlV (⟨c0, c1⟩ : Cab) (⟨p0, p1, p2, p3⟩ : Png)).lo) == ((dlK (⟨c0, c1⟩ : Cab) (⟨p0, p1, p2, p3⟩ : Png)).lo)) then (bif (((dlV (⟨c0, c1⟩ : Cab) (⟨p0, p1, p2, p3⟩ : Png)).hi) == ((dlK (⟨c0, c1⟩ : Cab) (⟨p0, p1, p2, p3⟩ : Png)).hi)) then true else false) else false) (cond ((dlE (⟨c0, c1⟩ : Cab) (⟨p0, p1, p2, p3⟩ : Png)) == (0 : Int)) (post (.t (.c (.v (.bool (bif (((tmV (⟨c0, c1⟩ : Cab) (⟨p0, p1, p2, p3⟩ : Png)).lo) == ((tmK (⟨c0, c1⟩ : Cab) (⟨p0, p1, p2, p3⟩ : Png)).lo)) then (bif (((tmV (⟨c0, c1⟩ : Cab) (⟨p0, p1, p2, p3⟩ : Png)).hi) == ((tmK (⟨c0, c1⟩ : Cab) (⟨p0, p1, p2, p3⟩ : Png)).hi)) then true else false) else false)))))) ((false = false) ∧ (post (.t (.c (.v (.bool false))))))) ((false = false) ∧ ((false = false) ∧ (post (.t (.c (.v (.bool false)))))))) ((false = false) ∧ ((false = false) ∧ ((false = false) ∧ (post (.t (.c (.v (.bool false))))))))))))) (cond ((cabE (⟨c0, c1⟩ : Cab)) == (0 : Int)) ((delOk (⟨c0, c1⟩ : Cab) (⟨p0, p1, p2, p3⟩ : Png)) ∧ (cond (!(canB (⟨c0, c1⟩ : Cab) (⟨p0, p1, p2, p3⟩ : Png))) (cond ((dlE (⟨c0, c1⟩ : Cab) (⟨p0, p1, p2, p3⟩ : Png)) == (13 : Int)) (cond ((dlE (⟨c0, c1⟩ : Cab) (⟨p0, p1, p2, p3⟩ : Png)) == (13 : Int)) (cond (bif (((dlV (⟨c0, c1⟩ : Cab) (⟨p0, p1, p2, p3⟩ : Png)).lo) == (0 : Int)) then (bif (((dlV (⟨c0, c1⟩ : Cab) (⟨p0, p1, p2, p3⟩ : Png)).hi) == (0 : Int)) then true else false) else false) (post (.t (.c (.v (.bool (bif (((tmV (⟨c0, c1⟩ : Cab) (⟨p0, p1, p2, p3⟩ : Png)).lo) == (0 : Int)) then (bif (((tmV (⟨c0, c1⟩ : Cab) (⟨p0, p1, p2, p3⟩ : Png)).hi) == (0 : Int)) then true else false) else false)))))) ((false = false) ∧ (post (.t (.c (.v (.bool false))))))) ((false = false) ∧ ((false = false) ∧ (post (.t (.c (.v (.bool false)))))))) ((false = false) ∧ ((false = false) ∧ ((false = false) ∧ (post (.t (.c (.v (.bool false))))))))) (cond ((cabE (⟨c0, c1⟩ : Cab)) != (0 : Int)) (cond ((dlE (⟨c0, c1⟩ : Cab) (⟨p0, p1, p2, p3⟩ : Png)) == (cabE (⟨c0, c1⟩ : Cab))) (cond ((dlE (⟨c0, c1⟩ : Cab) (⟨p0, p1, p2, p3⟩ : Png)) == (cabE (⟨c0, c1⟩ : Cab))) (cond (bif (((dlV (⟨c0, c1⟩ : Cab) (⟨p0, p1, p2, p3⟩ : Png)).lo) == (0 : Int)) then (bif (((dlV (⟨c0, c1⟩ : Cab) (⟨p0, p1, p2, p3⟩ : Png)).hi) == (0 : Int)) then true else false) else false) (post (.t (.c (.v (.bool (bif (((tmV (⟨c0, c1⟩ : Cab) (⟨p0, p1, p2, p3⟩ : Png)).lo) == (0 : Int)) then (bif (((tmV (⟨c0, c1⟩ : Cab) (⟨p0, p1, p2, p3⟩ : Png)).hi) == (0 : Int)) then true else false) else false)))))) ((false = false) ∧ (post (.t (.c (.v (.bool false))))))) ((false = false) ∧ ((false = false) ∧ (post (.t (.c (.v (.bool false)))))))) ((false = false) ∧ ((false = false) ∧ ((false = false) ∧ (post (.t (.c (.v (.bool false))))))))) ((delOk (⟨c0, c1⟩ : Cab) (⟨p0, p1, p2, p3⟩ : Png)) ∧ ((delOk (⟨c0, c1⟩ : Cab) (⟨p0, p1, p2, p3⟩ : Png)) ∧ (cond ((dlE (⟨c0, c1⟩ : Cab) (⟨p0, p1, p2, p3⟩ : Png)) == (0 : Int)) (cond (bif (((dlV (⟨c0, c1⟩ : Cab) (⟨p0, p1, p2, p3⟩ : Png)).lo) == ((dlK (⟨c0, c1⟩ : Cab) (⟨p0, p1, p2, p3⟩ : Png)).lo)) then (bif (((dlV (⟨c0, c1⟩ : Cab) (⟨p0, p1, p2, p3⟩ : Png)).hi) == ((dlK (⟨c0, c1⟩ : Cab) (⟨p0, p1, p2, p3⟩ : Png)).hi)) then true else false) else false) (cond ((dlE (⟨c0, c1⟩ : Cab) (⟨p0, p1, p2, p3⟩ : Png)) == (0 : Int)) (post (.t (.c (.v (.bool (bif (((tmV (⟨c0, c1⟩ : Cab) (⟨p0, p1, p2, p3⟩ : Png)).lo) == ((tmK (⟨c0, c1⟩ : Cab) (⟨p0, p1, p2, p3⟩ : Png)).lo)) then (bif (((tmV (⟨c0, c1⟩ : Cab) (⟨p0, p1, p2, p3⟩ : Png)).hi) == ((tmK (⟨c0, c1⟩ : Cab) (⟨p0, p1, p2, p3⟩ : Png)).hi)) then true else false) else false)))))) ((false = false) ∧ (post (.t (.c (.v (.bool false))))))) ((false = false) ∧ ((false = false) ∧ (post (.t (.c (.v (.bool false)))))))) ((false = false) ∧ ((false = false) ∧ ((false = false) ∧ (post (.t (.c (.v (.bool false)))))))))))))) (cond ((cabE (⟨c0, c1⟩ : Cab)) != (0 : Int)) (cond ((dlE (⟨c0, c1⟩ : Cab) (⟨p0, p1, p2, p3⟩ : Png)) == (cabE (⟨c0, c1⟩ : Cab))) (cond ((dlE (⟨c0, c1⟩ : Cab) (⟨p0, p1, p2, p3⟩ : Png)) == (cabE (⟨c0, c1⟩ : Cab))) (cond (bif (((dlV (⟨c0, c1⟩ : Cab) (⟨p0, p1, p2, p3⟩ : Png)).lo) == (0 : Int)) then (bif (((dlV (⟨c0, c1⟩ : Cab) (⟨p0, p1, p2, p3⟩ : Png)).hi) == (0 : Int)) then true else false) else false) (post (.t (.c (.v (.bool (bif (((tmV (⟨c0, c1⟩ : Cab) (⟨p0, p1, p2, p3⟩ : Png)).lo) == (0 : Int)) then (bif (((tmV (⟨c0, c1⟩ : Cab) (⟨p0, p1, p2, p3⟩ : Png)).hi) == (0 : Int)) then true else false) else false)))))) ((false = false) ∧ (post (.t (.c (.v (.bool false))))))) ((false = false) ∧ ((false = false) ∧ (post (.t (.c (.v (.bool false)))))))) ((false = false) ∧ ((false = false) ∧ ((false = false) ∧ (post (.t (.c (.v (.bool false))))))))) ((delOk (⟨c0, c1⟩ : Cab) (⟨p0, p1, p2, p3⟩ : Png)) ∧ ((delOk (⟨c0, c1⟩ : Cab) (⟨p0, p1, p2, p3⟩ : Png)) ∧ (cond ((dlE (⟨c0, c1⟩ : Cab) (⟨p0, p1, p2, p3⟩ : Png)) == (0 : Int)) (cond (bif (((dlV (⟨c0, c1⟩ : Cab) (⟨p0, p1, p2, p3⟩ : Png)).lo) == ((dlK (⟨c0, c1⟩ : Cab) (⟨p0, p1, p2, p3⟩ : Png)).lo)) then (bif (((dlV (⟨c0, c1⟩ : Cab) (⟨p0, p1, p2, p3⟩ : Png)).hi) == ((dlK (⟨c0, c1⟩ : Cab) (⟨p0, p1, p2, p3⟩ : Png)).hi)) then true else false) else false) (cond ((dlE (⟨c0, c1⟩ : Cab) (⟨p0, p1, p2, p3⟩ : Png)) == (0 : Int)) (post (.t (.c (.v (.bool (bif (((tmV (⟨c0, c1⟩ : Cab) (⟨p0, p1, p2, p3⟩ : Png)).lo) == ((tmK (⟨c0, c1⟩ : Cab) (⟨p0, p1, p2, p3⟩ : Png)).lo)) then (bif (((tmV (⟨c0, c1⟩ : Cab) (⟨p0, p1, p2, p3⟩ : Png)).hi) == ((tmK (⟨c0, c1⟩ : Cab) (⟨p0, p1, p2, p3⟩ : Png)).hi)) then true else false) else false)))))) ((false = false) ∧ (post (.t (.c (.v (.bool false))))))) ((false = false) ∧ ((false = false) ∧ (post (.t (.c (.v (.bool false)))))))) ((false = false) ∧ ((false = false) ∧ ((false = false) ∧ (post (.t (.c (.v (.bool false)))))))))))))))))) ((false = false) ∧ ((false = false) ∧ (cond ((slE c0 ct) != (2 : Int)) ((true = true) ∧ (post (.t (.c (.v (.bool false)))))) (cond ((slV c0 ct) != (0 : Int)) (post (.t (.c (.v (.bool false))))) (cond ((cabE (⟨c0, c1⟩ : Cab)) == (0 : Int)) (cond ((pngE (⟨p0, p1, p2, p3⟩ : Png)) == (0 : Int)) ((delOk (⟨c0, c1⟩ : Cab) (⟨p0, p1, p2, p3⟩ : Png)) ∧ (cond (!(canB (⟨c0, c1⟩ : Cab) (⟨p0, p1, p2, p3⟩ : Png))) (cond ((dlE (⟨c0, c1⟩ : Cab) (⟨p0, p1, p2, p3⟩ : Png)) == (13 : Int)) (cond ((dlE (⟨c0, c1⟩ : Cab) (⟨p0, p1, p2, p3⟩ : Png)) == (13 : Int)) (cond (bif (((dlV (⟨c0, c1⟩ : Cab) (⟨p0, p1, p2, p3⟩ : Png)).lo) == (0 : Int)) then (bif (((dlV (⟨c0, c1⟩ : Cab) (⟨p0, p1, p2, p3⟩ : Png)).hi) == (0 : Int)) then true else false) else false) (post (.t (.c (.v (.bool (bif (((tmV (⟨c0, c1⟩ : Cab) (⟨p0, p1, p2, p3⟩ : Png)).lo) == (0 : Int)) then (bif (((tmV (⟨c0, c1⟩ : Cab) (⟨p0, p1, p2, p3⟩ : Png)).hi) == (0 : Int)) then true else false) else false)))))) ((false = false) ∧ (post (.t (.c (.v (.bool false))))))) ((false = false) ∧ ((false = false) ∧ (post (.t (.c (.v (.bool false)))))))) ((false = false) ∧ ((false = false) ∧ ((false = false) ∧ (post (.t (.c (.v (.bool false))))))))) (cond ((pngE (⟨p0, p1, p2, p3⟩ : Png)) != (0 : Int)) (cond ((dlE (⟨c0, c1⟩ : Cab) (⟨p0, p1, p2, p3⟩ : Png)) == (pngE (⟨p0, p1, p2, p3⟩ : Png))) (cond ((dlE (⟨c0, c1⟩ : Cab) (⟨p0, p1, p2, p3⟩ : Png)) == (pngE (⟨p0, p1, p2, p3⟩ : Png))) (cond (bif (((dlV (⟨c0, c1⟩ : Cab) (⟨p0, p1, p2, p3⟩ : Png)).lo) == (0 : Int)) then (bif (((dlV (⟨c0, c1⟩ : Cab) (⟨p0, p1, p2, p3⟩ : Png)).hi) == (0 : Int)) then true else false) else false) (post (.t (.c (.v (.bool (bif (((tmV (⟨c0, c1⟩ : Cab) (⟨p0, p1, p2, p3⟩ : Png)).lo) == (0 : Int)) then (bif (((tmV (⟨c0, c1⟩ : Cab) (⟨p0, p1, p2, p3⟩ : Png)).hi) == (0 : Int)) then true else false) else false)))))) ((false = false) ∧ (post (.t (.c (.v (.bool false))))))) ((false = false) ∧ ((false = false) ∧ (post (.t (.c (.v (.bool false)))))))) ((false = false) ∧ ((false = false) ∧ ((false = false) ∧ (post (.t (.c (.v (.bool false))))))))) ((delOk (⟨c0, c1⟩ : Cab) (⟨p0, p1, p2, p3⟩ : Png)) ∧ ((delOk (⟨c0, c1⟩ : Cab) (⟨p0, p1, p2, p3⟩ : Png)) ∧ (cond ((dlE (⟨c0, c1⟩ : Cab) (⟨p0, p1, p2, p3⟩ : Png)) == (0 : Int)) (cond (bif (((dlV (⟨c0, c1⟩ : Cab) (⟨p0, p1, p2, p3⟩ : Png)).lo) == ((dlK (⟨c0, c1⟩ : Cab) (⟨p0, p1, p2, p3⟩ : Png)).lo)) then (bif (((dlV (⟨c0, c1⟩ : Cab) (⟨p0, p1, p2, p3⟩ : Png)).hi) == ((dlK (⟨c0, c1⟩ : Cab) (⟨p0, p1, p2, p3⟩ : Png)).hi)) then true else false) else false) (cond ((dlE (⟨c0, c1⟩ : Cab) (⟨p0, p1, p2, p3⟩ : Png)) == (0 : Int)) (post (.t (.c (.v (.bool (bif (((tmV (⟨c0, c1⟩ : Cab) (⟨p0, p1, p2, p3⟩ : Png)).lo) == ((tmK (⟨c0, c1⟩ : Cab) (⟨p0, p1, p2, p3⟩ : Png)).lo)) then (bif (((tmV (⟨c0, c1⟩ : Cab) (⟨p0, p1, p2, p3⟩ : Png)).hi) == ((tmK (⟨c0, c1⟩ : Cab) (⟨p0, p1, p2, p3⟩ : Png)).hi)) then true else false) else false)))))) ((false = false) ∧ (post (.t (.c (.v (.bool false))))))) ((false = false) ∧ ((false = false) ∧ (post (.t (.c (.v (.bool false)))))))) ((false = false) ∧ ((false = false) ∧ ((false = false) ∧ (post (.t (.c (.v (.bool false)))))))))))))) (cond ((pngE (⟨p0, p1, p2, p3⟩ : Png)) != (0 : Int)) (cond ((dlE (⟨c0, c1⟩ : Cab) (⟨p0, p1, p2, p3⟩ : Png)) == (pngE (⟨p0, p1, p2, p3⟩ : Png))) (cond ((dlE (⟨c0, c1⟩ : Cab) (⟨p0, p1, p2, p3⟩ : Png)) == (pngE (⟨p0, p1, p2, p3⟩ : Png))) (cond (bif (((dlV (⟨c0, c1⟩ : Cab) (⟨p0, p1, p2, p3⟩ : Png)).lo) == (0 : Int)) then (bif (((dlV (⟨c0, c1⟩ : Cab) (⟨p0, p1, p2, p3⟩ : Png)).hi) == (0 : Int)) then true else false) else false) (post (.t (.c (.v (.bool (bif (((tmV (⟨c0, c1⟩ : Cab) (⟨p0, p1, p2, p3⟩ : Png)).lo) == (0 : Int)) then (bif (((tmV (⟨c0, c1⟩ : Cab) (⟨p0, p1, p2, p3⟩ : Png)).hi) == (0 : Int)) then true else false) else false)))))) ((false = false) ∧ (post (.t (.c (.v (.bool false))))))) ((false = false) ∧ ((false = false) ∧ (post (.t (.c (.v (.bool false)))))))) ((false = false) ∧ ((false = false) ∧ ((false = false) ∧ (post (.t (.c (.v (.bool false))))))))) ((delOk (⟨c0, c1⟩ : Cab) (⟨p0, p1, p2, p3⟩ : Png)) ∧ ((delOk (⟨c0, c1⟩ : Cab) (⟨p0, p1, p2, p3⟩ : Png)) ∧ (cond ((dlE (⟨c0, c1⟩ : Cab) (⟨p0, p1, p2, p3⟩ : Png)) == (0 : Int)) (cond (bif (((dlV (⟨c0, c1⟩ : Cab) (⟨p0, p1, p2, p3⟩ : Png)).lo) == ((dlK (⟨c0, c1⟩ : Cab) (⟨p0, p1, p2, p3⟩ : Png)).lo)) then (bif (((dlV (⟨c0, c1⟩ : Cab) (⟨p0, p1, p2, p3⟩ : Png)).hi) == ((dlK (⟨c0, c1⟩ : Cab) (⟨p0, p1, p2, p3⟩ : Png)).hi)) then true else false) else false) (cond ((dlE (⟨c0, c1⟩ : Cab) (⟨p0, p1, p2, p3⟩ : Png)) == (0 : Int)) (post (.t (.c (.v (.bool (bif (((tmV (⟨c0, c1⟩ : Cab) (⟨p0, p1, p2, p3⟩ : Png)).lo) == ((tmK (⟨c0, c1⟩ : Cab) (⟨p0, p1, p2, p3⟩ : Png)).lo)) then (bif (((tmV (⟨c0, c1⟩ : Cab) (⟨p0, p1, p2, p3⟩ : Png)).hi) == ((tmK (⟨c0, c1⟩ : Cab) (⟨p0, p1, p2, p3⟩ : Png)).hi)) then true else false) else false)))))) ((false = false) ∧ (post (.t (.c (.v (.bool false))))))) ((false = false) ∧ ((false = false) ∧ (post (.t (.c (.v (.bool false)))))))) ((false = false) ∧ ((false = false) ∧ ((false = false) ∧ (post (.t (.c (.v (.bool false))))))))))))) (cond ((cabE (⟨c0, c1⟩ : Cab)) == (0 : Int)) ((delOk (⟨c0, c1⟩ : Cab) (⟨p0, p1, p2, p3⟩ : Png)) ∧ (cond (!(canB (⟨c0, c1⟩ : Cab) (⟨p0, p1, p2, p3⟩ : Png))) (cond ((dlE (⟨c0, c1⟩ : Cab) (⟨p0, p1, p2, p3⟩ : Png)) == (13 : Int)) (cond ((dlE (⟨c0, c1⟩ : Cab) (⟨p0, p1, p2, p3⟩ : Png)) == (13 : Int)) (cond (bif (((dlV (⟨c0, c1⟩ : Cab) (⟨p0, p1, p2, p3⟩ : Png)).lo) == (0 : Int)) then (bif (((dlV (⟨c0, c1⟩ : Cab) (⟨p0, p1, p2, p3⟩ : Png)).hi) == (0 : Int)) then true else false) else false) (post (.t (.c (.v (.bool (bif (((tmV (⟨c0, c1⟩ : Cab) (⟨p0, p1, p2, p3⟩ : Png)).lo) == (0 : Int)) then (bif (((tmV (⟨c0, c1⟩ : Cab) (⟨p0, p1, p2, p3⟩ : Png)).hi) == (0 : Int)) then true else false) else false)))))) ((false = false) ∧ (post (.t (.c (.v (.bool false))))))) ((false = false) ∧ ((false = false) ∧ (post (.t (.c (.v (.bool false)))))))) ((false = false) ∧ ((false = false) ∧ ((false = false) ∧ (post (.t (.c (.v (.bool false))))))))) (cond ((cabE (⟨c0, c1⟩ : Cab)) != (0 : Int)) (cond ((dlE (⟨c0, c1⟩ : Cab) (⟨p0, p1, p2, p3⟩ : Png)) == (cabE (⟨c0, c1⟩ : Cab))) (cond ((dlE (⟨c0, c1⟩ : Cab) (⟨p0, p1, p2, p3⟩ : Png)) == (cabE (⟨c0, c1⟩ : Cab))) (cond (bif (((dlV (⟨c0, c1⟩ : Cab) (⟨p0, p1, p2, p3⟩ : Png)).lo) == (0 : Int)) then (bif (((dlV (⟨c0, c1⟩ : Cab) (⟨p0, p1, p2, p3⟩ : Png)).hi) == (0 : Int)) then true else false) else false) (post (.t (.c (.v (.bool (bif (((tmV (⟨c0, c1⟩ : Cab) (⟨p0, p1, p2, p3⟩ : Png)).lo) == (0 : Int)) then (bif (((tmV (⟨c0, c1⟩ : Cab) (⟨p0, p1, p2, p3⟩ : Png)).hi) == (0 : Int)) then true else false) else false)))))) ((false = false) ∧ (post (.t (.c (.v (.bool false))))))) ((false = false) ∧ ((false = false) ∧ (post (.t (.c (.v (.bool false)))))))) ((false = false) ∧ ((false = false) ∧ ((false = false) ∧ (post (.t (.c (.v (.bool false))))))))) ((delOk (⟨c0, c1⟩ : Cab) (⟨p0, p1, p2, p3⟩ : Png)) ∧ ((delOk (⟨c0, c1⟩ : Cab) (⟨p0, p1, p2, p3⟩ : Png)) ∧ (cond ((dlE (⟨c0, c1⟩ : Cab) (⟨p0, p1, p2, p3⟩ : Png)) == (0 : Int)) (cond (bif (((dlV (⟨c0, c1⟩ : Cab) (⟨p0, p1, p2, p3⟩ : Png)).lo) == ((dlK (⟨c0, c1⟩ : Cab) (⟨p0, p1, p2, p3⟩ : Png)).lo)) then (bif (((dlV (⟨c0, c1⟩ : Cab) (⟨p0, p1, p2, p3⟩ : Png)).hi) == ((dlK (⟨c0, c1⟩ : Cab) (⟨p0, p1, p2, p3⟩ : Png)).hi)) then true else false) else false) (cond ((dlE (⟨c0, c1⟩ : Cab) (⟨p0, p1, p2, p3⟩ : Png)) == (0 : Int)) (post (.t (.c (.v (.bool (bif (((tmV (⟨c0, c1⟩ : Cab) (⟨p0, p1, p2, p3⟩ : Png)).lo) == ((tmK (⟨c0, c1⟩ : Cab) (⟨p0, p1, p2, p3⟩ : Png)).lo)) then (bif (((tmV (⟨c0, c1⟩ : Cab) (⟨p0, p1, p2, p3⟩ : Png)).hi) == ((tmK (⟨c0, c1⟩ : Cab) (⟨p0, p1, p2, p3⟩ : Png)).hi)) then true else false) else false)))))) ((false = false) ∧ (post (.t (.c (.v (.bool false))))))) ((false = false) ∧ ((false = false) ∧ (post (.t (.c (.v (.bool false)))))))) ((false = false) ∧ ((false = false) ∧ ((false = false) ∧ (post (.t (.c (.v (.bool false)))))))))))))) (cond ((cabE (⟨c0, c1⟩ : Cab)) != (0 : Int)) (cond ((dlE (⟨c0, c1⟩ : Cab) (⟨p0, p1, p2, p3⟩ : Png)) == (cabE (⟨c0, c1⟩ : Cab))) (cond ((dlE (⟨c0, c1⟩ : Cab) (⟨p0, p1, p2, p3⟩ : Png)) == (cabE (⟨c0, c1⟩ : Cab))) (cond (bif (((dlV (⟨c0, c1⟩ : Cab) (⟨p0, p1, p2, p3⟩ : Png)).lo) == (0 : Int)) then (bif (((dlV (⟨c0, c1⟩ : Cab) (⟨p0, p1, p2, p3⟩ : Png)).hi) == (0 : Int)) then true else false) else false) (post (.t (.c (.v (.bool (bif (((tmV (⟨c0, c1⟩ : Cab) (⟨p0, p1, p2, p3⟩ : Png)).lo) == (0 : Int)) then (bif (((tmV (⟨c0, c1⟩ : Cab) (⟨p0, p1, p2, p3⟩ : Png)).hi) == (0 : Int)) then true else false) else false)))))) ((false = false) ∧ (post (.t (.c (.v (.bool false))))))) ((false = false) ∧ ((false = false) ∧ (post (.t (.c (.v (.bool false)))))))) ((false = false) ∧ ((false = false) ∧ ((false = false) ∧ (post (.t (.c (.v (.bool false))))))))) ((delOk (⟨c0, c1⟩ : Cab) (⟨p0, p1, p2, p3⟩ : Png)) ∧ ((delOk (⟨c0, c1⟩ : Cab) (⟨p0, p1, p2, p3⟩ : Png)) ∧ (cond ((dlE (⟨c0, c1⟩ : Cab) (⟨p0, p1, p2, p3⟩ : Png)) == (0 : Int)) (cond (bif (((dlV (⟨c0, c1⟩ : Cab) (⟨p0, p1, p2, p3⟩ : Png)).lo) == ((dlK (⟨c0, c1⟩ : Cab) (⟨p0, p1, p2, p3⟩ : Png)).lo)) then (bif (((dlV (⟨c0, c1⟩ : Cab) (⟨p0, p1, p2, p3⟩ : Png)).hi) == ((dlK (⟨c0, c1⟩ : Cab) (⟨p0, p1, p2, p3⟩ : Png)).hi)) then true else false) else false) (cond ((dlE (⟨c0, c1⟩ : Cab) (⟨p0, p1, p2, p3⟩ : Png)) == (0 : Int)) (post (.t (.c (.v (.bool (bif (((tmV (⟨c0, c1⟩ : Cab) (⟨p0, p1, p2, p3⟩ : Png)).lo) == ((tmK (⟨c0, c1⟩ : Cab) (⟨p0, p1, p2, p3⟩ : Png)).lo)) then (bif (((tmV (⟨c0, c1⟩ : Cab) (⟨p0, p1, p2, p3⟩ : Png)).hi) == ((tmK (⟨c0, c1⟩ : Cab) (⟨p0, p1, p2, p3⟩ : Png)).hi)) then true else false) else false)))))) ((false = false) ∧ (post (.t (.c (.v (.bool false))))))) ((false = false) ∧ ((false = false) ∧ (post (.t (.c (.v (.bool false)))))))) ((false = false) ∧ ((false = false) ∧ ((false = false) ∧ (post (.t (.c (.v (.bool false)))))))))))))))))))
def ann_law01_ClockPings : Ann := ⟨fun _ => none, fun _ => none, fun _ => [], I1, false, fun _ => none, fun _ => none⟩
theorem ev_law01_ClockPings (J : Inv) (c0 c1 : Int) (p0 p1 p2 p3 : Int) (ct : Int) (post : DV → Prop) : evFn Try.prog tab Sy101 ann_law01_ClockPings J Try.f8 [.t (.a [.v (.int .i64 c0), .v (.int .i64 c1)]), .t (.a [.v (.int .i64 p0), .v (.int .i64 p1), .v (.int .i64 p2), .v (.int .i64 p3)]), .t (.c (.v (.int .i64 ct)))] post = vc_law01_ClockPings c0 c1 p0 p1 p2 p3 ct post := by kernel_rfl
theorem fit_law01_ClockPings : okFn ann_law01_ClockPings Try.f8 = true := by kernel_rfl
theorem lp_law01_ClockPings (J : Inv) (post : DV → Prop) : AllG J (loopsFn Try.prog tab Sy101 ann_law01_ClockPings J Try.f8 post) = (True) := by kernel_rfl
set_option maxHeartbeats 8000000 in
set_option maxRecDepth 100000 in
theorem spec_law01_ClockPings (c0 c1 : Int) (p0 p1 p2 p3 : Int) (ct : Int) : vc_law01_ClockPings c0 c1 p0 p1 p2 p3 ct (fun r => LeD r (.t (.c (.v (.bool true))))) := by
 unfold vc_law01_ClockPings
 rcases sl_cases c0 ct with ⟨s1, s2, s3, s4⟩ | ⟨s1, s3, s4⟩ | ⟨s1, s2, s3, s4⟩
 ·have s5 := inB_true.1 s1
  have s6 := inB_true.1 s2
  simp only [s1, s2, s3, s4, n00, beq_self_eq_true, bne_self_eq_false, Bool.not_true, Bool.not_false, _root_.cond_true, _root_.cond_false, decide_true, eq_self_iff_true, List.length_nil, lt_v]
  rcases dl_cases (⟨c0, c1⟩ : Cab) (⟨p0, p1, p2, p3⟩ : Png) with ⟨d1, d2, d3, d4, d5⟩ | ⟨d1, d2, d3, d4, d5, d6⟩ | ⟨d1, d2, d3, d4, d5, d6, d7⟩ | ⟨d1, d2, d3, d4, d5, d6, d7, d8⟩
  ·simp only [d1, d2, d3, d4, d5, n00, beq_self_eq_true, bne_self_eq_false, Bool.not_true, Bool.not_false, _root_.cond_true, _root_.cond_false, decide_true, eq_self_iff_true, List.length_nil, lt_v]
   (repeat' with_reducible first | assumption | trivial | (refine And.intro ?_ ?_))
   all_goals first | omega | exact LeD.refl _ | exact leB rfl | exact numsP_ints _
  ·simp only [d1, d2, d3, d4, d5, d6, n00, beq_self_eq_true, bne_self_eq_false, Bool.not_true, Bool.not_false, _root_.cond_true, _root_.cond_false, decide_true, eq_self_iff_true, List.length_nil, lt_v]
   (repeat' with_reducible first | assumption | trivial | (refine And.intro ?_ ?_))
   all_goals first | omega | exact LeD.refl _ | exact leB rfl | exact numsP_ints _
  ·simp only [d1, d2, d3, d4, d5, d6, n00, beq_self_eq_true, bne_self_eq_false, Bool.not_true, Bool.not_false, _root_.cond_true, _root_.cond_false, decide_true, eq_self_iff_true, List.length_nil, lt_v]
   (repeat' with_reducible first | assumption | trivial | (refine And.intro ?_ ?_))
   all_goals first | omega | exact LeD.refl _ | exact leB rfl | exact numsP_ints _
  ·simp only [d1, d2, d3, d4, d5, d6, d7, n00, beq_self_eq_true, bne_self_eq_false, Bool.not_true, Bool.not_false, _root_.cond_true, _root_.cond_false, decide_true, eq_self_iff_true, List.length_nil, lt_v]
   (repeat' with_reducible first | assumption | trivial | (refine And.intro ?_ ?_))
   all_goals first | omega | exact LeD.refl _ | exact leB rfl | exact numsP_ints _
 ·simp only [s1, s3, s4, n00, beq_self_eq_true, bne_self_eq_false, Bool.not_true, Bool.not_false, _root_.cond_true, _root_.cond_false, decide_true, eq_self_iff_true, List.length_nil, lt_v]
  rcases dl_cases (⟨c0, c1⟩ : Cab) (⟨p0, p1, p2, p3⟩ : Png) with ⟨d1, d2, d3, d4, d5⟩ | ⟨d1, d2, d3, d4, d5, d6⟩ | ⟨d1, d2, d3, d4, d5, d6, d7⟩ | ⟨d1, d2, d3, d4, d5, d6, d7, d8⟩
  ·simp only [d1, d2, d3, d4, d5, n00, beq_self_eq_true, bne_self_eq_false, Bool.not_true, Bool.not_false, _root_.cond_true, _root_.cond_false, decide_true, eq_self_iff_true, List.length_nil, lt_v]
   (repeat' with_reducible first | assumption | trivial | (refine And.intro ?_ ?_))
   all_goals first | omega | exact LeD.refl _ | exact leB rfl | exact numsP_ints _
  ·simp only [d1, d2, d3, d4, d5, d6, n00, beq_self_eq_true, bne_self_eq_false, Bool.not_true, Bool.not_false, _root_.cond_true, _root_.cond_false, decide_true, eq_self_iff_true, List.length_nil, lt_v]
   (repeat' with_reducible first | assumption | trivial | (refine And.intro ?_ ?_))
   all_goals first | omega | exact LeD.refl _ | exact leB rfl | exact numsP_ints _
  ·simp only [d1, d2, d3, d4, d5, d6, n00, beq_self_eq_true, bne_self_eq_false, Bool.not_true, Bool.not_false, _root_.cond_true, _root_.cond_false, decide_true, eq_self_iff_true, List.length_nil, lt_v]
   (repeat' with_reducible first | assumption | trivial | (refine And.intro ?_ ?_))
   all_goals first | omega | exact LeD.refl _ | exact leB rfl | exact numsP_ints _
  ·simp only [d1, d2, d3, d4, d5, d6, d7, n00, beq_self_eq_true, bne_self_eq_false, Bool.not_true, Bool.not_false, _root_.cond_true, _root_.cond_false, decide_true, eq_self_iff_true, List.length_nil, lt_v]
   (repeat' with_reducible first | assumption | trivial | (refine And.intro ?_ ?_))
   all_goals first | omega | exact LeD.refl _ | exact leB rfl | exact numsP_ints _
 ·simp only [s1, s2, s3, s4, n00, beq_self_eq_true, bne_self_eq_false, Bool.not_true, Bool.not_false, _root_.cond_true, _root_.cond_false, decide_true, eq_self_iff_true, List.length_nil, lt_v]
  rcases dl_cases (⟨c0, c1⟩ : Cab) (⟨p0, p1, p2, p3⟩ : Png) with ⟨d1, d2, d3, d4, d5⟩ | ⟨d1, d2, d3, d4, d5, d6⟩ | ⟨d1, d2, d3, d4, d5, d6, d7⟩ | ⟨d1, d2, d3, d4, d5, d6, d7, d8⟩
  ·simp only [d1, d2, d3, d4, d5, n00, beq_self_eq_true, bne_self_eq_false, Bool.not_true, Bool.not_false, _root_.cond_true, _root_.cond_false, decide_true, eq_self_iff_true, List.length_nil, lt_v]
   (repeat' with_reducible first | assumption | trivial | (refine And.intro ?_ ?_))
   all_goals first | omega | exact LeD.refl _ | exact leB rfl | exact numsP_ints _
  ·simp only [d1, d2, d3, d4, d5, d6, n00, beq_self_eq_true, bne_self_eq_false, Bool.not_true, Bool.not_false, _root_.cond_true, _root_.cond_false, decide_true, eq_self_iff_true, List.length_nil, lt_v]
   (repeat' with_reducible first | assumption | trivial | (refine And.intro ?_ ?_))
   all_goals first | omega | exact LeD.refl _ | exact leB rfl | exact numsP_ints _
  ·simp only [d1, d2, d3, d4, d5, d6, n00, beq_self_eq_true, bne_self_eq_false, Bool.not_true, Bool.not_false, _root_.cond_true, _root_.cond_false, decide_true, eq_self_iff_true, List.length_nil, lt_v]
   (repeat' with_reducible first | assumption | trivial | (refine And.intro ?_ ?_))
   all_goals first | omega | exact LeD.refl _ | exact leB rfl | exact numsP_ints _
  ·simp only [d1, d2, d3, d4, d5, d6, d7, n00, beq_self_eq_true, bne_self_eq_false, Bool.not_true, Bool.not_false, _root_.cond_true, _root_.cond_false, decide_true, eq_self_iff_true, List.length_nil, lt_v]
   (repeat' with_reducible first | assumption | trivial | (refine And.intro ?_ ?_))
   all_goals first | omega | exact LeD.refl _ | exact leB rfl | exact numsP_ints _
theorem law_law01_ClockPings (c0 c1 : Int) (p0 p1 p2 p3 : Int) (ct : Int) (W : World) (N : Nat → Prop) (vs : List Value) (h : All2 (RelD (RelF W N)) [.t (.a [.v (.int .i64 c0), .v (.int .i64 c1)]), .t (.a [.v (.int .i64 p0), .v (.int .i64 p1), .v (.int .i64 p2), .v (.int .i64 p3)]), .t (.c (.v (.int .i64 ct)))] vs) : Calls Try.prog 8 vs.toArray W fun e w' => e = .returned (.bool true) ∧ Below W.heap.size W w' :=
 law_end (fn_sound mixed tabOK VSy101 (ann := ann_law01_ClockPings) VI1 (fn := Try.f8) (J := fun _ _ _ => False) (by kernel_rfl) fit_law01_ClockPings (args := [.t (.a [.v (.int .i64 c0), .v (.int .i64 c1)]), .t (.a [.v (.int .i64 p0), .v (.int .i64 p1), .v (.int .i64 p2), .v (.int .i64 p3)]), .t (.c (.v (.int .i64 ct)))]) (post := (fun r => LeD r (.t (.c (.v (.bool true)))))) (by rw [ev_law01_ClockPings]; exact spec_law01_ClockPings c0 c1 p0 p1 p2 p3 ct) (by rw [lp_law01_ClockPings]; trivial) (Nat.le_of_ble_eq_true (by kernel_rfl)) W N vs trivial h)
end Go.Proofs.Ytkifmfmenobhnaa
set_option linter.unusedVariables false
set_option linter.unusedSimpArgs false
namespace Go.Proofs.Ytkifmfmenobhnaa
open Go.RowKit
section
variable {H : Type} {enc : TypeId × Value → H} {P : Program} {w : World} {base : Nat} {spare : Nat → Bool} {held : Bool}
theorem cell_lt {w : World} {a : Addr} {v : Value} (h : w.cell? a = some v) : a.block < w.heap.size := by
 unfold World.cell? at h
 cases e : w.heap[a.block]? with
 | none => simp [e] at h
 | some o => exact (Array.getElem?_eq_some_iff.1 e).1
theorem list_of {α : Type} (d : α) : ∀ (n : Nat) {R : Nat → α → Prop}, (∀ i, i < n → ∃ x, R i x) → ∃ l : List α, l.length = n ∧ ∀ i, i < n → R i (l.getD i d) := by
 intro n
 induction n with
 | zero => intro R _; exact ⟨[], rfl, fun i hi => absurd hi (by omega)⟩
 | succ n ih =>
  intro R h
  obtain ⟨l, hl, hr⟩ := ih (fun i hi => h i (by omega))
  obtain ⟨x, hx⟩ := h n (by omega)
  refine ⟨l ++ [x], by simp [hl], fun i hi => ?_⟩
  rcases Nat.lt_or_ge i n with h1 | h1
  ·have : (l ++ [x]).getD i d = l.getD i d := by simp [List.getD, List.getElem?_append_left (show i < l.length by omega)]
   rw [this]; exact hr i h1
  ·have e : i = n := by omega
   subst e
   have : (l ++ [x]).getD i d = x := by rw [← hl]; simp [List.getD]
   rw [this]; exact hx
theorem SlAt.congr {w : World} {v : Value} {n sz : Nat} {c d : Nat → Nat → Value} (h : SlAt w v n sz c) (e : ∀ i j, i < n → j < sz → c i j = d i j) : SlAt w v n sz d := by
 obtain ⟨ao, cap, rfl, h1, h2, h3, h4⟩ := h
 refine ⟨ao, cap, rfl, h1, h2, fun h0 => ?_, h4⟩
 obtain ⟨b, off, e1, hlt, hc⟩ := h3 h0
 exact ⟨b, off, e1, hlt, fun i j hi hj => by rw [hc i j hi hj, e i j hi hj]⟩
theorem slAt_of_trod {t e : TypeId} {sz fuel : Nat} {v : Value} {x : DataW H × List MemPlace} (ht : P.underlying t = some (.slice e)) (hc : P.cellsOf e = sz) (hsz : 0 < sz)
  (h : DataW.trod enc P w base spare held fuel t [v] = some x) :
  ∃ (n : Nat) (css : Nat → List Value), SlAt w v n sz (fun i j => (css i).getD j undef) ∧ ∀ i, i < n → (css i).length = sz ∧ ∃ m y, DataW.trod enc P w base spare held m e (css i) = some y := by
 rcases DataW.trod_slice ht h with ⟨h0, _⟩ | ⟨a, len, cap, elems, rest, m, _, h0, _, hb, hl, hm, hlen, hel, _, _⟩
 ·obtain rfl : v = .slice none 0 0 := by simpa using h0
  exact ⟨0, fun _ => [], ⟨none, 0, rfl, by simp, by simp, fun h => absurd h (by omega), fun _ => rfl⟩, fun i hi => absurd hi (by omega)⟩
 ·obtain rfl : v = .slice (some a) len cap := by simpa using h0
  have each : ∀ i, i < len → ∃ cs : List Value, w.cells? base (a.add (i * sz)) sz = some cs ∧ ∃ y, DataW.trod enc P w base spare held m e cs = some y := by
   intro i hi
   have h1 := hel i hi
   rw [hc] at h1
   have h2 : elems[i]? = some elems[i] := by simp
   rw [h2, Option.bind_eq_some_iff] at h1
   obtain ⟨cs, h3, h4⟩ := h1
   exact ⟨cs, h3, _, h4⟩
  obtain ⟨css, hcl, hcs⟩ := list_of ([] : List Value) len each
  have hcell : ∀ i j, i < len → j < sz → w.cell? ((a.add (i * sz)).add j) = some ((css.getD i []).getD j undef) := by
   intro i j hi hj
   obtain ⟨_, h2, h3⟩ := World.cells?_some (hcs i hi).1
   rw [h3 j hj]
   generalize css.getD i [] = c at h2 ⊢
   rw [List.getElem?_eq_getElem (by omega)]
   simp [List.getD, List.getElem?_eq_getElem (show j < c.length by omega)]
  refine ⟨len, fun i => css.getD i [], ⟨some a, cap, rfl, hl, hm, fun hp => ?_, fun h => by cases h⟩, fun i hi => ⟨(World.cells?_some (hcs i hi).1).2.1, m, (hcs i hi).2⟩⟩
  obtain ⟨b, off, spot⟩ := a
  have hspot : spot = none := by simpa [Addr.add] using World.cell?_spot (hcell 0 0 hp hsz)
  subst hspot
  refine ⟨b, off, rfl, by simpa [Addr.add] using cell_lt (hcell 0 0 hp hsz), fun i j hi hj => ?_⟩
  have := hcell i j hi hj
  rw [add_plain', add_plain'] at this
  exact this
end
end Go.Proofs.Ytkifmfmenobhnaa
set_option linter.unusedVariables false
set_option linter.unusedSimpArgs false
namespace Go.Proofs.Ytkifmfmenobhnaa.Ev
open Go.RowKit
inductive CK where
 | int (k : IntKind)
 | bool
 | str
 | sl (e : TypeId)
def findF (P : Program) (go : TypeId → Nat → Option CK) (j : Nat) : List Field → Option CK
 | [] => none
 | f :: l => bif Nat.ble f.offset j && Nat.blt j (f.offset + P.cellsOf f.type) then go f.type (j - f.offset) else findF P go j l
def kindAt (P : Program) : Nat → TypeId → Nat → Option CK
 | 0, _, _ => none
 | k + 1, t, j => match P.underlying t with
  | some (.int ik) => bif Nat.beq j 0 then some (.int ik) else none
  | some .bool => bif Nat.beq j 0 then some .bool else none
  | some .string => bif Nat.beq j 0 then some .str else none
  | some (.slice e) => bif Nat.beq j 0 then some (.sl e) else none
  | some (.array n e) => bif Nat.blt j (n * P.cellsOf e) then kindAt P k e (j % P.cellsOf e) else none
  | some (.struct fs) => findF P (kindAt P k) j fs.toList
  | _ => none
def kindB (P : Program) : Nat → TypeId → Bool
 | 0, _ => false
 | d + 1, t => (List.range (P.cellsOf t)).all fun j => match kindAt P 20 t j with
  | some (.sl e) => Nat.blt 0 (P.cellsOf e) && kindB P d e
  | some _ => true
  | none => false
def okK (P : Program) : Nat → CK → CV → Prop
 | _, .int ik, c => ∃ n, c = .v (.int ik n) ∧ (Lit.int ik n).wf = true
 | _, .bool, c => ∃ b, c = .v (.bool b)
 | _, .str, c => ∃ s, c = .v (.string s) ∧ s.size ≤ maxLen
 | 0, .sl e, c => False
 | d + 1, .sl e, c => ∃ n cc, c = .sl (P.cellsOf e) n cc ∧ n ≤ maxLen ∧ ∀ i j, i < n → j < P.cellsOf e → ∃ κ, kindAt P 20 e j = some κ ∧ okK P d κ (cc i j)
section
variable {H : Type} {enc : TypeId × Value → H} {P : Program} {w : World} {base : Nat} {spare : Nat → Bool} {held : Bool}
def leaf (H : Type) (enc : TypeId × Value → H) (P : Program) (w : World) (base : Nat) (spare : Nat → Bool) (held : Bool) : CK → Value → Prop
 | .int ik, u => ∃ n, u = .int ik n ∧ (Lit.int ik n).wf = true
 | .bool, u => ∃ b, u = .bool b
 | .str, u => ∃ s : ByteArray, u = .string s ∧ s.size ≤ maxLen
 | .sl e, u => ∃ t m y, P.underlying t = some (.slice e) ∧ DataW.trod enc P w base spare held m t [u] = some y
theorem leaf_of : ∀ (k : Nat) (t : TypeId) (fuel : Nat) (cs : List Value) (x : DataW H × List MemPlace) (j : Nat) (κ : CK), kindAt P k t j = some κ → DataW.trod enc P w base spare held fuel t cs = some x → ∃ u, cs[j]? = some u ∧ leaf H enc P w base spare held κ u := by
 intro k
 induction k with
 | zero => intro t fuel cs x j κ h; cases h
 | succ k ih =>
  intro t fuel cs x j κ hk h
  unfold kindAt at hk
  have zero : ∀ {κ' : CK}, (bif Nat.beq j 0 then some κ' else none) = some κ → j = 0 ∧ κ' = κ := by
   intro κ' e
   cases hb : Nat.beq j 0 with
   | false => rw [hb] at e; cases e
   | true => rw [hb] at e; cases e; exact ⟨Nat.eq_of_beq_eq_true hb, rfl⟩
  split at hk
  ·rename_i ik ht
   obtain ⟨rfl, rfl⟩ := zero hk
   obtain ⟨n, rfl, _, h2⟩ := DataW.trod_int ht h
   exact ⟨_, rfl, n, rfl, h2⟩
  ·rename_i ht
   obtain ⟨rfl, rfl⟩ := zero hk
   obtain ⟨b, rfl, _⟩ := DataW.trod_bool ht h
   exact ⟨_, rfl, b, rfl⟩
  ·rename_i ht
   obtain ⟨rfl, rfl⟩ := zero hk
   obtain ⟨s, rfl, _, h2⟩ := DataW.trod_string ht h
   exact ⟨_, rfl, s, rfl, h2⟩
  ·rename_i e ht
   obtain ⟨rfl, rfl⟩ := zero hk
   rcases DataW.trod_slice ht h with ⟨rfl, _⟩ | ⟨a, len, cap, elems, rest, m, _, rfl, _⟩
   ·exact ⟨_, rfl, t, fuel, x, ht, h⟩
   ·exact ⟨_, rfl, t, fuel, x, ht, h⟩
  ·rename_i n e ht
   cases hb : Nat.blt j (n * P.cellsOf e) with
   | false => rw [hb] at hk; cases hk
   | true =>
    rw [hb] at hk
    simp only [cond_true] at hk
    have hj : j < n * P.cellsOf e := Nat.le_of_ble_eq_true hb
    have hpos : 0 < P.cellsOf e := by
     rcases Nat.eq_zero_or_pos (P.cellsOf e) with q | q
     ·rw [q, Nat.mul_zero] at hj; omega
     ·exact q
    obtain ⟨xs, m, _, _, hl, hxs, hf⟩ := DataW.trod_array ht h
    have hi : j / P.cellsOf e < n := Nat.div_lt_of_lt_mul (by rwa [Nat.mul_comm])
    have h5 := hf _ hi
    rw [show xs[j / P.cellsOf e]? = some xs[j / P.cellsOf e] from List.getElem?_eq_getElem (by omega)] at h5
    obtain ⟨u, h6, h7⟩ := ih e _ _ _ _ _ hk h5
    refine ⟨u, ?_, h7⟩
    rw [List.getElem?_take, if_pos (Nat.mod_lt _ hpos), List.getElem?_drop] at h6
    rwa [Nat.div_add_mod' j (P.cellsOf e)] at h6
  ·rename_i fs ht
   obtain ⟨xs, m, _, _, hl, hxs, hf⟩ := DataW.trod_struct ht h
   have find : ∀ l : List Field, (∀ f ∈ l, ∃ i : Nat, fs[i]? = some f) → findF P (kindAt P k) j l = some κ → ∃ (f : Field) (i : Nat), fs[i]? = some f ∧ f.offset ≤ j ∧ j < f.offset + P.cellsOf f.type ∧ kindAt P k f.type (j - f.offset) = some κ := by
    intro l
    induction l with
    | nil => intro _ h; cases h
    | cons f l ihl =>
     intro hm h
     unfold findF at h
     cases hb : (Nat.ble f.offset j && Nat.blt j (f.offset + P.cellsOf f.type)) with
     | false => rw [hb] at h; exact ihl (fun g hg => hm g (by simp [hg])) h
     | true =>
      rw [hb] at h
      simp only [Bool.and_eq_true] at hb
      obtain ⟨i, hi⟩ := hm f (by simp)
      exact ⟨f, i, hi, Nat.le_of_ble_eq_true hb.1, Nat.le_of_ble_eq_true hb.2, h⟩
   obtain ⟨f, i, hi, h1, h2, h3⟩ := find fs.toList (fun f hf => by
    obtain ⟨i, hi, e⟩ := List.getElem_of_mem hf
    exact ⟨i, by rw [← e]; simp at hi ⊢⟩) hk
   have h5 := hf i f hi
   have hlt : i < fs.size := by
    rcases Nat.lt_or_ge i fs.size with q | q
    ·exact q
    ·rw [Array.getElem?_eq_none q] at hi; cases hi
   rw [show xs[i]? = some xs[i] from List.getElem?_eq_getElem (by omega)] at h5
   obtain ⟨u, h6, h7⟩ := ih _ _ _ _ _ _ h3 h5
   refine ⟨u, ?_, h7⟩
   rw [List.getElem?_take, if_pos (by omega), List.getElem?_drop] at h6
   rwa [show f.offset + (j - f.offset) = j by omega] at h6
  ·cases hk
theorem open_cell : ∀ (d : Nat) (t : TypeId) (fuel : Nat) (cs : List Value) (x : DataW H × List MemPlace), kindB P d t = true → DataW.trod enc P w base spare held fuel t cs = some x → ∀ j, j < P.cellsOf t → ∃ κ c u, kindAt P 20 t j = some κ ∧ cs[j]? = some u ∧ RelF w (fun _ => True) c u ∧ okK P d κ c := by
 intro d
 induction d with
 | zero => intro t fuel cs x h; cases h
 | succ d ih =>
  intro t fuel cs x hB h j hj
  have hB' := hB
  unfold kindB at hB
  have h1 := List.all_eq_true.1 hB j (List.mem_range.2 hj)
  cases hk : kindAt P 20 t j with
  | none => rw [hk] at h1; cases h1
  | some κ =>
   rw [hk] at h1
   obtain ⟨u, h2, h3⟩ := leaf_of 20 t fuel cs x j κ hk h
   cases κ with
   | int ik =>
    obtain ⟨n, rfl, hw⟩ := h3
    exact ⟨_, .v (.int ik n), _, rfl, h2, ⟨rfl, rfl⟩, by simp only [okK]; exact ⟨n, rfl, hw⟩⟩
   | bool =>
    obtain ⟨b, rfl⟩ := h3
    exact ⟨_, .v (.bool b), _, rfl, h2, ⟨rfl, rfl⟩, by simp only [okK]; exact ⟨b, rfl⟩⟩
   | str =>
    obtain ⟨s, rfl, hs⟩ := h3
    exact ⟨_, .v (.string s), _, rfl, h2, ⟨rfl, rfl⟩, by simp only [okK]; exact ⟨s, rfl, hs⟩⟩
   | sl e =>
    simp only [Bool.and_eq_true] at h1
    have hpos : 0 < P.cellsOf e := Nat.le_of_ble_eq_true h1.1
    obtain ⟨t', m, y, ht, hy⟩ := h3
    obtain ⟨n, css, ⟨ao, cap, rfl, g1, g2, g3, g4⟩, hel⟩ := slAt_of_trod ht rfl hpos hy
    have each : ∀ i j, i < n → j < P.cellsOf e → ∃ c : CV, ∃ κ u, kindAt P 20 e j = some κ ∧ (css i)[j]? = some u ∧ RelF w (fun _ => True) c u ∧ okK P d κ c := by
     intro i j hi hj
     obtain ⟨_, m', y', h6⟩ := hel i hi
     obtain ⟨κ, c, u, q⟩ := ih e m' (css i) y' h1.2 h6 j hj
     exact ⟨c, κ, u, q⟩
    classical
    let cc : Nat → Nat → CV := fun i j => if h : i < n ∧ j < P.cellsOf e then Classical.choose (each i j h.1 h.2) else .v (.bool false)
    have hcc : ∀ i j, i < n → j < P.cellsOf e → ∃ κ u, kindAt P 20 e j = some κ ∧ (css i)[j]? = some u ∧ RelF w (fun _ => True) (cc i j) u ∧ okK P d κ (cc i j) := by
     intro i j hi hj
     have : cc i j = Classical.choose (each i j hi hj) := dif_pos ⟨hi, hj⟩
     rw [this]
     exact Classical.choose_spec (each i j hi hj)
    refine ⟨_, .sl (P.cellsOf e) n cc, _, rfl, h2, ⟨ao, cap, rfl, g1, g2, g4, fun h0 => ?_⟩, by
     simp only [okK]
     exact ⟨n, cc, rfl, Nat.le_trans g1 g2, fun i j hi hj => by obtain ⟨κ, u, q1, _, _, q4⟩ := hcc i j hi hj; exact ⟨κ, q1, q4⟩⟩⟩
    obtain ⟨b, off, e1, hlt, hc⟩ := g3 h0
    refine ⟨b, off, e1, hlt, trivial, fun i j hi hj => ?_⟩
    obtain ⟨κ, u, q1, q2, q3, _⟩ := hcc i j hi hj
    refine ⟨u, ?_, q3⟩
    rw [hc i j hi hj]
    simp [List.getD, q2]
theorem open_cells {d : Nat} {t : TypeId} {fuel : Nat} {cs : List Value} {x : DataW H × List MemPlace} (hB : kindB P d t = true) (hl : cs.length = P.cellsOf t) (h : DataW.trod enc P w base spare held fuel t cs = some x) :
  ∃ l : List CV, l.length = P.cellsOf t ∧ All2 (RelF w (fun _ => True)) l cs ∧ ∀ j, j < P.cellsOf t → ∃ κ, kindAt P 20 t j = some κ ∧ okK P d κ (l.getD j (.v (.bool false))) := by
 have each := open_cell d t fuel cs x hB h
 obtain ⟨l, h1, h2⟩ := list_of (CV.v (.bool false)) (P.cellsOf t) (R := fun j c => ∃ κ u, kindAt P 20 t j = some κ ∧ cs[j]? = some u ∧ RelF w (fun _ => True) c u ∧ okK P d κ c) (fun j hj => by obtain ⟨κ, c, u, q⟩ := each j hj; exact ⟨c, κ, u, q⟩)
 refine ⟨l, h1, All2.of_get (by omega) fun i a b ha hb => ?_, fun j hj => ?_⟩
 ·have hi : i < P.cellsOf t := by
   rcases Nat.lt_or_ge i l.length with q | q
   ·omega
   ·rw [List.getElem?_eq_none q] at ha; cases ha
  obtain ⟨κ, u, _, q2, q3, _⟩ := h2 i hi
  rw [hb] at q2
  cases q2
  rw [show l.getD i (.v (.bool false)) = a by simp [List.getD, ha]] at q3
  exact q3
 ·obtain ⟨κ, u, q1, _, _, q4⟩ := h2 j hj
  exact ⟨κ, q1, q4⟩
theorem open_agg {d : Nat} {t : TypeId} {cs : Array Value} {y : DataW H} {ps : List MemPlace} (hB : kindB P d t = true) (hl : cs.size = P.cellsOf t) (h : DataW.Trod enc P w base spare held t (.agg cs) y ps) :
  ∃ l : List CV, l.length = P.cellsOf t ∧ All2 (RelF w (fun _ => True)) l cs.toList ∧ ∀ j, j < P.cellsOf t → ∃ κ, kindAt P 20 t j = some κ ∧ okK P d κ (l.getD j (.v (.bool false))) := by
 obtain ⟨fuel, hf⟩ := h
 exact open_cells hB (by simpa using hl) (by simpa [Value.cells] using hf)
end
theorem open_i64 {P : Program} {d : Nat} {t : TypeId} {j : Nat} {c : CV} (hk : kindAt P 20 t j = some (.int .i64)) (h : ∃ κ, kindAt P 20 t j = some κ ∧ okK P d κ c) : ∃ n : Int, c = .v (.int .i64 n) ∧ -9223372036854775808 ≤ n ∧ n ≤ 9223372036854775807 := by
 obtain ⟨κ, h1, h2⟩ := h
 rw [hk] at h1
 cases h1
 have h3 : ∃ n, c = .v (.int .i64 n) ∧ (Lit.int .i64 n).wf = true := by cases d <;> exact h2
 obtain ⟨n, e, hw⟩ := h3
 have := bounds_i64 hw
 exact ⟨n, e, this.1, this.2⟩
theorem open_sl {P : Program} {d : Nat} {t e : TypeId} {j : Nat} {c : CV} (hk : kindAt P 20 t j = some (.sl e)) (h : ∃ κ, kindAt P 20 t j = some κ ∧ okK P (d + 1) κ c) : ∃ n cc, c = .sl (P.cellsOf e) n cc ∧ n ≤ maxLen ∧ ∀ i j, i < n → j < P.cellsOf e → ∃ κ, kindAt P 20 e j = some κ ∧ okK P d κ (cc i j) := by
 obtain ⟨κ, h1, h2⟩ := h
 rw [hk] at h1
 cases h1
 exact h2
def allI (P : Program) (e : TypeId) : Bool := (List.range (P.cellsOf e)).all fun j => match kindAt P 20 e j with
 | some (.int .i64) => true
 | _ => false
theorem nums_of {P : Program} {d : Nat} {e : TypeId} {n : Nat} {cc : Nat → Nat → CV} (hk : allI P e = true) (h : ∀ i j, i < n → j < P.cellsOf e → ∃ κ, kindAt P 20 e j = some κ ∧ okK P d κ (cc i j)) : numsP (P.cellsOf e) n cc := by
 intro i j hi hj
 have h1 := List.all_eq_true.1 hk j (List.mem_range.2 hj)
 split at h1
 ·rename_i hq
  obtain ⟨m, e1, _⟩ := open_i64 hq (h i j hi hj)
  rw [e1]; rfl
 ·cases h1
end Go.Proofs.Ytkifmfmenobhnaa.Ev
set_option linter.unusedVariables false
set_option linter.unusedSimpArgs false
namespace Go.Proofs.Ytkifmfmenobhnaa
open Go.RowKit Ev
theorem q2a : ((2 : Int) == 0) = false := rfl
theorem q2b : ((2 : Int) != 0) = true := rfl
theorem q12a : ((12 : Int) == 0) = false := rfl
theorem q12b : ((12 : Int) != 0) = true := rfl
theorem q13a : ((13 : Int) == 0) = false := rfl
theorem q13b : ((13 : Int) != 0) = true := rfl
end Go.Proofs.Ytkifmfmenobhnaa
set_option linter.unusedVariables false
set_option linter.unusedSimpArgs false
namespace Go.Proofs.Ytkifmfmenobhnaa
open Go.RowKit Ev
theorem wr00 : IntKind.i64.wrap (0 + 0) = 0 := rfl
theorem rtV_len (c : Cab) (l : List Png) : (rtV c l).length ≤ l.length := by
 unfold rtV; split
 ·rw [allT_len]; exact Nat.le_refl _
 ·simp
theorem rcV_len (c : Cab) (l : List Png) : (rcV c l).length ≤ 2 := by
 unfold rcV
 split
 ·simp
 ·rcases prL_cases c l with ⟨h, _⟩ | ⟨i, k, _, _, h, _⟩ <;> rw [h] <;> simp
theorem tr_cases (c : Cab) (l : List Png) : ((trE c l != 0) = true ∧ tsE c l = trE c l ∧ tsV c l = [] ∧ ctE c l = trE c l ∧ ctV c l = []) ∨
  (trE c l = 0 ∧ decide (badI c l < 0) = false ∧ tsE c l = 13 ∧ tsV c l = [] ∧ ctE c l = 0 ∧ ctV c l = rcV c l ∧ decide ((rcV c l).length > 0) = true ∧ trOk c l ∧ (rcV c l).length ≤ 2) ∨
  (trE c l = 0 ∧ decide (badI c l < 0) = true ∧ tsE c l = 0 ∧ tsV c l = rtV c l ∧ ctE c l = 0 ∧ ctV c l = rcV c l ∧ decide ((rcV c l).length > 0) = true ∧ trOk c l ∧ (rcV c l).length ≤ 2) ∨
  (trE c l = 0 ∧ decide (badI c l < 0) = true ∧ tsE c l = 0 ∧ tsV c l = rtV c l ∧ ctE c l = 12 ∧ ctV c l = [] ∧ decide ((rcV c l).length > 0) = false ∧ trOk c l ∧ (rcV c l).length ≤ 2) := by
 by_cases h : trE c l = 0
 ·have z := trE_0.1 h
  have hr := rcV_len c l
  have e1 : tsE c l = unl (decide (opB c l < 0)) 13 := by unfold tsE; rw [h]; by_cases q : opB c l < 0 <;> simp [firstNZ, unl, q]
  have e2 : opB c l = badI c l := if_pos h
  rw [e2] at e1
  by_cases b : badI c l < 0
  ·have e3 : tsE c l = 0 := by rw [e1, decide_eq_true b]; rfl
   have e4 : tsV c l = rtV c l := (if_pos e3).trans (if_pos b).symm
   have e5 : ctV c l = rcV c l := by
    unfold ctV rcV
    rw [if_neg (fun q => q h), if_neg (by omega)]
   have e6 : rcV c l = prL c l := if_neg (by omega)
   have e7 : ctE c l = unl (decide (((prL c l).length : Int) > 0)) 12 := by
    unfold ctE
    rw [if_neg (fun q => q h), if_neg (by omega)]
   by_cases d : (rcV c l).length > 0
   ·have e8 : ctE c l = 0 := by rw [e7, ← e6, decide_eq_true (by omega)]; rfl
    exact Or.inr (Or.inr (Or.inl ⟨h, decide_eq_true b, e3, e4, e8, e5, decide_eq_true d, z, hr⟩))
   ·have e8 : ctE c l = 12 := by rw [e7, ← e6, decide_eq_false (by omega)]; rfl
    have e9 : ctV c l = [] := by rw [e5]; exact List.length_eq_zero_iff.1 (by omega)
    exact Or.inr (Or.inr (Or.inr ⟨h, decide_eq_true b, e3, e4, e8, e9, decide_eq_false d, z, hr⟩))
  ·have e3 : tsE c l = 13 := by rw [e1, decide_eq_false b]; rfl
   have e4 : tsV c l = [] := if_neg (by rw [e3]; decide)
   have e5 : ctV c l = rcV c l := by
    unfold ctV rcV
    rw [if_neg (fun q => q h), if_pos (show badI c l ≥ 0 by omega)]
   have e6 : rcV c l = [badI c l] := if_pos (by omega)
   have e7 : ctE c l = 0 := by
    unfold ctE
    rw [if_neg (fun q => q h), if_pos (by omega)]
   exact Or.inr (Or.inl ⟨h, decide_eq_false b, e3, e4, e7, e5, by rw [e6]; rfl, z, hr⟩)
 ·have e1 : tsE c l = trE c l := by unfold tsE; simp [firstNZ, h]
  exact Or.inl ⟨by simpa using h, e1, if_neg (by rw [e1]; exact h), if_pos h, if_pos h⟩
def vc_law01_ClockTracks (c0 : Int) (c1 : Int) (l : List Png) (post : DV → Prop) : Prop := (numsP 4 l.length (pngsC l)) ∧ (cond (!(decide ((((listC l.length mkPng (pngsC l))).length : Int) ≤ 14))) (post (.t (.c (.v (.bool true))))) ((numsP 4 l.length (pngsC l) ∧ ((listC l.length mkPng (pngsC l))).length ≤ 1000) ∧ ((numsP 4 ((listC l.length mkPng (pngsC l)).length) (pngsC (listC l.length mkPng (pngsC l)))) ∧ ((numsP 4 l.length (pngsC l) ∧ ((listC l.length mkPng (pngsC l))).length ≤ 1000) ∧ ((numsP 4 ((listC l.length mkPng (pngsC l)).length) (pngsC (listC l.length mkPng (pngsC l)))) ∧ ((numsP 4 l.length (pngsC l) ∧ ((listC l.length mkPng (pngsC l))).length ≤ 1000) ∧ ((numsP 4 ((listC l.length mkPng (pngsC l)).length) (pngsC (listC l.length mkPng (pngsC l)))) ∧ ((numsP 4 l.length (pngsC l)) ∧ ((cond ((trE (⟨c0, c1⟩ : Cab) (listC ((listC l.length mkPng (pngsC l)).length) mkPng (pngsC (listC l.length mkPng (pngsC l))))) != (trE (⟨c0, c1⟩ : Cab) (listC l.length mkPng (pngsC l)))) ((true = true) ∧ (True)) (True)) ∧ (lt ((bif ((trE (⟨c0, c1⟩ : Cab) (listC ((listC l.length mkPng (pngsC l)).length) mkPng (pngsC (listC l.length mkPng (pngsC l))))) != (trE (⟨c0, c1⟩ : Cab) (listC l.length mkPng (pngsC l)))) then true else ((trI (⟨c0, c1⟩ : Cab) (listC ((listC l.length mkPng (pngsC l)).length) mkPng (pngsC (listC l.length mkPng (pngsC l))))) != (trI (⟨c0, c1⟩ : Cab) (listC l.length mkPng (pngsC l)))))) fun x1 => cond x1 (post (.t (.c (.v (.bool false))))) (cond ((trE (⟨c0, c1⟩ : Cab) (listC l.length mkPng (pngsC l))) != (0 : Int)) ((cond ((tsE (⟨c0, c1⟩ : Cab) (listC ((listC l.length mkPng (pngsC l)).length) mkPng (pngsC (listC l.length mkPng (pngsC l))))) == (trE (⟨c0, c1⟩ : Cab) (listC l.length mkPng (pngsC l)))) (cond ((ctE (⟨c0, c1⟩ : Cab) (listC ((listC l.length mkPng (pngsC l)).length) mkPng (pngsC (listC l.length mkPng (pngsC l))))) == (trE (⟨c0, c1⟩ : Cab) (listC l.length mkPng (pngsC l)))) (lt (IntKind.i64.wrap ((((tsV (⟨c0, c1⟩ : Cab) (listC ((listC l.length mkPng (pngsC l)).length) mkPng (pngsC (listC l.length mkPng (pngsC l))))).length : Nat) : Int) + (((ctV (⟨c0, c1⟩ : Cab) (listC ((listC l.length mkPng (pngsC l)).length) mkPng (pngsC (listC l.length mkPng (pngsC l))))).length : Nat) : Int))) fun x4 => True) ((false = false) ∧ (True))) ((false = false) ∧ ((false = false) ∧ (True)))) ∧ (lt ((bif ((tsE (⟨c0, c1⟩ : Cab) (listC ((listC l.length mkPng (pngsC l)).length) mkPng (pngsC (listC l.length mkPng (pngsC l))))) == (trE (⟨c0, c1⟩ : Cab) (listC l.length mkPng (pngsC l)))) then (bif ((ctE (⟨c0, c1⟩ : Cab) (listC ((listC l.length mkPng (pngsC l)).length) mkPng (pngsC (listC l.length mkPng (pngsC l))))) == (trE (⟨c0, c1⟩ : Cab) (listC l.length mkPng (pngsC l)))) then ((IntKind.i64.wrap ((((tsV (⟨c0, c1⟩ : Cab) (listC ((listC l.length mkPng (pngsC l)).length) mkPng (pngsC (listC l.length mkPng (pngsC l))))).length : Nat) : Int) + (((ctV (⟨c0, c1⟩ : Cab) (listC ((listC l.length mkPng (pngsC l)).length) mkPng (pngsC (listC l.length mkPng (pngsC l))))).length : Nat) : Int))) == (0 : Int)) else false) else false)) fun x5 => post (.t (.c (.v (.bool x5)))))) ((numsP 4 l.length (pngsC l) ∧ trOk (⟨c0, c1⟩ : Cab) (listC l.length mkPng (pngsC l))) ∧ ((cond (decide (badI (⟨c0, c1⟩ : Cab) (listC l.length mkPng (pngsC l)) < 0)) (cond ((tsE (⟨c0, c1⟩ : Cab) (listC ((listC l.length mkPng (pngsC l)).length) mkPng (pngsC (listC l.length mkPng (pngsC l))))) != (0 : Int)) ((true = true) ∧ ((true = true) ∧ (True))) ((numsP 2 ((tsV (⟨c0, c1⟩ : Cab) (listC ((listC l.length mkPng (pngsC l)).length) mkPng (pngsC (listC l.length mkPng (pngsC l))))).length) (rgsC (tsV (⟨c0, c1⟩ : Cab) (listC ((listC l.length mkPng (pngsC l)).length) mkPng (pngsC (listC l.length mkPng (pngsC l)))))) ∧ numsP 2 ((rtV (⟨c0, c1⟩ : Cab) (listC l.length mkPng (pngsC l))).length) (rgsC (rtV (⟨c0, c1⟩ : Cab) (listC l.length mkPng (pngsC l)))) ∧ ((listC ((tsV (⟨c0, c1⟩ : Cab) (listC ((listC l.length mkPng (pngsC l)).length) mkPng (pngsC (listC l.length mkPng (pngsC l))))).length) mkRg (rgsC (tsV (⟨c0, c1⟩ : Cab) (listC ((listC l.length mkPng (pngsC l)).length) mkPng (pngsC (listC l.length mkPng (pngsC l)))))))).length ≤ 1000000) ∧ (cond (!(decide ((listC ((tsV (⟨c0, c1⟩ : Cab) (listC ((listC l.length mkPng (pngsC l)).length) mkPng (pngsC (listC l.length mkPng (pngsC l))))).length) mkRg (rgsC (tsV (⟨c0, c1⟩ : Cab) (listC ((listC l.length mkPng (pngsC l)).length) mkPng (pngsC (listC l.length mkPng (pngsC l))))))) = (listC ((rtV (⟨c0, c1⟩ : Cab) (listC l.length mkPng (pngsC l))).length) mkRg (rgsC (rtV (⟨c0, c1⟩ : Cab) (listC l.length mkPng (pngsC l)))))))) ((true = true) ∧ (True)) (cond (!(decide (badI (⟨c0, c1⟩ : Cab) (listC l.length mkPng (pngsC l)) < 0))) (cond ((tsE (⟨c0, c1⟩ : Cab) (listC ((listC l.length mkPng (pngsC l)).length) mkPng (pngsC (listC l.length mkPng (pngsC l))))) != (13 : Int)) ((true = true) ∧ (True)) (True)) ((false = false) ∧ (True)))))) ((false = false) ∧ (cond (!(decide (badI (⟨c0, c1⟩ : Cab) (listC l.length mkPng (pngsC l)) < 0))) (cond ((tsE (⟨c0, c1⟩ : Cab) (listC ((listC l.length mkPng (pngsC l)).length) mkPng (pngsC (listC l.length mkPng (pngsC l))))) != (13 : Int)) ((true = true) ∧ (True)) (True)) ((false = false) ∧ (True))))) ∧ (lt ((bif decide (badI (⟨c0, c1⟩ : Cab) (listC l.length mkPng (pngsC l)) < 0) then (bif ((tsE (⟨c0, c1⟩ : Cab) (listC ((listC l.length mkPng (pngsC l)).length) mkPng (pngsC (listC l.length mkPng (pngsC l))))) != (0 : Int)) then true else (bif (!(decide ((listC ((tsV (⟨c0, c1⟩ : Cab) (listC ((listC l.length mkPng (pngsC l)).length) mkPng (pngsC (listC l.length mkPng (pngsC l))))).length) mkRg (rgsC (tsV (⟨c0, c1⟩ : Cab) (listC ((listC l.length mkPng (pngsC l)).length) mkPng (pngsC (listC l.length mkPng (pngsC l))))))) = (listC ((rtV (⟨c0, c1⟩ : Cab) (listC l.length mkPng (pngsC l))).length) mkRg (rgsC (rtV (⟨c0, c1⟩ : Cab) (listC l.length mkPng (pngsC l)))))))) then true else (bif (!(decide (badI (⟨c0, c1⟩ : Cab) (listC l.length mkPng (pngsC l)) < 0))) then (bif ((tsE (⟨c0, c1⟩ : Cab) (listC ((listC l.length mkPng (pngsC l)).length) mkPng (pngsC (listC l.length mkPng (pngsC l))))) != (13 : Int)) then true else ((((tsV (⟨c0, c1⟩ : Cab) (listC ((listC l.length mkPng (pngsC l)).length) mkPng (pngsC (listC l.length mkPng (pngsC l))))).length : Nat) : Int) != (0 : Int))) else false))) else (bif (!(decide (badI (⟨c0, c1⟩ : Cab) (listC l.length mkPng (pngsC l)) < 0))) then (bif ((tsE (⟨c0, c1⟩ : Cab) (listC ((listC l.length mkPng (pngsC l)).length) mkPng (pngsC (listC l.length mkPng (pngsC l))))) != (13 : Int)) then true else ((((tsV (⟨c0, c1⟩ : Cab) (listC ((listC l.length mkPng (pngsC l)).length) mkPng (pngsC (listC l.length mkPng (pngsC l))))).length : Nat) : Int) != (0 : Int))) else false))) fun x6 => cond x6 (post (.t (.c (.v (.bool false))))) ((numsP 4 l.length (pngsC l) ∧ trOk (⟨c0, c1⟩ : Cab) (listC l.length mkPng (pngsC l))) ∧ ((cond (decide ((rcV (⟨c0, c1⟩ : Cab) (listC l.length mkPng (pngsC l))).length > 0)) (cond ((ctE (⟨c0, c1⟩ : Cab) (listC ((listC l.length mkPng (pngsC l)).length) mkPng (pngsC (listC l.length mkPng (pngsC l))))) == (0 : Int)) ((numsP 1 ((ctV (⟨c0, c1⟩ : Cab) (listC ((listC l.length mkPng (pngsC l)).length) mkPng (pngsC (listC l.length mkPng (pngsC l))))).length) (intsC (ctV (⟨c0, c1⟩ : Cab) (listC ((listC l.length mkPng (pngsC l)).length) mkPng (pngsC (listC l.length mkPng (pngsC l)))))) ∧ numsP 1 ((rcV (⟨c0, c1⟩ : Cab) (listC l.length mkPng (pngsC l))).length) (intsC (rcV (⟨c0, c1⟩ : Cab) (listC l.length mkPng (pngsC l)))) ∧ ((listC ((ctV (⟨c0, c1⟩ : Cab) (listC ((listC l.length mkPng (pngsC l)).length) mkPng (pngsC (listC l.length mkPng (pngsC l))))).length) mkInt (intsC (ctV (⟨c0, c1⟩ : Cab) (listC ((listC l.length mkPng (pngsC l)).length) mkPng (pngsC (listC l.length mkPng (pngsC l)))))))).length ≤ 1000000) ∧ (cond (decide ((listC ((ctV (⟨c0, c1⟩ : Cab) (listC ((listC l.length mkPng (pngsC l)).length) mkPng (pngsC (listC l.length mkPng (pngsC l))))).length) mkInt (intsC (ctV (⟨c0, c1⟩ : Cab) (listC ((listC l.length mkPng (pngsC l)).length) mkPng (pngsC (listC l.length mkPng (pngsC l))))))) = (listC ((rcV (⟨c0, c1⟩ : Cab) (listC l.length mkPng (pngsC l))).length) mkInt (intsC (rcV (⟨c0, c1⟩ : Cab) (listC l.length mkPng (pngsC l))))))) ((true = true) ∧ (True)) (cond (!(decide ((rcV (⟨c0, c1⟩ : Cab) (listC l.length mkPng (pngsC l))).length > 0))) (cond ((ctE (⟨c0, c1⟩ : Cab) (listC ((listC l.length mkPng (pngsC l)).length) mkPng (pngsC (listC l.length mkPng (pngsC l))))) == (12 : Int)) (True) ((false = false) ∧ (True))) ((false = false) ∧ ((false = false) ∧ (True)))))) ((false = false) ∧ (cond (!(decide ((rcV (⟨c0, c1⟩ : Cab) (listC l.length mkPng (pngsC l))).length > 0))) (cond ((ctE (⟨c0, c1⟩ : Cab) (listC ((listC l.length mkPng (pngsC l)).length) mkPng (pngsC (listC l.length mkPng (pngsC l))))) == (12 : Int)) (True) ((false = false) ∧ (True))) ((false = false) ∧ ((false = false) ∧ (True)))))) ((false = false) ∧ ((false = false) ∧ (cond (!(decide ((rcV (⟨c0, c1⟩ : Cab) (listC l.length mkPng (pngsC l))).length > 0))) (cond ((ctE (⟨c0, c1⟩ : Cab) (listC ((listC l.length mkPng (pngsC l)).length) mkPng (pngsC (listC l.length mkPng (pngsC l))))) == (12 : Int)) (True) ((false = false) ∧ (True))) ((false = false) ∧ ((false = false) ∧ (True))))))) ∧ (lt ((bif decide ((rcV (⟨c0, c1⟩ : Cab) (listC l.length mkPng (pngsC l))).length > 0) then (bif ((ctE (⟨c0, c1⟩ : Cab) (listC ((listC l.length mkPng (pngsC l)).length) mkPng (pngsC (listC l.length mkPng (pngsC l))))) == (0 : Int)) then (bif decide ((listC ((ctV (⟨c0, c1⟩ : Cab) (listC ((listC l.length mkPng (pngsC l)).length) mkPng (pngsC (listC l.length mkPng (pngsC l))))).length) mkInt (intsC (ctV (⟨c0, c1⟩ : Cab) (listC ((listC l.length mkPng (pngsC l)).length) mkPng (pngsC (listC l.length mkPng (pngsC l))))))) = (listC ((rcV (⟨c0, c1⟩ : Cab) (listC l.length mkPng (pngsC l))).length) mkInt (intsC (rcV (⟨c0, c1⟩ : Cab) (listC l.length mkPng (pngsC l)))))) then true else (bif (!(decide ((rcV (⟨c0, c1⟩ : Cab) (listC l.length mkPng (pngsC l))).length > 0))) then (bif ((ctE (⟨c0, c1⟩ : Cab) (listC ((listC l.length mkPng (pngsC l)).length) mkPng (pngsC (listC l.length mkPng (pngsC l))))) == (12 : Int)) then ((((ctV (⟨c0, c1⟩ : Cab) (listC ((listC l.length mkPng (pngsC l)).length) mkPng (pngsC (listC l.length mkPng (pngsC l))))).length : Nat) : Int) == (0 : Int)) else false) else false)) else (bif (!(decide ((rcV (⟨c0, c1⟩ : Cab) (listC l.length mkPng (pngsC l))).length > 0))) then (bif ((ctE (⟨c0, c1⟩ : Cab) (listC ((listC l.length mkPng (pngsC l)).length) mkPng (pngsC (listC l.length mkPng (pngsC l))))) == (12 : Int)) then ((((ctV (⟨c0, c1⟩ : Cab) (listC ((listC l.length mkPng (pngsC l)).length) mkPng (pngsC (listC l.length mkPng (pngsC l))))).length : Nat) : Int) == (0 : Int)) else false) else false)) else (bif (!(decide ((rcV (⟨c0, c1⟩ : Cab) (listC l.length mkPng (pngsC l))).length > 0))) then (bif ((ctE (⟨c0, c1⟩ : Cab) (listC ((listC l.length mkPng (pngsC l)).length) mkPng (pngsC (listC l.length mkPng (pngsC l))))) == (12 : Int)) then ((((ctV (⟨c0, c1⟩ : Cab) (listC ((listC l.length mkPng (pngsC l)).length) mkPng (pngsC (listC l.length mkPng (pngsC l))))).length : Nat) : Int) == (0 : Int)) else false) else false))) fun x7 => post (.t (.c (.v (.bool x7)))))))))))))))))))))
def ann_law01_ClockTracks : Ann := ⟨fun _ => none, fun _ => none, fun _ => [], I1, false, fun r => lookA r [(9, (4, [50])), (12, (4, [2])), (14, (2, [97])), (17, (2, [2]))], fun _ => none⟩
theorem ev_law01_ClockTracks (J : Inv) (c0 : Int) (c1 : Int) (l : List Png) (post : DV → Prop) : evFn Try.prog tab Sy101 ann_law01_ClockTracks J Try.f7 [.t (.a [.v (.int .i64 c0), .v (.int .i64 c1), .sl 4 l.length (pngsC l)])] post = vc_law01_ClockTracks c0 c1 l post := by kernel_rfl
theorem fit_law01_ClockTracks : okFn ann_law01_ClockTracks Try.f7 = true := by kernel_rfl
theorem lp_law01_ClockTracks (J : Inv) (post : DV → Prop) : AllG J (loopsFn Try.prog tab Sy101 ann_law01_ClockTracks J Try.f7 post) = (True) := by kernel_rfl
set_option maxHeartbeats 8000000 in
set_option maxRecDepth 100000 in
theorem spec_law01_ClockTracks (c0 : Int) (c1 : Int) (l : List Png) : vc_law01_ClockTracks c0 c1 l (fun r => LeD r (.t (.c (.v (.bool true))))) := by
 unfold vc_law01_ClockTracks
 simp only [ints_listC, lpps_listC, pngs_listC, rgs_listC]
 have n1 := numsP_pngs l
 by_cases hl : l.length ≤ 14
 case neg =>
  simp only [decide_eq_false (show ¬ (l.length : Int) ≤ 14 by omega), n00, beq_self_eq_true, bne_self_eq_false, Bool.not_true, Bool.not_false, _root_.cond_true, _root_.cond_false, decide_true, eq_self_iff_true, List.length_nil, lt_v, q2a, q2b, q12a, q12b, q13a, q13b, wr00]
  (repeat' with_reducible first | assumption | trivial | (refine And.intro ?_ ?_))
  all_goals first | omega | exact LeD.refl _ | exact leB rfl | exact numsP_ints _
 simp only [decide_eq_true (show (l.length : Int) ≤ 14 by omega), n00, beq_self_eq_true, bne_self_eq_false, Bool.not_true, Bool.not_false, _root_.cond_true, _root_.cond_false, decide_true, eq_self_iff_true, List.length_nil, lt_v, q2a, q2b, q12a, q12b, q13a, q13b, wr00]
 rcases tr_cases (⟨c0, c1⟩ : Cab) l with ⟨a1, a2, a3, a4, a5⟩ | ⟨a1, a2, a3, a4, a5, a6, a7, a8, a9⟩ | ⟨a1, a2, a3, a4, a5, a6, a7, a8, a9⟩ | ⟨a1, a2, a3, a4, a5, a6, a7, a8, a9⟩
 ·simp only [a1, a2, a3, a4, a5, n00, beq_self_eq_true, bne_self_eq_false, Bool.not_true, Bool.not_false, _root_.cond_true, _root_.cond_false, decide_true, eq_self_iff_true, List.length_nil, lt_v, q2a, q2b, q12a, q12b, q13a, q13b, wr00]
  (repeat' with_reducible first | assumption | trivial | (refine And.intro ?_ ?_))
  all_goals first | omega | exact LeD.refl _ | exact leB rfl | exact numsP_ints _
 ·have r1 := numsP_rgs (rtV (⟨c0, c1⟩ : Cab) l)
  have r2 := numsP_ints (rcV (⟨c0, c1⟩ : Cab) l)
  have r3 := rtV_len (⟨c0, c1⟩ : Cab) l
  simp only [a1, a2, a3, a4, a5, a6, a7, n00, beq_self_eq_true, bne_self_eq_false, Bool.not_true, Bool.not_false, _root_.cond_true, _root_.cond_false, decide_true, eq_self_iff_true, List.length_nil, lt_v, q2a, q2b, q12a, q12b, q13a, q13b, wr00]
  (repeat' with_reducible first | assumption | trivial | (refine And.intro ?_ ?_))
  all_goals first | omega | exact LeD.refl _ | exact leB rfl | exact numsP_ints _
 ·have r1 := numsP_rgs (rtV (⟨c0, c1⟩ : Cab) l)
  have r2 := numsP_ints (rcV (⟨c0, c1⟩ : Cab) l)
  have r3 := rtV_len (⟨c0, c1⟩ : Cab) l
  simp only [a1, a2, a3, a4, a5, a6, a7, n00, beq_self_eq_true, bne_self_eq_false, Bool.not_true, Bool.not_false, _root_.cond_true, _root_.cond_false, decide_true, eq_self_iff_true, List.length_nil, lt_v, q2a, q2b, q12a, q12b, q13a, q13b, wr00]
  (repeat' with_reducible first | assumption | trivial | (refine And.intro ?_ ?_))
  all_goals first | omega | exact LeD.refl _ | exact leB rfl | exact numsP_ints _
 ·have r1 := numsP_rgs (rtV (⟨c0, c1⟩ : Cab) l)
  have r2 := numsP_ints (rcV (⟨c0, c1⟩ : Cab) l)
  have r3 := rtV_len (⟨c0, c1⟩ : Cab) l
  simp only [a1, a2, a3, a4, a5, a6, a7, n00, beq_self_eq_true, bne_self_eq_false, Bool.not_true, Bool.not_false, _root_.cond_true, _root_.cond_false, decide_true, eq_self_iff_true, List.length_nil, lt_v, q2a, q2b, q12a, q12b, q13a, q13b, wr00]
  (repeat' with_reducible first | assumption | trivial | (refine And.intro ?_ ?_))
  all_goals first | omega | exact LeD.refl _ | exact leB rfl | exact numsP_ints _
theorem law_law01_ClockTracks (c0 : Int) (c1 : Int) (l : List Png) (W : World) (N : Nat → Prop) (vs : List Value) (h : All2 (RelD (RelF W N)) [.t (.a [.v (.int .i64 c0), .v (.int .i64 c1), .sl 4 l.length (pngsC l)])] vs) : Calls Try.prog 7 vs.toArray W fun e w' => e = .returned (.bool true) ∧ Below W.heap.size W w' :=
 law_end (fn_sound mixed tabOK VSy101 (ann := ann_law01_ClockTracks) VI1 (fn := Try.f7) (J := fun _ _ _ => False) (by kernel_rfl) fit_law01_ClockTracks (args := [.t (.a [.v (.int .i64 c0), .v (.int .i64 c1), .sl 4 l.length (pngsC l)])]) (post := (fun r => LeD r (.t (.c (.v (.bool true)))))) (by rw [ev_law01_ClockTracks]; exact spec_law01_ClockTracks c0 c1 l) (by rw [lp_law01_ClockTracks]; trivial) (Nat.le_of_ble_eq_true (by kernel_rfl)) W N vs trivial h)
end Go.Proofs.Ytkifmfmenobhnaa