/- Texts of this claim, together. -/
import Derived.Test.YtkifmfmenobhnaaCR12

set_option linter.unusedVariables false
set_option linter.unusedSimpArgs false
namespace Go.Proofs.Ytkifmfmenobhnaa
open Go.RowKit Ev
theorem ob_none {c : Cab} {l : List Png} (q : ¬ trE c l = 0) (n : Int) : (trE c l == 0) = false ∧ (trE c l != 0) = true ∧ obE c l n = trE c l ∧ taV c l n = ⟨0, 0⟩ ∧ caE c l n = trE c l ∧ caV c l n = ⟨0, 0⟩ := by
 have e1 : obE c l n = trE c l := by unfold obE; simp [firstNZ, q]
 have e2 : caE c l n = trE c l := (if_neg (by rw [e1]; exact q)).trans e1
 exact ⟨by simpa using q, by simpa using q, e1, if_neg (by rw [e1]; exact q), e2, if_neg (by rw [e2]; exact q)⟩
theorem ma_none {c : Cab} {l : List Png} (q : ¬ trE c l = 0) (n : Int) : maV c l n = 0 := by
 have e1 := (ob_none q n).2.2.1
 exact if_neg (by rw [e1]; exact q)
theorem clB_rc (c : Cab) (l : List Png) : clB c l = !decide ((rcV c l).length > 0) := by
 unfold clB rcV
 by_cases b : badI c l < 0
 ·rw [if_neg (by omega), decide_eq_true b]
  by_cases d : (prL c l).length = 0 <;> simp [d]
  omega
 ·rw [if_pos (by omega), decide_eq_false b]; rfl
theorem ob_eq {c : Cab} {l : List Png} (q : trE c l = 0) (n : Int) : obE c l n = firstNZ [unl (tkB n) 2, unl (!decide ((rcV c l).length > 0)) 13] := by
 unfold obE; rw [q, clB_rc]; simp [firstNZ]
theorem ob_bad {c : Cab} {l : List Png} {n e : Int} (h : obE c l n = e) (he : e ≠ 0) : taV c l n = ⟨0, 0⟩ ∧ maV c l n = 0 ∧ caE c l n = e ∧ caV c l n = ⟨0, 0⟩ := by
 have e2 : caE c l n = e := (if_neg (by rw [h]; exact he)).trans h
 exact ⟨if_neg (by rw [h]; exact he), if_neg (by rw [h]; exact he), e2, if_neg (by rw [e2]; exact he)⟩
theorem ob_clash {c : Cab} {l : List Png} (q : trE c l = 0) (hc : decide ((rcV c l).length > 0) = true) (n : Int) : (tkB n = false ∧ obE c l n = 2 ∧ taV c l n = ⟨0, 0⟩ ∧ maV c l n = 0 ∧ caE c l n = 2 ∧ caV c l n = ⟨0, 0⟩) ∨ (tkB n = true ∧ obE c l n = 13 ∧ taV c l n = ⟨0, 0⟩ ∧ maV c l n = 0 ∧ caE c l n = 13 ∧ caV c l n = ⟨0, 0⟩) := by
 have e := ob_eq q n
 rw [hc] at e
 cases a : tkB n with
 | false => rw [a] at e; exact Or.inl ⟨rfl, e, ob_bad e (by decide)⟩
 | true => rw [a] at e; exact Or.inr ⟨rfl, e, ob_bad e (by decide)⟩
theorem ob_free {c : Cab} {l : List Png} (q : trE c l = 0) (hc : decide ((rcV c l).length > 0) = false) (n : Int) : (tkB n = false ∧ obE c l n = 2 ∧ taV c l n = ⟨0, 0⟩ ∧ maV c l n = 0 ∧ caE c l n = 2 ∧ caV c l n = ⟨0, 0⟩) ∨ (tkB n = true ∧ obE c l n = 0 ∧ taV c l n = atR c l n ∧ maV c l n = ((atR c l n).lo + (atR c l n).hi) / 2 ∧
  ((rnB c l n = true ∧ caE c l n = 0 ∧ caV c l n = rnR c l n) ∨ (rnB c l n = false ∧ caE c l n = 12 ∧ caV c l n = ⟨0, 0⟩))) := by
 have e := ob_eq q n
 rw [hc] at e
 cases a : tkB n with
 | false => rw [a] at e; exact Or.inl ⟨rfl, e, ob_bad e (by decide)⟩
 | true =>
  rw [a] at e
  have e : obE c l n = 0 := e
  have e2 : caE c l n = unl (rnB c l n) 12 := if_pos e
  refine Or.inr ⟨rfl, e, if_pos e, if_pos e, ?_⟩
  cases b : rnB c l n with
  | true =>
   rw [b] at e2
   exact Or.inl ⟨rfl, e2, (if_pos e2).trans (if_pos b).symm⟩
  | false =>
   rw [b] at e2
   have e2 : caE c l n = 12 := e2
   exact Or.inr ⟨rfl, e2, if_neg (by rw [e2]; decide)⟩
theorem can_all {c : Cab} {l : List Png} (q : trE c l = 0) (hc : decide ((rcV c l).length > 0) = false) : ∀ i, i < l.length → canB c (pngAt l i) = true := by
 have h := of_decide_eq_false hc
 refine (bad_none ?_).1
 unfold rcV at h
 split at h
 ·simp at h
 ·omega
def vc_law01_ClockTranslated (c0 : Int) (c1 : Int) (l : List Png) (ct : Int) (tk : Int) (post : DV → Prop) : Prop := (numsP 4 l.length (pngsC l)) ∧ (cond (!(decide ((((listC l.length mkPng (pngsC l))).length : Int) ≤ 14))) (post (.t (.c (.v (.bool true))))) ((numsP 4 l.length (pngsC l) ∧ ((listC l.length mkPng (pngsC l))).length ≤ 1000) ∧ ((numsP 4 ((listC l.length mkPng (pngsC l)).length) (pngsC (listC l.length mkPng (pngsC l)))) ∧ ((numsP 4 l.length (pngsC l) ∧ ((listC l.length mkPng (pngsC l))).length ≤ 1000) ∧ ((numsP 4 ((listC l.length mkPng (pngsC l)).length) (pngsC (listC l.length mkPng (pngsC l)))) ∧ ((numsP 4 l.length (pngsC l) ∧ ((listC l.length mkPng (pngsC l))).length ≤ 1000) ∧ ((numsP 4 ((listC l.length mkPng (pngsC l)).length) (pngsC (listC l.length mkPng (pngsC l)))) ∧ ((numsP 4 l.length (pngsC l)) ∧ ((cond ((trE (⟨c0, c1⟩ : Cab) (listC l.length mkPng (pngsC l))) == (0 : Int)) ((numsP 4 l.length (pngsC l) ∧ trOk (⟨c0, c1⟩ : Cab) (listC l.length mkPng (pngsC l))) ∧ (True)) (True)) ∧ (lt ((bif ((trE (⟨c0, c1⟩ : Cab) (listC l.length mkPng (pngsC l))) == (0 : Int)) then decide ((rcV (⟨c0, c1⟩ : Cab) (listC l.length mkPng (pngsC l))).length > 0) else false)) fun x1 => (cond ((trE (⟨c0, c1⟩ : Cab) (listC l.length mkPng (pngsC l))) == (0 : Int)) (True) ((false = false) ∧ (True))) ∧ (lt ((bif ((trE (⟨c0, c1⟩ : Cab) (listC l.length mkPng (pngsC l))) == (0 : Int)) then (!(tkB ct)) else false)) fun x2 => (cond x2 (True) (True)) ∧ (lt ((bif x2 then (2 : Int) else trE (⟨c0, c1⟩ : Cab) (listC l.length mkPng (pngsC l)))) fun x3 => (cond ((trE (⟨c0, c1⟩ : Cab) (listC l.length mkPng (pngsC l))) == (0 : Int)) (True) ((false = false) ∧ (True))) ∧ (lt ((bif ((trE (⟨c0, c1⟩ : Cab) (listC l.length mkPng (pngsC l))) == (0 : Int)) then (!(tkB tk)) else false)) fun x4 => (cond x4 (True) (True)) ∧ (lt ((bif x4 then (2 : Int) else trE (⟨c0, c1⟩ : Cab) (listC l.length mkPng (pngsC l)))) fun x5 => (cond x1 (True) ((false = false) ∧ (True))) ∧ (lt ((bif x1 then (x3 == (0 : Int)) else false)) fun x6 => (cond x6 (True) (True)) ∧ (lt ((bif x6 then (13 : Int) else x3)) fun x7 => (cond x1 (True) ((false = false) ∧ (True))) ∧ (lt ((bif x1 then (x5 == (0 : Int)) else false)) fun x8 => (cond x8 (True) (True)) ∧ (lt ((bif x8 then (13 : Int) else x5)) fun x9 => (cond (x7 != (0 : Int)) (cond ((obE (⟨c0, c1⟩ : Cab) (listC ((listC l.length mkPng (pngsC l)).length) mkPng (pngsC (listC l.length mkPng (pngsC l)))) ct) != x7) ((true = true) ∧ ((true = true) ∧ ((true = true) ∧ (True)))) (cond (!(bif (((taV (⟨c0, c1⟩ : Cab) (listC ((listC l.length mkPng (pngsC l)).length) mkPng (pngsC (listC l.length mkPng (pngsC l)))) ct).lo) == (0 : Int)) then (bif (((taV (⟨c0, c1⟩ : Cab) (listC ((listC l.length mkPng (pngsC l)).length) mkPng (pngsC (listC l.length mkPng (pngsC l)))) ct).hi) == (0 : Int)) then true else false) else false)) ((true = true) ∧ ((true = true) ∧ (True))) (cond ((obE (⟨c0, c1⟩ : Cab) (listC ((listC l.length mkPng (pngsC l)).length) mkPng (pngsC (listC l.length mkPng (pngsC l)))) ct) != x7) ((true = true) ∧ (True)) (True)))) ((false = false) ∧ (True))) ∧ (lt ((bif (x7 != (0 : Int)) then (bif ((obE (⟨c0, c1⟩ : Cab) (listC ((listC l.length mkPng (pngsC l)).length) mkPng (pngsC (listC l.length mkPng (pngsC l)))) ct) != x7) then true else (bif (!(bif (((taV (⟨c0, c1⟩ : Cab) (listC ((listC l.length mkPng (pngsC l)).length) mkPng (pngsC (listC l.length mkPng (pngsC l)))) ct).lo) == (0 : Int)) then (bif (((taV (⟨c0, c1⟩ : Cab) (listC ((listC l.length mkPng (pngsC l)).length) mkPng (pngsC (listC l.length mkPng (pngsC l)))) ct).hi) == (0 : Int)) then true else false) else false)) then true else (bif ((obE (⟨c0, c1⟩ : Cab) (listC ((listC l.length mkPng (pngsC l)).length) mkPng (pngsC (listC l.length mkPng (pngsC l)))) ct) != x7) then true else ((maV (⟨c0, c1⟩ : Cab) (listC ((listC l.length mkPng (pngsC l)).length) mkPng (pngsC (listC l.length mkPng (pngsC l)))) ct) != (0 : Int))))) else false)) fun x10 => cond x10 (post (.t (.c (.v (.bool false))))) (cond (x7 == (0 : Int)) ((numsP 4 l.length (pngsC l) ∧ (trOk (⟨c0, c1⟩ : Cab) (listC l.length mkPng (pngsC l)) ∧ (∀ i, i < ((listC l.length mkPng (pngsC l))).length → canB (⟨c0, c1⟩ : Cab) (pngAt (listC l.length mkPng (pngsC l)) i) = true)) ∧ 0 ≤ ct ∧ ct ≤ 1000000000000) ∧ ((cond ((obE (⟨c0, c1⟩ : Cab) (listC ((listC l.length mkPng (pngsC l)).length) mkPng (pngsC (listC l.length mkPng (pngsC l)))) ct) != (0 : Int)) ((true = true) ∧ ((true = true) ∧ ((true = true) ∧ (True)))) (cond (!(bif (((taV (⟨c0, c1⟩ : Cab) (listC ((listC l.length mkPng (pngsC l)).length) mkPng (pngsC (listC l.length mkPng (pngsC l)))) ct).lo) == ((atR (⟨c0, c1⟩ : Cab) (listC l.length mkPng (pngsC l)) ct).lo)) then (bif (((taV (⟨c0, c1⟩ : Cab) (listC ((listC l.length mkPng (pngsC l)).length) mkPng (pngsC (listC l.length mkPng (pngsC l)))) ct).hi) == ((atR (⟨c0, c1⟩ : Cab) (listC l.length mkPng (pngsC l)) ct).hi)) then true else false) else false)) ((true = true) ∧ ((true = true) ∧ (True))) (cond ((obE (⟨c0, c1⟩ : Cab) (listC ((listC l.length mkPng (pngsC l)).length) mkPng (pngsC (listC l.length mkPng (pngsC l)))) ct) != (0 : Int)) ((true = true) ∧ (True)) (lt (IntKind.i64.wrap (((atR (⟨c0, c1⟩ : Cab) (listC l.length mkPng (pngsC l)) ct).lo) + ((atR (⟨c0, c1⟩ : Cab) (listC l.length mkPng (pngsC l)) ct).hi))) fun x15 => (0 < (2 : Int) ∧ -4000000000000000 ≤ x15 ∧ x15 ≤ 4000000000000000) ∧ (True))))) ∧ (lt ((bif ((obE (⟨c0, c1⟩ : Cab) (listC ((listC l.length mkPng (pngsC l)).length) mkPng (pngsC (listC l.length mkPng (pngsC l)))) ct) != (0 : Int)) then true else (bif (!(bif (((taV (⟨c0, c1⟩ : Cab) (listC ((listC l.length mkPng (pngsC l)).length) mkPng (pngsC (listC l.length mkPng (pngsC l)))) ct).lo) == ((atR (⟨c0, c1⟩ : Cab) (listC l.length mkPng (pngsC l)) ct).lo)) then (bif (((taV (⟨c0, c1⟩ : Cab) (listC ((listC l.length mkPng (pngsC l)).length) mkPng (pngsC (listC l.length mkPng (pngsC l)))) ct).hi) == ((atR (⟨c0, c1⟩ : Cab) (listC l.length mkPng (pngsC l)) ct).hi)) then true else false) else false)) then true else (bif ((obE (⟨c0, c1⟩ : Cab) (listC ((listC l.length mkPng (pngsC l)).length) mkPng (pngsC (listC l.length mkPng (pngsC l)))) ct) != (0 : Int)) then true else ((maV (⟨c0, c1⟩ : Cab) (listC ((listC l.length mkPng (pngsC l)).length) mkPng (pngsC (listC l.length mkPng (pngsC l)))) ct) != ((IntKind.i64.wrap (((atR (⟨c0, c1⟩ : Cab) (listC l.length mkPng (pngsC l)) ct).lo) + ((atR (⟨c0, c1⟩ : Cab) (listC l.length mkPng (pngsC l)) ct).hi))) / (2 : Int))))))) fun x16 => cond x16 (post (.t (.c (.v (.bool false))))) (cond (x9 != (0 : Int)) ((cond ((caE (⟨c0, c1⟩ : Cab) (listC ((listC l.length mkPng (pngsC l)).length) mkPng (pngsC (listC l.length mkPng (pngsC l)))) tk) == x9) (True) ((false = false) ∧ (True))) ∧ (lt ((bif ((caE (⟨c0, c1⟩ : Cab) (listC ((listC l.length mkPng (pngsC l)).length) mkPng (pngsC (listC l.length mkPng (pngsC l)))) tk) == x9) then (bif (((caV (⟨c0, c1⟩ : Cab) (listC ((listC l.length mkPng (pngsC l)).length) mkPng (pngsC (listC l.length mkPng (pngsC l)))) tk).lo) == (0 : Int)) then (bif (((caV (⟨c0, c1⟩ : Cab) (listC ((listC l.length mkPng (pngsC l)).length) mkPng (pngsC (listC l.length mkPng (pngsC l)))) tk).hi) == (0 : Int)) then true else false) else false) else false)) fun x17 => post (.t (.c (.v (.bool x17)))))) ((numsP 4 l.length (pngsC l) ∧ (trOk (⟨c0, c1⟩ : Cab) (listC l.length mkPng (pngsC l)) ∧ (∀ i, i < ((listC l.length mkPng (pngsC l))).length → canB (⟨c0, c1⟩ : Cab) (pngAt (listC l.length mkPng (pngsC l)) i) = true))) ∧ ((cond (rnB (⟨c0, c1⟩ : Cab) (listC l.length mkPng (pngsC l)) tk) (cond ((caE (⟨c0, c1⟩ : Cab) (listC ((listC l.length mkPng (pngsC l)).length) mkPng (pngsC (listC l.length mkPng (pngsC l)))) tk) == (0 : Int)) (cond (bif (((caV (⟨c0, c1⟩ : Cab) (listC ((listC l.length mkPng (pngsC l)).length) mkPng (pngsC (listC l.length mkPng (pngsC l)))) tk).lo) == ((rnR (⟨c0, c1⟩ : Cab) (listC l.length mkPng (pngsC l)) tk).lo)) then (bif (((caV (⟨c0, c1⟩ : Cab) (listC ((listC l.length mkPng (pngsC l)).length) mkPng (pngsC (listC l.length mkPng (pngsC l)))) tk).hi) == ((rnR (⟨c0, c1⟩ : Cab) (listC l.length mkPng (pngsC l)) tk).hi)) then true else false) else false) ((true = true) ∧ (True)) (cond (!(rnB (⟨c0, c1⟩ : Cab) (listC l.length mkPng (pngsC l)) tk)) (cond ((caE (⟨c0, c1⟩ : Cab) (listC ((listC l.length mkPng (pngsC l)).length) mkPng (pngsC (listC l.length mkPng (pngsC l)))) tk) == (12 : Int)) (True) ((false = false) ∧ (True))) ((false = false) ∧ ((false = false) ∧ (True))))) ((false = false) ∧ (cond (!(rnB (⟨c0, c1⟩ : Cab) (listC l.length mkPng (pngsC l)) tk)) (cond ((caE (⟨c0, c1⟩ : Cab) (listC ((listC l.length mkPng (pngsC l)).length) mkPng (pngsC (listC l.length mkPng (pngsC l)))) tk) == (12 : Int)) (True) ((false = false) ∧ (True))) ((false = false) ∧ ((false = false) ∧ (True)))))) ((false = false) ∧ ((false = false) ∧ (cond (!(rnB (⟨c0, c1⟩ : Cab) (listC l.length mkPng (pngsC l)) tk)) (cond ((caE (⟨c0, c1⟩ : Cab) (listC ((listC l.length mkPng (pngsC l)).length) mkPng (pngsC (listC l.length mkPng (pngsC l)))) tk) == (12 : Int)) (True) ((false = false) ∧ (True))) ((false = false) ∧ ((false = false) ∧ (True))))))) ∧ (lt ((bif rnB (⟨c0, c1⟩ : Cab) (listC l.length mkPng (pngsC l)) tk then (bif ((caE (⟨c0, c1⟩ : Cab) (listC ((listC l.length mkPng (pngsC l)).length) mkPng (pngsC (listC l.length mkPng (pngsC l)))) tk) == (0 : Int)) then (bif (bif (((caV (⟨c0, c1⟩ : Cab) (listC ((listC l.length mkPng (pngsC l)).length) mkPng (pngsC (listC l.length mkPng (pngsC l)))) tk).lo) == ((rnR (⟨c0, c1⟩ : Cab) (listC l.length mkPng (pngsC l)) tk).lo)) then (bif (((caV (⟨c0, c1⟩ : Cab) (listC ((listC l.length mkPng (pngsC l)).length) mkPng (pngsC (listC l.length mkPng (pngsC l)))) tk).hi) == ((rnR (⟨c0, c1⟩ : Cab) (listC l.length mkPng (pngsC l)) tk).hi)) then true else false) else false) then true else (bif (!(rnB (⟨c0, c1⟩ : Cab) (listC l.length mkPng (pngsC l)) tk)) then (bif ((caE (⟨c0, c1⟩ : Cab) (listC ((listC l.length mkPng (pngsC l)).length) mkPng (pngsC (listC l.length mkPng (pngsC l)))) tk) == (12 : Int)) then (bif (((caV (⟨c0, c1⟩ : Cab) (listC ((listC l.length mkPng (pngsC l)).length) mkPng (pngsC (listC l.length mkPng (pngsC l)))) tk).lo) == (0 : Int)) then (bif (((caV (⟨c0, c1⟩ : Cab) (listC ((listC l.length mkPng (pngsC l)).length) mkPng (pngsC (listC l.length mkPng (pngsC l)))) tk).hi) == (0 : Int)) then true else false) else false) else false) else false)) else (bif (!(rnB (⟨c0, c1⟩ : Cab) (listC l.length mkPng (pngsC l)) tk)) then (bif ((caE (⟨c0, c1⟩ : Cab) (listC ((listC l.length mkPng (pngsC l)).length) mkPng (pngsC (listC l.length mkPng (pngsC l)))) tk) == (12 : Int)) then (bif (((caV (⟨c0, c1⟩ : Cab) (listC ((listC l.length mkPng (pngsC l)).length) mkPng (pngsC (listC l.length mkPng (pngsC l)))) tk).lo) == (0 : Int)) then (bif (((caV (⟨c0, c1⟩ : Cab) (listC ((listC l.length mkPng (pngsC l)).length) mkPng (pngsC (listC l.length mkPng (pngsC l)))) tk).hi) == (0 : Int)) then true else false) else false) else false) else false)) else (bif (!(rnB (⟨c0, c1⟩ : Cab) (listC l.length mkPng (pngsC l)) tk)) then (bif ((caE (⟨c0, c1⟩ : Cab) (listC ((listC l.length mkPng (pngsC l)).length) mkPng (pngsC (listC l.length mkPng (pngsC l)))) tk) == (12 : Int)) then (bif (((caV (⟨c0, c1⟩ : Cab) (listC ((listC l.length mkPng (pngsC l)).length) mkPng (pngsC (listC l.length mkPng (pngsC l)))) tk).lo) == (0 : Int)) then (bif (((caV (⟨c0, c1⟩ : Cab) (listC ((listC l.length mkPng (pngsC l)).length) mkPng (pngsC (listC l.length mkPng (pngsC l)))) tk).hi) == (0 : Int)) then true else false) else false) else false) else false))) fun x18 => post (.t (.c (.v (.bool x18))))))))))) (cond (x9 != (0 : Int)) ((cond ((caE (⟨c0, c1⟩ : Cab) (listC ((listC l.length mkPng (pngsC l)).length) mkPng (pngsC (listC l.length mkPng (pngsC l)))) tk) == x9) (True) ((false = false) ∧ (True))) ∧ (lt ((bif ((caE (⟨c0, c1⟩ : Cab) (listC ((listC l.length mkPng (pngsC l)).length) mkPng (pngsC (listC l.length mkPng (pngsC l)))) tk) == x9) then (bif (((caV (⟨c0, c1⟩ : Cab) (listC ((listC l.length mkPng (pngsC l)).length) mkPng (pngsC (listC l.length mkPng (pngsC l)))) tk).lo) == (0 : Int)) then (bif (((caV (⟨c0, c1⟩ : Cab) (listC ((listC l.length mkPng (pngsC l)).length) mkPng (pngsC (listC l.length mkPng (pngsC l)))) tk).hi) == (0 : Int)) then true else false) else false) else false)) fun x19 => post (.t (.c (.v (.bool x19)))))) ((numsP 4 l.length (pngsC l) ∧ (trOk (⟨c0, c1⟩ : Cab) (listC l.length mkPng (pngsC l)) ∧ (∀ i, i < ((listC l.length mkPng (pngsC l))).length → canB (⟨c0, c1⟩ : Cab) (pngAt (listC l.length mkPng (pngsC l)) i) = true))) ∧ ((cond (rnB (⟨c0, c1⟩ : Cab) (listC l.length mkPng (pngsC l)) tk) (cond ((caE (⟨c0, c1⟩ : Cab) (listC ((listC l.length mkPng (pngsC l)).length) mkPng (pngsC (listC l.length mkPng (pngsC l)))) tk) == (0 : Int)) (cond (bif (((caV (⟨c0, c1⟩ : Cab) (listC ((listC l.length mkPng (pngsC l)).length) mkPng (pngsC (listC l.length mkPng (pngsC l)))) tk).lo) == ((rnR (⟨c0, c1⟩ : Cab) (listC l.length mkPng (pngsC l)) tk).lo)) then (bif (((caV (⟨c0, c1⟩ : Cab) (listC ((listC l.length mkPng (pngsC l)).length) mkPng (pngsC (listC l.length mkPng (pngsC l)))) tk).hi) == ((rnR (⟨c0, c1⟩ : Cab) (listC l.length mkPng (pngsC l)) tk).hi)) then true else false) else false) ((true = true) ∧ (True)) (cond (!(rnB (⟨c0, c1⟩ : Cab) (listC l.length mkPng (pngsC l)) tk)) (cond ((caE (⟨c0, c1⟩ : Cab) (listC ((listC l.length mkPng (pngsC l)).length) mkPng (pngsC (listC l.length mkPng (pngsC l)))) tk) == (12 : Int)) (True) ((false = false) ∧ (True))) ((false = false) ∧ ((false = false) ∧ (True))))) ((false = false) ∧ (cond (!(rnB (⟨c0, c1⟩ : Cab) (listC l.length mkPng (pngsC l)) tk)) (cond ((caE (⟨c0, c1⟩ : Cab) (listC ((listC l.length mkPng (pngsC l)).length) mkPng (pngsC (listC l.length mkPng (pngsC l)))) tk) == (12 : Int)) (True) ((false = false) ∧ (True))) ((false = false) ∧ ((false = false) ∧ (True)))))) ((false = false) ∧ ((false = false) ∧ (cond (!(rnB (⟨c0, c1⟩ : Cab) (listC l.length mkPng (pngsC l)) tk)) (cond ((caE (⟨c0, c1⟩ : Cab) (listC ((listC l.length mkPng (pngsC l)).length) mkPng (pngsC (listC l.length mkPng (pngsC l)))) tk) == (12 : Int)) (True) ((false = false) ∧ (True))) ((false = false) ∧ ((false = false) ∧ (True))))))) ∧ (lt ((bif rnB (⟨c0, c1⟩ : Cab) (listC l.length mkPng (pngsC l)) tk then (bif ((caE (⟨c0, c1⟩ : Cab) (listC ((listC l.length mkPng (pngsC l)).length) mkPng (pngsC (listC l.length mkPng (pngsC l)))) tk) == (0 : Int)) then (bif (bif (((caV (⟨c0, c1⟩ : Cab) (listC ((listC l.length mkPng (pngsC l)).length) mkPng (pngsC (listC l.length mkPng (pngsC l)))) tk).lo) == ((rnR (⟨c0, c1⟩ : Cab) (listC l.length mkPng (pngsC l)) tk).lo)) then (bif (((caV (⟨c0, c1⟩ : Cab) (listC ((listC l.length mkPng (pngsC l)).length) mkPng (pngsC (listC l.length mkPng (pngsC l)))) tk).hi) == ((rnR (⟨c0, c1⟩ : Cab) (listC l.length mkPng (pngsC l)) tk).hi)) then true else false) else false) then true else (bif (!(rnB (⟨c0, c1⟩ : Cab) (listC l.length mkPng (pngsC l)) tk)) then (bif ((caE (⟨c0, c1⟩ : Cab) (listC ((listC l.length mkPng (pngsC l)).length) mkPng (pngsC (listC l.length mkPng (pngsC l)))) tk) == (12 : Int)) then (bif (((caV (⟨c0, c1⟩ : Cab) (listC ((listC l.length mkPng (pngsC l)).length) mkPng (pngsC (listC l.length mkPng (pngsC l)))) tk).lo) == (0 : Int)) then (bif (((caV (⟨c0, c1⟩ : Cab) (listC ((listC l.length mkPng (pngsC l)).length) mkPng (pngsC (listC l.length mkPng (pngsC l)))) tk).hi) == (0 : Int)) then true else false) else false) else false) else false)) else (bif (!(rnB (⟨c0, c1⟩ : Cab) (listC l.length mkPng (pngsC l)) tk)) then (bif ((caE (⟨c0, c1⟩ : Cab) (listC ((listC l.length mkPng (pngsC l)).length) mkPng (pngsC (listC l.length mkPng (pngsC l)))) tk) == (12 : Int)) then (bif (((caV (⟨c0, c1⟩ : Cab) (listC ((listC l.length mkPng (pngsC l)).length) mkPng (pngsC (listC l.length mkPng (pngsC l)))) tk).lo) == (0 : Int)) then (bif (((caV (⟨c0, c1⟩ : Cab) (listC ((listC l.length mkPng (pngsC l)).length) mkPng (pngsC (listC l.length mkPng (pngsC l)))) tk).hi) == (0 : Int)) then true else false) else false) else false) else false)) else (bif (!(rnB (⟨c0, c1⟩ : Cab) (listC l.length mkPng (pngsC l)) tk)) then (bif ((caE (⟨c0, c1⟩ : Cab) (listC ((listC l.length mkPng (pngsC l)).length) mkPng (pngsC (listC l.length mkPng (pngsC l)))) tk) == (12 : Int)) then (bif (((caV (⟨c0, c1⟩ : Cab) (listC ((listC l.length mkPng (pngsC l)).length) mkPng (pngsC (listC l.length mkPng (pngsC l)))) tk).lo) == (0 : Int)) then (bif (((caV (⟨c0, c1⟩ : Cab) (listC ((listC l.length mkPng (pngsC l)).length) mkPng (pngsC (listC l.length mkPng (pngsC l)))) tk).hi) == (0 : Int)) then true else false) else false) else false) else false))) fun x20 => post (.t (.c (.v (.bool x20))))))))))))))))))))))))))))
def ann_law01_ClockTranslated : Ann := ⟨fun _ => none, fun _ => none, fun _ => [], I1, false, fun r => lookA r [(12, (3, [61])), (14, (3, [68])), (16, (2, [73])), (18, (2, [78])), (20, (3, [99])), (24, (3, [125])), (27, (4, [6])), (29, (2, [6]))], fun r => lookA r [(11, [15]), (13, [13]), (15, [14]), (17, [13]), (19, [14])]⟩
theorem ev_law01_ClockTranslated (J : Inv) (c0 : Int) (c1 : Int) (l : List Png) (ct : Int) (tk : Int) (post : DV → Prop) : evFn Try.prog tab Sy101 ann_law01_ClockTranslated J Try.f10 [.t (.a [.v (.int .i64 c0), .v (.int .i64 c1), .sl 4 l.length (pngsC l)]), .t (.c (.v (.int .i64 ct))), .t (.c (.v (.int .i64 tk)))] post = vc_law01_ClockTranslated c0 c1 l ct tk post := by kernel_rfl
theorem fit_law01_ClockTranslated : okFn ann_law01_ClockTranslated Try.f10 = true := by kernel_rfl
theorem lp_law01_ClockTranslated (J : Inv) (post : DV → Prop) : AllG J (loopsFn Try.prog tab Sy101 ann_law01_ClockTranslated J Try.f10 post) = (True) := by kernel_rfl
set_option maxHeartbeats 8000000 in
set_option maxRecDepth 100000 in
theorem spec_law01_ClockTranslated (c0 : Int) (c1 : Int) (l : List Png) (ct : Int) (tk : Int) : vc_law01_ClockTranslated c0 c1 l ct tk (fun r => LeD r (.t (.c (.v (.bool true))))) := by
 unfold vc_law01_ClockTranslated
 simp only [ints_listC, lpps_listC, pngs_listC, rgs_listC]
 have n1 := numsP_pngs l
 by_cases hl : l.length ≤ 14
 case neg =>
  simp only [decide_eq_false (show ¬ (l.length : Int) ≤ 14 by omega), n00, beq_self_eq_true, bne_self_eq_false, Bool.not_true, Bool.not_false, _root_.cond_true, _root_.cond_false, decide_true, eq_self_iff_true, List.length_nil, lt_v, q2a, q2b, q12a, q12b, q13a, q13b, wr00]
  (repeat' with_reducible first | assumption | trivial | (refine And.intro ?_ ?_))
  all_goals first | omega | exact LeD.refl _ | exact leB rfl | exact numsP_ints _
 simp only [decide_eq_true (show (l.length : Int) ≤ 14 by omega), n00, beq_self_eq_true, bne_self_eq_false, Bool.not_true, Bool.not_false, _root_.cond_true, _root_.cond_false, decide_true, eq_self_iff_true, List.length_nil, lt_v, q2a, q2b, q12a, q12b, q13a, q13b, wr00]
 by_cases q : trE (⟨c0, c1⟩ : Cab) l = 0
 case neg =>
  obtain ⟨a1, a2, a3, a4⟩ := ob_none q ct
  obtain ⟨b1, b2, b3, b4, b5, b6⟩ := ob_none q tk
  simp only [a1, a2, a3, a4, b5, b6, ma_none q, n00, beq_self_eq_true, bne_self_eq_false, Bool.not_true, Bool.not_false, _root_.cond_true, _root_.cond_false, decide_true, eq_self_iff_true, List.length_nil, lt_v, q2a, q2b, q12a, q12b, q13a, q13b, wr00]
  (repeat' with_reducible first | assumption | trivial | (refine And.intro ?_ ?_))
  all_goals first | omega | exact LeD.refl _ | exact leB rfl | exact numsP_ints _
 have z := trE_0.1 q
 simp only [q, n00, beq_self_eq_true, bne_self_eq_false, Bool.not_true, Bool.not_false, _root_.cond_true, _root_.cond_false, decide_true, eq_self_iff_true, List.length_nil, lt_v, q2a, q2b, q12a, q12b, q13a, q13b, wr00]
 cases hc : decide ((rcV (⟨c0, c1⟩ : Cab) l).length > 0) with
 | true =>
  simp only [n00, beq_self_eq_true, bne_self_eq_false, Bool.not_true, Bool.not_false, _root_.cond_true, _root_.cond_false, decide_true, eq_self_iff_true, List.length_nil, lt_v, q2a, q2b, q12a, q12b, q13a, q13b, wr00]
  rcases ob_clash q hc ct with ⟨a1, a2, a3, a4, a5, a6⟩ | ⟨a1, a2, a3, a4, a5, a6⟩ <;> rcases ob_clash q hc tk with ⟨b1, b2, b3, b4, b5, b6⟩ | ⟨b1, b2, b3, b4, b5, b6⟩ <;> simp only [a1, a2, a3, a4, b1, b5, b6, n00, beq_self_eq_true, bne_self_eq_false, Bool.not_true, Bool.not_false, _root_.cond_true, _root_.cond_false, decide_true, eq_self_iff_true, List.length_nil, lt_v, q2a, q2b, q12a, q12b, q13a, q13b, wr00]
  all_goals
   (repeat' with_reducible first | assumption | trivial | (refine And.intro ?_ ?_))
   all_goals first | omega | exact LeD.refl _ | exact leB rfl | exact numsP_ints _
 | false =>
  have can := can_all q hc
  simp only [n00, beq_self_eq_true, bne_self_eq_false, Bool.not_true, Bool.not_false, _root_.cond_true, _root_.cond_false, decide_true, eq_self_iff_true, List.length_nil, lt_v, q2a, q2b, q12a, q12b, q13a, q13b, wr00]
  rcases ob_free q hc ct with ⟨a1, a2, a3, a4, a5, a6⟩ | ⟨a1, a2, a3, a4⟩
  ·rcases ob_free q hc tk with ⟨b1, b2, b3, b4, b5, b6⟩ | ⟨b1, b2, b3, b4, ⟨b5, b6, b7⟩ | ⟨b5, b6, b7⟩⟩
   ·simp only [a1, a2, a3, a4, b1, b5, b6, n00, beq_self_eq_true, bne_self_eq_false, Bool.not_true, Bool.not_false, _root_.cond_true, _root_.cond_false, decide_true, eq_self_iff_true, List.length_nil, lt_v, q2a, q2b, q12a, q12b, q13a, q13b, wr00]
    (repeat' with_reducible first | assumption | trivial | (refine And.intro ?_ ?_))
    all_goals first | omega | exact LeD.refl _ | exact leB rfl | exact numsP_ints _
   all_goals
    simp only [a1, a2, a3, a4, b1, b5, b6, b7, n00, beq_self_eq_true, bne_self_eq_false, Bool.not_true, Bool.not_false, _root_.cond_true, _root_.cond_false, decide_true, eq_self_iff_true, List.length_nil, lt_v, q2a, q2b, q12a, q12b, q13a, q13b, wr00]
    (repeat' with_reducible first | assumption | trivial | (refine And.intro ?_ ?_))
    all_goals first | omega | exact LeD.refl _ | exact leB rfl | exact numsP_ints _
  ·have t := tkB_iff.1 a1
   have r := atR_rg z (n := ct) (by omega)
   have w1 : IntKind.i64.wrap ((atR (⟨c0, c1⟩ : Cab) l ct).lo + (atR (⟨c0, c1⟩ : Cab) l ct).hi) = (atR (⟨c0, c1⟩ : Cab) l ct).lo + (atR (⟨c0, c1⟩ : Cab) l ct).hi := wi (by omega)
   rcases ob_free q hc tk with ⟨b1, b2, b3, b4, b5, b6⟩ | ⟨b1, b2, b3, b4, ⟨b5, b6, b7⟩ | ⟨b5, b6, b7⟩⟩
   ·simp only [a1, a2, a3, a4, b1, b5, b6, w1, n00, beq_self_eq_true, bne_self_eq_false, Bool.not_true, Bool.not_false, _root_.cond_true, _root_.cond_false, decide_true, eq_self_iff_true, List.length_nil, lt_v, q2a, q2b, q12a, q12b, q13a, q13b, wr00]
    (repeat' with_reducible first | assumption | trivial | (refine And.intro ?_ ?_))
    all_goals first | omega | exact LeD.refl _ | exact leB rfl | exact numsP_ints _
   all_goals
    simp only [a1, a2, a3, a4, b1, b5, b6, b7, w1, n00, beq_self_eq_true, bne_self_eq_false, Bool.not_true, Bool.not_false, _root_.cond_true, _root_.cond_false, decide_true, eq_self_iff_true, List.length_nil, lt_v, q2a, q2b, q12a, q12b, q13a, q13b, wr00]
    (repeat' with_reducible first | assumption | trivial | (refine And.intro ?_ ?_))
    all_goals first | omega | exact LeD.refl _ | exact leB rfl | exact numsP_ints _
theorem law_law01_ClockTranslated (c0 : Int) (c1 : Int) (l : List Png) (ct : Int) (tk : Int) (W : World) (N : Nat → Prop) (vs : List Value) (h : All2 (RelD (RelF W N)) [.t (.a [.v (.int .i64 c0), .v (.int .i64 c1), .sl 4 l.length (pngsC l)]), .t (.c (.v (.int .i64 ct))), .t (.c (.v (.int .i64 tk)))] vs) : Calls Try.prog 10 vs.toArray W fun e w' => e = .returned (.bool true) ∧ Below W.heap.size W w' :=
 law_end (fn_sound mixed tabOK VSy101 (ann := ann_law01_ClockTranslated) VI1 (fn := Try.f10) (J := fun _ _ _ => False) (by kernel_rfl) fit_law01_ClockTranslated (args := [.t (.a [.v (.int .i64 c0), .v (.int .i64 c1), .sl 4 l.length (pngsC l)]), .t (.c (.v (.int .i64 ct))), .t (.c (.v (.int .i64 tk)))]) (post := (fun r => LeD r (.t (.c (.v (.bool true)))))) (by rw [ev_law01_ClockTranslated]; exact spec_law01_ClockTranslated c0 c1 l ct tk) (by rw [lp_law01_ClockTranslated]; trivial) (Nat.le_of_ble_eq_true (by kernel_rfl)) W N vs trivial h)
end Go.Proofs.Ytkifmfmenobhnaa
set_option linter.unusedVariables false
set_option linter.unusedSimpArgs false
namespace Go.Proofs.Ytkifmfmenobhnaa
open Go.RowKit Ev
theorem nums_ints (l : List Int) : numsC .i64 l = intsC l := rfl
end Go.Proofs.Ytkifmfmenobhnaa
set_option linter.unusedVariables false
set_option linter.unusedSimpArgs false
namespace Go.Proofs.Ytkifmfmenobhnaa
open Go.RowKit Ev
end Go.Proofs.Ytkifmfmenobhnaa
set_option linter.unusedVariables false
set_option linter.unusedSimpArgs false
namespace Go.Proofs.Ytkifmfmenobhnaa
open Go.RowKit Ev
theorem tr_cab {c : Cab} {l : List Png} (h : trE c l = 0) : cabE c = 0 := cabE_0.2 (trE_0.1 h).1
def free (c : Cab) (l : List Png) : Prop := trOk c l ∧ (∀ i, i < l.length → canB c (pngAt l i) = true) ∧ ∀ i k, i < k → k < l.length → apB c (pngAt l i) (pngAt l k) = false
theorem free_iff {c : Cab} {l : List Png} {n : Int} : obE c l n = 0 ↔ tkB n = true ∧ free c l := by
 constructor
 ·intro h
  obtain ⟨h1, h2, h3⟩ := fn3 (show firstNZ [_, _, _] = 0 from h)
  rw [unl_0 (by decide)] at h2 h3
  unfold clB at h3
  rw [Bool.and_eq_true] at h3
  have h4 := of_decide_eq_true h3.1
  have h5 := of_decide_eq_true h3.2
  refine ⟨h2, trE_0.1 h1, (bad_none h4).1, ?_⟩
  rcases prL_cases c l with ⟨_, g⟩ | ⟨i, k, _, _, g, _⟩
  ·exact g
  ·rw [g] at h5; simp at h5
 ·rintro ⟨h1, h2, h3, h4⟩
  have e1 : badI c l = -1 := bad_end h3
  have e2 : prL c l = [] := by
   rcases prL_cases c l with ⟨g, _⟩ | ⟨i, k, g1, g2, _, g3, _⟩
   ·exact g
   ·rw [h4 i k g1 g2] at g3; cases g3
  unfold obE clB
  rw [trE_0.2 h2, h1, e1, e2]; rfl
theorem pngAt_tk {l : List Png} {m i : Nat} (h : i < m) : pngAt (l.take m) i = pngAt l i := by
 unfold pngAt List.getD
 rw [List.getElem?_take]; simp [h]
theorem free_take {c : Cab} {l : List Png} (h : free c l) {m : Nat} (h1 : 1 ≤ m) (h2 : m ≤ l.length) : free c (l.take m) := by
 obtain ⟨⟨a1, a2, a3, a4⟩, b, d⟩ := h
 have hl : (l.take m).length = m := by rw [List.length_take]; omega
 refine ⟨⟨a1, by omega, fun i hi => ?_, fun i hi => ?_⟩, fun i hi => ?_, fun i k hi hk => ?_⟩
 all_goals rw [hl] at *
 ·rw [pngAt_tk hi]; exact a3 i (by omega)
 ·rw [pngAt_tk (by omega), pngAt_tk hi]; exact a4 i (by omega)
 ·rw [pngAt_tk hi]; exact b i (by omega)
 ·rw [pngAt_tk (by omega), pngAt_tk hk]; exact d i k hi (by omega)
theorem tm_by (c : Cab) (q : Png) : tmR c q = ⟨c.blo q q.arr, c.bhi q q.arr⟩ := by
 unfold tmR Cab.blo Cab.bhi
 rw [Int.sub_self, slack_zero]
 simp
theorem ap_wide {c e : Cab} (h : c.ok) (hd : c.drift ≤ e.drift) (hs : c.skew ≤ e.skew) {p q : Png} (ha : apB c p q = false) : apB e p q = false := by
 unfold apB at *
 rw [tm_by] at *
 have ha := of_decide_eq_false ha
 obtain ⟨u1, u2, _⟩ := by_wider h hd hs p q.arr
 obtain ⟨u3, u4, _⟩ := by_wider h hd hs q q.arr
 refine decide_eq_false ?_
 simp only at *
 omega
theorem free_wide {c e : Cab} {l : List Png} (h : free c l) (he : cabOk e) (hd : c.drift ≤ e.drift) (hs : c.skew ≤ e.skew) : free e l := by
 obtain ⟨⟨a1, a2, a3, a4⟩, b, d⟩ := h
 refine ⟨⟨he, a2, a3, a4⟩, fun i hi => ?_, fun i k hi hk => ap_wide a1.ok hd hs (d i k hi hk)⟩
 exact canB_iff.2 ((by_wider a1.ok hd hs (pngAt l i) 0).2.2 (canB_iff.1 (b i hi)))
theorem atR_take (c : Cab) {l : List Png} (n : Int) (h : 2 ≤ l.length) : (atR c (l.take (l.length - 1)) n).lo ≤ (atR c l n).lo ∧ (atR c l n).hi ≤ (atR c (l.take (l.length - 1)) n).hi := by
 cases l with
 | nil => simp at h
 | cons p r =>
  have e : r = r.take (r.length - 1) ++ [r.getLast (by intro q; subst q; simp at h)] := by
   rw [← List.dropLast_eq_take]; exact (List.dropLast_concat_getLast _).symm
  have e2 : (p :: r).take ((p :: r).length - 1) = p :: r.take (r.length - 1) := by
   simp only [List.length_cons, Nat.add_sub_cancel]
   obtain ⟨k, hk⟩ : ∃ k, r.length = k + 1 := ⟨r.length - 1, by simp at h; omega⟩
   rw [hk, List.take_succ_cons]; rfl
  have hm := at_more (c := c) p (r.take (r.length - 1)) (r.getLast (by intro q; subst q; simp at h)) n
  rw [← e] at hm
  rw [e2, atR_eq, atR_eq]
  exact hm
theorem atR_wide {c e : Cab} (h : cabOk c) (hd : c.drift ≤ e.drift) (hs : c.skew ≤ e.skew) {l : List Png} {n : Int} (hl : 0 < l.length) : (atR e l n).lo ≤ (atR c l n).lo ∧ (atR c l n).hi ≤ (atR e l n).hi := by
 cases l with
 | nil => simp at hl
 | cons p r => rw [atR_eq, atR_eq]; exact at_wider h.ok hd hs p r n
theorem pngAt_get {l : List Png} {i : Nat} (h : i < l.length) : pngAt l i = l[i] := by simp [pngAt, List.getD, h]
theorem atR_ok {c : Cab} {l : List Png} (h : free c l) (n : Int) : (atR c l n).lo ≤ (atR c l n).hi := by
 obtain ⟨⟨a1, a2, a3, a4⟩, b, d⟩ := h
 cases l with
 | nil => simp at a2
 | cons p r =>
  rw [atR_eq]
  refine at_ok a1.ok p r (fun q hq => ?_) ?_ n
  ·obtain ⟨i, hi, e⟩ := List.mem_iff_getElem.1 hq
   have := canB_iff.1 (b i hi)
   rwa [pngAt_get hi, e] at this
  ·rw [List.pairwise_iff_getElem]
   intro i k hi hk hik
   have := d i k hik hk
   rw [pngAt_get hi, pngAt_get hk] at this
   unfold apB at this
   have := of_decide_eq_false this
   unfold tmR at this
   simp only at this
   omega
theorem cn_in {c : Cab} {l : List Png} (h : free c l) {n t : Int} (hn : tkB n = true) (ht : tkB t = true) (h1 : (atR c l n).lo ≤ t) (h2 : t ≤ (atR c l n).hi) : caE c l t = 0 ∧ inB n (caV c l t).lo (caV c l t).hi = true := by
 have z := h.1
 have hn2 := tkB_iff.1 hn
 obtain ⟨a1, a2, a3⟩ := lowS_spec (reB_mono z t)
 obtain ⟨b1, b2, b3⟩ := lowS_spec (paB_mono z t)
 have e1 : lowS (reB c l t) ≤ n := by
  apply Classical.byContradiction
  intro q
  have := a2 n hn2.1 (by omega)
  unfold reB at this
  have := of_decide_eq_false this
  omega
 have e2 : n < lowS (paB c l t) := by
  apply Classical.byContradiction
  intro q
  have := b3 n (by omega) hn2.2
  unfold paB at this
  have := of_decide_eq_true this
  omega
 have e0 : obE c l t = 0 := free_iff.2 ⟨ht, h⟩
 have e3 : caE c l t = 0 := by
  unfold caE
  rw [if_pos e0]
  unfold cnR
  rw [decide_eq_true (show lowS (reB c l t) ≤ lowS (paB c l t) - 1 by omega)]; rfl
 refine ⟨e3, ?_⟩
 rw [show caV c l t = cnR c l t from if_pos e3]
 unfold cnR
 exact inB_true.2 ⟨by show lowS (reB c l t) ≤ n; exact e1, by show n ≤ lowS (paB c l t) - 1; omega⟩
def vc_law01_ClockNarrower (c0 : Int) (c1 : Int) (l : List Png) (ct : Int) (d0 d1 : Int) (post : DV → Prop) : Prop := (numsP 4 l.length (pngsC l)) ∧ ((cond (!(decide ((((listC l.length mkPng (pngsC l))).length : Int) ≤ 14))) ((true = true) ∧ ((true = true) ∧ ((true = true) ∧ ((true = true) ∧ ((true = true) ∧ ((true = true) ∧ (True))))))) ((numsP 4 l.length (pngsC l)) ∧ (cond ((trE (⟨c0, c1⟩ : Cab) (listC l.length mkPng (pngsC l))) != (0 : Int)) ((true = true) ∧ ((true = true) ∧ ((true = true) ∧ ((true = true) ∧ ((true = true) ∧ (True)))))) (cond (decide (((l.length : Nat) : Int) < (2 : Int))) ((true = true) ∧ ((true = true) ∧ ((true = true) ∧ ((true = true) ∧ (True))))) (cond (!(tkB ct)) ((true = true) ∧ ((true = true) ∧ ((true = true) ∧ (True)))) (cond ((cabE (⟨d0, d1⟩ : Cab)) != (0 : Int)) ((true = true) ∧ ((true = true) ∧ (True))) (cond (decide (d0 < c0)) ((true = true) ∧ (True)) (True)))))))) ∧ (lt ((bif (!(decide ((((listC l.length mkPng (pngsC l))).length : Int) ≤ 14))) then true else (bif ((trE (⟨c0, c1⟩ : Cab) (listC l.length mkPng (pngsC l))) != (0 : Int)) then true else (bif decide (((l.length : Nat) : Int) < (2 : Int)) then true else (bif (!(tkB ct)) then true else (bif ((cabE (⟨d0, d1⟩ : Cab)) != (0 : Int)) then true else (bif decide (d0 < c0) then true else decide (d1 < c1)))))))) fun x1 => cond x1 (post (.t (.c (.v (.bool true))))) ((numsP 4 l.length (pngsC l) ∧ ((listC l.length mkPng (pngsC l))).length ≤ 1000) ∧ ((numsP 4 ((listC l.length mkPng (pngsC l)).length) (pngsC (listC l.length mkPng (pngsC l)))) ∧ (cond ((obE (⟨c0, c1⟩ : Cab) (listC ((listC l.length mkPng (pngsC l)).length) mkPng (pngsC (listC l.length mkPng (pngsC l)))) ct) != (0 : Int)) (post (.t (.c (.v (.bool ((obE (⟨c0, c1⟩ : Cab) (listC ((listC l.length mkPng (pngsC l)).length) mkPng (pngsC (listC l.length mkPng (pngsC l)))) ct) == (13 : Int))))))) ((numsP 4 l.length (pngsC l) ∧ ((listC l.length mkPng (pngsC l))).length ≤ 1000) ∧ ((numsP 4 l.length (pngsC l) ∧ ((listC l.length mkPng (pngsC l))).length ≤ 1000) ∧ (lt (IntKind.i64.wrap (((l.length : Nat) : Int) - (1 : Int))) fun x2 => (0 ≤ (0 : Int) ∧ (0 : Int) ≤ x2 ∧ x2 ≤ (((listC l.length mkPng (pngsC l)).length : Nat) : Int)) ∧ ((numsP 4 ((x2 - (0 : Int)).toNat) (fun i j => (pngsC (listC l.length mkPng (pngsC l))) (((0 : Int)).toNat + i) j)) ∧ ((numsP 4 ((listC l.length mkPng (pngsC l)).length) (pngsC (listC l.length mkPng (pngsC l)))) ∧ ((cond ((obE (⟨c0, c1⟩ : Cab) (listC ((x2 - (0 : Int)).toNat) mkPng (fun i j => (pngsC (listC l.length mkPng (pngsC l))) (((0 : Int)).toNat + i) j)) ct) != (0 : Int)) ((true = true) ∧ ((true = true) ∧ ((true = true) ∧ ((true = true) ∧ ((true = true) ∧ ((true = true) ∧ (True))))))) (cond ((obE (⟨d0, d1⟩ : Cab) (listC ((listC l.length mkPng (pngsC l)).length) mkPng (pngsC (listC l.length mkPng (pngsC l)))) ct) != (0 : Int)) ((true = true) ∧ ((true = true) ∧ ((true = true) ∧ ((true = true) ∧ ((true = true) ∧ (True)))))) (cond (decide (((taV (⟨c0, c1⟩ : Cab) (listC ((x2 - (0 : Int)).toNat) mkPng (fun i j => (pngsC (listC l.length mkPng (pngsC l))) (((0 : Int)).toNat + i) j)) ct).lo) > ((taV (⟨c0, c1⟩ : Cab) (listC ((listC l.length mkPng (pngsC l)).length) mkPng (pngsC (listC l.length mkPng (pngsC l)))) ct).lo))) ((true = true) ∧ ((true = true) ∧ ((true = true) ∧ ((true = true) ∧ (True))))) (cond (decide (((taV (⟨c0, c1⟩ : Cab) (listC ((x2 - (0 : Int)).toNat) mkPng (fun i j => (pngsC (listC l.length mkPng (pngsC l))) (((0 : Int)).toNat + i) j)) ct).hi) < ((taV (⟨c0, c1⟩ : Cab) (listC ((listC l.length mkPng (pngsC l)).length) mkPng (pngsC (listC l.length mkPng (pngsC l)))) ct).hi))) ((true = true) ∧ ((true = true) ∧ ((true = true) ∧ (True)))) (cond (decide (((taV (⟨d0, d1⟩ : Cab) (listC ((listC l.length mkPng (pngsC l)).length) mkPng (pngsC (listC l.length mkPng (pngsC l)))) ct).lo) > ((taV (⟨c0, c1⟩ : Cab) (listC ((listC l.length mkPng (pngsC l)).length) mkPng (pngsC (listC l.length mkPng (pngsC l)))) ct).lo))) ((true = true) ∧ ((true = true) ∧ (True))) (cond (decide (((taV (⟨d0, d1⟩ : Cab) (listC ((listC l.length mkPng (pngsC l)).length) mkPng (pngsC (listC l.length mkPng (pngsC l)))) ct).hi) < ((taV (⟨c0, c1⟩ : Cab) (listC ((listC l.length mkPng (pngsC l)).length) mkPng (pngsC (listC l.length mkPng (pngsC l)))) ct).hi))) ((true = true) ∧ (True)) (True))))))) ∧ (lt ((bif ((obE (⟨c0, c1⟩ : Cab) (listC ((x2 - (0 : Int)).toNat) mkPng (fun i j => (pngsC (listC l.length mkPng (pngsC l))) (((0 : Int)).toNat + i) j)) ct) != (0 : Int)) then true else (bif ((obE (⟨d0, d1⟩ : Cab) (listC ((listC l.length mkPng (pngsC l)).length) mkPng (pngsC (listC l.length mkPng (pngsC l)))) ct) != (0 : Int)) then true else (bif decide (((taV (⟨c0, c1⟩ : Cab) (listC ((x2 - (0 : Int)).toNat) mkPng (fun i j => (pngsC (listC l.length mkPng (pngsC l))) (((0 : Int)).toNat + i) j)) ct).lo) > ((taV (⟨c0, c1⟩ : Cab) (listC ((listC l.length mkPng (pngsC l)).length) mkPng (pngsC (listC l.length mkPng (pngsC l)))) ct).lo)) then true else (bif decide (((taV (⟨c0, c1⟩ : Cab) (listC ((x2 - (0 : Int)).toNat) mkPng (fun i j => (pngsC (listC l.length mkPng (pngsC l))) (((0 : Int)).toNat + i) j)) ct).hi) < ((taV (⟨c0, c1⟩ : Cab) (listC ((listC l.length mkPng (pngsC l)).length) mkPng (pngsC (listC l.length mkPng (pngsC l)))) ct).hi)) then true else (bif decide (((taV (⟨d0, d1⟩ : Cab) (listC ((listC l.length mkPng (pngsC l)).length) mkPng (pngsC (listC l.length mkPng (pngsC l)))) ct).lo) > ((taV (⟨c0, c1⟩ : Cab) (listC ((listC l.length mkPng (pngsC l)).length) mkPng (pngsC (listC l.length mkPng (pngsC l)))) ct).lo)) then true else (bif decide (((taV (⟨d0, d1⟩ : Cab) (listC ((listC l.length mkPng (pngsC l)).length) mkPng (pngsC (listC l.length mkPng (pngsC l)))) ct).hi) < ((taV (⟨c0, c1⟩ : Cab) (listC ((listC l.length mkPng (pngsC l)).length) mkPng (pngsC (listC l.length mkPng (pngsC l)))) ct).hi)) then true else decide (((taV (⟨c0, c1⟩ : Cab) (listC ((listC l.length mkPng (pngsC l)).length) mkPng (pngsC (listC l.length mkPng (pngsC l)))) ct).lo) > ((taV (⟨c0, c1⟩ : Cab) (listC ((listC l.length mkPng (pngsC l)).length) mkPng (pngsC (listC l.length mkPng (pngsC l)))) ct).hi))))))))) fun x3 => cond x3 (post (.t (.c (.v (.bool false))))) ((0 ≤ (0 : Int) ∧ (0 : Int) < ((2 : Nat) : Int)) ∧ (cond (!(tkB ((taV (⟨c0, c1⟩ : Cab) (listC ((listC l.length mkPng (pngsC l)).length) mkPng (pngsC (listC l.length mkPng (pngsC l)))) ct).lo))) ((0 ≤ (1 : Int) ∧ (1 : Int) < ((2 : Nat) : Int)) ∧ (cond (!(tkB ((taV (⟨c0, c1⟩ : Cab) (listC ((listC l.length mkPng (pngsC l)).length) mkPng (pngsC (listC l.length mkPng (pngsC l)))) ct).hi))) (post (.t (.c (.v (.bool true))))) ((numsP 4 l.length (pngsC l) ∧ ((listC l.length mkPng (pngsC l))).length ≤ 1000) ∧ ((numsP 4 ((listC l.length mkPng (pngsC l)).length) (pngsC (listC l.length mkPng (pngsC l)))) ∧ ((cond ((caE (⟨c0, c1⟩ : Cab) (listC ((listC l.length mkPng (pngsC l)).length) mkPng (pngsC (listC l.length mkPng (pngsC l)))) ((taV (⟨c0, c1⟩ : Cab) (listC ((listC l.length mkPng (pngsC l)).length) mkPng (pngsC (listC l.length mkPng (pngsC l)))) ct).hi)) != (0 : Int)) ((true = true) ∧ (True)) (True)) ∧ (lt ((bif ((caE (⟨c0, c1⟩ : Cab) (listC ((listC l.length mkPng (pngsC l)).length) mkPng (pngsC (listC l.length mkPng (pngsC l)))) ((taV (⟨c0, c1⟩ : Cab) (listC ((listC l.length mkPng (pngsC l)).length) mkPng (pngsC (listC l.length mkPng (pngsC l)))) ct).hi)) != (0 : Int)) then true else (!(inB ct ((caV (⟨c0, c1⟩ : Cab) (listC ((listC l.length mkPng (pngsC l)).length) mkPng (pngsC (listC l.length mkPng (pngsC l)))) ((taV (⟨c0, c1⟩ : Cab) (listC ((listC l.length mkPng (pngsC l)).length) mkPng (pngsC (listC l.length mkPng (pngsC l)))) ct).hi)).lo) ((caV (⟨c0, c1⟩ : Cab) (listC ((listC l.length mkPng (pngsC l)).length) mkPng (pngsC (listC l.length mkPng (pngsC l)))) ((taV (⟨c0, c1⟩ : Cab) (listC ((listC l.length mkPng (pngsC l)).length) mkPng (pngsC (listC l.length mkPng (pngsC l)))) ct).hi)).hi))))) fun x4 => cond x4 (post (.t (.c (.v (.bool false))))) (post (.t (.c (.v (.bool true))))))))))) ((numsP 4 l.length (pngsC l) ∧ ((listC l.length mkPng (pngsC l))).length ≤ 1000) ∧ ((numsP 4 ((listC l.length mkPng (pngsC l)).length) (pngsC (listC l.length mkPng (pngsC l)))) ∧ ((cond ((caE (⟨c0, c1⟩ : Cab) (listC ((listC l.length mkPng (pngsC l)).length) mkPng (pngsC (listC l.length mkPng (pngsC l)))) ((taV (⟨c0, c1⟩ : Cab) (listC ((listC l.length mkPng (pngsC l)).length) mkPng (pngsC (listC l.length mkPng (pngsC l)))) ct).lo)) != (0 : Int)) ((true = true) ∧ (True)) (True)) ∧ (lt ((bif ((caE (⟨c0, c1⟩ : Cab) (listC ((listC l.length mkPng (pngsC l)).length) mkPng (pngsC (listC l.length mkPng (pngsC l)))) ((taV (⟨c0, c1⟩ : Cab) (listC ((listC l.length mkPng (pngsC l)).length) mkPng (pngsC (listC l.length mkPng (pngsC l)))) ct).lo)) != (0 : Int)) then true else (!(inB ct ((caV (⟨c0, c1⟩ : Cab) (listC ((listC l.length mkPng (pngsC l)).length) mkPng (pngsC (listC l.length mkPng (pngsC l)))) ((taV (⟨c0, c1⟩ : Cab) (listC ((listC l.length mkPng (pngsC l)).length) mkPng (pngsC (listC l.length mkPng (pngsC l)))) ct).lo)).lo) ((caV (⟨c0, c1⟩ : Cab) (listC ((listC l.length mkPng (pngsC l)).length) mkPng (pngsC (listC l.length mkPng (pngsC l)))) ((taV (⟨c0, c1⟩ : Cab) (listC ((listC l.length mkPng (pngsC l)).length) mkPng (pngsC (listC l.length mkPng (pngsC l)))) ct).lo)).hi))))) fun x5 => cond x5 (post (.t (.c (.v (.bool false))))) ((0 ≤ (1 : Int) ∧ (1 : Int) < ((2 : Nat) : Int)) ∧ (cond (!(tkB ((taV (⟨c0, c1⟩ : Cab) (listC ((listC l.length mkPng (pngsC l)).length) mkPng (pngsC (listC l.length mkPng (pngsC l)))) ct).hi))) (post (.t (.c (.v (.bool true))))) ((numsP 4 l.length (pngsC l) ∧ ((listC l.length mkPng (pngsC l))).length ≤ 1000) ∧ ((numsP 4 ((listC l.length mkPng (pngsC l)).length) (pngsC (listC l.length mkPng (pngsC l)))) ∧ ((cond ((caE (⟨c0, c1⟩ : Cab) (listC ((listC l.length mkPng (pngsC l)).length) mkPng (pngsC (listC l.length mkPng (pngsC l)))) ((taV (⟨c0, c1⟩ : Cab) (listC ((listC l.length mkPng (pngsC l)).length) mkPng (pngsC (listC l.length mkPng (pngsC l)))) ct).hi)) != (0 : Int)) ((true = true) ∧ (True)) (True)) ∧ (lt ((bif ((caE (⟨c0, c1⟩ : Cab) (listC ((listC l.length mkPng (pngsC l)).length) mkPng (pngsC (listC l.length mkPng (pngsC l)))) ((taV (⟨c0, c1⟩ : Cab) (listC ((listC l.length mkPng (pngsC l)).length) mkPng (pngsC (listC l.length mkPng (pngsC l)))) ct).hi)) != (0 : Int)) then true else (!(inB ct ((caV (⟨c0, c1⟩ : Cab) (listC ((listC l.length mkPng (pngsC l)).length) mkPng (pngsC (listC l.length mkPng (pngsC l)))) ((taV (⟨c0, c1⟩ : Cab) (listC ((listC l.length mkPng (pngsC l)).length) mkPng (pngsC (listC l.length mkPng (pngsC l)))) ct).hi)).lo) ((caV (⟨c0, c1⟩ : Cab) (listC ((listC l.length mkPng (pngsC l)).length) mkPng (pngsC (listC l.length mkPng (pngsC l)))) ((taV (⟨c0, c1⟩ : Cab) (listC ((listC l.length mkPng (pngsC l)).length) mkPng (pngsC (listC l.length mkPng (pngsC l)))) ct).hi)).hi))))) fun x6 => cond x6 (post (.t (.c (.v (.bool false))))) (post (.t (.c (.v (.bool true)))))))))))))))))))))))))))))
def ann_law01_ClockNarrower : Ann := ⟨fun r => lookA r [(8, ([[], [0], [], [0, 1, 2], [], [], [0, 1, 2, 3, 4, 5], [0, 1, 2, 3, 4, 5, 6]], [[73, 75, 9, 10], [75, 9, 10], [73, 75, 9, 10], [9, 10], [73, 75, 10], [73, 75, 9], [], []]))], fun b => lookA b [(0, (some 3, some ⟨[1, 3, 7, 15], [3, 7], []⟩))], fun _ => [], I1, false, fun r => lookA r [(3, (4, [60])), (13, (3, [138])), (21, (3, [170]))], fun _ => none⟩
theorem ev_law01_ClockNarrower (J : Inv) (c0 : Int) (c1 : Int) (l : List Png) (ct : Int) (d0 d1 : Int) (post : DV → Prop) : evFn Try.prog tab Sy101 ann_law01_ClockNarrower J Try.f9 [.t (.a [.v (.int .i64 c0), .v (.int .i64 c1), .sl 4 l.length (pngsC l)]), .t (.c (.v (.int .i64 ct))), .t (.a [.v (.int .i64 d0), .v (.int .i64 d1)])] post = vc_law01_ClockNarrower c0 c1 l ct d0 d1 post := by kernel_rfl
theorem fit_law01_ClockNarrower : okFn ann_law01_ClockNarrower Try.f9 = true := by kernel_rfl
theorem lp_law01_ClockNarrower (J : Inv) (post : DV → Prop) : AllG J (loopsFn Try.prog tab Sy101 ann_law01_ClockNarrower J Try.f9 post) = (True) := by kernel_rfl
set_option maxHeartbeats 8000000 in
set_option maxRecDepth 100000 in
theorem spec_law01_ClockNarrower (c0 : Int) (c1 : Int) (l : List Png) (ct : Int) (d0 d1 : Int) : vc_law01_ClockNarrower c0 c1 l ct d0 d1 (fun r => LeD r (.t (.c (.v (.bool true))))) := by
 unfold vc_law01_ClockNarrower
 simp only [ints_listC, lpps_listC, pngs_listC, rgs_listC]
 have n1 := numsP_pngs l
 refine ⟨n1, ?_, lt_i fun x1 h1 => cond_i (fun _ => LeD.refl _) (fun g => ?_)⟩
 ·exact cond_i (fun _ => ⟨trivial, trivial, trivial, trivial, trivial, trivial, trivial⟩) fun _ => ⟨n1, cond_i (fun _ => ⟨trivial, trivial, trivial, trivial, trivial, trivial⟩) fun _ => cond_i (fun _ => ⟨trivial, trivial, trivial, trivial, trivial⟩) fun _ => cond_i (fun _ => ⟨trivial, trivial, trivial, trivial⟩) fun _ => cond_i (fun _ => ⟨trivial, trivial, trivial⟩) fun _ => cond_i (fun _ => ⟨trivial, trivial⟩) fun _ => trivial⟩
 rw [← h1] at g
 obtain ⟨q1, q2, q3, q4, q5, q6, q7⟩ : l.length ≤ 14 ∧ trE (⟨c0, c1⟩ : Cab) l = 0 ∧ 2 ≤ l.length ∧ tkB ct = true ∧ cabE (⟨d0, d1⟩ : Cab) = 0 ∧ c0 ≤ d0 ∧ c1 ≤ d1 := by
  cases e1 : decide ((l.length : Int) ≤ 14) with
  | false => rw [e1] at g; cases g
  | true =>
   cases e2 : (trE (⟨c0, c1⟩ : Cab) l != 0) with
   | true => rw [e1, e2] at g; cases g
   | false =>
    cases e3 : decide (((l.length : Nat) : Int) < 2) with
    | true => rw [e1, e2, e3] at g; cases g
    | false =>
     cases e4 : tkB ct with
     | false => rw [e1, e2, e3, e4] at g; cases g
     | true =>
      cases e5 : (cabE (⟨d0, d1⟩ : Cab) != 0) with
      | true => rw [e1, e2, e3, e4, e5] at g; cases g
      | false =>
       cases e6 : decide (d0 < c0) with
       | true => rw [e1, e2, e3, e4, e5, e6] at g; cases g
       | false =>
        cases e7 : decide (d1 < c1) with
        | true => rw [e1, e2, e3, e4, e5, e6, e7] at g; cases g
        | false =>
         have e1 := of_decide_eq_true e1
         have e3 := of_decide_eq_false e3
         have e6 := of_decide_eq_false e6
         have e7 := of_decide_eq_false e7
         exact ⟨by omega, by simpa using e2, by omega, rfl, by simpa using e5, by omega, by omega⟩
 have t := tkB_iff.1 q4
 refine ⟨⟨n1, by omega⟩, n1, cond_i (fun e => leB ?_) (fun e => ?_)⟩
 ·have e : obE (⟨c0, c1⟩ : Cab) l ct ≠ 0 := by simpa using e
  have e2 := ob_eq q2 ct
  rw [q4] at e2
  cases hc : decide ((rcV (⟨c0, c1⟩ : Cab) l).length > 0) with
  | true => rw [hc] at e2; rw [show obE (⟨c0, c1⟩ : Cab) l ct = 13 from e2]; rfl
  | false => rw [hc] at e2; exact absurd e2 e
 have e : obE (⟨c0, c1⟩ : Cab) l ct = 0 := by simpa using e
 have hf := free_iff.1 e
 refine ⟨⟨n1, by omega⟩, ⟨n1, by omega⟩, lt_i fun x2 h2 => ?_⟩
 rw [wi (by omega)] at h2
 have eP : listC ((x2 - (0 : Int)).toNat) mkPng (fun i j => pngsC l (((0 : Int)).toNat + i) j) = l.take (l.length - 1) := by
  rw [show (x2 - (0 : Int)).toNat = l.length - 1 by omega]
  exact pngs_part l (lo := 0) (by omega)
 rw [eP]
 have f1 := free_take hf.2 (m := l.length - 1) (by omega) (by omega)
 have f2 := free_wide hf.2 (cabE_0.1 q5) q6 q7
 have o1 := free_iff.2 ⟨q4, f1⟩
 have o2 := free_iff.2 ⟨q4, f2⟩
 have v0 : taV (⟨c0, c1⟩ : Cab) l ct = atR (⟨c0, c1⟩ : Cab) l ct := if_pos e
 have v1 : taV (⟨c0, c1⟩ : Cab) (l.take (l.length - 1)) ct = atR (⟨c0, c1⟩ : Cab) (l.take (l.length - 1)) ct := if_pos o1
 have v2 : taV (⟨d0, d1⟩ : Cab) l ct = atR (⟨d0, d1⟩ : Cab) l ct := if_pos o2
 have w1 := atR_take (⟨c0, c1⟩ : Cab) ct q3
 have w2 := atR_wide (cabE_0.1 (tr_cab q2)) (e := (⟨d0, d1⟩ : Cab)) q6 q7 (l := l) (n := ct) (by omega)
 have w3 := atR_ok hf.2 ct
 have r1 : decide ((atR (⟨c0, c1⟩ : Cab) (l.take (l.length - 1)) ct).lo > (atR (⟨c0, c1⟩ : Cab) l ct).lo) = false := decide_eq_false (by omega)
 have r2 : decide ((atR (⟨c0, c1⟩ : Cab) (l.take (l.length - 1)) ct).hi < (atR (⟨c0, c1⟩ : Cab) l ct).hi) = false := decide_eq_false (by omega)
 have r3 : decide ((atR (⟨d0, d1⟩ : Cab) l ct).lo > (atR (⟨c0, c1⟩ : Cab) l ct).lo) = false := decide_eq_false (by omega)
 have r4 : decide ((atR (⟨d0, d1⟩ : Cab) l ct).hi < (atR (⟨c0, c1⟩ : Cab) l ct).hi) = false := decide_eq_false (by omega)
 have r5 : decide ((atR (⟨c0, c1⟩ : Cab) l ct).lo > (atR (⟨c0, c1⟩ : Cab) l ct).hi) = false := decide_eq_false (by omega)
 have np : numsP 4 ((x2 - (0 : Int)).toNat) (fun i j => pngsC l (((0 : Int)).toNat + i) j) := by
  rw [show (x2 - (0 : Int)).toNat = l.length - 1 by omega]
  exact numsP_pngpart l (lo := 0) (by omega)
 simp only [v0, v1, v2, o1, o2, r1, r2, r3, r4, r5, n00, beq_self_eq_true, bne_self_eq_false, Bool.not_true, Bool.not_false, _root_.cond_true, _root_.cond_false, decide_true, eq_self_iff_true, List.length_nil, lt_v, q2a, q2b, q12a, q12b, q13a, q13b, wr00, nums_ints]
 refine ⟨⟨by omega, by omega, by omega⟩, np, n1, trivial, ⟨by trivial, by decide⟩, ?_⟩
 cases k1 : tkB (atR (⟨c0, c1⟩ : Cab) l ct).lo with
 | false =>
  simp only [n00, beq_self_eq_true, bne_self_eq_false, Bool.not_true, Bool.not_false, _root_.cond_true, _root_.cond_false, decide_true, eq_self_iff_true, List.length_nil, lt_v, q2a, q2b, q12a, q12b, q13a, q13b, wr00, nums_ints]
  refine ⟨by decide, ?_⟩
  cases k2 : tkB (atR (⟨c0, c1⟩ : Cab) l ct).hi with
  | false => simp only [n00, beq_self_eq_true, bne_self_eq_false, Bool.not_true, Bool.not_false, _root_.cond_true, _root_.cond_false, decide_true, eq_self_iff_true, List.length_nil, lt_v, q2a, q2b, q12a, q12b, q13a, q13b, wr00, nums_ints]; exact LeD.refl _
  | true =>
   obtain ⟨m1, m2⟩ := cn_in hf.2 q4 (t := (atR (⟨c0, c1⟩ : Cab) l ct).hi) k2 w3 (Int.le_refl _)
   simp only [m1, m2, n00, beq_self_eq_true, bne_self_eq_false, Bool.not_true, Bool.not_false, _root_.cond_true, _root_.cond_false, decide_true, eq_self_iff_true, List.length_nil, lt_v, q2a, q2b, q12a, q12b, q13a, q13b, wr00, nums_ints]
   exact ⟨⟨n1, by omega⟩, n1, trivial, LeD.refl _⟩
 | true =>
  obtain ⟨m3, m4⟩ := cn_in hf.2 q4 (t := (atR (⟨c0, c1⟩ : Cab) l ct).lo) k1 (Int.le_refl _) w3
  simp only [m3, m4, n00, beq_self_eq_true, bne_self_eq_false, Bool.not_true, Bool.not_false, _root_.cond_true, _root_.cond_false, decide_true, eq_self_iff_true, List.length_nil, lt_v, q2a, q2b, q12a, q12b, q13a, q13b, wr00, nums_ints]
  refine ⟨⟨n1, by omega⟩, n1, trivial, by decide, ?_⟩
  cases k2 : tkB (atR (⟨c0, c1⟩ : Cab) l ct).hi with
  | false => simp only [n00, beq_self_eq_true, bne_self_eq_false, Bool.not_true, Bool.not_false, _root_.cond_true, _root_.cond_false, decide_true, eq_self_iff_true, List.length_nil, lt_v, q2a, q2b, q12a, q12b, q13a, q13b, wr00, nums_ints]; exact LeD.refl _
  | true =>
   obtain ⟨m1, m2⟩ := cn_in hf.2 q4 (t := (atR (⟨c0, c1⟩ : Cab) l ct).hi) k2 w3 (Int.le_refl _)
   simp only [m1, m2, n00, beq_self_eq_true, bne_self_eq_false, Bool.not_true, Bool.not_false, _root_.cond_true, _root_.cond_false, decide_true, eq_self_iff_true, List.length_nil, lt_v, q2a, q2b, q12a, q12b, q13a, q13b, wr00, nums_ints]
   exact ⟨⟨n1, by omega⟩, n1, trivial, LeD.refl _⟩
theorem law_law01_ClockNarrower (c0 : Int) (c1 : Int) (l : List Png) (ct : Int) (d0 d1 : Int) (W : World) (N : Nat → Prop) (vs : List Value) (h : All2 (RelD (RelF W N)) [.t (.a [.v (.int .i64 c0), .v (.int .i64 c1), .sl 4 l.length (pngsC l)]), .t (.c (.v (.int .i64 ct))), .t (.a [.v (.int .i64 d0), .v (.int .i64 d1)])] vs) : Calls Try.prog 9 vs.toArray W fun e w' => e = .returned (.bool true) ∧ Below W.heap.size W w' :=
 law_end (fn_sound mixed tabOK VSy101 (ann := ann_law01_ClockNarrower) VI1 (fn := Try.f9) (J := fun _ _ _ => False) (by kernel_rfl) fit_law01_ClockNarrower (args := [.t (.a [.v (.int .i64 c0), .v (.int .i64 c1), .sl 4 l.length (pngsC l)]), .t (.c (.v (.int .i64 ct))), .t (.a [.v (.int .i64 d0), .v (.int .i64 d1)])]) (post := (fun r => LeD r (.t (.c (.v (.bool true)))))) (by rw [ev_law01_ClockNarrower]; exact spec_law01_ClockNarrower c0 c1 l ct d0 d1) (by rw [lp_law01_ClockNarrower]; trivial) (Nat.le_of_ble_eq_true (by kernel_rfl)) W N vs trivial h)
end Go.Proofs.Ytkifmfmenobhnaa
set_option linter.unusedVariables false
set_option linter.unusedSimpArgs false
namespace Go.Proofs.Ytkifmfmenobhnaa
open Go.RowKit Ev
def truH (c : Cab) (x : Tru) (a w : List Int) (ct : Int) : Prop := cabOk c ∧ (-c.drift ≤ x.slow ∧ x.slow ≤ c.drift) ∧ (0 ≤ x.start ∧ x.start ≤ 1000000) ∧ (0 ≤ x.down ∧ x.down ≤ 1000000) ∧ (0 ≤ x.up ∧ x.up ≤ 1000000) ∧ (-c.skew ≤ x.down - x.up ∧ x.down - x.up ≤ c.skew) ∧ (0 < a.length ∧ a.length ≤ 6) ∧ w.length = a.length ∧ 0 ≤ ct ∧ ct ≤ 1000000000
def lsK (a w : List Int) : Nat → Int
 | 0 => 0
 | k + 1 => lsK a w k + a.getD k 0 + 3000000 + w.getD k 0
def arK0 (a w : List Int) (k : Nat) : Int := lsK a w k + a.getD k 0 + 3000000
def trL (x : Tru) (a w : List Int) (k : Nat) : List Png := (List.range k).map fun i => x.ping (arK0 a w i) (arK0 a w i + w.getD i 0)
theorem trL_succ (x : Tru) (a w : List Int) (k : Nat) : trL x a w (k + 1) = trL x a w k ++ [x.ping (arK0 a w k) (arK0 a w k + w.getD k 0)] := by
 unfold trL; rw [List.range_succ, List.map_append]; rfl
def rgA (a w : List Int) (k : Nat) : Prop := ∀ i : Nat, i < k → (0 ≤ a.getD i 0 ∧ a.getD i 0 ≤ 1000000) ∧ 0 ≤ w.getD i 0 ∧ w.getD i 0 ≤ 1000000
theorem lsK_rg {a c : List Int} : ∀ {k : Nat}, rgA a c k → 0 ≤ lsK a c k ∧ lsK a c k ≤ 5000000 * k
 | 0, _ => by simp [lsK]
 | k + 1, h => by
  have h1 := lsK_rg (k := k) fun i hi => h i (by omega)
  have h2 := h k (by omega)
  unfold lsK
  omega
theorem tick_rg {x : Tru} {n : Int} (hs : -1000 ≤ x.slow ∧ x.slow ≤ 1000) (h0 : 0 ≤ x.start ∧ x.start ≤ 1000000) (hn : 0 ≤ n ∧ n ≤ 1000000000) : x.start + n - n / 1000 - 1 ≤ x.tick n ∧ x.tick n ≤ x.start + n + n / 1000 + 1 ∧ 0 ≤ x.tick n := by
 have m : -(n * 1000) ≤ n * x.slow ∧ n * x.slow ≤ n * 1000 := mul_rg (x := n) (y := x.slow) (A := n) (B := 1000) (by omega) hs (Int.le_refl _)
 unfold Tru.tick
 generalize n * x.slow = y at *
 omega
theorem slack_small {d n : Int} (hd : 0 ≤ d ∧ d ≤ 1000) (hn : 0 ≤ n) : slackI d n ≤ n / 1000 + 1 := by
 have m : -(n * 1000) ≤ n * d ∧ n * d ≤ n * 1000 := mul_rg (x := n) (y := d) (A := n) (B := 1000) (by omega) (by omega) (Int.le_refl _)
 unfold slackI
 rw [show (n.natAbs : Int) = n by omega]
 generalize n * d = y at *
 omega
theorem slack_le {d n : Int} (hd : 0 ≤ d ∧ d ≤ 1000) (hn : 0 ≤ n) : slackI d n ≤ n := by
 have m : -(n * 1000) ≤ n * d ∧ n * d ≤ n * 1000 := mul_rg (x := n) (y := d) (A := n) (B := 1000) (by omega) (by omega) (Int.le_refl _)
 unfold slackI
 rw [show (n.natAbs : Int) = n by omega]
 generalize n * d = y at *
 omega
theorem trL_at {x : Tru} {a w : List Int} {n i : Nat} (h : i < n) : pngAt (trL x a w n) i = x.ping (arK0 a w i) (arK0 a w i + w.getD i 0) := by simp [pngAt, trL, List.getD, h]
theorem tru_ok {c : Cab} {x : Tru} {a w : List Int} {ct : Int} (h : truH c x a w ct) (hr : rgA a w a.length) : trOk c (trL x a w a.length) := by
 obtain ⟨t1, t2, t3, t4, t5, t6, t7, t8, t9⟩ := h
 have u1 := t1.1
 have ll : (trL x a w a.length).length = a.length := by simp [trL]
 refine ⟨t1, by omega, fun i hi => ?_, fun i hi => ?_⟩
 all_goals rw [ll] at hi
 ·rw [trL_at hi]
  have r := lsK_rg (k := i) fun j hj => hr j (by omega)
  have s := hr i hi
  have ea : arK0 a w i = lsK a w i + a.getD i 0 + 3000000 := rfl
  have r1 := tick_rg (x := x) (n := arK0 a w i) ⟨by omega, by omega⟩ t3 (by omega)
  have r2 := tick_rg (x := x) (n := arK0 a w i + w.getD i 0) ⟨by omega, by omega⟩ t3 (by omega)
  have d := tick_diff (d := c.drift) t2 (arK0 a w i) (arK0 a w i + w.getD i 0)
  have e : arK0 a w i + w.getD i 0 - arK0 a w i = w.getD i 0 := by omega
  rw [e] at d
  have sl := slack_le (d := c.drift) (n := w.getD i 0) u1 (by omega)
  unfold Tru.ping pngOk
  simp only
  omega
 ·rw [trL_at (by omega), trL_at hi]
  have r := lsK_rg (k := i) fun j hj => hr j (by omega)
  have s := hr i (by omega)
  have s1 := hr (i + 1) hi
  have ea : arK0 a w i = lsK a w i + a.getD i 0 + 3000000 := rfl
  have eb : arK0 a w (i + 1) = lsK a w i + a.getD i 0 + 3000000 + w.getD i 0 + a.getD (i + 1) 0 + 3000000 := rfl
  have d := tick_diff (d := c.drift) t2 (arK0 a w i + w.getD i 0) (arK0 a w (i + 1))
  have e : arK0 a w (i + 1) - (arK0 a w i + w.getD i 0) = a.getD (i + 1) 0 + 3000000 := by omega
  rw [e] at d
  have sl := slack_small (d := c.drift) (n := a.getD (i + 1) 0 + 3000000) u1 (by omega)
  unfold Tru.ping
  simp only
  omega
theorem tru_free {c : Cab} {x : Tru} {a w : List Int} {ct : Int} (h : truH c x a w ct) (hr : rgA a w a.length) : free c (trL x a w a.length) := by
 have ho := tru_ok h hr
 obtain ⟨t1, t2, t3, t4, t5, t6, t7, t8, t9⟩ := h
 have ll : (trL x a w a.length).length = a.length := by simp [trL]
 refine ⟨ho, fun i hi => ?_, fun i k hi hk => ?_⟩
 ·rw [ll] at hi
  rw [trL_at hi]
  exact canB_iff.2 (true_delay t1.ok t2 t4.1 t5.1 t6 _ _).1
 ·rw [ll] at hk
  rw [trL_at (by omega), trL_at hk]
  unfold apB
  rw [tm_by]
  have h1 := true_by t1.ok t2 t4.1 t5.1 t6 (arK0 a w k) (arK0 a w k + w.getD k 0) (x.ping (arK0 a w k) (arK0 a w k + w.getD k 0)).arr
  have h2 := true_by t1.ok t2 t4.1 t5.1 t6 (arK0 a w i) (arK0 a w i + w.getD i 0) (x.ping (arK0 a w k) (arK0 a w k + w.getD k 0)).arr
  refine decide_eq_false ?_
  simp only
  omega
theorem tru_all {c : Cab} {l : List Png} (h : free c l) : tsE c l = 0 ∧ tsV c l = allT c l ∧ ctE c l = 12 ∧ trE c l = 0 := by
 obtain ⟨h2, h3, h4⟩ := h
 have e1 : badI c l = -1 := bad_end h3
 have e2 : prL c l = [] := by
  rcases prL_cases c l with ⟨g, _⟩ | ⟨i, k, g1, g2, _, g3, _⟩
  ·exact g
  ·rw [h4 i k g1 g2] at g3; cases g3
 have e0 := trE_0.2 h2
 have e3 : tsE c l = 0 := by unfold tsE opB; rw [e0, if_pos rfl, e1]; rfl
 refine ⟨e3, if_pos e3, ?_, e0⟩
 unfold ctE
 rw [if_neg (fun q => q e0), e1, if_neg (by decide), e2]; rfl
theorem tru_at {c : Cab} {x : Tru} {a w : List Int} {ct : Int} (h : truH c x a w ct) {n : Int} : (atR c (trL x a w a.length) n).lo ≤ x.tick n ∧ x.tick n ≤ (atR c (trL x a w a.length) n).hi := by
 obtain ⟨t1, t2, t3, t4, t5, t6, t7, t8, t9⟩ := h
 have ha : ∀ q ∈ trL x a w a.length, ∃ u v, q = x.ping u v := fun q hq => by
  unfold trL at hq
  obtain ⟨i, _, e⟩ := List.mem_map.1 hq
  exact ⟨_, _, e.symm⟩
 have hl : 0 < (trL x a w a.length).length := by simp [trL]; omega
 generalize trL x a w a.length = l at *
 cases l with
 | nil => simp at hl
 | cons p r => rw [atR_eq]; exact at_true t1.ok t2 t4.1 t5.1 t6 p r ha n
theorem tick_tk {c : Cab} {x : Tru} {a w : List Int} {ct : Int} (h : truH c x a w ct) : tkB (x.tick ct) = true := by
 obtain ⟨t1, t2, t3, t4, t5, t6, t7, t8, t9⟩ := h
 have u1 := t1.1
 have r := tick_rg (x := x) (n := ct) ⟨by omega, by omega⟩ t3 t9
 exact tkB_iff.2 (by omega)
theorem gen_png {l : List Png} {k : Nat} (h : k < l.length) : genC (l.map pngCv) k 0 = .v (.int .i64 (pngAt l k).sent) ∧ genC (l.map pngCv) k 1 = .v (.int .i64 (pngAt l k).arr) ∧ genC (l.map pngCv) k 2 = .v (.int .i64 (pngAt l k).ans) ∧ genC (l.map pngCv) k 3 = .v (.int .i64 (pngAt l k).back) := by
 refine ⟨?_, ?_, ?_, ?_⟩ <;> simp [genC, pngAt, pngCv, List.getD, h]
theorem tru_del {c : Cab} {x : Tru} {a w : List Int} {ct : Int} (h : truH c x a w ct) (hr : rgA a w a.length) {k : Nat} (hk : k < a.length) : dlE c (pngAt (trL x a w a.length) k) = 0 ∧ dlV c (pngAt (trL x a w a.length) k) = dlR c (pngAt (trL x a w a.length) k) ∧
  inB x.down (dlR c (pngAt (trL x a w a.length) k)).lo (dlR c (pngAt (trL x a w a.length) k)).hi = true ∧ inB ((pngAt (trL x a w a.length) k).sent + x.down) (tmR c (pngAt (trL x a w a.length) k)).lo (tmR c (pngAt (trL x a w a.length) k)).hi = true := by
 have fr := tru_free h hr
 have ll : (trL x a w a.length).length = a.length := by simp [trL]
 obtain ⟨t1, t2, t3, t4, t5, t6, t7, t8, t9⟩ := h
 have hd : delOk c (pngAt (trL x a w a.length) k) := fr.1.del (by omega)
 have hc := fr.2.1 k (by omega)
 have e1 : dlE c (pngAt (trL x a w a.length) k) = 0 := by
  unfold dlE
  rw [if_pos (cpE_0.2 hd), hc]; rfl
 have td := true_delay t1.ok t2 t4.1 t5.1 t6 (arK0 a w k) (arK0 a w k + w.getD k 0)
 rw [← trL_at (x := x) (a := a) (w := w) hk] at td
 refine ⟨e1, if_pos e1, inB_true.2 ⟨td.2.1, td.2.2⟩, inB_true.2 ?_⟩
 unfold tmR
 simp only
 omega
def vc_law01_Truth_tick (st : Int) (sw : Int) (dn : Int) (up : Int) (a : List Int) (c : List Int) (ct : Int) (post : DV → Prop) : Prop := lt (IntKind.i64.wrap (st + ct)) fun x1 => lt (IntKind.i64.wrap (ct * sw)) fun x2 => (0 < (1000000 : Int) ∧ -4000000000000000 ≤ x2 ∧ x2 ≤ 4000000000000000) ∧ (lt (IntKind.i64.wrap (x1 + (x2 / (1000000 : Int)))) fun x3 => post (.t (.c (.v (.int .i64 x3)))))
def ann_law01_Truth_tick : Ann := ⟨fun r => lookA r [(1, ([[], [0], [], [0, 1, 2], [], [], [5], [4, 5, 6], [4, 5, 6, 7], [0, 1, 2, 3, 4, 5, 6, 7, 8], [0, 1, 2, 3, 4, 5, 6, 7, 8, 9]], [[13], [13], [13], [13], [13], [13], [13], [13], [], [], []]))], fun _ => none, fun _ => [], I1, false, fun _ => none, fun _ => none⟩
theorem ev_law01_Truth_tick (J : Inv) (st : Int) (sw : Int) (dn : Int) (up : Int) (a : List Int) (c : List Int) (ct : Int) (post : DV → Prop) : evFn Try.prog tab Sy101 ann_law01_Truth_tick J Try.f72 [.t (.a [.v (.int .i64 st), .v (.int .i64 sw), .v (.int .i64 dn), .v (.int .i64 up), .sl 1 a.length (intsC a), .sl 1 c.length (intsC c)]), .t (.c (.v (.int .i64 ct)))] post = vc_law01_Truth_tick st sw dn up a c ct post := by kernel_rfl
theorem fit_law01_Truth_tick : okFn ann_law01_Truth_tick Try.f72 = true := by kernel_rfl
theorem lp_law01_Truth_tick (J : Inv) (post : DV → Prop) : AllG J (loopsFn Try.prog tab Sy101 ann_law01_Truth_tick J Try.f72 post) = (True) := by kernel_rfl
theorem spec_law01_Truth_tick (st : Int) (sw : Int) (dn : Int) (up : Int) (a : List Int) (c : List Int) (ct : Int) (hp : -4000000000 ≤ ct ∧ ct ≤ 4000000000 ∧ -1000 ≤ sw ∧ sw ≤ 1000 ∧ 0 ≤ st ∧ st ≤ 1000000) : vc_law01_Truth_tick st sw dn up a c ct (fun r => LeD r (.t (.c (.v (.int .i64 (Tru.tick ⟨st, sw, dn, up⟩ ct)))))) := by
 obtain ⟨h1, h2, h3, h4, h5, h6⟩ := hp
 unfold vc_law01_Truth_tick
 have m := mul_rg (x := ct) (y := sw) (A := 4000000000) (B := 1000) (C := 4000000000000) ⟨h1, h2⟩ ⟨h3, h4⟩ (by decide)
 refine lt_i fun x1 e1 => lt_i fun x2 e2 => ⟨?_, lt_i fun x3 e3 => leI ?_⟩
 all_goals
  rw [wi (by omega)] at e1 e2
  subst e1 e2
 ·exact ⟨by decide, by omega, by omega⟩
 ·rw [wi (by omega)] at e3
  exact e3.symm
def con_law01_Truth_tick : Con := fun args => match args with
 | [.t (.a [.v (.int .i64 st), .v (.int .i64 sw), .v (.int .i64 dn), .v (.int .i64 up), .sl 1 n_a c_a, .sl 1 n_c c_c]), .t (.c (.v (.int .i64 ct)))] => some (.t (.c (.v (.int .i64 (Tru.tick ⟨st, sw, dn, up⟩ ct)))), some (numsP 1 n_a c_a ∧ numsP 1 n_c c_c ∧ -4000000000 ≤ ct ∧ ct ≤ 4000000000 ∧ -1000 ≤ sw ∧ sw ≤ 1000 ∧ 0 ≤ st ∧ st ≤ 1000000), false)
 | _ => none
theorem ok_law01_Truth_tick : Ok Try.prog 72 con_law01_Truth_tick := by
 refine Ok.fn (ann := ann_law01_Truth_tick) mixed tabOK VSy101 VI1 (fn := Try.f72) (by kernel_rfl) (by kernel_rfl) fit_law01_Truth_tick fun args r pre fresh h hp => ?_
 unfold con_law01_Truth_tick at h
 split at h
 ·rename_i st sw dn up n_a c_a n_c c_c ct
  cases h
  obtain ⟨hp0, hp1, hp⟩ := hp
  refine ⟨rfl, fun _ _ _ => False, [.t (.a [.v (.int .i64 st), .v (.int .i64 sw), .v (.int .i64 dn), .v (.int .i64 up), .sl 1 ((listC n_a mkInt c_a).length) (intsC (listC n_a mkInt c_a)), .sl 1 ((listC n_c mkInt c_c).length) (intsC (listC n_c mkInt c_c))]), .t (.c (.v (.int .i64 ct)))], ?_, Nat.le_of_ble_eq_true (by kernel_rfl), ?_, ?_⟩
  ·exact (LeA_cons (leT_a (LeCs.cons (LeC1.refl _) (LeCs.cons (LeC1.refl _) (LeCs.cons (LeC1.refl _) (LeCs.cons (LeC1.refl _) (LeCs.cons ((leL_int hp0)) (LeCs.cons ((leL_int hp1)) LeCs.nil))))))) (LeA_cons (LeD.refl _) LeA_nil))
  ·rw [ev_law01_Truth_tick]; exact spec_law01_Truth_tick st sw dn up (listC n_a mkInt c_a) (listC n_c mkInt c_c) ct hp
  ·rw [lp_law01_Truth_tick]; trivial
 ·cases h
def Sh102 : Sum := addS Sy101 72 con_law01_Truth_tick
theorem VSh102 : Valid Try.prog Sh102 := Valid.add VSy101 ok_law01_Truth_tick
def mk_law01_ClockTruth_0 (c0 c1 : Int) (st : Int) (sw : Int) (dn : Int) (up : Int) (a : List Int) (c : List Int) (ct : Int) (v0_0 : List (List CV)) (v0_1 : Int) (v0_2 : Int) : DS := ⟨[none, none, some (.t (.c (.v (.int .i64 ct)))), some (.t (.c (.p 3 0))), some (.t (.c (.p 4 0))), none, none, some (.t (.c (.p 7 0))), some (.t (.c (.v (.int .i64 v0_1)))), some (.t (.c (.v (.int .i64 v0_2)))), none, none, none, none, none, none, none, none, none, none, none, none, none, none, none, none, none, none, none, none, none, none, none, none, none, none, none, none, none, none, none, none, none, none, none, none, none, none, none, none, none, none, none, none, none, none, none, none, none, none, none, none, none, none, none, none, none, none, none, none, none, none, none, none, none, none, none, none, none, none, none, none, none, none, none, none, none, none, none, none, none, none, none, none, none, none, none, none, none, none, none, none, none, none, none, none, none, none, none, none, none, none, none, none, none, none, none, none, none, none, none, none, none, none, none, none, none, none, none, none, none, none, none, none, none, none, none, none, none, none, none, none, none, none, none, none, none, none, none, none, none, none, none, none, none, none, none, none, none, none, none, none, none, none, none, none, none, none, none, none, none, none, none, none, none, none, none, none, none, none, none, none, none, none, none, none, none, none, none, none, none, none, none, none, none, none, none, none, none, none, none, none, none, none, none, none, none, none, none, none, none, none, none, none, none, none, none, none, none, none, none, none, none, none, none, none, none, none, none, none, none, none, none, none, none, none, none, none, none, none, none, none, none, none, none, none, none, none, none, none, none, none, none, none, none, none, none, none, none, none, none, none, none, none, none, none, none, none, none, none, none, none, none, none, none, none, none, none, none, none, none], [some (.gen 86 4 v0_0), none, none, some (.box 71 [.v (.int .i64 c0), .v (.int .i64 c1)]), some (.box 109 [.v (.int .i64 st), .v (.int .i64 sw), .v (.int .i64 dn), .v (.int .i64 up), .sl 1 a.length (intsC a), .sl 1 c.length (intsC c)]), none, none, some (.box 74 [.v (.int .i64 c0), .v (.int .i64 c1), .os 0]), none, none, none, none, none, none, none, none, none, none, none, none, none, none, none, none, none, none, none, none, none, none, none, none, none, none, none, none, none, none, none, none, none, none, none, none, none, none, none, none, none, none, none, none, none, none, none, none, none, none, none, none, none, none, none, none, none, none, none, none, none, none, none, none, none, none, none, none, none, none, none, none, none, none, none, none, none, none, none, none, none, none, none, none, none, none, none, none, none, none, none, none, none, none, none, none, none, none, none, none, none, none, none, none, none, none, none, none, none, none, none, none, none, none, none, none, none, none, none, none, none, none, none, none, none, none, none, none, none, none, none, none, none, none, none, none, none, none, none, none, none, none, none, none, none, none, none, none, none, none, none, none, none, none, none, none, none, none, none, none, none, none, none, none, none, none, none, none, none, none, none, none, none, none, none, none, none, none, none, none, none, none, none, none, none, none, none, none, none, none, none, none, none, none, none, none, none, none, none, none, none, none, none, none, none, none, none, none, none, none, none, none, none, none, none, none, none, none, none, none, none, none, none, none, none, none, none, none, none, none, none, none, none, none, none, none, none, none, none, none, none, none, none, none, none, none, none, none, none, none, none, none, none, none, none, none, none, none, none, none, none, none, none, none, none, none, none, none, none, none, none, none, none]⟩
def mk_law01_ClockTruth_2 (c0 c1 : Int) (st : Int) (sw : Int) (dn : Int) (up : Int) (a : List Int) (c : List Int) (ct : Int) (v2_0 : List (List CV)) (v2_1 : (List Rg)) (v2_2 : Int) : DS := ⟨[none, none, none, some (.t (.c (.p 3 0))), some (.t (.c (.p 4 0))), none, none, some (.t (.c (.p 7 0))), none, none, none, none, none, some (.t (.c (.sl 2 v2_1.length (rgsC v2_1)))), none, none, none, none, none, none, none, some (.t (.c (.v (.int .i64 v2_2)))), none, none, none, none, none, none, none, none, none, none, none, none, none, none, none, none, none, none, none, none, none, none, none, none, none, none, none, none, none, none, none, none, none, none, none, none, none, none, none, none, none, none, none, none, none, none, none, none, none, none, none, none, none, none, none, none, none, none, none, none, none, none, none, none, none, none, none, none, none, none, none, none, none, none, none, none, none, none, none, none, none, none, none, none, none, none, none, none, none, none, none, none, none, none, none, none, none, none, none, none, none, none, none, none, none, none, none, none, none, none, none, none, none, none, none, none, none, none, none, none, none, none, none, none, none, none, none, none, none, none, none, none, none, none, none, none, none, none, none, none, none, none, none, none, none, none, none, none, none, none, none, none, none, none, none, none, none, none, none, none, none, none, none, none, none, none, none, none, none, none, none, none, none, none, none, none, none, none, none, none, none, none, none, none, none, none, none, none, none, none, none, none, none, none, none, none, none, none, none, none, none, none, none, none, none, none, none, none, none, none, none, none, none, none, none, none, none, none, none, none, none, none, none, none, none, none, none, none, none, none, none, none, none, none, none, none, none, none, none, none, none, none, none, none, none, none, none, none, none, none, none, none, none, none, none, none, none, none, none], [some (.gen 86 4 v2_0), none, none, some (.box 71 [.v (.int .i64 c0), .v (.int .i64 c1)]), some (.box 109 [.v (.int .i64 st), .v (.int .i64 sw), .v (.int .i64 dn), .v (.int .i64 up), .sl 1 a.length (intsC a), .sl 1 c.length (intsC c)]), none, none, some (.box 74 [.v (.int .i64 c0), .v (.int .i64 c1), .os 0]), none, none, none, none, none, none, none, none, none, none, none, none, none, none, none, none, none, none, none, none, none, none, none, none, none, none, none, none, none, none, none, none, none, none, none, none, none, none, none, none, none, none, none, none, none, none, none, none, none, none, none, none, none, none, none, none, none, none, none, none, none, none, none, none, none, none, none, none, none, none, none, none, none, none, none, none, none, none, none, none, none, none, none, none, none, none, none, none, none, none, none, none, none, none, none, none, none, none, none, none, none, none, none, none, none, none, none, none, none, none, none, none, none, none, none, none, none, none, none, none, none, none, none, none, none, none, none, none, none, none, none, none, none, none, none, none, none, none, none, none, none, none, none, none, none, none, none, none, none, none, none, none, none, none, none, none, none, none, none, none, none, none, none, none, none, none, none, none, none, none, none, none, none, none, none, none, none, none, none, none, none, none, none, none, none, none, none, none, none, none, none, none, none, none, none, none, none, none, none, none, none, none, none, none, none, none, none, none, none, none, none, none, none, none, none, none, none, none, none, none, none, none, none, none, none, none, none, none, none, none, none, none, none, none, none, none, none, none, none, none, none, none, none, none, none, none, none, none, none, none, none, none, none, none, none, none, none, none, none, none, none, none, none, none, none, none, none, none, none, none, none, none, none]⟩
def vc_law01_ClockTruth (J : Inv) (c0 c1 : Int) (st : Int) (sw : Int) (dn : Int) (up : Int) (a : List Int) (c : List Int) (ct : Int) (post : DV → Prop) : Prop := cond ((cabE (⟨c0, c1⟩ : Cab)) != (0 : Int)) ((true = true) ∧ ((true = true) ∧ ((true = true) ∧ ((true = true) ∧ ((true = true) ∧ ((true = true) ∧ ((true = true) ∧ ((true = true) ∧ ((true = true) ∧ (post (.t (.c (.v (.bool true)))))))))))))) (lt (IntKind.i64.wrap ((0 : Int) - c0)) fun x1 => cond (!(inB sw x1 c0)) ((true = true) ∧ ((true = true) ∧ ((true = true) ∧ ((true = true) ∧ ((true = true) ∧ ((true = true) ∧ ((true = true) ∧ ((true = true) ∧ (post (.t (.c (.v (.bool true))))))))))))) (cond (!(inB st (0 : Int) (1000000 : Int))) ((true = true) ∧ ((true = true) ∧ ((true = true) ∧ ((true = true) ∧ ((true = true) ∧ ((true = true) ∧ ((true = true) ∧ (post (.t (.c (.v (.bool true)))))))))))) (cond (!(inB dn (0 : Int) (1000000 : Int))) ((true = true) ∧ ((true = true) ∧ ((true = true) ∧ ((true = true) ∧ ((true = true) ∧ ((true = true) ∧ (post (.t (.c (.v (.bool true))))))))))) (cond (!(inB up (0 : Int) (1000000 : Int))) ((true = true) ∧ ((true = true) ∧ ((true = true) ∧ ((true = true) ∧ ((true = true) ∧ (post (.t (.c (.v (.bool true)))))))))) (lt (IntKind.i64.wrap (dn - up)) fun x2 => (-9000000000000000000 ≤ x2 ∧ x2 ≤ 9000000000000000000) ∧ (cond (decide ((x2.natAbs : Int) > c1)) ((true = true) ∧ ((true = true) ∧ ((true = true) ∧ ((true = true) ∧ (post (.t (.c (.v (.bool true))))))))) (cond (((a.length : Nat) : Int) == (0 : Int)) ((true = true) ∧ ((true = true) ∧ ((true = true) ∧ (post (.t (.c (.v (.bool true)))))))) (cond (decide (((a.length : Nat) : Int) > (6 : Int))) ((true = true) ∧ ((true = true) ∧ (post (.t (.c (.v (.bool true))))))) (cond (((c.length : Nat) : Int) != ((a.length : Nat) : Int)) ((true = true) ∧ (post (.t (.c (.v (.bool true)))))) (cond (!(inB ct (0 : Int) (1000000000 : Int))) (post (.t (.c (.v (.bool true))))) (∃ n, J 0 (n :: []) (mk_law01_ClockTruth_0 c0 c1 st sw dn up a c ct ([]) 0 0))))))))))))
def ann_law01_ClockTruth : Ann := ⟨fun r => lookA r [(3, ([[], [0], [0, 1], [0, 1, 2], [0, 1, 2, 3], [0, 1, 2, 3, 4], [0, 1, 2, 3], [0, 1, 2, 3, 6], [0, 1, 2, 3, 6, 7], [0, 1, 2, 3], [0, 1, 2, 3, 9], [0, 1, 2, 3, 4, 5, 6, 7, 8, 9, 10], [0, 1, 2, 3, 4, 5, 6, 7, 8, 9, 10, 11], [0, 1, 2, 3, 4, 5, 6, 7, 8, 9, 10, 11, 12], [0, 1, 2, 3, 4, 5, 6, 7, 8, 9, 10, 11, 12, 13], [0, 1, 2, 3, 4, 5, 6, 7, 8, 9, 10, 11, 12, 13, 14], [0, 1, 2, 3, 4, 5, 6, 7, 8, 9, 10, 11, 12, 13, 14, 15], [0, 1, 2, 3, 4, 5, 6, 7, 8, 9, 10, 11, 12, 13, 14, 15, 16], [0, 1, 2, 3, 4, 5, 6, 7, 8, 9, 10, 11, 12, 13, 14, 15, 16, 17], [0, 1, 2, 3, 4, 5, 6, 7, 8, 9, 10, 11, 12, 13, 14, 15, 16, 17, 18], [0, 1, 2, 3, 4, 5, 6, 7, 8, 9, 10, 11, 12, 13, 14, 15, 16, 17, 18, 19], [0, 1, 2, 3, 4, 5, 6, 7, 8, 9, 10, 11, 12, 13, 14, 15, 16, 17, 18, 19, 20], [0, 1, 2, 3, 4, 5, 6, 7, 8, 9, 10, 11, 12, 13, 14, 15, 16, 17, 18, 19, 20, 21], [0, 1, 2, 3, 4, 5, 6, 7, 8, 9, 10, 11, 12, 13, 14, 15, 16, 17, 18, 19, 20, 21, 22], [0, 1, 2, 3, 4, 5, 6, 7, 8, 9, 10, 11, 12, 13, 14, 15, 16, 17, 18, 19, 20, 21, 22, 23], [0, 1, 2, 3, 4, 5, 6, 7, 8, 9, 10, 11, 12, 13, 14, 15, 16, 17, 18, 19, 20, 21, 22, 23, 24], [0, 1, 2, 3, 4, 5, 6, 7, 8, 9, 10, 11, 12, 13, 14, 15, 16, 17, 18, 19, 20, 21, 22, 23, 24, 25], [0, 1, 2, 3, 4, 5, 6, 7, 8, 9, 10, 11, 12, 13, 14, 15, 16, 17, 18, 19, 20, 21, 22, 23, 24, 25, 26], [0, 1, 2, 3, 4, 5, 6, 7, 8, 9, 10, 11, 12, 13, 14, 15, 16, 17, 18, 19, 20, 21, 22, 23, 24, 25, 26, 27], [0, 1, 2, 3, 4, 5, 6, 7, 8, 9, 10, 11, 12, 13, 14, 15, 16, 17, 18, 19, 20, 21, 22, 23, 24, 25, 26, 27, 28], [0, 1, 2, 3, 4, 5, 6, 7, 8, 9, 10, 11, 12, 13, 14, 15, 16, 17, 18, 19, 20, 21, 22, 23, 24, 25, 26, 27, 28, 29], [0, 1, 2, 3, 4, 5, 6, 7, 8, 9, 10, 11, 12, 13, 14, 15, 16, 17, 18, 19, 20, 21, 22, 23, 24, 25, 26, 27, 28, 29, 30], [0, 1, 2, 3, 4, 5, 6, 7, 8, 9, 10, 11, 12, 13, 14, 15, 16, 17, 18, 19, 20, 21, 22, 23, 24, 25, 26, 27, 28, 29, 30, 31], [0, 1, 2, 3, 4, 5, 6, 7, 8, 9, 10, 11, 12, 13, 14, 15, 16, 17, 18, 19, 20, 21, 22, 23, 24, 25, 26, 27, 28, 29, 30, 31, 32], [0, 1, 2, 3, 4, 5, 6, 7, 8, 9, 10, 11, 12, 13, 14, 15, 16, 17, 18, 19, 20, 21, 22, 23, 24, 25, 26, 27, 28, 29, 30, 31, 32, 33], [0, 1, 2, 3, 4, 5, 6, 7, 8, 9, 10, 11, 12, 13, 14, 15, 16, 17, 18, 19, 20, 21, 22, 23, 24, 25, 26, 27, 28, 29, 30, 31, 32], [0, 1, 2, 3, 4, 5, 6, 7, 8, 9, 10, 11, 12, 13, 14, 15, 16, 17, 18, 19, 20, 21, 22, 23, 24, 25, 26, 27, 28, 29, 30, 31, 32, 35], [0, 1, 2, 3, 4, 5, 6, 7, 8, 9, 10, 11, 12, 13, 14, 15, 16, 17, 18, 19, 20, 21, 22, 23, 24, 25, 26, 27, 28, 29, 30, 31, 32, 33, 34, 35, 36], [0, 1, 2, 3, 4, 5, 6, 7, 8, 9, 10, 11, 12, 13, 14, 15, 16, 17, 18, 19, 20, 21, 22, 23, 24, 25, 26, 27, 28, 29, 30, 31, 32, 33, 34, 35, 36, 37], [0, 1, 2, 3, 4, 5, 6, 7, 8, 9, 10, 11, 12, 13, 14, 15, 16, 17, 18, 19, 20, 21, 22, 23, 24, 25, 26, 27, 28, 29, 30, 31, 32], [0, 1, 2, 3, 4, 5, 6, 7, 8, 9, 10, 11, 12, 13, 14, 15, 16, 17, 18, 19, 20, 21, 22, 23, 24, 25, 26, 27, 28, 29, 30, 31, 32, 39], [0, 1, 2, 3, 4, 5, 6, 7, 8, 9, 10, 11, 12, 13, 14, 15, 16, 17, 18, 19, 20, 21, 22, 23, 24, 25, 26, 27, 28, 29, 30, 31, 32, 33, 34, 35, 36, 37, 38, 39, 40], [0, 1, 2, 3, 4, 5, 6, 7, 8, 9, 10, 11, 12, 13, 14, 15, 16, 17, 18, 19, 20, 21, 22, 23, 24, 25, 26, 27, 28, 29, 30, 31, 32, 33, 34, 35, 36, 37, 38, 39, 40, 41], [0, 1, 2, 3, 4, 5, 6, 7, 8, 9, 10, 11, 12, 13, 14, 15, 16, 17, 18, 19, 20, 21, 22, 23, 24, 25, 26, 27, 28, 29, 30, 31, 32, 33, 34, 35, 36, 37, 38, 39, 40, 41, 42], [0, 1, 2, 3, 4, 5, 6, 7, 8, 9, 10, 11, 12, 13, 14, 15, 16, 17, 18, 19, 20, 21, 22, 23, 24, 25, 26, 27, 28, 29, 30, 31, 32, 33, 34, 35, 36, 37, 38, 39, 40, 41, 42, 43], [0, 1, 2, 3, 4, 5, 6, 7, 8, 9, 10, 11, 12, 13, 14, 15, 16, 17, 18, 19, 20, 21, 22, 23, 24, 25, 26, 27, 28, 29, 30, 31, 32, 33, 34, 35, 36, 37, 38, 39, 40, 41, 42, 43, 44], [0, 1, 2, 3, 4, 5, 6, 7, 8, 9, 10, 11, 12, 13, 14, 15, 16, 17, 18, 19, 20, 21, 22, 23, 24, 25, 26, 27, 28, 29, 30, 31, 32, 33, 34, 35, 36, 37, 38, 39, 40, 41, 42, 43, 44, 45], [0, 1, 2, 3, 4, 5, 6, 7, 8, 9, 10, 11, 12, 13, 14, 15, 16, 17, 18, 19, 20, 21, 22, 23, 24, 25, 26, 27, 28, 29, 30, 31, 32, 33, 34, 35, 36, 37, 38, 39, 40, 41, 42, 43, 44, 45, 46], [0, 1, 2, 3, 4, 5, 6, 7, 8, 9, 10, 11, 12, 13, 14, 15, 16, 17, 18, 19, 20, 21, 22, 23, 24, 25, 26, 27, 28, 29, 30, 31, 32, 33, 34, 35, 36, 37, 38, 39, 40, 41, 42, 43, 44, 45, 46, 47], [0, 1, 2, 3, 4, 5, 6, 7, 8, 9, 10, 11, 12, 13, 14, 15, 16, 17, 18, 19, 20, 21, 22, 23, 24, 25, 26, 27, 28, 29, 30, 31, 32, 33, 34, 35, 36, 37, 38, 39, 40, 41, 42, 43, 44, 45, 46, 47, 48], [0, 1, 2, 3, 4, 5, 6, 7, 8, 9, 10, 11, 12, 13, 14, 15, 16, 17, 18, 19, 20, 21, 22, 23, 24, 25, 26, 27, 28, 29, 30, 31, 32, 33, 34, 35, 36, 37, 38, 39, 40, 41, 42, 43, 44, 45, 46, 47, 48, 49], [0, 1, 2, 3, 4, 5, 6, 7, 8, 9, 10, 11, 12, 13, 14, 15, 16, 17, 18, 19, 20, 21, 22, 23, 24, 25, 26, 27, 28, 29, 30, 31, 32, 33, 34, 35, 36, 37, 38, 39, 40, 41, 42, 43, 44, 45, 46, 47, 48, 49, 50], [0, 1, 2, 3, 4, 5, 6, 7, 8, 9, 10, 11, 12, 13, 14, 15, 16, 17, 18, 19, 20, 21, 22, 23, 24, 25, 26, 27, 28, 29, 30, 31, 32, 33, 34, 35, 36, 37, 38, 39, 40, 41, 42, 43, 44, 45, 46, 47, 48, 49, 50, 51], [0, 1, 2, 3, 4, 5, 6, 7, 8, 9, 10, 11, 12, 13, 14, 15, 16, 17, 18, 19, 20, 21, 22, 23, 24, 25, 26, 27, 28, 29, 30, 31, 32, 33, 34, 35, 36, 37, 38, 39, 40, 41, 42, 43, 44, 45, 46, 47, 48, 49, 50, 51, 52], [0, 1, 2, 3, 4, 5, 6, 7, 8, 9, 10, 11, 12, 13, 14, 15, 16, 17, 18, 19, 20, 21, 22, 23, 24, 25, 26, 27, 28, 29, 30, 31, 32, 33, 34, 35, 36, 37, 38, 39, 40, 41, 42, 43, 44, 45, 46, 47, 48, 49, 50, 51, 52, 53], [0, 1, 2, 3, 4, 5, 6, 7, 8, 9, 10, 11, 12, 13, 14, 15, 16, 17, 18, 19, 20, 21, 22, 23, 24, 25, 26, 27, 28, 29, 30, 31, 32, 33, 34, 35, 36, 37, 38, 39, 40, 41, 42, 43, 44, 45, 46, 47, 48, 49, 50, 51, 52, 53, 54], [0, 1, 2, 3, 4, 5, 6, 7, 8, 9, 10, 11, 12, 13, 14, 15, 16, 17, 18, 19, 20, 21, 22, 23, 24, 25, 26, 27, 28, 29, 30, 31, 32, 33, 34, 35, 36, 37, 38, 39, 40, 41, 42, 43, 44, 45, 46, 47, 48, 49, 50, 51, 52, 53, 54, 55], [0, 1, 2, 3, 4, 5, 6, 7, 8, 9, 10, 11, 12, 13, 14, 15, 16, 17, 18, 19, 20, 21, 22, 23, 24, 25, 26, 27, 28, 29, 30, 31, 32, 33, 34, 35, 36, 37, 38, 39, 40, 41, 42, 43, 44, 45, 46, 47, 48, 49, 50, 51, 52, 53, 54, 55, 56], [0, 1, 2, 3, 4, 5, 6, 7, 8, 9, 10, 11, 12, 13, 14, 15, 16, 17, 18, 19, 20, 21, 22, 23, 24, 25, 26, 27, 28, 29, 30, 31, 32, 33, 34, 35, 36, 37, 38, 39, 40, 41, 42, 43, 44, 45, 46, 47, 48, 49, 50, 51, 52, 53, 54, 55, 56, 57], [0, 1, 2, 3, 4, 5, 6, 7, 8, 9, 10, 11, 12, 13, 14, 15, 16, 17, 18, 19, 20, 21, 22, 23, 24, 25, 26, 27, 28, 29, 30, 31, 32, 33, 34, 35, 36, 37, 38, 39, 40, 41, 42, 43, 44, 45, 46, 47, 48, 49, 50, 51, 52, 53, 54, 55], [0, 1, 2, 3, 4, 5, 6, 7, 8, 9, 10, 11, 12, 13, 14, 15, 16, 17, 18, 19, 20, 21, 22, 23, 24, 25, 26, 27, 28, 29, 30, 31, 32, 33, 34, 35, 36, 37, 38, 39, 40, 41, 42, 43, 44, 45, 46, 47, 48, 49, 50, 51, 52, 53, 54, 55, 59], [0, 1, 2, 3, 4, 5, 6, 7, 8, 9, 10, 11, 12, 13, 14, 15, 16, 17, 18, 19, 20, 21, 22, 23, 24, 25, 26, 27, 28, 29, 30, 31, 32, 33, 34, 35, 36, 37, 38, 39, 40, 41, 42, 43, 44, 45, 46, 47, 48, 49, 50, 51, 52, 53, 54, 55, 59, 60], [0, 1, 2, 3, 4, 5, 6, 7, 8, 9, 10, 11, 12, 13, 14, 15, 16, 17, 18, 19, 20, 21, 22, 23, 24, 25, 26, 27, 28, 29, 30, 31, 32, 33, 34, 35, 36, 37, 38, 39, 40, 41, 42, 43, 44, 45, 46, 47, 48, 49, 50, 51, 52, 53, 54, 55, 56, 57, 58, 59, 60, 61], [0, 1, 2, 3, 4, 5, 6, 7, 8, 9, 10, 11, 12, 13, 14, 15, 16, 17, 18, 19, 20, 21, 22, 23, 24, 25, 26, 27, 28, 29, 30, 31, 32, 33, 34, 35, 36, 37, 38, 39, 40, 41, 42, 43, 44, 45, 46, 47, 48, 49, 50, 51, 52, 53, 54, 55, 56, 57, 58, 59, 60, 61, 62], [0, 1, 2, 3, 4, 5, 6, 7, 8, 9, 10, 11, 12, 13, 14, 15, 16, 17, 18, 19, 20, 21, 22, 23, 24, 25, 26, 27, 28, 29, 30, 31, 32, 33, 34, 35, 36, 37, 38, 39, 40, 41, 42, 43, 44, 45, 46, 47, 48, 49, 50, 51, 52, 53, 54, 55, 56, 57, 58, 59, 60, 61, 62, 63], [0, 1, 2, 3, 4, 5, 6, 7, 8, 9, 10, 11, 12, 13, 14, 15, 16, 17, 18, 19, 20, 21, 22, 23, 24, 25, 26, 27, 28, 29, 30, 31, 32, 33, 34, 35, 36, 37, 38, 39, 40, 41, 42, 43, 44, 45, 46, 47, 48, 49, 50, 51, 52, 53, 54, 55, 56, 57, 58, 59, 60, 61, 62, 63, 64], [0, 1, 2, 3, 4, 5, 6, 7, 8, 9, 10, 11, 12, 13, 14, 15, 16, 17, 18, 19, 20, 21, 22, 23, 24, 25, 26, 27, 28, 29, 30, 31, 32, 33, 34, 35, 36, 37, 38, 39, 40, 41, 42, 43, 44, 45, 46, 47, 48, 49, 50, 51, 52, 53, 54, 55, 56, 57, 58, 59, 60, 61, 62, 63, 64, 65], [0, 1, 2, 3, 4, 5, 6, 7, 8, 9, 10, 11, 12, 13, 14, 15, 16, 17, 18, 19, 20, 21, 22, 23, 24, 25, 26, 27, 28, 29, 30, 31, 32, 33, 34, 35, 36, 37, 38, 39, 40, 41, 42, 43, 44, 45, 46, 47, 48, 49, 50, 51, 52, 53, 54, 55, 56, 57, 58, 59, 60, 61, 62, 63, 64, 65, 66], [0, 1, 2, 3, 4, 5, 6, 7, 8, 9, 10, 11, 12, 13, 14, 15, 16, 17, 18, 19, 20, 21, 22, 23, 24, 25, 26, 27, 28, 29, 30, 31, 32, 33, 34, 35, 36, 37, 38, 39, 40, 41, 42, 43, 44, 45, 46, 47, 48, 49, 50, 51, 52, 53, 54, 55, 56, 57, 58, 59, 60, 61, 62, 63, 64, 65, 66, 67]], [[27, 37, 43, 49, 55, 64, 92], [37, 43, 49, 55, 64, 92], [37, 43, 49, 55, 64, 92], [37, 43, 49, 55, 64, 92], [37, 43, 49, 55, 64, 92], [37, 43, 49, 55, 64, 92], [37, 43, 49, 55, 64, 92], [37, 43, 49, 55, 64, 92], [37, 43, 49, 55, 64, 92], [37, 43, 49, 55, 64, 92], [37, 43, 49, 55, 64, 92], [43, 49, 55, 64, 92], [43, 49, 55, 64, 92], [43, 49, 55, 64, 92], [43, 49, 55, 64, 92], [43, 49, 55, 64, 92], [43, 49, 55, 64, 92], [49, 55, 64, 92], [49, 55, 64, 92], [49, 55, 64, 92], [49, 55, 64, 92], [49, 55, 64, 92], [49, 55, 64, 92], [55, 64, 92], [55, 64, 92], [55, 64, 92], [55, 64, 92], [55, 64, 92], [55, 64, 92], [64, 92], [64, 92], [64, 92], [64, 92], [64, 92], [64, 92], [64, 92], [64, 92], [64, 92], [92], [64, 92], [64, 92], [92], [92], [92], [92], [92], [92], [92], [92], [92], [92], [92], [92], [92], [92], [92], [92], [92], [92], [92], [92], [92], [92], [92], [92], [92], [], [], []])), (14, ([[], [], [0, 1], [], [3], [0, 1, 2, 3, 4], [], [], [], [], [0, 1, 2, 8, 9], [], [11], [0, 1, 2, 8, 9, 10, 11, 12], [0, 1, 2, 3, 4, 5, 6, 7, 8, 9, 10, 11, 12, 13], [], [0, 1, 2, 3, 4, 5, 6, 7, 8, 9, 10, 11, 12, 13, 14, 15]], [[137, 145, 12], [137, 145, 12], [145, 12], [137, 145, 12], [137, 145, 12], [145, 12], [137, 145, 12], [137, 145, 12], [137, 145, 12], [137, 145, 12], [12], [137, 145, 12], [137, 145, 12], [12], [12], [137, 145], []])), (22, ([[], [0], [], [], [0, 1, 2, 3], [0, 1, 2, 3, 4], [0, 1, 2, 3, 4, 5], [0, 1, 2, 3, 4, 5, 6], [0, 1, 2, 3, 4, 5, 6], [], [0, 1, 2, 3, 4, 5, 6, 7, 9], [0, 1, 2, 3, 4, 5, 6, 7, 8, 9, 10]], [[181, 184, 185, 19], [184, 185, 19], [181, 184, 185, 19], [181, 184, 185, 19], [185, 19], [19], [19], [19], [19], [181, 184, 185], [], []])), (23, ([[], [0], [0, 1], [0, 1, 2], [0, 1, 2, 3], [0, 1, 2], [0, 1, 2, 5], [0, 1, 2, 5, 6], [0, 1, 2, 3, 4, 5, 6, 7], [0, 1, 2, 3, 4, 5, 6, 7, 8], [0, 1, 2, 3, 4, 5, 6, 7, 8, 9], [0, 1, 2, 3, 4, 5, 6, 7, 8, 9, 10], [0, 1, 2, 3, 4, 5, 6, 7, 8, 9, 10, 11], [0, 1, 2, 3, 4, 5, 6, 7, 8, 9, 10, 11, 12], [0, 1, 2, 3, 4, 5, 6, 7, 8, 9, 10, 11, 12, 13], [0, 1, 2, 3, 4, 5, 6, 7, 8, 9, 10, 11, 12, 13, 14], [0, 1, 2, 3, 4, 5, 6, 7, 8, 9, 10, 11, 12, 13, 14, 15], [0, 1, 2, 3, 4, 5, 6, 7, 8, 9, 10, 11, 12, 13, 14, 15, 16], [0, 1, 2, 3, 4, 5, 6, 7, 8, 9, 10, 11, 12, 13, 14, 15, 16, 17], [0, 1, 2, 3, 4, 5, 6, 7, 8, 9, 10, 11, 12, 13, 14, 15, 16, 17, 18], [0, 1, 2, 3, 4, 5, 6, 7, 8, 9, 10, 11, 12, 13, 14, 15, 16, 17, 18], [0, 1, 2, 3, 4, 5, 6, 7, 8, 9, 10, 11, 12, 13, 14, 15, 16, 17, 18, 19, 20], [0, 1, 2, 3, 4, 5, 6, 7, 8, 9, 10, 11, 12, 13, 14, 15, 16, 17, 18], [0, 1, 2, 3, 4, 5, 6, 7, 8, 9, 10, 11, 12, 13, 14, 15, 16, 17, 18, 22], [0, 1, 2, 3, 4, 5, 6, 7, 8, 9, 10, 11, 12, 13, 14, 15, 16, 17, 18], [0, 1, 2, 3, 4, 5, 6, 7, 8, 9, 10, 11, 12, 13, 14, 15, 16, 17, 18, 24], [0, 1, 2, 3, 4, 5, 6, 7, 8, 9, 10, 11, 12, 13, 14, 15, 16, 17, 18, 19, 20, 21, 22, 23, 24, 25], [0, 1, 2, 3, 4, 5, 6, 7, 8, 9, 10, 11, 12, 13, 14, 15, 16, 17, 18, 19, 20, 21, 22, 23, 24, 25, 26], [0, 1, 2, 3, 4, 5, 6, 7, 8, 9, 10, 11, 12, 13, 14, 15, 16, 17, 18, 19, 20, 21, 22, 23, 24, 25, 26, 27], [0, 1, 2, 3, 4, 5, 6, 7, 8, 9, 10, 11, 12, 13, 14, 15, 16, 17, 18, 19, 20, 21, 22, 23, 24, 25, 26, 27, 28], [0, 1, 2, 3, 4, 5, 6, 7, 8, 9, 10, 11, 12, 13, 14, 15, 16, 17, 18, 19, 20, 21, 22, 23, 24, 25, 26, 27, 28, 29], [0, 1, 2, 3, 4, 5, 6, 7, 8, 9, 10, 11, 12, 13, 14, 15, 16, 17, 18, 19, 20, 21, 22, 23, 24, 25, 26, 27, 28, 29, 30], [0, 1, 2, 3, 4, 5, 6, 7, 8, 9, 10, 11, 12, 13, 14, 15, 16, 17, 18, 19, 20, 21, 22, 23, 24, 25, 26, 27, 28, 29, 30, 31], [0, 1, 2, 3, 4, 5, 6, 7, 8, 9, 10, 11, 12, 13, 14, 15, 16, 17, 18, 19, 20, 21, 22, 23, 24, 25, 26, 27, 28, 29, 30, 31, 32], [0, 1, 2, 3, 4, 5, 6, 7, 8, 9, 10, 11, 12, 13, 14, 15, 16, 17, 18, 19, 20, 21, 22, 23, 24, 25, 26, 27, 28, 29, 30, 31, 32, 33], [0, 1, 2, 3, 4, 5, 6, 7, 8, 9, 10, 11, 12, 13, 14, 15, 16, 17, 18, 19, 20, 21, 22, 23, 24, 25, 26, 27, 28, 29, 30, 31, 32, 33], [0, 1, 2, 3, 4, 5, 6, 7, 8, 9, 10, 11, 12, 13, 14, 15, 16, 17, 18, 19, 20, 21, 22, 23, 24, 25, 26, 27, 28, 29, 30, 31, 32, 33, 35], [0, 1, 2, 3, 4, 5, 6, 7, 8, 9, 10, 11, 12, 13, 14, 15, 16, 17, 18, 19, 20, 21, 22, 23, 24, 25, 26, 27, 28, 29, 30, 31, 32, 33], [0, 1, 2, 3, 4, 5, 6, 7, 8, 9, 10, 11, 12, 13, 14, 15, 16, 17, 18, 19, 20, 21, 22, 23, 24, 25, 26, 27, 28, 29, 30, 31, 32, 33, 37], [0, 1, 2, 3, 4, 5, 6, 7, 8, 9, 10, 11, 12, 13, 14, 15, 16, 17, 18, 19, 20, 21, 22, 23, 24, 25, 26, 27, 28, 29, 30, 31, 32, 33, 34, 35, 36, 37, 38], [0, 1, 2, 3, 4, 5, 6, 7, 8, 9, 10, 11, 12, 13, 14, 15, 16, 17, 18, 19, 20, 21, 22, 23, 24, 25, 26, 27, 28, 29, 30, 31, 32, 33, 34, 35, 36, 37, 38, 39], [0, 1, 2, 3, 4, 5, 6, 7, 8, 9, 10, 11, 12, 13, 14, 15, 16, 17, 18, 19, 20, 21, 22, 23, 24, 25, 26, 27, 28, 29, 30, 31, 32, 33, 34, 35, 36, 37, 38, 39, 40]], [[209, 214, 227], [209, 214, 227], [209, 214, 227], [209, 214, 227], [209, 214, 227], [209, 214, 227], [209, 214, 227], [209, 214, 227], [209, 214, 227], [209, 214, 227], [209, 214, 227], [209, 214, 227], [209, 214, 227], [209, 214, 227], [209, 214, 227], [209, 214, 227], [209, 214, 227], [209, 214, 227], [209, 214, 227], [209, 214, 227], [209, 214, 227], [214, 227], [209, 214, 227], [209, 214, 227], [209, 214, 227], [209, 214, 227], [227], [227], [227], [227], [227], [227], [227], [227], [227], [227], [227], [227], [227], [], [], []])), (28, ([[], [], [1], [], [1, 2, 3], [1, 2, 3, 4], [0, 1, 2, 3, 4, 5], [0, 1, 2, 3, 4, 5, 6], [0, 1, 2, 3, 4, 5, 6, 7], [0, 1, 2, 3, 4, 5, 6, 7], [], [0, 1, 2, 3, 4, 5, 6, 7, 8, 10], [0, 1, 2, 3, 4, 5, 6, 7, 8, 9, 10, 11]], [[243, 22], [243, 22], [243, 22], [243, 22], [243, 22], [243, 22], [22], [22], [22], [22], [243], [], []])), (29, ([[], [0], [0, 1], [0, 1, 2], [0, 1, 2, 3], [0, 1, 2], [0, 1, 2, 5], [0, 1, 2], [0, 1, 2, 7], [0, 1, 2, 3, 4, 5, 6, 7, 8], [0, 1, 2, 3, 4, 5, 6, 7, 8, 9], [0, 1, 2, 3, 4, 5, 6, 7, 8, 9, 10], [0, 1, 2, 3, 4, 5, 6, 7, 8, 9, 10, 11], [0, 1, 2, 3, 4, 5, 6, 7, 8, 9, 10, 11, 12], [0, 1, 2, 3, 4, 5, 6, 7, 8, 9, 10, 11, 12, 13], [0, 1, 2, 3, 4, 5, 6, 7, 8, 9, 10, 11, 12], [0, 1, 2, 3, 4, 5, 6, 7, 8, 9, 10, 11, 12, 13, 14, 15], [0, 1, 2, 3, 4, 5, 6, 7, 8, 9, 10, 11, 12, 13, 14, 15, 16], [0, 1, 2, 3, 4, 5, 6, 7, 8, 9, 10, 11, 12, 13, 14, 15, 16, 17], [0, 1, 2, 3, 4, 5, 6, 7, 8, 9, 10, 11, 12], [0, 1, 2, 3, 4, 5, 6, 7, 8, 9, 10, 11, 12, 19], [0, 1, 2, 3, 4, 5, 6, 7, 8, 9, 10, 11, 12, 13, 14, 15, 16, 17, 18, 19, 20], [0, 1, 2, 3, 4, 5, 6, 7, 8, 9, 10, 11, 12], [0, 1, 2, 3, 4, 5, 6, 7, 8, 9, 10, 11, 12], [0, 1, 2, 3, 4, 5, 6, 7, 8, 9, 10, 11, 12, 22, 23], [0, 1, 2, 3, 4, 5, 6, 7, 8, 9, 10, 11, 12, 22, 23, 24], [0, 1, 2, 3, 4, 5, 6, 7, 8, 9, 10, 11, 12, 22, 23, 24, 25], [0, 1, 2, 3, 4, 5, 6, 7, 8, 9, 10, 11, 12], [0, 1, 2, 3, 4, 5, 6, 7, 8, 9, 10, 11, 12], [0, 1, 2, 3, 4, 5, 6, 7, 8, 9, 10, 11, 12, 27, 28], [0, 1, 2, 3, 4, 5, 6, 7, 8, 9, 10, 11, 12, 27, 28, 29], [0, 1, 2, 3, 4, 5, 6, 7, 8, 9, 10, 11, 12, 27, 28, 29, 30], [0, 1, 2, 3, 4, 5, 6, 7, 8, 9, 10, 11, 12, 13, 14, 15, 16, 17, 18, 19, 20, 21, 22, 23, 24, 25, 26, 27, 28, 29, 30, 31], [0, 1, 2, 3, 4, 5, 6, 7, 8, 9, 10, 11, 12, 13, 14, 15, 16, 17, 18, 19, 20, 21, 22, 23, 24, 25, 26, 27, 28, 29, 30, 31, 32], [0, 1, 2, 3, 4, 5, 6, 7, 8, 9, 10, 11, 12, 13, 14, 15, 16, 17, 18, 19, 20, 21, 22, 23, 24, 25, 26, 27, 28, 29, 30, 31, 32, 33]], [[255, 278], [255, 278], [255, 278], [255, 278], [255, 278], [255, 278], [255, 278], [255, 278], [255, 278], [278], [278], [278], [278], [278], [278], [278], [278], [278], [278], [278], [278], [278], [278], [278], [278], [278], [278], [278], [278], [278], [278], [278], [], [], []]))], fun b => lookA b [(0, (none, some ⟨[2, 3, 4, 7, 8, 9], [3, 4, 7], []⟩)), (2, (none, some ⟨[3, 4, 7, 13, 21], [3, 4, 7], []⟩))], fun b => (lookA b [(0, [(7, 2, 0, .gen 86 4 [])]), (2, [(7, 2, 0, .gen 86 4 [])])]).getD [], I1, false, fun _ => none, fun _ => none⟩
theorem ev_law01_ClockTruth (J : Inv) (c0 c1 : Int) (st : Int) (sw : Int) (dn : Int) (up : Int) (a : List Int) (c : List Int) (ct : Int) (post : DV → Prop) : evFn Try.prog tab Sh102 ann_law01_ClockTruth J Try.f12 [.t (.a [.v (.int .i64 c0), .v (.int .i64 c1)]), .t (.a [.v (.int .i64 st), .v (.int .i64 sw), .v (.int .i64 dn), .v (.int .i64 up), .sl 1 a.length (intsC a), .sl 1 c.length (intsC c)]), .t (.c (.v (.int .i64 ct)))] post = vc_law01_ClockTruth J c0 c1 st sw dn up a c ct post := by kernel_rfl
theorem fit_law01_ClockTruth : okFn ann_law01_ClockTruth Try.f12 = true := by kernel_rfl
def rd_law01_ClockTruth_0 (J : Inv) (c0 c1 : Int) (st : Int) (sw : Int) (dn : Int) (up : Int) (a : List Int) (c : List Int) (ct : Int) (v0_0 : List (List CV)) (v0_1 : Int) (v0_2 : Int) (nn0 : Nat) (post : DV → Prop) : Prop := cond (decide (v0_2 < ((a.length : Nat) : Int))) ((0 ≤ v0_2 ∧ v0_2 < ((a.length : Nat) : Int)) ∧ (cond (!(inB (a.getD v0_2.toNat 0) (0 : Int) (1000000 : Int))) ((true = true) ∧ (post (.t (.c (.v (.bool true)))))) ((0 ≤ v0_2 ∧ v0_2 < ((c.length : Nat) : Int)) ∧ (cond (!(inB (c.getD v0_2.toNat 0) (0 : Int) (1000000 : Int))) (post (.t (.c (.v (.bool true))))) ((0 ≤ v0_2 ∧ v0_2 < ((a.length : Nat) : Int)) ∧ (lt (IntKind.i64.wrap (v0_1 + (a.getD v0_2.toNat 0))) fun x1 => lt (IntKind.i64.wrap (x1 + (3000000 : Int))) fun x2 => (0 ≤ v0_2 ∧ v0_2 < ((c.length : Nat) : Int)) ∧ (lt (IntKind.i64.wrap (x2 + (c.getD v0_2.toNat 0))) fun x3 => (numsP 1 a.length (intsC a) ∧ numsP 1 c.length (intsC c) ∧ -4000000000 ≤ x2 ∧ x2 ≤ 4000000000 ∧ -1000 ≤ sw ∧ sw ≤ 1000 ∧ 0 ≤ st ∧ st ≤ 1000000) ∧ (lt (IntKind.i64.wrap ((Tru.tick ⟨st, sw, dn, up⟩ x2) - dn)) fun x4 => (numsP 1 a.length (intsC a) ∧ numsP 1 c.length (intsC c) ∧ -4000000000 ≤ x3 ∧ x3 ≤ 4000000000 ∧ -1000 ≤ sw ∧ sw ≤ 1000 ∧ 0 ≤ st ∧ st ≤ 1000000) ∧ (lt (IntKind.i64.wrap ((Tru.tick ⟨st, sw, dn, up⟩ x3) + up)) fun x5 => (roomP 32 (v0_0.length + ([[.v (.int .i64 x4), .v (.int .i64 x2), .v (.int .i64 x3), .v (.int .i64 x5)]] : List (List CV)).length)) ∧ (lt (IntKind.i64.wrap (v0_2 + (1 : Int))) fun x6 => J 0 (nn0 :: []) (mk_law01_ClockTruth_0 c0 c1 st sw dn up a c ct (v0_0 ++ ([[.v (.int .i64 x4), .v (.int .i64 x2), .v (.int .i64 x3), .v (.int .i64 x5)]] : List (List CV))) x3 x6))))))))))) ((numsP 4 v0_0.length (genC v0_0)) ∧ (cond ((trE (⟨c0, c1⟩ : Cab) (listC v0_0.length mkPng (genC v0_0))) != (0 : Int)) (post (.t (.c (.v (.bool false))))) ((numsP 4 v0_0.length (genC v0_0) ∧ ((listC v0_0.length mkPng (genC v0_0))).length ≤ 1000) ∧ ((numsP 4 ((listC v0_0.length mkPng (genC v0_0)).length) (pngsC (listC v0_0.length mkPng (genC v0_0)))) ∧ ((numsP 4 v0_0.length (genC v0_0) ∧ ((listC v0_0.length mkPng (genC v0_0))).length ≤ 1000) ∧ ((numsP 4 ((listC v0_0.length mkPng (genC v0_0)).length) (pngsC (listC v0_0.length mkPng (genC v0_0)))) ∧ ((numsP 4 v0_0.length (genC v0_0) ∧ ((listC v0_0.length mkPng (genC v0_0))).length ≤ 1000) ∧ ((numsP 4 ((listC v0_0.length mkPng (genC v0_0)).length) (pngsC (listC v0_0.length mkPng (genC v0_0)))) ∧ ((numsP 4 v0_0.length (genC v0_0) ∧ ((listC v0_0.length mkPng (genC v0_0))).length ≤ 1000) ∧ ((numsP 1 a.length (intsC a) ∧ numsP 1 c.length (intsC c) ∧ -4000000000 ≤ ct ∧ ct ≤ 4000000000 ∧ -1000 ≤ sw ∧ sw ≤ 1000 ∧ 0 ≤ st ∧ st ≤ 1000000) ∧ ((numsP 4 ((listC v0_0.length mkPng (genC v0_0)).length) (pngsC (listC v0_0.length mkPng (genC v0_0)))) ∧ (cond ((tsE (⟨c0, c1⟩ : Cab) (listC ((listC v0_0.length mkPng (genC v0_0)).length) mkPng (pngsC (listC v0_0.length mkPng (genC v0_0))))) != (0 : Int)) ((true = true) ∧ ((true = true) ∧ ((true = true) ∧ ((true = true) ∧ ((true = true) ∧ ((true = true) ∧ (post (.t (.c (.v (.bool false))))))))))) (cond ((((tsV (⟨c0, c1⟩ : Cab) (listC ((listC v0_0.length mkPng (genC v0_0)).length) mkPng (pngsC (listC v0_0.length mkPng (genC v0_0))))).length : Nat) : Int) != ((v0_0.length : Nat) : Int)) ((true = true) ∧ ((true = true) ∧ ((true = true) ∧ ((true = true) ∧ ((true = true) ∧ (post (.t (.c (.v (.bool false)))))))))) (cond ((ctE (⟨c0, c1⟩ : Cab) (listC ((listC v0_0.length mkPng (genC v0_0)).length) mkPng (pngsC (listC v0_0.length mkPng (genC v0_0))))) != (12 : Int)) ((true = true) ∧ ((true = true) ∧ ((true = true) ∧ ((true = true) ∧ (post (.t (.c (.v (.bool false))))))))) (cond ((obE (⟨c0, c1⟩ : Cab) (listC ((listC v0_0.length mkPng (genC v0_0)).length) mkPng (pngsC (listC v0_0.length mkPng (genC v0_0)))) ct) != (0 : Int)) ((true = true) ∧ ((true = true) ∧ ((true = true) ∧ (post (.t (.c (.v (.bool false)))))))) ((numsP 1 a.length (intsC a) ∧ numsP 1 c.length (intsC c) ∧ -4000000000 ≤ ct ∧ ct ≤ 4000000000 ∧ -1000 ≤ sw ∧ sw ≤ 1000 ∧ 0 ≤ st ∧ st ≤ 1000000) ∧ (cond (!(inB (Tru.tick ⟨st, sw, dn, up⟩ ct) ((taV (⟨c0, c1⟩ : Cab) (listC ((listC v0_0.length mkPng (genC v0_0)).length) mkPng (pngsC (listC v0_0.length mkPng (genC v0_0)))) ct).lo) ((taV (⟨c0, c1⟩ : Cab) (listC ((listC v0_0.length mkPng (genC v0_0)).length) mkPng (pngsC (listC v0_0.length mkPng (genC v0_0)))) ct).hi))) ((true = true) ∧ ((true = true) ∧ (post (.t (.c (.v (.bool false))))))) (cond ((caE (⟨c0, c1⟩ : Cab) (listC ((listC v0_0.length mkPng (genC v0_0)).length) mkPng (pngsC (listC v0_0.length mkPng (genC v0_0)))) (Tru.tick ⟨st, sw, dn, up⟩ ct)) != (0 : Int)) ((true = true) ∧ (post (.t (.c (.v (.bool false)))))) (cond (!(inB ct ((caV (⟨c0, c1⟩ : Cab) (listC ((listC v0_0.length mkPng (genC v0_0)).length) mkPng (pngsC (listC v0_0.length mkPng (genC v0_0)))) (Tru.tick ⟨st, sw, dn, up⟩ ct)).lo) ((caV (⟨c0, c1⟩ : Cab) (listC ((listC v0_0.length mkPng (genC v0_0)).length) mkPng (pngsC (listC v0_0.length mkPng (genC v0_0)))) (Tru.tick ⟨st, sw, dn, up⟩ ct)).hi))) (post (.t (.c (.v (.bool false))))) (∃ n, J 2 (n :: []) (mk_law01_ClockTruth_2 c0 c1 st sw dn up a c ct v0_0 (tsV (⟨c0, c1⟩ : Cab) (listC ((listC v0_0.length mkPng (genC v0_0)).length) mkPng (pngsC (listC v0_0.length mkPng (genC v0_0))))) 0)))))))))))))))))))))
theorem er_law01_ClockTruth_0 (J : Inv) (c0 c1 : Int) (st : Int) (sw : Int) (dn : Int) (up : Int) (a : List Int) (c : List Int) (ct : Int) (v0_0 : List (List CV)) (v0_1 : Int) (v0_2 : Int) (nn0 : Nat) (post : DV → Prop) : round Try.prog tab Sh102 ann_law01_ClockTruth J Try.f12 post 0 (nn0 :: []) (mk_law01_ClockTruth_0 c0 c1 st sw dn up a c ct v0_0 v0_1 v0_2) = rd_law01_ClockTruth_0 J c0 c1 st sw dn up a c ct v0_0 v0_1 v0_2 nn0 post := by kernel_rfl
def rd_law01_ClockTruth_2 (J : Inv) (c0 c1 : Int) (st : Int) (sw : Int) (dn : Int) (up : Int) (a : List Int) (c : List Int) (ct : Int) (v2_0 : List (List CV)) (v2_1 : (List Rg)) (v2_2 : Int) (nn2 : Nat) (post : DV → Prop) : Prop := cond (decide (v2_2 < ((v2_1.length : Nat) : Int))) ((0 ≤ v2_2 ∧ v2_2 < ((v2_0.length : Nat) : Int)) ∧ (((v2_2).toNat < v2_0.length ∧ (((genC v2_0 (v2_2).toNat 0) = .v (.int .i64 (cvInt (genC v2_0 (v2_2).toNat 0)))) ∧ (((genC v2_0 (v2_2).toNat 1) = .v (.int .i64 (cvInt (genC v2_0 (v2_2).toNat 1)))) ∧ (((genC v2_0 (v2_2).toNat 2) = .v (.int .i64 (cvInt (genC v2_0 (v2_2).toNat 2)))) ∧ (((genC v2_0 (v2_2).toNat 3) = .v (.int .i64 (cvInt (genC v2_0 (v2_2).toNat 3)))) ∧ (True)))))) ∧ (cond ((dlE (⟨c0, c1⟩ : Cab) (⟨(cvInt (genC v2_0 (v2_2).toNat 0)), (cvInt (genC v2_0 (v2_2).toNat 1)), (cvInt (genC v2_0 (v2_2).toNat 2)), (cvInt (genC v2_0 (v2_2).toNat 3))⟩ : Png)) != (0 : Int)) ((true = true) ∧ ((true = true) ∧ (post (.t (.c (.v (.bool false))))))) (cond (!(inB dn ((dlV (⟨c0, c1⟩ : Cab) (⟨(cvInt (genC v2_0 (v2_2).toNat 0)), (cvInt (genC v2_0 (v2_2).toNat 1)), (cvInt (genC v2_0 (v2_2).toNat 2)), (cvInt (genC v2_0 (v2_2).toNat 3))⟩ : Png)).lo) ((dlV (⟨c0, c1⟩ : Cab) (⟨(cvInt (genC v2_0 (v2_2).toNat 0)), (cvInt (genC v2_0 (v2_2).toNat 1)), (cvInt (genC v2_0 (v2_2).toNat 2)), (cvInt (genC v2_0 (v2_2).toNat 3))⟩ : Png)).hi))) ((true = true) ∧ (post (.t (.c (.v (.bool false)))))) ((0 ≤ v2_2 ∧ v2_2 < ((v2_0.length : Nat) : Int)) ∧ (((v2_2).toNat < v2_0.length ∧ (((genC v2_0 (v2_2).toNat 0) = .v (.int .i64 (cvInt (genC v2_0 (v2_2).toNat 0)))) ∧ (True))) ∧ (lt (IntKind.i64.wrap ((cvInt (genC v2_0 (v2_2).toNat 0)) + dn)) fun x1 => (0 ≤ v2_2 ∧ v2_2 < ((v2_1.length : Nat) : Int)) ∧ ((0 ≤ v2_2 ∧ v2_2 < ((v2_1.length : Nat) : Int)) ∧ (cond (!(inB x1 ((rgAt v2_1 v2_2.toNat).lo) ((rgAt v2_1 v2_2.toNat).hi))) (post (.t (.c (.v (.bool false))))) (lt (IntKind.i64.wrap (v2_2 + (1 : Int))) fun x2 => J 2 (nn2 :: []) (mk_law01_ClockTruth_2 c0 c1 st sw dn up a c ct v2_0 v2_1 x2))))))))))) (post (.t (.c (.v (.bool true)))))
theorem er_law01_ClockTruth_2 (J : Inv) (c0 c1 : Int) (st : Int) (sw : Int) (dn : Int) (up : Int) (a : List Int) (c : List Int) (ct : Int) (v2_0 : List (List CV)) (v2_1 : (List Rg)) (v2_2 : Int) (nn2 : Nat) (post : DV → Prop) : round Try.prog tab Sh102 ann_law01_ClockTruth J Try.f12 post 1 (nn2 :: []) (mk_law01_ClockTruth_2 c0 c1 st sw dn up a c ct v2_0 v2_1 v2_2) = rd_law01_ClockTruth_2 J c0 c1 st sw dn up a c ct v2_0 v2_1 v2_2 nn2 post := by kernel_rfl
theorem lp_law01_ClockTruth (J : Inv) (post : DV → Prop) : AllG J (loopsFn Try.prog tab Sh102 ann_law01_ClockTruth J Try.f12 post) = (((∀ F s, ¬ J 0 (0 :: F) s) ∧ ∀ n F s, J 0 ((n + 1) :: F) s → round Try.prog tab Sh102 ann_law01_ClockTruth J Try.f12 post 0 (n :: F) s) ∧ ((∀ F s, ¬ J 2 (0 :: F) s) ∧ ∀ n F s, J 2 ((n + 1) :: F) s → round Try.prog tab Sh102 ann_law01_ClockTruth J Try.f12 post 1 (n :: F) s) ∧ True) := by kernel_rfl
def J_law01_ClockTruth (c0 c1 : Int) (st : Int) (sw : Int) (dn : Int) (up : Int) (a : List Int) (c : List Int) (ct : Int) : Inv := fun b F s => match b, F with
 | 0, [nn0] => ∃ (v0_0 : List (List CV)) (v0_1 : Int) (v0_2 : Int), s = mk_law01_ClockTruth_0 c0 c1 st sw dn up a c ct v0_0 v0_1 v0_2 ∧ (truH (⟨c0, c1⟩ : Cab) (⟨st, sw, dn, up⟩ : Tru) a c ct ∧ 0 ≤ v0_2 ∧ v0_2 ≤ a.length ∧ (nn0 : Int) + v0_2 = a.length + 1 ∧ v0_1 = lsK a c v0_2.toNat ∧ v0_0 = (trL (⟨st, sw, dn, up⟩ : Tru) a c v0_2.toNat).map pngCv ∧ (∀ i : Nat, (i : Int) < v0_2 → (0 ≤ a.getD i 0 ∧ a.getD i 0 ≤ 1000000) ∧ 0 ≤ c.getD i 0 ∧ c.getD i 0 ≤ 1000000))
 | 2, [nn2] => ∃ (v2_0 : List (List CV)) (v2_1 : (List Rg)) (v2_2 : Int), s = mk_law01_ClockTruth_2 c0 c1 st sw dn up a c ct v2_0 v2_1 v2_2 ∧ (truH (⟨c0, c1⟩ : Cab) (⟨st, sw, dn, up⟩ : Tru) a c ct ∧ (∀ i : Nat, i < a.length → (0 ≤ a.getD i 0 ∧ a.getD i 0 ≤ 1000000) ∧ 0 ≤ c.getD i 0 ∧ c.getD i 0 ≤ 1000000) ∧ 0 ≤ v2_2 ∧ v2_2 ≤ a.length ∧ (nn2 : Int) + v2_2 = a.length + 1 ∧ v2_0 = (trL (⟨st, sw, dn, up⟩ : Tru) a c a.length).map pngCv ∧ v2_1 = allT (⟨c0, c1⟩ : Cab) (trL (⟨st, sw, dn, up⟩ : Tru) a c a.length))
 | _, _ => False
set_option maxHeartbeats 8000000 in
set_option maxRecDepth 100000 in
theorem rnd_law01_ClockTruth_0 (c0 c1 : Int) (st : Int) (sw : Int) (dn : Int) (up : Int) (a : List Int) (c : List Int) (ct : Int) (v0_0 : List (List CV)) (v0_1 : Int) (v0_2 : Int) (nn0 : Nat) (hi : truH (⟨c0, c1⟩ : Cab) (⟨st, sw, dn, up⟩ : Tru) a c ct ∧ 0 ≤ v0_2 ∧ v0_2 ≤ a.length ∧ ((nn0 + 1) : Int) + v0_2 = a.length + 1 ∧ v0_1 = lsK a c v0_2.toNat ∧ v0_0 = (trL (⟨st, sw, dn, up⟩ : Tru) a c v0_2.toNat).map pngCv ∧ (∀ i : Nat, (i : Int) < v0_2 → (0 ≤ a.getD i 0 ∧ a.getD i 0 ≤ 1000000) ∧ 0 ≤ c.getD i 0 ∧ c.getD i 0 ≤ 1000000)) : rd_law01_ClockTruth_0 (J_law01_ClockTruth c0 c1 st sw dn up a c ct) c0 c1 st sw dn up a c ct v0_0 v0_1 v0_2 nn0 (fun r => LeD r (.t (.c (.v (.bool true))))) := by
 obtain ⟨q, i1, i2, i3, i4, i5, i6⟩ := hi
 obtain ⟨k, rfl⟩ : ∃ k : Nat, v0_2 = k := ⟨v0_2.toNat, by omega⟩
 have hk : (k : Int).toNat = k := rfl
 rw [hk] at i4 i5
 obtain ⟨t1, t2, t3, t4, t5, t6, t7, t8, t9⟩ := id q
 have u1 := t1.1
 simp only at u1 t2 t3 t4 t5 t6
 have n1 := numsP_ints a
 have n2 := numsP_ints c
 unfold rd_law01_ClockTruth_0
 simp only [ints_listC, lpps_listC, pngs_listC, rgs_listC]
 rw [hk]
 have pc : ∀ n : Int, 0 ≤ n → n ≤ 1000000000 → numsP 1 a.length (intsC a) ∧ numsP 1 c.length (intsC c) ∧ -4000000000 ≤ n ∧ n ≤ 4000000000 ∧ -1000 ≤ sw ∧ sw ≤ 1000 ∧ 0 ≤ st ∧ st ≤ 1000000 := fun n h1 h2 => ⟨n1, n2, by omega, by omega, by omega, by omega, by omega, by omega⟩
 refine cond_i (fun h => ?_) (fun h => ?_)
 ·have hlt : k < a.length := by have := of_decide_eq_true h; omega
  have r := lsK_rg (a := a) (c := c) (k := k) (fun i hi => i6 i (by omega))
  refine ⟨by omega, cond_i (fun _ => (by repeat' first | exact LeD.refl _ | trivial | (refine And.intro ?_ ?_))) fun ha => ⟨by omega, cond_i (fun _ => (by repeat' first | exact LeD.refl _ | trivial | (refine And.intro ?_ ?_))) fun hc => ⟨by omega, lt_i fun x2 h2 => lt_i fun x3 h3 => ⟨by omega, lt_i fun x4 h4 => ?_⟩⟩⟩⟩
  have ha : inB (a.getD k 0) 0 1000000 = true := by simpa using ha
  have hc : inB (c.getD k 0) 0 1000000 = true := by simpa using hc
  have ha := inB_true.1 ha
  have hc := inB_true.1 hc
  rw [i4, wi (by omega)] at h2
  subst h2
  rw [wi (by omega)] at h3
  subst h3
  rw [wi (by omega)] at h4
  have e3 : lsK a c k + a.getD k 0 + 3000000 = arK0 a c k := rfl
  have r1 := tick_rg (x := (⟨st, sw, dn, up⟩ : Tru)) (n := arK0 a c k) ⟨by show -1000 ≤ sw; omega, by show sw ≤ 1000; omega⟩ (by show 0 ≤ st ∧ st ≤ 1000000; omega) (by omega)
  have r2 := tick_rg (x := (⟨st, sw, dn, up⟩ : Tru)) (n := x4) ⟨by show -1000 ≤ sw; omega, by show sw ≤ 1000; omega⟩ (by show 0 ≤ st ∧ st ≤ 1000000; omega) (by omega)
  simp only at r1 r2
  rw [e3] at h4 ⊢
  refine ⟨pc _ (by omega) (by omega), lt_i fun x5 h5 => ⟨pc _ (by omega) (by omega), lt_i fun x6 h6 => ⟨?_, lt_i fun x7 h7 => ?_⟩⟩⟩
  ·unfold roomP maxLen; rw [i5]; simp [trL]; omega
  rw [wi (by omega)] at h5 h6 h7
  subst h5 h6 h7 h4
  refine ⟨_, _, _, rfl, q, by omega, by omega, by omega, ?_, ?_, fun i hi => ?_⟩
  ·rw [show ((k : Int) + 1).toNat = k + 1 by omega]; rfl
  ·rw [show ((k : Int) + 1).toNat = k + 1 by omega, trL_succ, List.map_append, i5]; rfl
  ·rcases (by omega : (i : Int) < k ∨ i = k) with e | rfl
   ·exact i6 i e
   ·exact ⟨ha, hc⟩
 ·have h := of_decide_eq_false h
  have ek : k = a.length := by omega
  subst ek
  have hr : ∀ i : Nat, i < a.length → (0 ≤ a.getD i 0 ∧ a.getD i 0 ≤ 1000000) ∧ 0 ≤ c.getD i 0 ∧ c.getD i 0 ≤ 1000000 := fun i hi => i6 i (by omega)
  have fr := tru_free q hr
  obtain ⟨f1, f2, f3, f4⟩ := tru_all fr
  have ll : (trL (⟨st, sw, dn, up⟩ : Tru) a c a.length).length = a.length := by simp [trL]
  have ta := tru_at q (n := ct)
  have tk := tick_tk q
  have e0 : obE (⟨c0, c1⟩ : Cab) (trL (⟨st, sw, dn, up⟩ : Tru) a c a.length) ct = 0 := free_iff.2 ⟨tkB_iff.2 (by omega), fr⟩
  have e1 : taV (⟨c0, c1⟩ : Cab) (trL (⟨st, sw, dn, up⟩ : Tru) a c a.length) ct = atR (⟨c0, c1⟩ : Cab) (trL (⟨st, sw, dn, up⟩ : Tru) a c a.length) ct := if_pos e0
  obtain ⟨e2, e3⟩ := cn_in fr (n := ct) (t := Tru.tick (⟨st, sw, dn, up⟩ : Tru) ct) (tkB_iff.2 (by omega)) tk ta.1 ta.2
  have e4 : inB (Tru.tick (⟨st, sw, dn, up⟩ : Tru) ct) (atR (⟨c0, c1⟩ : Cab) (trL (⟨st, sw, dn, up⟩ : Tru) a c a.length) ct).lo (atR (⟨c0, c1⟩ : Cab) (trL (⟨st, sw, dn, up⟩ : Tru) a c a.length) ct).hi = true := inB_true.2 ta
  have n4 := numsP_pngg (trL (⟨st, sw, dn, up⟩ : Tru) a c a.length)
  have n5 := numsP_pngs (trL (⟨st, sw, dn, up⟩ : Tru) a c a.length)
  subst i5
  simp only [pngg_listC]
  rw [List.length_map] at n4 ⊢
  rw [ll] at n4 n5
  simp only [List.length_map, f1, f2, f3, f4, e0, e1, e2, e3, e4, allT_len, ll, n00, beq_self_eq_true, bne_self_eq_false, Bool.not_true, Bool.not_false, _root_.cond_true, _root_.cond_false, decide_true, eq_self_iff_true, List.length_nil, lt_v, q2a, q2b, q12a, q12b, q13a, q13b, wr00, nums_ints]
  refine ⟨n4, ⟨n4, by omega⟩, n5, ⟨n4, by omega⟩, n5, ⟨n4, by omega⟩, n5, ⟨n4, by omega⟩, pc _ (by omega) (by omega), n5, pc _ (by omega) (by omega), a.length + 1, _, _, _, rfl, q, hr, by omega, by omega, by omega, rfl, rfl⟩
theorem zero_law01_ClockTruth_0 (c0 c1 : Int) (st : Int) (sw : Int) (dn : Int) (up : Int) (a : List Int) (c : List Int) (ct : Int) (v0_0 : List (List CV)) (v0_1 : Int) (v0_2 : Int)  (hi : truH (⟨c0, c1⟩ : Cab) (⟨st, sw, dn, up⟩ : Tru) a c ct ∧ 0 ≤ v0_2 ∧ v0_2 ≤ a.length ∧ (0 : Int) + v0_2 = a.length + 1 ∧ v0_1 = lsK a c v0_2.toNat ∧ v0_0 = (trL (⟨st, sw, dn, up⟩ : Tru) a c v0_2.toNat).map pngCv ∧ (∀ i : Nat, (i : Int) < v0_2 → (0 ≤ a.getD i 0 ∧ a.getD i 0 ≤ 1000000) ∧ 0 ≤ c.getD i 0 ∧ c.getD i 0 ≤ 1000000)) : False := by
 omega
set_option maxHeartbeats 8000000 in
set_option maxRecDepth 100000 in
theorem rnd_law01_ClockTruth_2 (c0 c1 : Int) (st : Int) (sw : Int) (dn : Int) (up : Int) (a : List Int) (c : List Int) (ct : Int) (v2_0 : List (List CV)) (v2_1 : (List Rg)) (v2_2 : Int) (nn2 : Nat) (hi : truH (⟨c0, c1⟩ : Cab) (⟨st, sw, dn, up⟩ : Tru) a c ct ∧ (∀ i : Nat, i < a.length → (0 ≤ a.getD i 0 ∧ a.getD i 0 ≤ 1000000) ∧ 0 ≤ c.getD i 0 ∧ c.getD i 0 ≤ 1000000) ∧ 0 ≤ v2_2 ∧ v2_2 ≤ a.length ∧ ((nn2 + 1) : Int) + v2_2 = a.length + 1 ∧ v2_0 = (trL (⟨st, sw, dn, up⟩ : Tru) a c a.length).map pngCv ∧ v2_1 = allT (⟨c0, c1⟩ : Cab) (trL (⟨st, sw, dn, up⟩ : Tru) a c a.length)) : rd_law01_ClockTruth_2 (J_law01_ClockTruth c0 c1 st sw dn up a c ct) c0 c1 st sw dn up a c ct v2_0 v2_1 v2_2 nn2 (fun r => LeD r (.t (.c (.v (.bool true))))) := by
 obtain ⟨q, hr, i1, i2, i3, i4, i5⟩ := hi
 obtain ⟨k, rfl⟩ : ∃ k : Nat, v2_2 = k := ⟨v2_2.toNat, by omega⟩
 have hk : (k : Int).toNat = k := rfl
 subst i4 i5
 obtain ⟨t1, t2, t3, t4, t5, t6, t7, t8, t9⟩ := id q
 simp only at t2 t3 t4 t5 t6
 have fr := tru_free q hr
 have ll : (trL (⟨st, sw, dn, up⟩ : Tru) a c a.length).length = a.length := by simp [trL]
 unfold rd_law01_ClockTruth_2
 rw [hk]
 refine cond_i (fun h => ?_) (fun _ => LeD.refl _)
 have h := of_decide_eq_true h
 rw [allT_len, ll] at h
 have hlt : k < a.length := by omega
 have hl2 : k < (trL (⟨st, sw, dn, up⟩ : Tru) a c a.length).length := by omega
 obtain ⟨g0, g1, g2, g3⟩ := gen_png hl2
 obtain ⟨d1, d2, d3, d4⟩ := tru_del q hr hlt
 have w1 : IntKind.i64.wrap ((k : Int) + 1) = (k : Int) + 1 := wi (by omega)
 have pk := fr.1.2.2.1 k hl2
 have w2 : IntKind.i64.wrap ((pngAt (trL (⟨st, sw, dn, up⟩ : Tru) a c a.length) k).sent + dn) = (pngAt (trL (⟨st, sw, dn, up⟩ : Tru) a c a.length) k).sent + dn := wi (by have := pk.1; omega)
 have e5 : (⟨(pngAt (trL (⟨st, sw, dn, up⟩ : Tru) a c a.length) k).sent, (pngAt (trL (⟨st, sw, dn, up⟩ : Tru) a c a.length) k).arr, (pngAt (trL (⟨st, sw, dn, up⟩ : Tru) a c a.length) k).ans, (pngAt (trL (⟨st, sw, dn, up⟩ : Tru) a c a.length) k).back⟩ : Png) = pngAt (trL (⟨st, sw, dn, up⟩ : Tru) a c a.length) k := rfl
 rw [allT_at hl2]
 simp only [g0, g1, g2, g3, cvInt, e5, d1, d2, d3, w1, w2, d4, allT_len, List.length_map, n00, beq_self_eq_true, bne_self_eq_false, Bool.not_true, Bool.not_false, _root_.cond_true, _root_.cond_false, decide_true, eq_self_iff_true, List.length_nil, lt_v, q2a, q2b, q12a, q12b, q13a, q13b, wr00, nums_ints]
 refine ⟨⟨by omega, by omega⟩, ⟨by omega, by trivial⟩, ⟨by omega, by omega⟩, ⟨by omega, by trivial⟩, ⟨by omega, by omega⟩, ⟨by omega, by omega⟩, _, _, _, rfl, q, hr, by omega, by omega, by omega, rfl, rfl⟩
theorem zero_law01_ClockTruth_2 (c0 c1 : Int) (st : Int) (sw : Int) (dn : Int) (up : Int) (a : List Int) (c : List Int) (ct : Int) (v2_0 : List (List CV)) (v2_1 : (List Rg)) (v2_2 : Int)  (hi : truH (⟨c0, c1⟩ : Cab) (⟨st, sw, dn, up⟩ : Tru) a c ct ∧ (∀ i : Nat, i < a.length → (0 ≤ a.getD i 0 ∧ a.getD i 0 ≤ 1000000) ∧ 0 ≤ c.getD i 0 ∧ c.getD i 0 ≤ 1000000) ∧ 0 ≤ v2_2 ∧ v2_2 ≤ a.length ∧ (0 : Int) + v2_2 = a.length + 1 ∧ v2_0 = (trL (⟨st, sw, dn, up⟩ : Tru) a c a.length).map pngCv ∧ v2_1 = allT (⟨c0, c1⟩ : Cab) (trL (⟨st, sw, dn, up⟩ : Tru) a c a.length)) : False := by
 omega
set_option maxHeartbeats 8000000 in
set_option maxRecDepth 100000 in
theorem spec_law01_ClockTruth (c0 c1 : Int) (st : Int) (sw : Int) (dn : Int) (up : Int) (a : List Int) (c : List Int) (ct : Int) : vc_law01_ClockTruth (J_law01_ClockTruth c0 c1 st sw dn up a c ct) c0 c1 st sw dn up a c ct (fun r => LeD r (.t (.c (.v (.bool true))))) := by
 unfold vc_law01_ClockTruth
 simp only [ints_listC, lpps_listC, pngs_listC, rgs_listC]
 refine cond_i (fun _ => (by repeat' first | exact LeD.refl _ | trivial | (refine And.intro ?_ ?_))) fun a0 => lt_i fun x1 h1 => cond_i (fun _ => (by repeat' first | exact LeD.refl _ | trivial | (refine And.intro ?_ ?_))) fun a1 => cond_i (fun _ => (by repeat' first | exact LeD.refl _ | trivial | (refine And.intro ?_ ?_))) fun a2 => cond_i (fun _ => (by repeat' first | exact LeD.refl _ | trivial | (refine And.intro ?_ ?_))) fun a3 => cond_i (fun _ => (by repeat' first | exact LeD.refl _ | trivial | (refine And.intro ?_ ?_))) fun a4 => lt_i fun x2 h2 => ?_
 have b1 : cabE (⟨c0, c1⟩ : Cab) = 0 := by simpa using a0
 have b1 := cabE_0.1 b1
 have b2 := b1.1
 have b3 := b1.2
 simp only at b2 b3
 rw [wi (by omega)] at h1
 have a1 : inB sw x1 c0 = true := by simpa using a1
 have a2 : inB st 0 1000000 = true := by simpa using a2
 have a3 : inB dn 0 1000000 = true := by simpa using a3
 have a4 : inB up 0 1000000 = true := by simpa using a4
 rw [inB_true] at a1 a2 a3 a4
 rw [wi (by omega)] at h2
 subst h1 h2
 refine ⟨by omega, cond_i (fun _ => (by repeat' first | exact LeD.refl _ | trivial | (refine And.intro ?_ ?_))) fun a5 => cond_i (fun _ => (by repeat' first | exact LeD.refl _ | trivial | (refine And.intro ?_ ?_))) fun a6 => cond_i (fun _ => (by repeat' first | exact LeD.refl _ | trivial | (refine And.intro ?_ ?_))) fun a7 => cond_i (fun _ => (by repeat' first | exact LeD.refl _ | trivial | (refine And.intro ?_ ?_))) fun a8 => cond_i (fun _ => (by repeat' first | exact LeD.refl _ | trivial | (refine And.intro ?_ ?_))) fun a9 => ?_⟩
 have a5 := of_decide_eq_false a5
 have a6 : ((a.length : Nat) : Int) ≠ 0 := by simpa using a6
 have a7 := of_decide_eq_false a7
 have a8 : ((c.length : Nat) : Int) = ((a.length : Nat) : Int) := by simpa using a8
 have a9 : inB ct 0 1000000000 = true := by simpa using a9
 have hq : truH (⟨c0, c1⟩ : Cab) (⟨st, sw, dn, up⟩ : Tru) a c ct := by
  refine ⟨b1, ?_, a2, a3, a4, ?_, ?_, ?_, inB_true.1 a9⟩
  ·simp only; omega
  ·simp only; omega
  ·omega
  ·omega
 exact ⟨a.length + 1, _, _, _, rfl, hq, by omega, by omega, by omega, rfl, rfl, fun i hi => by omega⟩
theorem all_law01_ClockTruth (c0 c1 : Int) (st : Int) (sw : Int) (dn : Int) (up : Int) (a : List Int) (c : List Int) (ct : Int) : AllG (J_law01_ClockTruth c0 c1 st sw dn up a c ct) (loopsFn Try.prog tab Sh102 ann_law01_ClockTruth (J_law01_ClockTruth c0 c1 st sw dn up a c ct) Try.f12 (fun r => LeD r (.t (.c (.v (.bool true)))))) := by
 rw [lp_law01_ClockTruth]
 refine ⟨⟨?_, ?_⟩, ⟨?_, ?_⟩, trivial⟩
 ·intro F s h
  obtain _ | ⟨g, F⟩ := F
  case cons => exact h.elim
  obtain ⟨w0, w1, w2, rfl, hi⟩ := h
  exact zero_law01_ClockTruth_0 c0 c1 st sw dn up a c ct w0 w1 w2 hi
 ·intro n F s h
  obtain _ | ⟨g, F⟩ := F
  case cons => exact h.elim
  obtain ⟨w0, w1, w2, rfl, hi⟩ := h
  rw [er_law01_ClockTruth_0]
  exact rnd_law01_ClockTruth_0 c0 c1 st sw dn up a c ct _ _ _ _ hi
 ·intro F s h
  obtain _ | ⟨g, F⟩ := F
  case cons => exact h.elim
  obtain ⟨w0, w1, w2, rfl, hi⟩ := h
  exact zero_law01_ClockTruth_2 c0 c1 st sw dn up a c ct w0 w1 w2 hi
 ·intro n F s h
  obtain _ | ⟨g, F⟩ := F
  case cons => exact h.elim
  obtain ⟨w0, w1, w2, rfl, hi⟩ := h
  rw [er_law01_ClockTruth_2]
  exact rnd_law01_ClockTruth_2 c0 c1 st sw dn up a c ct _ _ _ _ hi
theorem law_law01_ClockTruth (c0 c1 : Int) (st : Int) (sw : Int) (dn : Int) (up : Int) (a : List Int) (c : List Int) (ct : Int) (W : World) (N : Nat → Prop) (vs : List Value) (h : All2 (RelD (RelF W N)) [.t (.a [.v (.int .i64 c0), .v (.int .i64 c1)]), .t (.a [.v (.int .i64 st), .v (.int .i64 sw), .v (.int .i64 dn), .v (.int .i64 up), .sl 1 a.length (intsC a), .sl 1 c.length (intsC c)]), .t (.c (.v (.int .i64 ct)))] vs) : Calls Try.prog 12 vs.toArray W fun e w' => e = .returned (.bool true) ∧ Below W.heap.size W w' :=
 law_end (fn_sound mixed tabOK VSh102 (ann := ann_law01_ClockTruth) VI1 (fn := Try.f12) (J := J_law01_ClockTruth c0 c1 st sw dn up a c ct) (by kernel_rfl) fit_law01_ClockTruth (args := [.t (.a [.v (.int .i64 c0), .v (.int .i64 c1)]), .t (.a [.v (.int .i64 st), .v (.int .i64 sw), .v (.int .i64 dn), .v (.int .i64 up), .sl 1 a.length (intsC a), .sl 1 c.length (intsC c)]), .t (.c (.v (.int .i64 ct)))]) (post := (fun r => LeD r (.t (.c (.v (.bool true)))))) (by rw [ev_law01_ClockTruth]; exact spec_law01_ClockTruth c0 c1 st sw dn up a c ct) (all_law01_ClockTruth c0 c1 st sw dn up a c ct) (Nat.le_of_ble_eq_true (by kernel_rfl)) W N vs trivial h)
end Go.Proofs.Ytkifmfmenobhnaa