/- Texts of this claim, together. -/
import Derived.Test.YtkifmfmenobhnaaCN11
import Derived.Test.YtkifmfmenobhnaaCN10
import Derived.Test.YtkifmfmenobhnaaCN5
import Derived.ProofKit
import Derived.OpenShut
import Derived.ShutString
import Derived.ChangeOld
import Derived.Below
import Derived.Lib.SmallJoins
import Derived.Test.YtkifmfmenobhnaaCN8

set_option linter.unusedVariables false
set_option linter.unusedSimpArgs false
namespace Go.Proofs.Ytkifmfmenobhnaa
open Go.RowKit Ev
theorem txP_any (l : List ByteArray) (n : Nat) : txP n (txsC l) := fun i hi => rfl
theorem opn_cl {n : Nat} {l : List Lnk} {s : List Int} (R : rel2 n 64000000000 (bdF l n) (clF l s n)) {i : Nat} (hi : i < n) : (bif (clF l s n 0 i == 1125899906842624) then true else (clF l s n i 0 == 1125899906842624)) = opnB l n i := by
 have h1 := R 0 i (by omega) hi
 have h2 := R i 0 hi (by omega)
 have ef : far = 1152921504606846976 := rfl
 have eg : free6 = 1125899906842624 := rfl
 have key : ∀ {a b : Int}, ((a = far ∧ b = free6) ∨ (a = b ∧ a ≤ 64000000000)) → (b == 1125899906842624) = (a == 1152921504606846976) := by
  intro a b h
  rw [Bool.eq_iff_iff]
  simp only [beq_iff_eq]
  rcases h with h | h <;> omega
 unfold opnB
 rw [key h1, key h2]
 cases (bdF l n 0 i == 1152921504606846976) <;> rfl
theorem opn_val {n : Nat} {l : List Lnk} {s : List Int} (R : rel2 n 64000000000 (bdF l n) (clF l s n)) {i : Nat} (hi : i < n) (h : opnB l n i = false) : clF l s n 0 i = bdF l n 0 i ∧ clF l s n i 0 = bdF l n i 0 := by
 have h1 := R 0 i (by omega) hi
 have h2 := R i 0 hi (by omega)
 unfold opnB at h
 rw [Bool.or_eq_false_iff] at h
 have a1 : bdF l n 0 i ≠ 1152921504606846976 := by simpa using h.1
 have a2 : bdF l n i 0 ≠ 1152921504606846976 := by simpa using h.2
 constructor
 ·rcases h1 with h1 | h1
  ·exact absurd h1.1 a1
  ·exact h1.1.symm
 ·rcases h2 with h2 | h2
  ·exact absurd h2.1 a2
  ·exact h2.1.symm
def vc_off_1 (cs : List ByteArray) (ls : List Lnk) (post : DV → Prop) : Prop := (txP 1 (txsC cs) ∧ numsP 4 ls.length (lnksC ls) ∧ ((listC ls.length mkLnk (lnksC ls))).length ≤ 1000000) ∧ ((numsP 4 ls.length (lnksC ls) ∧ numsP 1 ((alI (listC ls.length mkLnk (lnksC ls))).length) (intsC (alI (listC ls.length mkLnk (lnksC ls)))) ∧ clOk 1 (listC ls.length mkLnk (lnksC ls)) (listC ((alI (listC ls.length mkLnk (lnksC ls))).length) mkInt (intsC (alI (listC ls.length mkLnk (lnksC ls)))))) ∧ (cond (!(clO (listC ls.length mkLnk (lnksC ls)) (listC ((alI (listC ls.length mkLnk (lnksC ls))).length) mkInt (intsC (alI (listC ls.length mkLnk (lnksC ls))))) 1)) (post (.tu [.c (.v (.slice none 0 0)), .c (.v (.int .i64 13))])) ((0 ≤ (0 : Int) ∧ (0 : Int) < ((6 : Nat) : Int)) ∧ ((0 ≤ (0 : Int) ∧ (0 : Int) < ((6 : Nat) : Int)) ∧ ((cond ((clF (listC ls.length mkLnk (lnksC ls)) (listC ((alI (listC ls.length mkLnk (lnksC ls))).length) mkInt (intsC (alI (listC ls.length mkLnk (lnksC ls))))) 1 0 0) == (1125899906842624 : Int)) ((true = true) ∧ (True)) ((0 ≤ (0 : Int) ∧ (0 : Int) < ((6 : Nat) : Int)) ∧ ((0 ≤ (0 : Int) ∧ (0 : Int) < ((6 : Nat) : Int)) ∧ (True)))) ∧ (lt ((bif ((clF (listC ls.length mkLnk (lnksC ls)) (listC ((alI (listC ls.length mkLnk (lnksC ls))).length) mkInt (intsC (alI (listC ls.length mkLnk (lnksC ls))))) 1 0 0) == (1125899906842624 : Int)) then true else ((clF (listC ls.length mkLnk (lnksC ls)) (listC ((alI (listC ls.length mkLnk (lnksC ls))).length) mkInt (intsC (alI (listC ls.length mkLnk (lnksC ls))))) 1 0 0) == (1125899906842624 : Int)))) fun x1 => cond x1 (post (.tu [.c (.v (.slice none 0 0)), .c (.v (.int .i64 21))])) ((0 ≤ (0 : Int) ∧ (0 : Int) < ((6 : Nat) : Int)) ∧ ((0 ≤ (0 : Int) ∧ (0 : Int) < ((6 : Nat) : Int)) ∧ (lt (IntKind.i64.wrap ((0 : Int) - (clF (listC ls.length mkLnk (lnksC ls)) (listC ((alI (listC ls.length mkLnk (lnksC ls))).length) mkInt (intsC (alI (listC ls.length mkLnk (lnksC ls))))) 1 0 0))) fun x2 => (0 ≤ (0 : Int) ∧ (0 : Int) < ((6 : Nat) : Int)) ∧ ((0 ≤ (0 : Int) ∧ (0 : Int) < ((6 : Nat) : Int)) ∧ ((roomP 16 (0 + 1)) ∧ (post (.tu [.c (.sl 2 1 (genC [[.v (.int .i64 x2), .v (.int .i64 (clF (listC ls.length mkLnk (lnksC ls)) (listC ((alI (listC ls.length mkLnk (lnksC ls))).length) mkInt (intsC (alI (listC ls.length mkLnk (lnksC ls))))) 1 0 0))]])), .c (.v (.int .i64 0))])))))))))))))
def ann_off_1 : Ann := ⟨fun r => lookA r [(1, ([[], [], [1], [0, 1, 2], [0, 1, 2, 3], [0, 1, 2, 3, 4], [0, 1, 2, 3, 4], [], [0, 1, 2, 3, 4, 5, 7], [0, 1, 2, 3, 4, 5, 6, 7, 8]], [[11, 12, 4], [11, 12, 4], [12, 4], [4], [4], [4], [4], [11, 12], [], []])), (10, ([[], [], [1], [1, 2], [1, 2, 3], [1, 2, 3, 4], [], [], [6, 7], [6, 7, 8], [1, 2, 3, 4, 5, 6, 7, 8, 9], [1, 2, 3, 4, 5, 6, 7, 8, 9, 10], [0, 1, 2, 3, 4, 5, 6, 7, 8, 9, 10, 11], [0, 1, 2, 3, 4, 5, 6, 7, 8, 9, 10, 11, 12]], [[47], [47], [47], [47], [47], [47], [47], [47], [47], [47], [47], [], [], []]))], fun b => lookA b [(0, (some 2, some ⟨[1, 4, 7], [1, 4], [(6, .gen 90 2 [])]⟩))], fun _ => [], I1, false, fun r => lookA r [(8, (6, [35]))], fun _ => none⟩
theorem ev_off_1 (J : Inv) (cs : List ByteArray) (ls : List Lnk) (post : DV → Prop) : evFn Try.prog tab Scc109 ann_off_1 J Try.f42 [.t (.a [.sl 1 1 (txsC cs), .sl 4 ls.length (lnksC ls)])] post = vc_off_1 cs ls post := by kernel_rfl
theorem fit_off_1 : okFn ann_off_1 Try.f42 = true := by kernel_rfl
theorem lp_off_1 (J : Inv) (post : DV → Prop) : AllG J (loopsFn Try.prog tab Scc109 ann_off_1 J Try.f42 post) = (True) := by kernel_rfl
set_option maxHeartbeats 8000000 in
set_option maxRecDepth 100000 in
theorem spec_off_1 (cs : List ByteArray) (ls : List Lnk) (hn : cs.length = 1) (hp : ntE cs ls = 0) : vc_off_1 cs ls (fun r => LeD r (.tu [.c (.sl 2 (ofV cs ls).length (rgsC (ofV cs ls))), .c (.v (.int .i64 (ofE cs ls)))])) := by
 have z := ntE_bd hp
 rw [hn] at z
 have hok : ∀ k, k < ls.length → (lnkAt ls k).ok 1 := z.2.2
 have hcl : clOk 1 ls (alI ls) := ⟨⟨by decide, by decide⟩, ⟨z.2.1, by rw [al_len]; have := z.2.1; omega⟩, hok, al_ok ls⟩
 have eB : clO ls (alI ls) 1 = bdB ls 1 := by rw [agree_cl (by decide) hok (al_ok ls), sel_all]
 have R := bd_cl (n := 1) (by decide) hok (al_ok ls)
 rw [sel_all] at R
 unfold vc_off_1
 simp only [lnks_listC, ints_listC]
 refine ⟨⟨txP_any cs _, numsP_lnks ls, by have := z.2.1; omega⟩, ⟨numsP_lnks ls, numsP_ints _, hcl⟩, cond_i (fun h => ?_) (fun h => ?_)⟩
 ·have g : bdB ls 1 = false := by rw [← eB]; simpa using h
  have e : ofE cs ls = 13 := by unfold ofE; rw [if_neg (by rw [hp]; simp), hn, if_neg (by rw [g]; simp)]
  rw [show ofV cs ls = [] from if_neg (by rw [e]; decide), e]
  exact le_tu le_nil (LeD.refl _)
 ·have gB : bdB ls 1 = true := by rw [← eB]; simpa using h
  have op : ∀ i, i < 1 → (bif (clF ls (alI ls) 1 0 i == 1125899906842624) then true else (clF ls (alI ls) 1 i 0 == 1125899906842624)) = true → LeD (.tu [.c (.v (.slice none 0 0)), .c (.v (.int .i64 21))]) (.tu [.c (.sl 2 (ofV cs ls).length (rgsC (ofV cs ls))), .c (.v (.int .i64 (ofE cs ls)))]) := fun i hi g => by
   rw [opn_cl R hi] at g
   have e : ofE cs ls = 21 := by
    unfold ofE
    rw [if_neg (by rw [hp]; simp), hn, if_pos gB, if_pos]
    unfold ofS
    rw [hn, List.any_eq_true]
    exact ⟨i, List.mem_range.2 hi, g⟩
   rw [show ofV cs ls = [] from if_neg (by rw [e]; decide), e]
   exact le_tu le_nil (LeD.refl _)
  have cl : ∀ i, i < 1 → (bif (clF ls (alI ls) 1 0 i == 1125899906842624) then true else (clF ls (alI ls) 1 i 0 == 1125899906842624)) = false → clF ls (alI ls) 1 0 i = bdF ls 1 0 i ∧ clF ls (alI ls) 1 i 0 = bdF ls 1 i 0 ∧ opnB ls 1 i = false := fun i hi g => by
   have g2 := g
   rw [opn_cl R hi] at g2
   exact ⟨(opn_val R hi g2).1, (opn_val R hi g2).2, g2⟩
  refine ⟨⟨by trivial, by decide⟩, ⟨by trivial, by decide⟩, ⟨cond_i (fun _ => ⟨trivial, trivial⟩) (fun _ => ⟨⟨by trivial, by decide⟩, ⟨by trivial, by decide⟩, trivial⟩), lt_i fun x0 h0 => cond_i (fun g => op 0 (by decide) (by rw [h0]; exact g)) (fun g0 => ⟨⟨by trivial, by decide⟩, ⟨by trivial, by decide⟩, lt_i fun y0 k0 => ⟨⟨by trivial, by decide⟩, ⟨by trivial, by decide⟩, by unfold roomP maxLen; decide, ?_⟩⟩)⟩⟩
  obtain ⟨u0, v0, w0⟩ := cl 0 (by decide) (by rw [h0]; exact g0)
  rw [v0, wi (by have := bdF_rg z 0 0; omega)] at k0
  rw [u0]
  rw [← k0]
  have eS : ofS cs ls = false := by
   unfold ofS
   rw [hn, Bool.eq_false_iff]
   intro c
   obtain ⟨j, hj, hj2⟩ := List.any_eq_true.1 c
   have hj := List.mem_range.1 hj
   rcases (by omega : j = 0) with rfl <;> simp_all
  have e0 : ofE cs ls = 0 := by unfold ofE; rw [if_neg (by rw [hp]; simp), hn, if_pos gB, if_neg (by rw [eS]; simp)]
  rw [show ofV cs ls = ofK ls 1 1 from (if_pos e0).trans (by rw [hn]), e0]
  simp only [Int.zero_sub]
  exact le_tu (le_rgs (ofK ls 1 1)) (LeD.refl _)
def vc_off_2 (cs : List ByteArray) (ls : List Lnk) (post : DV → Prop) : Prop := (txP 2 (txsC cs) ∧ numsP 4 ls.length (lnksC ls) ∧ ((listC ls.length mkLnk (lnksC ls))).length ≤ 1000000) ∧ ((numsP 4 ls.length (lnksC ls) ∧ numsP 1 ((alI (listC ls.length mkLnk (lnksC ls))).length) (intsC (alI (listC ls.length mkLnk (lnksC ls)))) ∧ clOk 2 (listC ls.length mkLnk (lnksC ls)) (listC ((alI (listC ls.length mkLnk (lnksC ls))).length) mkInt (intsC (alI (listC ls.length mkLnk (lnksC ls)))))) ∧ (cond (!(clO (listC ls.length mkLnk (lnksC ls)) (listC ((alI (listC ls.length mkLnk (lnksC ls))).length) mkInt (intsC (alI (listC ls.length mkLnk (lnksC ls))))) 2)) (post (.tu [.c (.v (.slice none 0 0)), .c (.v (.int .i64 13))])) ((0 ≤ (0 : Int) ∧ (0 : Int) < ((6 : Nat) : Int)) ∧ ((0 ≤ (0 : Int) ∧ (0 : Int) < ((6 : Nat) : Int)) ∧ ((cond ((clF (listC ls.length mkLnk (lnksC ls)) (listC ((alI (listC ls.length mkLnk (lnksC ls))).length) mkInt (intsC (alI (listC ls.length mkLnk (lnksC ls))))) 2 0 0) == (1125899906842624 : Int)) ((true = true) ∧ (True)) ((0 ≤ (0 : Int) ∧ (0 : Int) < ((6 : Nat) : Int)) ∧ ((0 ≤ (0 : Int) ∧ (0 : Int) < ((6 : Nat) : Int)) ∧ (True)))) ∧ (lt ((bif ((clF (listC ls.length mkLnk (lnksC ls)) (listC ((alI (listC ls.length mkLnk (lnksC ls))).length) mkInt (intsC (alI (listC ls.length mkLnk (lnksC ls))))) 2 0 0) == (1125899906842624 : Int)) then true else ((clF (listC ls.length mkLnk (lnksC ls)) (listC ((alI (listC ls.length mkLnk (lnksC ls))).length) mkInt (intsC (alI (listC ls.length mkLnk (lnksC ls))))) 2 0 0) == (1125899906842624 : Int)))) fun x1 => cond x1 (post (.tu [.c (.v (.slice none 0 0)), .c (.v (.int .i64 21))])) ((0 ≤ (0 : Int) ∧ (0 : Int) < ((6 : Nat) : Int)) ∧ ((0 ≤ (0 : Int) ∧ (0 : Int) < ((6 : Nat) : Int)) ∧ (lt (IntKind.i64.wrap ((0 : Int) - (clF (listC ls.length mkLnk (lnksC ls)) (listC ((alI (listC ls.length mkLnk (lnksC ls))).length) mkInt (intsC (alI (listC ls.length mkLnk (lnksC ls))))) 2 0 0))) fun x2 => (0 ≤ (0 : Int) ∧ (0 : Int) < ((6 : Nat) : Int)) ∧ ((0 ≤ (0 : Int) ∧ (0 : Int) < ((6 : Nat) : Int)) ∧ ((roomP 16 (0 + 1)) ∧ ((0 ≤ (0 : Int) ∧ (0 : Int) < ((6 : Nat) : Int)) ∧ ((0 ≤ (1 : Int) ∧ (1 : Int) < ((6 : Nat) : Int)) ∧ ((cond ((clF (listC ls.length mkLnk (lnksC ls)) (listC ((alI (listC ls.length mkLnk (lnksC ls))).length) mkInt (intsC (alI (listC ls.length mkLnk (lnksC ls))))) 2 0 1) == (1125899906842624 : Int)) ((true = true) ∧ (True)) ((0 ≤ (1 : Int) ∧ (1 : Int) < ((6 : Nat) : Int)) ∧ ((0 ≤ (0 : Int) ∧ (0 : Int) < ((6 : Nat) : Int)) ∧ (True)))) ∧ (lt ((bif ((clF (listC ls.length mkLnk (lnksC ls)) (listC ((alI (listC ls.length mkLnk (lnksC ls))).length) mkInt (intsC (alI (listC ls.length mkLnk (lnksC ls))))) 2 0 1) == (1125899906842624 : Int)) then true else ((clF (listC ls.length mkLnk (lnksC ls)) (listC ((alI (listC ls.length mkLnk (lnksC ls))).length) mkInt (intsC (alI (listC ls.length mkLnk (lnksC ls))))) 2 1 0) == (1125899906842624 : Int)))) fun x3 => cond x3 (post (.tu [.c (.v (.slice none 0 0)), .c (.v (.int .i64 21))])) ((0 ≤ (1 : Int) ∧ (1 : Int) < ((6 : Nat) : Int)) ∧ ((0 ≤ (0 : Int) ∧ (0 : Int) < ((6 : Nat) : Int)) ∧ (lt (IntKind.i64.wrap ((0 : Int) - (clF (listC ls.length mkLnk (lnksC ls)) (listC ((alI (listC ls.length mkLnk (lnksC ls))).length) mkInt (intsC (alI (listC ls.length mkLnk (lnksC ls))))) 2 1 0))) fun x4 => (0 ≤ (0 : Int) ∧ (0 : Int) < ((6 : Nat) : Int)) ∧ ((0 ≤ (1 : Int) ∧ (1 : Int) < ((6 : Nat) : Int)) ∧ ((roomP 16 (1 + 1)) ∧ (post (.tu [.c (.sl 2 2 (genC [[.v (.int .i64 x2), .v (.int .i64 (clF (listC ls.length mkLnk (lnksC ls)) (listC ((alI (listC ls.length mkLnk (lnksC ls))).length) mkInt (intsC (alI (listC ls.length mkLnk (lnksC ls))))) 2 0 0))], [.v (.int .i64 x4), .v (.int .i64 (clF (listC ls.length mkLnk (lnksC ls)) (listC ((alI (listC ls.length mkLnk (lnksC ls))).length) mkInt (intsC (alI (listC ls.length mkLnk (lnksC ls))))) 2 0 1))]])), .c (.v (.int .i64 0))]))))))))))))))))))))))
def ann_off_2 : Ann := ⟨fun r => lookA r [(1, ([[], [], [1], [0, 1, 2], [0, 1, 2, 3], [0, 1, 2, 3, 4], [0, 1, 2, 3, 4], [], [0, 1, 2, 3, 4, 5, 7], [0, 1, 2, 3, 4, 5, 6, 7, 8]], [[11, 12, 4], [11, 12, 4], [12, 4], [4], [4], [4], [4], [11, 12], [], []])), (10, ([[], [], [1], [1, 2], [1, 2, 3], [1, 2, 3, 4], [], [], [6, 7], [6, 7, 8], [1, 2, 3, 4, 5, 6, 7, 8, 9], [1, 2, 3, 4, 5, 6, 7, 8, 9, 10], [0, 1, 2, 3, 4, 5, 6, 7, 8, 9, 10, 11], [0, 1, 2, 3, 4, 5, 6, 7, 8, 9, 10, 11, 12]], [[47], [47], [47], [47], [47], [47], [47], [47], [47], [47], [47], [], [], []]))], fun b => lookA b [(0, (some 3, some ⟨[1, 4, 7], [1, 4], [(6, .gen 90 2 [])]⟩))], fun _ => [], I1, false, fun r => lookA r [(8, (6, [35]))], fun _ => none⟩
theorem ev_off_2 (J : Inv) (cs : List ByteArray) (ls : List Lnk) (post : DV → Prop) : evFn Try.prog tab Scc109 ann_off_2 J Try.f42 [.t (.a [.sl 1 2 (txsC cs), .sl 4 ls.length (lnksC ls)])] post = vc_off_2 cs ls post := by kernel_rfl
theorem fit_off_2 : okFn ann_off_2 Try.f42 = true := by kernel_rfl
theorem lp_off_2 (J : Inv) (post : DV → Prop) : AllG J (loopsFn Try.prog tab Scc109 ann_off_2 J Try.f42 post) = (True) := by kernel_rfl
set_option maxHeartbeats 8000000 in
set_option maxRecDepth 100000 in
theorem spec_off_2 (cs : List ByteArray) (ls : List Lnk) (hn : cs.length = 2) (hp : ntE cs ls = 0) : vc_off_2 cs ls (fun r => LeD r (.tu [.c (.sl 2 (ofV cs ls).length (rgsC (ofV cs ls))), .c (.v (.int .i64 (ofE cs ls)))])) := by
 have z := ntE_bd hp
 rw [hn] at z
 have hok : ∀ k, k < ls.length → (lnkAt ls k).ok 2 := z.2.2
 have hcl : clOk 2 ls (alI ls) := ⟨⟨by decide, by decide⟩, ⟨z.2.1, by rw [al_len]; have := z.2.1; omega⟩, hok, al_ok ls⟩
 have eB : clO ls (alI ls) 2 = bdB ls 2 := by rw [agree_cl (by decide) hok (al_ok ls), sel_all]
 have R := bd_cl (n := 2) (by decide) hok (al_ok ls)
 rw [sel_all] at R
 unfold vc_off_2
 simp only [lnks_listC, ints_listC]
 refine ⟨⟨txP_any cs _, numsP_lnks ls, by have := z.2.1; omega⟩, ⟨numsP_lnks ls, numsP_ints _, hcl⟩, cond_i (fun h => ?_) (fun h => ?_)⟩
 ·have g : bdB ls 2 = false := by rw [← eB]; simpa using h
  have e : ofE cs ls = 13 := by unfold ofE; rw [if_neg (by rw [hp]; simp), hn, if_neg (by rw [g]; simp)]
  rw [show ofV cs ls = [] from if_neg (by rw [e]; decide), e]
  exact le_tu le_nil (LeD.refl _)
 ·have gB : bdB ls 2 = true := by rw [← eB]; simpa using h
  have op : ∀ i, i < 2 → (bif (clF ls (alI ls) 2 0 i == 1125899906842624) then true else (clF ls (alI ls) 2 i 0 == 1125899906842624)) = true → LeD (.tu [.c (.v (.slice none 0 0)), .c (.v (.int .i64 21))]) (.tu [.c (.sl 2 (ofV cs ls).length (rgsC (ofV cs ls))), .c (.v (.int .i64 (ofE cs ls)))]) := fun i hi g => by
   rw [opn_cl R hi] at g
   have e : ofE cs ls = 21 := by
    unfold ofE
    rw [if_neg (by rw [hp]; simp), hn, if_pos gB, if_pos]
    unfold ofS
    rw [hn, List.any_eq_true]
    exact ⟨i, List.mem_range.2 hi, g⟩
   rw [show ofV cs ls = [] from if_neg (by rw [e]; decide), e]
   exact le_tu le_nil (LeD.refl _)
  have cl : ∀ i, i < 2 → (bif (clF ls (alI ls) 2 0 i == 1125899906842624) then true else (clF ls (alI ls) 2 i 0 == 1125899906842624)) = false → clF ls (alI ls) 2 0 i = bdF ls 2 0 i ∧ clF ls (alI ls) 2 i 0 = bdF ls 2 i 0 ∧ opnB ls 2 i = false := fun i hi g => by
   have g2 := g
   rw [opn_cl R hi] at g2
   exact ⟨(opn_val R hi g2).1, (opn_val R hi g2).2, g2⟩
  refine ⟨⟨by trivial, by decide⟩, ⟨by trivial, by decide⟩, ⟨cond_i (fun _ => ⟨trivial, trivial⟩) (fun _ => ⟨⟨by trivial, by decide⟩, ⟨by trivial, by decide⟩, trivial⟩), lt_i fun x0 h0 => cond_i (fun g => op 0 (by decide) (by rw [h0]; exact g)) (fun g0 => ⟨⟨by trivial, by decide⟩, ⟨by trivial, by decide⟩, lt_i fun y0 k0 => ⟨⟨by trivial, by decide⟩, ⟨by trivial, by decide⟩, by unfold roomP maxLen; decide, ?_⟩⟩)⟩⟩
  refine ⟨⟨by trivial, by decide⟩, ⟨by trivial, by decide⟩, ⟨cond_i (fun _ => ⟨trivial, trivial⟩) (fun _ => ⟨⟨by trivial, by decide⟩, ⟨by trivial, by decide⟩, trivial⟩), lt_i fun x1 h1 => cond_i (fun g => op 1 (by decide) (by rw [h1]; exact g)) (fun g1 => ⟨⟨by trivial, by decide⟩, ⟨by trivial, by decide⟩, lt_i fun y1 k1 => ⟨⟨by trivial, by decide⟩, ⟨by trivial, by decide⟩, by unfold roomP maxLen; decide, ?_⟩⟩)⟩⟩
  obtain ⟨u0, v0, w0⟩ := cl 0 (by decide) (by rw [h0]; exact g0)
  rw [v0, wi (by have := bdF_rg z 0 0; omega)] at k0
  obtain ⟨u1, v1, w1⟩ := cl 1 (by decide) (by rw [h1]; exact g1)
  rw [v1, wi (by have := bdF_rg z 1 0; omega)] at k1
  rw [u0, u1]
  rw [← k0, ← k1]
  have eS : ofS cs ls = false := by
   unfold ofS
   rw [hn, Bool.eq_false_iff]
   intro c
   obtain ⟨j, hj, hj2⟩ := List.any_eq_true.1 c
   have hj := List.mem_range.1 hj
   rcases (by omega : j = 0 ∨ j = 1) with rfl | rfl <;> simp_all
  have e0 : ofE cs ls = 0 := by unfold ofE; rw [if_neg (by rw [hp]; simp), hn, if_pos gB, if_neg (by rw [eS]; simp)]
  rw [show ofV cs ls = ofK ls 2 2 from (if_pos e0).trans (by rw [hn]), e0]
  simp only [Int.zero_sub]
  exact le_tu (le_rgs (ofK ls 2 2)) (LeD.refl _)
def vc_off_3 (cs : List ByteArray) (ls : List Lnk) (post : DV → Prop) : Prop := (txP 3 (txsC cs) ∧ numsP 4 ls.length (lnksC ls) ∧ ((listC ls.length mkLnk (lnksC ls))).length ≤ 1000000) ∧ ((numsP 4 ls.length (lnksC ls) ∧ numsP 1 ((alI (listC ls.length mkLnk (lnksC ls))).length) (intsC (alI (listC ls.length mkLnk (lnksC ls)))) ∧ clOk 3 (listC ls.length mkLnk (lnksC ls)) (listC ((alI (listC ls.length mkLnk (lnksC ls))).length) mkInt (intsC (alI (listC ls.length mkLnk (lnksC ls)))))) ∧ (cond (!(clO (listC ls.length mkLnk (lnksC ls)) (listC ((alI (listC ls.length mkLnk (lnksC ls))).length) mkInt (intsC (alI (listC ls.length mkLnk (lnksC ls))))) 3)) (post (.tu [.c (.v (.slice none 0 0)), .c (.v (.int .i64 13))])) ((0 ≤ (0 : Int) ∧ (0 : Int) < ((6 : Nat) : Int)) ∧ ((0 ≤ (0 : Int) ∧ (0 : Int) < ((6 : Nat) : Int)) ∧ ((cond ((clF (listC ls.length mkLnk (lnksC ls)) (listC ((alI (listC ls.length mkLnk (lnksC ls))).length) mkInt (intsC (alI (listC ls.length mkLnk (lnksC ls))))) 3 0 0) == (1125899906842624 : Int)) ((true = true) ∧ (True)) ((0 ≤ (0 : Int) ∧ (0 : Int) < ((6 : Nat) : Int)) ∧ ((0 ≤ (0 : Int) ∧ (0 : Int) < ((6 : Nat) : Int)) ∧ (True)))) ∧ (lt ((bif ((clF (listC ls.length mkLnk (lnksC ls)) (listC ((alI (listC ls.length mkLnk (lnksC ls))).length) mkInt (intsC (alI (listC ls.length mkLnk (lnksC ls))))) 3 0 0) == (1125899906842624 : Int)) then true else ((clF (listC ls.length mkLnk (lnksC ls)) (listC ((alI (listC ls.length mkLnk (lnksC ls))).length) mkInt (intsC (alI (listC ls.length mkLnk (lnksC ls))))) 3 0 0) == (1125899906842624 : Int)))) fun x1 => cond x1 (post (.tu [.c (.v (.slice none 0 0)), .c (.v (.int .i64 21))])) ((0 ≤ (0 : Int) ∧ (0 : Int) < ((6 : Nat) : Int)) ∧ ((0 ≤ (0 : Int) ∧ (0 : Int) < ((6 : Nat) : Int)) ∧ (lt (IntKind.i64.wrap ((0 : Int) - (clF (listC ls.length mkLnk (lnksC ls)) (listC ((alI (listC ls.length mkLnk (lnksC ls))).length) mkInt (intsC (alI (listC ls.length mkLnk (lnksC ls))))) 3 0 0))) fun x2 => (0 ≤ (0 : Int) ∧ (0 : Int) < ((6 : Nat) : Int)) ∧ ((0 ≤ (0 : Int) ∧ (0 : Int) < ((6 : Nat) : Int)) ∧ ((roomP 16 (0 + 1)) ∧ ((0 ≤ (0 : Int) ∧ (0 : Int) < ((6 : Nat) : Int)) ∧ ((0 ≤ (1 : Int) ∧ (1 : Int) < ((6 : Nat) : Int)) ∧ ((cond ((clF (listC ls.length mkLnk (lnksC ls)) (listC ((alI (listC ls.length mkLnk (lnksC ls))).length) mkInt (intsC (alI (listC ls.length mkLnk (lnksC ls))))) 3 0 1) == (1125899906842624 : Int)) ((true = true) ∧ (True)) ((0 ≤ (1 : Int) ∧ (1 : Int) < ((6 : Nat) : Int)) ∧ ((0 ≤ (0 : Int) ∧ (0 : Int) < ((6 : Nat) : Int)) ∧ (True)))) ∧ (lt ((bif ((clF (listC ls.length mkLnk (lnksC ls)) (listC ((alI (listC ls.length mkLnk (lnksC ls))).length) mkInt (intsC (alI (listC ls.length mkLnk (lnksC ls))))) 3 0 1) == (1125899906842624 : Int)) then true else ((clF (listC ls.length mkLnk (lnksC ls)) (listC ((alI (listC ls.length mkLnk (lnksC ls))).length) mkInt (intsC (alI (listC ls.length mkLnk (lnksC ls))))) 3 1 0) == (1125899906842624 : Int)))) fun x3 => cond x3 (post (.tu [.c (.v (.slice none 0 0)), .c (.v (.int .i64 21))])) ((0 ≤ (1 : Int) ∧ (1 : Int) < ((6 : Nat) : Int)) ∧ ((0 ≤ (0 : Int) ∧ (0 : Int) < ((6 : Nat) : Int)) ∧ (lt (IntKind.i64.wrap ((0 : Int) - (clF (listC ls.length mkLnk (lnksC ls)) (listC ((alI (listC ls.length mkLnk (lnksC ls))).length) mkInt (intsC (alI (listC ls.length mkLnk (lnksC ls))))) 3 1 0))) fun x4 => (0 ≤ (0 : Int) ∧ (0 : Int) < ((6 : Nat) : Int)) ∧ ((0 ≤ (1 : Int) ∧ (1 : Int) < ((6 : Nat) : Int)) ∧ ((roomP 16 (1 + 1)) ∧ ((0 ≤ (0 : Int) ∧ (0 : Int) < ((6 : Nat) : Int)) ∧ ((0 ≤ (2 : Int) ∧ (2 : Int) < ((6 : Nat) : Int)) ∧ ((cond ((clF (listC ls.length mkLnk (lnksC ls)) (listC ((alI (listC ls.length mkLnk (lnksC ls))).length) mkInt (intsC (alI (listC ls.length mkLnk (lnksC ls))))) 3 0 2) == (1125899906842624 : Int)) ((true = true) ∧ (True)) ((0 ≤ (2 : Int) ∧ (2 : Int) < ((6 : Nat) : Int)) ∧ ((0 ≤ (0 : Int) ∧ (0 : Int) < ((6 : Nat) : Int)) ∧ (True)))) ∧ (lt ((bif ((clF (listC ls.length mkLnk (lnksC ls)) (listC ((alI (listC ls.length mkLnk (lnksC ls))).length) mkInt (intsC (alI (listC ls.length mkLnk (lnksC ls))))) 3 0 2) == (1125899906842624 : Int)) then true else ((clF (listC ls.length mkLnk (lnksC ls)) (listC ((alI (listC ls.length mkLnk (lnksC ls))).length) mkInt (intsC (alI (listC ls.length mkLnk (lnksC ls))))) 3 2 0) == (1125899906842624 : Int)))) fun x5 => cond x5 (post (.tu [.c (.v (.slice none 0 0)), .c (.v (.int .i64 21))])) ((0 ≤ (2 : Int) ∧ (2 : Int) < ((6 : Nat) : Int)) ∧ ((0 ≤ (0 : Int) ∧ (0 : Int) < ((6 : Nat) : Int)) ∧ (lt (IntKind.i64.wrap ((0 : Int) - (clF (listC ls.length mkLnk (lnksC ls)) (listC ((alI (listC ls.length mkLnk (lnksC ls))).length) mkInt (intsC (alI (listC ls.length mkLnk (lnksC ls))))) 3 2 0))) fun x6 => (0 ≤ (0 : Int) ∧ (0 : Int) < ((6 : Nat) : Int)) ∧ ((0 ≤ (2 : Int) ∧ (2 : Int) < ((6 : Nat) : Int)) ∧ ((roomP 16 (2 + 1)) ∧ (post (.tu [.c (.sl 2 3 (genC [[.v (.int .i64 x2), .v (.int .i64 (clF (listC ls.length mkLnk (lnksC ls)) (listC ((alI (listC ls.length mkLnk (lnksC ls))).length) mkInt (intsC (alI (listC ls.length mkLnk (lnksC ls))))) 3 0 0))], [.v (.int .i64 x4), .v (.int .i64 (clF (listC ls.length mkLnk (lnksC ls)) (listC ((alI (listC ls.length mkLnk (lnksC ls))).length) mkInt (intsC (alI (listC ls.length mkLnk (lnksC ls))))) 3 0 1))], [.v (.int .i64 x6), .v (.int .i64 (clF (listC ls.length mkLnk (lnksC ls)) (listC ((alI (listC ls.length mkLnk (lnksC ls))).length) mkInt (intsC (alI (listC ls.length mkLnk (lnksC ls))))) 3 0 2))]])), .c (.v (.int .i64 0))])))))))))))))))))))))))))))))))
def ann_off_3 : Ann := ⟨fun r => lookA r [(1, ([[], [], [1], [0, 1, 2], [0, 1, 2, 3], [0, 1, 2, 3, 4], [0, 1, 2, 3, 4], [], [0, 1, 2, 3, 4, 5, 7], [0, 1, 2, 3, 4, 5, 6, 7, 8]], [[11, 12, 4], [11, 12, 4], [12, 4], [4], [4], [4], [4], [11, 12], [], []])), (10, ([[], [], [1], [1, 2], [1, 2, 3], [1, 2, 3, 4], [], [], [6, 7], [6, 7, 8], [1, 2, 3, 4, 5, 6, 7, 8, 9], [1, 2, 3, 4, 5, 6, 7, 8, 9, 10], [0, 1, 2, 3, 4, 5, 6, 7, 8, 9, 10, 11], [0, 1, 2, 3, 4, 5, 6, 7, 8, 9, 10, 11, 12]], [[47], [47], [47], [47], [47], [47], [47], [47], [47], [47], [47], [], [], []]))], fun b => lookA b [(0, (some 4, some ⟨[1, 4, 7], [1, 4], [(6, .gen 90 2 [])]⟩))], fun _ => [], I1, false, fun r => lookA r [(8, (6, [35]))], fun _ => none⟩
theorem ev_off_3 (J : Inv) (cs : List ByteArray) (ls : List Lnk) (post : DV → Prop) : evFn Try.prog tab Scc109 ann_off_3 J Try.f42 [.t (.a [.sl 1 3 (txsC cs), .sl 4 ls.length (lnksC ls)])] post = vc_off_3 cs ls post := by kernel_rfl
theorem fit_off_3 : okFn ann_off_3 Try.f42 = true := by kernel_rfl
theorem lp_off_3 (J : Inv) (post : DV → Prop) : AllG J (loopsFn Try.prog tab Scc109 ann_off_3 J Try.f42 post) = (True) := by kernel_rfl
set_option maxHeartbeats 8000000 in
set_option maxRecDepth 100000 in
theorem spec_off_3 (cs : List ByteArray) (ls : List Lnk) (hn : cs.length = 3) (hp : ntE cs ls = 0) : vc_off_3 cs ls (fun r => LeD r (.tu [.c (.sl 2 (ofV cs ls).length (rgsC (ofV cs ls))), .c (.v (.int .i64 (ofE cs ls)))])) := by
 have z := ntE_bd hp
 rw [hn] at z
 have hok : ∀ k, k < ls.length → (lnkAt ls k).ok 3 := z.2.2
 have hcl : clOk 3 ls (alI ls) := ⟨⟨by decide, by decide⟩, ⟨z.2.1, by rw [al_len]; have := z.2.1; omega⟩, hok, al_ok ls⟩
 have eB : clO ls (alI ls) 3 = bdB ls 3 := by rw [agree_cl (by decide) hok (al_ok ls), sel_all]
 have R := bd_cl (n := 3) (by decide) hok (al_ok ls)
 rw [sel_all] at R
 unfold vc_off_3
 simp only [lnks_listC, ints_listC]
 refine ⟨⟨txP_any cs _, numsP_lnks ls, by have := z.2.1; omega⟩, ⟨numsP_lnks ls, numsP_ints _, hcl⟩, cond_i (fun h => ?_) (fun h => ?_)⟩
 ·have g : bdB ls 3 = false := by rw [← eB]; simpa using h
  have e : ofE cs ls = 13 := by unfold ofE; rw [if_neg (by rw [hp]; simp), hn, if_neg (by rw [g]; simp)]
  rw [show ofV cs ls = [] from if_neg (by rw [e]; decide), e]
  exact le_tu le_nil (LeD.refl _)
 ·have gB : bdB ls 3 = true := by rw [← eB]; simpa using h
  have op : ∀ i, i < 3 → (bif (clF ls (alI ls) 3 0 i == 1125899906842624) then true else (clF ls (alI ls) 3 i 0 == 1125899906842624)) = true → LeD (.tu [.c (.v (.slice none 0 0)), .c (.v (.int .i64 21))]) (.tu [.c (.sl 2 (ofV cs ls).length (rgsC (ofV cs ls))), .c (.v (.int .i64 (ofE cs ls)))]) := fun i hi g => by
   rw [opn_cl R hi] at g
   have e : ofE cs ls = 21 := by
    unfold ofE
    rw [if_neg (by rw [hp]; simp), hn, if_pos gB, if_pos]
    unfold ofS
    rw [hn, List.any_eq_true]
    exact ⟨i, List.mem_range.2 hi, g⟩
   rw [show ofV cs ls = [] from if_neg (by rw [e]; decide), e]
   exact le_tu le_nil (LeD.refl _)
  have cl : ∀ i, i < 3 → (bif (clF ls (alI ls) 3 0 i == 1125899906842624) then true else (clF ls (alI ls) 3 i 0 == 1125899906842624)) = false → clF ls (alI ls) 3 0 i = bdF ls 3 0 i ∧ clF ls (alI ls) 3 i 0 = bdF ls 3 i 0 ∧ opnB ls 3 i = false := fun i hi g => by
   have g2 := g
   rw [opn_cl R hi] at g2
   exact ⟨(opn_val R hi g2).1, (opn_val R hi g2).2, g2⟩
  refine ⟨⟨by trivial, by decide⟩, ⟨by trivial, by decide⟩, ⟨cond_i (fun _ => ⟨trivial, trivial⟩) (fun _ => ⟨⟨by trivial, by decide⟩, ⟨by trivial, by decide⟩, trivial⟩), lt_i fun x0 h0 => cond_i (fun g => op 0 (by decide) (by rw [h0]; exact g)) (fun g0 => ⟨⟨by trivial, by decide⟩, ⟨by trivial, by decide⟩, lt_i fun y0 k0 => ⟨⟨by trivial, by decide⟩, ⟨by trivial, by decide⟩, by unfold roomP maxLen; decide, ?_⟩⟩)⟩⟩
  refine ⟨⟨by trivial, by decide⟩, ⟨by trivial, by decide⟩, ⟨cond_i (fun _ => ⟨trivial, trivial⟩) (fun _ => ⟨⟨by trivial, by decide⟩, ⟨by trivial, by decide⟩, trivial⟩), lt_i fun x1 h1 => cond_i (fun g => op 1 (by decide) (by rw [h1]; exact g)) (fun g1 => ⟨⟨by trivial, by decide⟩, ⟨by trivial, by decide⟩, lt_i fun y1 k1 => ⟨⟨by trivial, by decide⟩, ⟨by trivial, by decide⟩, by unfold roomP maxLen; decide, ?_⟩⟩)⟩⟩
  refine ⟨⟨by trivial, by decide⟩, ⟨by trivial, by decide⟩, ⟨cond_i (fun _ => ⟨trivial, trivial⟩) (fun _ => ⟨⟨by trivial, by decide⟩, ⟨by trivial, by decide⟩, trivial⟩), lt_i fun x2 h2 => cond_i (fun g => op 2 (by decide) (by rw [h2]; exact g)) (fun g2 => ⟨⟨by trivial, by decide⟩, ⟨by trivial, by decide⟩, lt_i fun y2 k2 => ⟨⟨by trivial, by decide⟩, ⟨by trivial, by decide⟩, by unfold roomP maxLen; decide, ?_⟩⟩)⟩⟩
  obtain ⟨u0, v0, w0⟩ := cl 0 (by decide) (by rw [h0]; exact g0)
  rw [v0, wi (by have := bdF_rg z 0 0; omega)] at k0
  obtain ⟨u1, v1, w1⟩ := cl 1 (by decide) (by rw [h1]; exact g1)
  rw [v1, wi (by have := bdF_rg z 1 0; omega)] at k1
  obtain ⟨u2, v2, w2⟩ := cl 2 (by decide) (by rw [h2]; exact g2)
  rw [v2, wi (by have := bdF_rg z 2 0; omega)] at k2
  rw [u0, u1, u2]
  rw [← k0, ← k1, ← k2]
  have eS : ofS cs ls = false := by
   unfold ofS
   rw [hn, Bool.eq_false_iff]
   intro c
   obtain ⟨j, hj, hj2⟩ := List.any_eq_true.1 c
   have hj := List.mem_range.1 hj
   rcases (by omega : j = 0 ∨ j = 1 ∨ j = 2) with rfl | rfl | rfl <;> simp_all
  have e0 : ofE cs ls = 0 := by unfold ofE; rw [if_neg (by rw [hp]; simp), hn, if_pos gB, if_neg (by rw [eS]; simp)]
  rw [show ofV cs ls = ofK ls 3 3 from (if_pos e0).trans (by rw [hn]), e0]
  simp only [Int.zero_sub]
  exact le_tu (le_rgs (ofK ls 3 3)) (LeD.refl _)
def vc_off_4 (cs : List ByteArray) (ls : List Lnk) (post : DV → Prop) : Prop := (txP 4 (txsC cs) ∧ numsP 4 ls.length (lnksC ls) ∧ ((listC ls.length mkLnk (lnksC ls))).length ≤ 1000000) ∧ ((numsP 4 ls.length (lnksC ls) ∧ numsP 1 ((alI (listC ls.length mkLnk (lnksC ls))).length) (intsC (alI (listC ls.length mkLnk (lnksC ls)))) ∧ clOk 4 (listC ls.length mkLnk (lnksC ls)) (listC ((alI (listC ls.length mkLnk (lnksC ls))).length) mkInt (intsC (alI (listC ls.length mkLnk (lnksC ls)))))) ∧ (cond (!(clO (listC ls.length mkLnk (lnksC ls)) (listC ((alI (listC ls.length mkLnk (lnksC ls))).length) mkInt (intsC (alI (listC ls.length mkLnk (lnksC ls))))) 4)) (post (.tu [.c (.v (.slice none 0 0)), .c (.v (.int .i64 13))])) ((0 ≤ (0 : Int) ∧ (0 : Int) < ((6 : Nat) : Int)) ∧ ((0 ≤ (0 : Int) ∧ (0 : Int) < ((6 : Nat) : Int)) ∧ ((cond ((clF (listC ls.length mkLnk (lnksC ls)) (listC ((alI (listC ls.length mkLnk (lnksC ls))).length) mkInt (intsC (alI (listC ls.length mkLnk (lnksC ls))))) 4 0 0) == (1125899906842624 : Int)) ((true = true) ∧ (True)) ((0 ≤ (0 : Int) ∧ (0 : Int) < ((6 : Nat) : Int)) ∧ ((0 ≤ (0 : Int) ∧ (0 : Int) < ((6 : Nat) : Int)) ∧ (True)))) ∧ (lt ((bif ((clF (listC ls.length mkLnk (lnksC ls)) (listC ((alI (listC ls.length mkLnk (lnksC ls))).length) mkInt (intsC (alI (listC ls.length mkLnk (lnksC ls))))) 4 0 0) == (1125899906842624 : Int)) then true else ((clF (listC ls.length mkLnk (lnksC ls)) (listC ((alI (listC ls.length mkLnk (lnksC ls))).length) mkInt (intsC (alI (listC ls.length mkLnk (lnksC ls))))) 4 0 0) == (1125899906842624 : Int)))) fun x1 => cond x1 (post (.tu [.c (.v (.slice none 0 0)), .c (.v (.int .i64 21))])) ((0 ≤ (0 : Int) ∧ (0 : Int) < ((6 : Nat) : Int)) ∧ ((0 ≤ (0 : Int) ∧ (0 : Int) < ((6 : Nat) : Int)) ∧ (lt (IntKind.i64.wrap ((0 : Int) - (clF (listC ls.length mkLnk (lnksC ls)) (listC ((alI (listC ls.length mkLnk (lnksC ls))).length) mkInt (intsC (alI (listC ls.length mkLnk (lnksC ls))))) 4 0 0))) fun x2 => (0 ≤ (0 : Int) ∧ (0 : Int) < ((6 : Nat) : Int)) ∧ ((0 ≤ (0 : Int) ∧ (0 : Int) < ((6 : Nat) : Int)) ∧ ((roomP 16 (0 + 1)) ∧ ((0 ≤ (0 : Int) ∧ (0 : Int) < ((6 : Nat) : Int)) ∧ ((0 ≤ (1 : Int) ∧ (1 : Int) < ((6 : Nat) : Int)) ∧ ((cond ((clF (listC ls.length mkLnk (lnksC ls)) (listC ((alI (listC ls.length mkLnk (lnksC ls))).length) mkInt (intsC (alI (listC ls.length mkLnk (lnksC ls))))) 4 0 1) == (1125899906842624 : Int)) ((true = true) ∧ (True)) ((0 ≤ (1 : Int) ∧ (1 : Int) < ((6 : Nat) : Int)) ∧ ((0 ≤ (0 : Int) ∧ (0 : Int) < ((6 : Nat) : Int)) ∧ (True)))) ∧ (lt ((bif ((clF (listC ls.length mkLnk (lnksC ls)) (listC ((alI (listC ls.length mkLnk (lnksC ls))).length) mkInt (intsC (alI (listC ls.length mkLnk (lnksC ls))))) 4 0 1) == (1125899906842624 : Int)) then true else ((clF (listC ls.length mkLnk (lnksC ls)) (listC ((alI (listC ls.length mkLnk (lnksC ls))).length) mkInt (intsC (alI (listC ls.length mkLnk (lnksC ls))))) 4 1 0) == (1125899906842624 : Int)))) fun x3 => cond x3 (post (.tu [.c (.v (.slice none 0 0)), .c (.v (.int .i64 21))])) ((0 ≤ (1 : Int) ∧ (1 : Int) < ((6 : Nat) : Int)) ∧ ((0 ≤ (0 : Int) ∧ (0 : Int) < ((6 : Nat) : Int)) ∧ (lt (IntKind.i64.wrap ((0 : Int) - (clF (listC ls.length mkLnk (lnksC ls)) (listC ((alI (listC ls.length mkLnk (lnksC ls))).length) mkInt (intsC (alI (listC ls.length mkLnk (lnksC ls))))) 4 1 0))) fun x4 => (0 ≤ (0 : Int) ∧ (0 : Int) < ((6 : Nat) : Int)) ∧ ((0 ≤ (1 : Int) ∧ (1 : Int) < ((6 : Nat) : Int)) ∧ ((roomP 16 (1 + 1)) ∧ ((0 ≤ (0 : Int) ∧ (0 : Int) < ((6 : Nat) : Int)) ∧ ((0 ≤ (2 : Int) ∧ (2 : Int) < ((6 : Nat) : Int)) ∧ ((cond ((clF (listC ls.length mkLnk (lnksC ls)) (listC ((alI (listC ls.length mkLnk (lnksC ls))).length) mkInt (intsC (alI (listC ls.length mkLnk (lnksC ls))))) 4 0 2) == (1125899906842624 : Int)) ((true = true) ∧ (True)) ((0 ≤ (2 : Int) ∧ (2 : Int) < ((6 : Nat) : Int)) ∧ ((0 ≤ (0 : Int) ∧ (0 : Int) < ((6 : Nat) : Int)) ∧ (True)))) ∧ (lt ((bif ((clF (listC ls.length mkLnk (lnksC ls)) (listC ((alI (listC ls.length mkLnk (lnksC ls))).length) mkInt (intsC (alI (listC ls.length mkLnk (lnksC ls))))) 4 0 2) == (1125899906842624 : Int)) then true else ((clF (listC ls.length mkLnk (lnksC ls)) (listC ((alI (listC ls.length mkLnk (lnksC ls))).length) mkInt (intsC (alI (listC ls.length mkLnk (lnksC ls))))) 4 2 0) == (1125899906842624 : Int)))) fun x5 => cond x5 (post (.tu [.c (.v (.slice none 0 0)), .c (.v (.int .i64 21))])) ((0 ≤ (2 : Int) ∧ (2 : Int) < ((6 : Nat) : Int)) ∧ ((0 ≤ (0 : Int) ∧ (0 : Int) < ((6 : Nat) : Int)) ∧ (lt (IntKind.i64.wrap ((0 : Int) - (clF (listC ls.length mkLnk (lnksC ls)) (listC ((alI (listC ls.length mkLnk (lnksC ls))).length) mkInt (intsC (alI (listC ls.length mkLnk (lnksC ls))))) 4 2 0))) fun x6 => (0 ≤ (0 : Int) ∧ (0 : Int) < ((6 : Nat) : Int)) ∧ ((0 ≤ (2 : Int) ∧ (2 : Int) < ((6 : Nat) : Int)) ∧ ((roomP 16 (2 + 1)) ∧ ((0 ≤ (0 : Int) ∧ (0 : Int) < ((6 : Nat) : Int)) ∧ ((0 ≤ (3 : Int) ∧ (3 : Int) < ((6 : Nat) : Int)) ∧ ((cond ((clF (listC ls.length mkLnk (lnksC ls)) (listC ((alI (listC ls.length mkLnk (lnksC ls))).length) mkInt (intsC (alI (listC ls.length mkLnk (lnksC ls))))) 4 0 3) == (1125899906842624 : Int)) ((true = true) ∧ (True)) ((0 ≤ (3 : Int) ∧ (3 : Int) < ((6 : Nat) : Int)) ∧ ((0 ≤ (0 : Int) ∧ (0 : Int) < ((6 : Nat) : Int)) ∧ (True)))) ∧ (lt ((bif ((clF (listC ls.length mkLnk (lnksC ls)) (listC ((alI (listC ls.length mkLnk (lnksC ls))).length) mkInt (intsC (alI (listC ls.length mkLnk (lnksC ls))))) 4 0 3) == (1125899906842624 : Int)) then true else ((clF (listC ls.length mkLnk (lnksC ls)) (listC ((alI (listC ls.length mkLnk (lnksC ls))).length) mkInt (intsC (alI (listC ls.length mkLnk (lnksC ls))))) 4 3 0) == (1125899906842624 : Int)))) fun x7 => cond x7 (post (.tu [.c (.v (.slice none 0 0)), .c (.v (.int .i64 21))])) ((0 ≤ (3 : Int) ∧ (3 : Int) < ((6 : Nat) : Int)) ∧ ((0 ≤ (0 : Int) ∧ (0 : Int) < ((6 : Nat) : Int)) ∧ (lt (IntKind.i64.wrap ((0 : Int) - (clF (listC ls.length mkLnk (lnksC ls)) (listC ((alI (listC ls.length mkLnk (lnksC ls))).length) mkInt (intsC (alI (listC ls.length mkLnk (lnksC ls))))) 4 3 0))) fun x8 => (0 ≤ (0 : Int) ∧ (0 : Int) < ((6 : Nat) : Int)) ∧ ((0 ≤ (3 : Int) ∧ (3 : Int) < ((6 : Nat) : Int)) ∧ ((roomP 16 (3 + 1)) ∧ (post (.tu [.c (.sl 2 4 (genC [[.v (.int .i64 x2), .v (.int .i64 (clF (listC ls.length mkLnk (lnksC ls)) (listC ((alI (listC ls.length mkLnk (lnksC ls))).length) mkInt (intsC (alI (listC ls.length mkLnk (lnksC ls))))) 4 0 0))], [.v (.int .i64 x4), .v (.int .i64 (clF (listC ls.length mkLnk (lnksC ls)) (listC ((alI (listC ls.length mkLnk (lnksC ls))).length) mkInt (intsC (alI (listC ls.length mkLnk (lnksC ls))))) 4 0 1))], [.v (.int .i64 x6), .v (.int .i64 (clF (listC ls.length mkLnk (lnksC ls)) (listC ((alI (listC ls.length mkLnk (lnksC ls))).length) mkInt (intsC (alI (listC ls.length mkLnk (lnksC ls))))) 4 0 2))], [.v (.int .i64 x8), .v (.int .i64 (clF (listC ls.length mkLnk (lnksC ls)) (listC ((alI (listC ls.length mkLnk (lnksC ls))).length) mkInt (intsC (alI (listC ls.length mkLnk (lnksC ls))))) 4 0 3))]])), .c (.v (.int .i64 0))]))))))))))))))))))))))))))))))))))))))))
def ann_off_4 : Ann := ⟨fun r => lookA r [(1, ([[], [], [1], [0, 1, 2], [0, 1, 2, 3], [0, 1, 2, 3, 4], [0, 1, 2, 3, 4], [], [0, 1, 2, 3, 4, 5, 7], [0, 1, 2, 3, 4, 5, 6, 7, 8]], [[11, 12, 4], [11, 12, 4], [12, 4], [4], [4], [4], [4], [11, 12], [], []])), (10, ([[], [], [1], [1, 2], [1, 2, 3], [1, 2, 3, 4], [], [], [6, 7], [6, 7, 8], [1, 2, 3, 4, 5, 6, 7, 8, 9], [1, 2, 3, 4, 5, 6, 7, 8, 9, 10], [0, 1, 2, 3, 4, 5, 6, 7, 8, 9, 10, 11], [0, 1, 2, 3, 4, 5, 6, 7, 8, 9, 10, 11, 12]], [[47], [47], [47], [47], [47], [47], [47], [47], [47], [47], [47], [], [], []]))], fun b => lookA b [(0, (some 5, some ⟨[1, 4, 7], [1, 4], [(6, .gen 90 2 [])]⟩))], fun _ => [], I1, false, fun r => lookA r [(8, (6, [35]))], fun _ => none⟩
theorem ev_off_4 (J : Inv) (cs : List ByteArray) (ls : List Lnk) (post : DV → Prop) : evFn Try.prog tab Scc109 ann_off_4 J Try.f42 [.t (.a [.sl 1 4 (txsC cs), .sl 4 ls.length (lnksC ls)])] post = vc_off_4 cs ls post := by kernel_rfl
theorem fit_off_4 : okFn ann_off_4 Try.f42 = true := by kernel_rfl
theorem lp_off_4 (J : Inv) (post : DV → Prop) : AllG J (loopsFn Try.prog tab Scc109 ann_off_4 J Try.f42 post) = (True) := by kernel_rfl
set_option maxHeartbeats 8000000 in
set_option maxRecDepth 100000 in
theorem spec_off_4 (cs : List ByteArray) (ls : List Lnk) (hn : cs.length = 4) (hp : ntE cs ls = 0) : vc_off_4 cs ls (fun r => LeD r (.tu [.c (.sl 2 (ofV cs ls).length (rgsC (ofV cs ls))), .c (.v (.int .i64 (ofE cs ls)))])) := by
 have z := ntE_bd hp
 rw [hn] at z
 have hok : ∀ k, k < ls.length → (lnkAt ls k).ok 4 := z.2.2
 have hcl : clOk 4 ls (alI ls) := ⟨⟨by decide, by decide⟩, ⟨z.2.1, by rw [al_len]; have := z.2.1; omega⟩, hok, al_ok ls⟩
 have eB : clO ls (alI ls) 4 = bdB ls 4 := by rw [agree_cl (by decide) hok (al_ok ls), sel_all]
 have R := bd_cl (n := 4) (by decide) hok (al_ok ls)
 rw [sel_all] at R
 unfold vc_off_4
 simp only [lnks_listC, ints_listC]
 refine ⟨⟨txP_any cs _, numsP_lnks ls, by have := z.2.1; omega⟩, ⟨numsP_lnks ls, numsP_ints _, hcl⟩, cond_i (fun h => ?_) (fun h => ?_)⟩
 ·have g : bdB ls 4 = false := by rw [← eB]; simpa using h
  have e : ofE cs ls = 13 := by unfold ofE; rw [if_neg (by rw [hp]; simp), hn, if_neg (by rw [g]; simp)]
  rw [show ofV cs ls = [] from if_neg (by rw [e]; decide), e]
  exact le_tu le_nil (LeD.refl _)
 ·have gB : bdB ls 4 = true := by rw [← eB]; simpa using h
  have op : ∀ i, i < 4 → (bif (clF ls (alI ls) 4 0 i == 1125899906842624) then true else (clF ls (alI ls) 4 i 0 == 1125899906842624)) = true → LeD (.tu [.c (.v (.slice none 0 0)), .c (.v (.int .i64 21))]) (.tu [.c (.sl 2 (ofV cs ls).length (rgsC (ofV cs ls))), .c (.v (.int .i64 (ofE cs ls)))]) := fun i hi g => by
   rw [opn_cl R hi] at g
   have e : ofE cs ls = 21 := by
    unfold ofE
    rw [if_neg (by rw [hp]; simp), hn, if_pos gB, if_pos]
    unfold ofS
    rw [hn, List.any_eq_true]
    exact ⟨i, List.mem_range.2 hi, g⟩
   rw [show ofV cs ls = [] from if_neg (by rw [e]; decide), e]
   exact le_tu le_nil (LeD.refl _)
  have cl : ∀ i, i < 4 → (bif (clF ls (alI ls) 4 0 i == 1125899906842624) then true else (clF ls (alI ls) 4 i 0 == 1125899906842624)) = false → clF ls (alI ls) 4 0 i = bdF ls 4 0 i ∧ clF ls (alI ls) 4 i 0 = bdF ls 4 i 0 ∧ opnB ls 4 i = false := fun i hi g => by
   have g2 := g
   rw [opn_cl R hi] at g2
   exact ⟨(opn_val R hi g2).1, (opn_val R hi g2).2, g2⟩
  refine ⟨⟨by trivial, by decide⟩, ⟨by trivial, by decide⟩, ⟨cond_i (fun _ => ⟨trivial, trivial⟩) (fun _ => ⟨⟨by trivial, by decide⟩, ⟨by trivial, by decide⟩, trivial⟩), lt_i fun x0 h0 => cond_i (fun g => op 0 (by decide) (by rw [h0]; exact g)) (fun g0 => ⟨⟨by trivial, by decide⟩, ⟨by trivial, by decide⟩, lt_i fun y0 k0 => ⟨⟨by trivial, by decide⟩, ⟨by trivial, by decide⟩, by unfold roomP maxLen; decide, ?_⟩⟩)⟩⟩
  refine ⟨⟨by trivial, by decide⟩, ⟨by trivial, by decide⟩, ⟨cond_i (fun _ => ⟨trivial, trivial⟩) (fun _ => ⟨⟨by trivial, by decide⟩, ⟨by trivial, by decide⟩, trivial⟩), lt_i fun x1 h1 => cond_i (fun g => op 1 (by decide) (by rw [h1]; exact g)) (fun g1 => ⟨⟨by trivial, by decide⟩, ⟨by trivial, by decide⟩, lt_i fun y1 k1 => ⟨⟨by trivial, by decide⟩, ⟨by trivial, by decide⟩, by unfold roomP maxLen; decide, ?_⟩⟩)⟩⟩
  refine ⟨⟨by trivial, by decide⟩, ⟨by trivial, by decide⟩, ⟨cond_i (fun _ => ⟨trivial, trivial⟩) (fun _ => ⟨⟨by trivial, by decide⟩, ⟨by trivial, by decide⟩, trivial⟩), lt_i fun x2 h2 => cond_i (fun g => op 2 (by decide) (by rw [h2]; exact g)) (fun g2 => ⟨⟨by trivial, by decide⟩, ⟨by trivial, by decide⟩, lt_i fun y2 k2 => ⟨⟨by trivial, by decide⟩, ⟨by trivial, by decide⟩, by unfold roomP maxLen; decide, ?_⟩⟩)⟩⟩
  refine ⟨⟨by trivial, by decide⟩, ⟨by trivial, by decide⟩, ⟨cond_i (fun _ => ⟨trivial, trivial⟩) (fun _ => ⟨⟨by trivial, by decide⟩, ⟨by trivial, by decide⟩, trivial⟩), lt_i fun x3 h3 => cond_i (fun g => op 3 (by decide) (by rw [h3]; exact g)) (fun g3 => ⟨⟨by trivial, by decide⟩, ⟨by trivial, by decide⟩, lt_i fun y3 k3 => ⟨⟨by trivial, by decide⟩, ⟨by trivial, by decide⟩, by unfold roomP maxLen; decide, ?_⟩⟩)⟩⟩
  obtain ⟨u0, v0, w0⟩ := cl 0 (by decide) (by rw [h0]; exact g0)
  rw [v0, wi (by have := bdF_rg z 0 0; omega)] at k0
  obtain ⟨u1, v1, w1⟩ := cl 1 (by decide) (by rw [h1]; exact g1)
  rw [v1, wi (by have := bdF_rg z 1 0; omega)] at k1
  obtain ⟨u2, v2, w2⟩ := cl 2 (by decide) (by rw [h2]; exact g2)
  rw [v2, wi (by have := bdF_rg z 2 0; omega)] at k2
  obtain ⟨u3, v3, w3⟩ := cl 3 (by decide) (by rw [h3]; exact g3)
  rw [v3, wi (by have := bdF_rg z 3 0; omega)] at k3
  rw [u0, u1, u2, u3]
  rw [← k0, ← k1, ← k2, ← k3]
  have eS : ofS cs ls = false := by
   unfold ofS
   rw [hn, Bool.eq_false_iff]
   intro c
   obtain ⟨j, hj, hj2⟩ := List.any_eq_true.1 c
   have hj := List.mem_range.1 hj
   rcases (by omega : j = 0 ∨ j = 1 ∨ j = 2 ∨ j = 3) with rfl | rfl | rfl | rfl <;> simp_all
  have e0 : ofE cs ls = 0 := by unfold ofE; rw [if_neg (by rw [hp]; simp), hn, if_pos gB, if_neg (by rw [eS]; simp)]
  rw [show ofV cs ls = ofK ls 4 4 from (if_pos e0).trans (by rw [hn]), e0]
  simp only [Int.zero_sub]
  exact le_tu (le_rgs (ofK ls 4 4)) (LeD.refl _)
def vc_off_5 (cs : List ByteArray) (ls : List Lnk) (post : DV → Prop) : Prop := (txP 5 (txsC cs) ∧ numsP 4 ls.length (lnksC ls) ∧ ((listC ls.length mkLnk (lnksC ls))).length ≤ 1000000) ∧ ((numsP 4 ls.length (lnksC ls) ∧ numsP 1 ((alI (listC ls.length mkLnk (lnksC ls))).length) (intsC (alI (listC ls.length mkLnk (lnksC ls)))) ∧ clOk 5 (listC ls.length mkLnk (lnksC ls)) (listC ((alI (listC ls.length mkLnk (lnksC ls))).length) mkInt (intsC (alI (listC ls.length mkLnk (lnksC ls)))))) ∧ (cond (!(clO (listC ls.length mkLnk (lnksC ls)) (listC ((alI (listC ls.length mkLnk (lnksC ls))).length) mkInt (intsC (alI (listC ls.length mkLnk (lnksC ls))))) 5)) (post (.tu [.c (.v (.slice none 0 0)), .c (.v (.int .i64 13))])) ((0 ≤ (0 : Int) ∧ (0 : Int) < ((6 : Nat) : Int)) ∧ ((0 ≤ (0 : Int) ∧ (0 : Int) < ((6 : Nat) : Int)) ∧ ((cond ((clF (listC ls.length mkLnk (lnksC ls)) (listC ((alI (listC ls.length mkLnk (lnksC ls))).length) mkInt (intsC (alI (listC ls.length mkLnk (lnksC ls))))) 5 0 0) == (1125899906842624 : Int)) ((true = true) ∧ (True)) ((0 ≤ (0 : Int) ∧ (0 : Int) < ((6 : Nat) : Int)) ∧ ((0 ≤ (0 : Int) ∧ (0 : Int) < ((6 : Nat) : Int)) ∧ (True)))) ∧ (lt ((bif ((clF (listC ls.length mkLnk (lnksC ls)) (listC ((alI (listC ls.length mkLnk (lnksC ls))).length) mkInt (intsC (alI (listC ls.length mkLnk (lnksC ls))))) 5 0 0) == (1125899906842624 : Int)) then true else ((clF (listC ls.length mkLnk (lnksC ls)) (listC ((alI (listC ls.length mkLnk (lnksC ls))).length) mkInt (intsC (alI (listC ls.length mkLnk (lnksC ls))))) 5 0 0) == (1125899906842624 : Int)))) fun x1 => cond x1 (post (.tu [.c (.v (.slice none 0 0)), .c (.v (.int .i64 21))])) ((0 ≤ (0 : Int) ∧ (0 : Int) < ((6 : Nat) : Int)) ∧ ((0 ≤ (0 : Int) ∧ (0 : Int) < ((6 : Nat) : Int)) ∧ (lt (IntKind.i64.wrap ((0 : Int) - (clF (listC ls.length mkLnk (lnksC ls)) (listC ((alI (listC ls.length mkLnk (lnksC ls))).length) mkInt (intsC (alI (listC ls.length mkLnk (lnksC ls))))) 5 0 0))) fun x2 => (0 ≤ (0 : Int) ∧ (0 : Int) < ((6 : Nat) : Int)) ∧ ((0 ≤ (0 : Int) ∧ (0 : Int) < ((6 : Nat) : Int)) ∧ ((roomP 16 (0 + 1)) ∧ ((0 ≤ (0 : Int) ∧ (0 : Int) < ((6 : Nat) : Int)) ∧ ((0 ≤ (1 : Int) ∧ (1 : Int) < ((6 : Nat) : Int)) ∧ ((cond ((clF (listC ls.length mkLnk (lnksC ls)) (listC ((alI (listC ls.length mkLnk (lnksC ls))).length) mkInt (intsC (alI (listC ls.length mkLnk (lnksC ls))))) 5 0 1) == (1125899906842624 : Int)) ((true = true) ∧ (True)) ((0 ≤ (1 : Int) ∧ (1 : Int) < ((6 : Nat) : Int)) ∧ ((0 ≤ (0 : Int) ∧ (0 : Int) < ((6 : Nat) : Int)) ∧ (True)))) ∧ (lt ((bif ((clF (listC ls.length mkLnk (lnksC ls)) (listC ((alI (listC ls.length mkLnk (lnksC ls))).length) mkInt (intsC (alI (listC ls.length mkLnk (lnksC ls))))) 5 0 1) == (1125899906842624 : Int)) then true else ((clF (listC ls.length mkLnk (lnksC ls)) (listC ((alI (listC ls.length mkLnk (lnksC ls))).length) mkInt (intsC (alI (listC ls.length mkLnk (lnksC ls))))) 5 1 0) == (1125899906842624 : Int)))) fun x3 => cond x3 (post (.tu [.c (.v (.slice none 0 0)), .c (.v (.int .i64 21))])) ((0 ≤ (1 : Int) ∧ (1 : Int) < ((6 : Nat) : Int)) ∧ ((0 ≤ (0 : Int) ∧ (0 : Int) < ((6 : Nat) : Int)) ∧ (lt (IntKind.i64.wrap ((0 : Int) - (clF (listC ls.length mkLnk (lnksC ls)) (listC ((alI (listC ls.length mkLnk (lnksC ls))).length) mkInt (intsC (alI (listC ls.length mkLnk (lnksC ls))))) 5 1 0))) fun x4 => (0 ≤ (0 : Int) ∧ (0 : Int) < ((6 : Nat) : Int)) ∧ ((0 ≤ (1 : Int) ∧ (1 : Int) < ((6 : Nat) : Int)) ∧ ((roomP 16 (1 + 1)) ∧ ((0 ≤ (0 : Int) ∧ (0 : Int) < ((6 : Nat) : Int)) ∧ ((0 ≤ (2 : Int) ∧ (2 : Int) < ((6 : Nat) : Int)) ∧ ((cond ((clF (listC ls.length mkLnk (lnksC ls)) (listC ((alI (listC ls.length mkLnk (lnksC ls))).length) mkInt (intsC (alI (listC ls.length mkLnk (lnksC ls))))) 5 0 2) == (1125899906842624 : Int)) ((true = true) ∧ (True)) ((0 ≤ (2 : Int) ∧ (2 : Int) < ((6 : Nat) : Int)) ∧ ((0 ≤ (0 : Int) ∧ (0 : Int) < ((6 : Nat) : Int)) ∧ (True)))) ∧ (lt ((bif ((clF (listC ls.length mkLnk (lnksC ls)) (listC ((alI (listC ls.length mkLnk (lnksC ls))).length) mkInt (intsC (alI (listC ls.length mkLnk (lnksC ls))))) 5 0 2) == (1125899906842624 : Int)) then true else ((clF (listC ls.length mkLnk (lnksC ls)) (listC ((alI (listC ls.length mkLnk (lnksC ls))).length) mkInt (intsC (alI (listC ls.length mkLnk (lnksC ls))))) 5 2 0) == (1125899906842624 : Int)))) fun x5 => cond x5 (post (.tu [.c (.v (.slice none 0 0)), .c (.v (.int .i64 21))])) ((0 ≤ (2 : Int) ∧ (2 : Int) < ((6 : Nat) : Int)) ∧ ((0 ≤ (0 : Int) ∧ (0 : Int) < ((6 : Nat) : Int)) ∧ (lt (IntKind.i64.wrap ((0 : Int) - (clF (listC ls.length mkLnk (lnksC ls)) (listC ((alI (listC ls.length mkLnk (lnksC ls))).length) mkInt (intsC (alI (listC ls.length mkLnk (lnksC ls))))) 5 2 0))) fun x6 => (0 ≤ (0 : Int) ∧ (0 : Int) < ((6 : Nat) : Int)) ∧ ((0 ≤ (2 : Int) ∧ (2 : Int) < ((6 : Nat) : Int)) ∧ ((roomP 16 (2 + 1)) ∧ ((0 ≤ (0 : Int) ∧ (0 : Int) < ((6 : Nat) : Int)) ∧ ((0 ≤ (3 : Int) ∧ (3 : Int) < ((6 : Nat) : Int)) ∧ ((cond ((clF (listC ls.length mkLnk (lnksC ls)) (listC ((alI (listC ls.length mkLnk (lnksC ls))).length) mkInt (intsC (alI (listC ls.length mkLnk (lnksC ls))))) 5 0 3) == (1125899906842624 : Int)) ((true = true) ∧ (True)) ((0 ≤ (3 : Int) ∧ (3 : Int) < ((6 : Nat) : Int)) ∧ ((0 ≤ (0 : Int) ∧ (0 : Int) < ((6 : Nat) : Int)) ∧ (True)))) ∧ (lt ((bif ((clF (listC ls.length mkLnk (lnksC ls)) (listC ((alI (listC ls.length mkLnk (lnksC ls))).length) mkInt (intsC (alI (listC ls.length mkLnk (lnksC ls))))) 5 0 3) == (1125899906842624 : Int)) then true else ((clF (listC ls.length mkLnk (lnksC ls)) (listC ((alI (listC ls.length mkLnk (lnksC ls))).length) mkInt (intsC (alI (listC ls.length mkLnk (lnksC ls))))) 5 3 0) == (1125899906842624 : Int)))) fun x7 => cond x7 (post (.tu [.c (.v (.slice none 0 0)), .c (.v (.int .i64 21))])) ((0 ≤ (3 : Int) ∧ (3 : Int) < ((6 : Nat) : Int)) ∧ ((0 ≤ (0 : Int) ∧ (0 : Int) < ((6 : Nat) : Int)) ∧ (lt (IntKind.i64.wrap ((0 : Int) - (clF (listC ls.length mkLnk (lnksC ls)) (listC ((alI (listC ls.length mkLnk (lnksC ls))).length) mkInt (intsC (alI (listC ls.length mkLnk (lnksC ls))))) 5 3 0))) fun x8 => (0 ≤ (0 : Int) ∧ (0 : Int) < ((6 : Nat) : Int)) ∧ ((0 ≤ (3 : Int) ∧ (3 : Int) < ((6 : Nat) : Int)) ∧ ((roomP 16 (3 + 1)) ∧ ((0 ≤ (0 : Int) ∧ (0 : Int) < ((6 : Nat) : Int)) ∧ ((0 ≤ (4 : Int) ∧ (4 : Int) < ((6 : Nat) : Int)) ∧ ((cond ((clF (listC ls.length mkLnk (lnksC ls)) (listC ((alI (listC ls.length mkLnk (lnksC ls))).length) mkInt (intsC (alI (listC ls.length mkLnk (lnksC ls))))) 5 0 4) == (1125899906842624 : Int)) ((true = true) ∧ (True)) ((0 ≤ (4 : Int) ∧ (4 : Int) < ((6 : Nat) : Int)) ∧ ((0 ≤ (0 : Int) ∧ (0 : Int) < ((6 : Nat) : Int)) ∧ (True)))) ∧ (lt ((bif ((clF (listC ls.length mkLnk (lnksC ls)) (listC ((alI (listC ls.length mkLnk (lnksC ls))).length) mkInt (intsC (alI (listC ls.length mkLnk (lnksC ls))))) 5 0 4) == (1125899906842624 : Int)) then true else ((clF (listC ls.length mkLnk (lnksC ls)) (listC ((alI (listC ls.length mkLnk (lnksC ls))).length) mkInt (intsC (alI (listC ls.length mkLnk (lnksC ls))))) 5 4 0) == (1125899906842624 : Int)))) fun x9 => cond x9 (post (.tu [.c (.v (.slice none 0 0)), .c (.v (.int .i64 21))])) ((0 ≤ (4 : Int) ∧ (4 : Int) < ((6 : Nat) : Int)) ∧ ((0 ≤ (0 : Int) ∧ (0 : Int) < ((6 : Nat) : Int)) ∧ (lt (IntKind.i64.wrap ((0 : Int) - (clF (listC ls.length mkLnk (lnksC ls)) (listC ((alI (listC ls.length mkLnk (lnksC ls))).length) mkInt (intsC (alI (listC ls.length mkLnk (lnksC ls))))) 5 4 0))) fun x10 => (0 ≤ (0 : Int) ∧ (0 : Int) < ((6 : Nat) : Int)) ∧ ((0 ≤ (4 : Int) ∧ (4 : Int) < ((6 : Nat) : Int)) ∧ ((roomP 16 (4 + 1)) ∧ (post (.tu [.c (.sl 2 5 (genC [[.v (.int .i64 x2), .v (.int .i64 (clF (listC ls.length mkLnk (lnksC ls)) (listC ((alI (listC ls.length mkLnk (lnksC ls))).length) mkInt (intsC (alI (listC ls.length mkLnk (lnksC ls))))) 5 0 0))], [.v (.int .i64 x4), .v (.int .i64 (clF (listC ls.length mkLnk (lnksC ls)) (listC ((alI (listC ls.length mkLnk (lnksC ls))).length) mkInt (intsC (alI (listC ls.length mkLnk (lnksC ls))))) 5 0 1))], [.v (.int .i64 x6), .v (.int .i64 (clF (listC ls.length mkLnk (lnksC ls)) (listC ((alI (listC ls.length mkLnk (lnksC ls))).length) mkInt (intsC (alI (listC ls.length mkLnk (lnksC ls))))) 5 0 2))], [.v (.int .i64 x8), .v (.int .i64 (clF (listC ls.length mkLnk (lnksC ls)) (listC ((alI (listC ls.length mkLnk (lnksC ls))).length) mkInt (intsC (alI (listC ls.length mkLnk (lnksC ls))))) 5 0 3))], [.v (.int .i64 x10), .v (.int .i64 (clF (listC ls.length mkLnk (lnksC ls)) (listC ((alI (listC ls.length mkLnk (lnksC ls))).length) mkInt (intsC (alI (listC ls.length mkLnk (lnksC ls))))) 5 0 4))]])), .c (.v (.int .i64 0))])))))))))))))))))))))))))))))))))))))))))))))))))
def ann_off_5 : Ann := ⟨fun r => lookA r [(1, ([[], [], [1], [0, 1, 2], [0, 1, 2, 3], [0, 1, 2, 3, 4], [0, 1, 2, 3, 4], [], [0, 1, 2, 3, 4, 5, 7], [0, 1, 2, 3, 4, 5, 6, 7, 8]], [[11, 12, 4], [11, 12, 4], [12, 4], [4], [4], [4], [4], [11, 12], [], []])), (10, ([[], [], [1], [1, 2], [1, 2, 3], [1, 2, 3, 4], [], [], [6, 7], [6, 7, 8], [1, 2, 3, 4, 5, 6, 7, 8, 9], [1, 2, 3, 4, 5, 6, 7, 8, 9, 10], [0, 1, 2, 3, 4, 5, 6, 7, 8, 9, 10, 11], [0, 1, 2, 3, 4, 5, 6, 7, 8, 9, 10, 11, 12]], [[47], [47], [47], [47], [47], [47], [47], [47], [47], [47], [47], [], [], []]))], fun b => lookA b [(0, (some 6, some ⟨[1, 4, 7], [1, 4], [(6, .gen 90 2 [])]⟩))], fun _ => [], I1, false, fun r => lookA r [(8, (6, [35]))], fun _ => none⟩
theorem ev_off_5 (J : Inv) (cs : List ByteArray) (ls : List Lnk) (post : DV → Prop) : evFn Try.prog tab Scc109 ann_off_5 J Try.f42 [.t (.a [.sl 1 5 (txsC cs), .sl 4 ls.length (lnksC ls)])] post = vc_off_5 cs ls post := by kernel_rfl
theorem fit_off_5 : okFn ann_off_5 Try.f42 = true := by kernel_rfl
theorem lp_off_5 (J : Inv) (post : DV → Prop) : AllG J (loopsFn Try.prog tab Scc109 ann_off_5 J Try.f42 post) = (True) := by kernel_rfl
set_option maxHeartbeats 8000000 in
set_option maxRecDepth 100000 in
theorem spec_off_5 (cs : List ByteArray) (ls : List Lnk) (hn : cs.length = 5) (hp : ntE cs ls = 0) : vc_off_5 cs ls (fun r => LeD r (.tu [.c (.sl 2 (ofV cs ls).length (rgsC (ofV cs ls))), .c (.v (.int .i64 (ofE cs ls)))])) := by
 have z := ntE_bd hp
 rw [hn] at z
 have hok : ∀ k, k < ls.length → (lnkAt ls k).ok 5 := z.2.2
 have hcl : clOk 5 ls (alI ls) := ⟨⟨by decide, by decide⟩, ⟨z.2.1, by rw [al_len]; have := z.2.1; omega⟩, hok, al_ok ls⟩
 have eB : clO ls (alI ls) 5 = bdB ls 5 := by rw [agree_cl (by decide) hok (al_ok ls), sel_all]
 have R := bd_cl (n := 5) (by decide) hok (al_ok ls)
 rw [sel_all] at R
 unfold vc_off_5
 simp only [lnks_listC, ints_listC]
 refine ⟨⟨txP_any cs _, numsP_lnks ls, by have := z.2.1; omega⟩, ⟨numsP_lnks ls, numsP_ints _, hcl⟩, cond_i (fun h => ?_) (fun h => ?_)⟩
 ·have g : bdB ls 5 = false := by rw [← eB]; simpa using h
  have e : ofE cs ls = 13 := by unfold ofE; rw [if_neg (by rw [hp]; simp), hn, if_neg (by rw [g]; simp)]
  rw [show ofV cs ls = [] from if_neg (by rw [e]; decide), e]
  exact le_tu le_nil (LeD.refl _)
 ·have gB : bdB ls 5 = true := by rw [← eB]; simpa using h
  have op : ∀ i, i < 5 → (bif (clF ls (alI ls) 5 0 i == 1125899906842624) then true else (clF ls (alI ls) 5 i 0 == 1125899906842624)) = true → LeD (.tu [.c (.v (.slice none 0 0)), .c (.v (.int .i64 21))]) (.tu [.c (.sl 2 (ofV cs ls).length (rgsC (ofV cs ls))), .c (.v (.int .i64 (ofE cs ls)))]) := fun i hi g => by
   rw [opn_cl R hi] at g
   have e : ofE cs ls = 21 := by
    unfold ofE
    rw [if_neg (by rw [hp]; simp), hn, if_pos gB, if_pos]
    unfold ofS
    rw [hn, List.any_eq_true]
    exact ⟨i, List.mem_range.2 hi, g⟩
   rw [show ofV cs ls = [] from if_neg (by rw [e]; decide), e]
   exact le_tu le_nil (LeD.refl _)
  have cl : ∀ i, i < 5 → (bif (clF ls (alI ls) 5 0 i == 1125899906842624) then true else (clF ls (alI ls) 5 i 0 == 1125899906842624)) = false → clF ls (alI ls) 5 0 i = bdF ls 5 0 i ∧ clF ls (alI ls) 5 i 0 = bdF ls 5 i 0 ∧ opnB ls 5 i = false := fun i hi g => by
   have g2 := g
   rw [opn_cl R hi] at g2
   exact ⟨(opn_val R hi g2).1, (opn_val R hi g2).2, g2⟩
  refine ⟨⟨by trivial, by decide⟩, ⟨by trivial, by decide⟩, ⟨cond_i (fun _ => ⟨trivial, trivial⟩) (fun _ => ⟨⟨by trivial, by decide⟩, ⟨by trivial, by decide⟩, trivial⟩), lt_i fun x0 h0 => cond_i (fun g => op 0 (by decide) (by rw [h0]; exact g)) (fun g0 => ⟨⟨by trivial, by decide⟩, ⟨by trivial, by decide⟩, lt_i fun y0 k0 => ⟨⟨by trivial, by decide⟩, ⟨by trivial, by decide⟩, by unfold roomP maxLen; decide, ?_⟩⟩)⟩⟩
  refine ⟨⟨by trivial, by decide⟩, ⟨by trivial, by decide⟩, ⟨cond_i (fun _ => ⟨trivial, trivial⟩) (fun _ => ⟨⟨by trivial, by decide⟩, ⟨by trivial, by decide⟩, trivial⟩), lt_i fun x1 h1 => cond_i (fun g => op 1 (by decide) (by rw [h1]; exact g)) (fun g1 => ⟨⟨by trivial, by decide⟩, ⟨by trivial, by decide⟩, lt_i fun y1 k1 => ⟨⟨by trivial, by decide⟩, ⟨by trivial, by decide⟩, by unfold roomP maxLen; decide, ?_⟩⟩)⟩⟩
  refine ⟨⟨by trivial, by decide⟩, ⟨by trivial, by decide⟩, ⟨cond_i (fun _ => ⟨trivial, trivial⟩) (fun _ => ⟨⟨by trivial, by decide⟩, ⟨by trivial, by decide⟩, trivial⟩), lt_i fun x2 h2 => cond_i (fun g => op 2 (by decide) (by rw [h2]; exact g)) (fun g2 => ⟨⟨by trivial, by decide⟩, ⟨by trivial, by decide⟩, lt_i fun y2 k2 => ⟨⟨by trivial, by decide⟩, ⟨by trivial, by decide⟩, by unfold roomP maxLen; decide, ?_⟩⟩)⟩⟩
  refine ⟨⟨by trivial, by decide⟩, ⟨by trivial, by decide⟩, ⟨cond_i (fun _ => ⟨trivial, trivial⟩) (fun _ => ⟨⟨by trivial, by decide⟩, ⟨by trivial, by decide⟩, trivial⟩), lt_i fun x3 h3 => cond_i (fun g => op 3 (by decide) (by rw [h3]; exact g)) (fun g3 => ⟨⟨by trivial, by decide⟩, ⟨by trivial, by decide⟩, lt_i fun y3 k3 => ⟨⟨by trivial, by decide⟩, ⟨by trivial, by decide⟩, by unfold roomP maxLen; decide, ?_⟩⟩)⟩⟩
  refine ⟨⟨by trivial, by decide⟩, ⟨by trivial, by decide⟩, ⟨cond_i (fun _ => ⟨trivial, trivial⟩) (fun _ => ⟨⟨by trivial, by decide⟩, ⟨by trivial, by decide⟩, trivial⟩), lt_i fun x4 h4 => cond_i (fun g => op 4 (by decide) (by rw [h4]; exact g)) (fun g4 => ⟨⟨by trivial, by decide⟩, ⟨by trivial, by decide⟩, lt_i fun y4 k4 => ⟨⟨by trivial, by decide⟩, ⟨by trivial, by decide⟩, by unfold roomP maxLen; decide, ?_⟩⟩)⟩⟩
  obtain ⟨u0, v0, w0⟩ := cl 0 (by decide) (by rw [h0]; exact g0)
  rw [v0, wi (by have := bdF_rg z 0 0; omega)] at k0
  obtain ⟨u1, v1, w1⟩ := cl 1 (by decide) (by rw [h1]; exact g1)
  rw [v1, wi (by have := bdF_rg z 1 0; omega)] at k1
  obtain ⟨u2, v2, w2⟩ := cl 2 (by decide) (by rw [h2]; exact g2)
  rw [v2, wi (by have := bdF_rg z 2 0; omega)] at k2
  obtain ⟨u3, v3, w3⟩ := cl 3 (by decide) (by rw [h3]; exact g3)
  rw [v3, wi (by have := bdF_rg z 3 0; omega)] at k3
  obtain ⟨u4, v4, w4⟩ := cl 4 (by decide) (by rw [h4]; exact g4)
  rw [v4, wi (by have := bdF_rg z 4 0; omega)] at k4
  rw [u0, u1, u2, u3, u4]
  rw [← k0, ← k1, ← k2, ← k3, ← k4]
  have eS : ofS cs ls = false := by
   unfold ofS
   rw [hn, Bool.eq_false_iff]
   intro c
   obtain ⟨j, hj, hj2⟩ := List.any_eq_true.1 c
   have hj := List.mem_range.1 hj
   rcases (by omega : j = 0 ∨ j = 1 ∨ j = 2 ∨ j = 3 ∨ j = 4) with rfl | rfl | rfl | rfl | rfl <;> simp_all
  have e0 : ofE cs ls = 0 := by unfold ofE; rw [if_neg (by rw [hp]; simp), hn, if_pos gB, if_neg (by rw [eS]; simp)]
  rw [show ofV cs ls = ofK ls 5 5 from (if_pos e0).trans (by rw [hn]), e0]
  simp only [Int.zero_sub]
  exact le_tu (le_rgs (ofK ls 5 5)) (LeD.refl _)
def vc_off_6 (cs : List ByteArray) (ls : List Lnk) (post : DV → Prop) : Prop := (txP 6 (txsC cs) ∧ numsP 4 ls.length (lnksC ls) ∧ ((listC ls.length mkLnk (lnksC ls))).length ≤ 1000000) ∧ ((numsP 4 ls.length (lnksC ls) ∧ numsP 1 ((alI (listC ls.length mkLnk (lnksC ls))).length) (intsC (alI (listC ls.length mkLnk (lnksC ls)))) ∧ clOk 6 (listC ls.length mkLnk (lnksC ls)) (listC ((alI (listC ls.length mkLnk (lnksC ls))).length) mkInt (intsC (alI (listC ls.length mkLnk (lnksC ls)))))) ∧ (cond (!(clO (listC ls.length mkLnk (lnksC ls)) (listC ((alI (listC ls.length mkLnk (lnksC ls))).length) mkInt (intsC (alI (listC ls.length mkLnk (lnksC ls))))) 6)) (post (.tu [.c (.v (.slice none 0 0)), .c (.v (.int .i64 13))])) ((0 ≤ (0 : Int) ∧ (0 : Int) < ((6 : Nat) : Int)) ∧ ((0 ≤ (0 : Int) ∧ (0 : Int) < ((6 : Nat) : Int)) ∧ ((cond ((clF (listC ls.length mkLnk (lnksC ls)) (listC ((alI (listC ls.length mkLnk (lnksC ls))).length) mkInt (intsC (alI (listC ls.length mkLnk (lnksC ls))))) 6 0 0) == (1125899906842624 : Int)) ((true = true) ∧ (True)) ((0 ≤ (0 : Int) ∧ (0 : Int) < ((6 : Nat) : Int)) ∧ ((0 ≤ (0 : Int) ∧ (0 : Int) < ((6 : Nat) : Int)) ∧ (True)))) ∧ (lt ((bif ((clF (listC ls.length mkLnk (lnksC ls)) (listC ((alI (listC ls.length mkLnk (lnksC ls))).length) mkInt (intsC (alI (listC ls.length mkLnk (lnksC ls))))) 6 0 0) == (1125899906842624 : Int)) then true else ((clF (listC ls.length mkLnk (lnksC ls)) (listC ((alI (listC ls.length mkLnk (lnksC ls))).length) mkInt (intsC (alI (listC ls.length mkLnk (lnksC ls))))) 6 0 0) == (1125899906842624 : Int)))) fun x1 => cond x1 (post (.tu [.c (.v (.slice none 0 0)), .c (.v (.int .i64 21))])) ((0 ≤ (0 : Int) ∧ (0 : Int) < ((6 : Nat) : Int)) ∧ ((0 ≤ (0 : Int) ∧ (0 : Int) < ((6 : Nat) : Int)) ∧ (lt (IntKind.i64.wrap ((0 : Int) - (clF (listC ls.length mkLnk (lnksC ls)) (listC ((alI (listC ls.length mkLnk (lnksC ls))).length) mkInt (intsC (alI (listC ls.length mkLnk (lnksC ls))))) 6 0 0))) fun x2 => (0 ≤ (0 : Int) ∧ (0 : Int) < ((6 : Nat) : Int)) ∧ ((0 ≤ (0 : Int) ∧ (0 : Int) < ((6 : Nat) : Int)) ∧ ((roomP 16 (0 + 1)) ∧ ((0 ≤ (0 : Int) ∧ (0 : Int) < ((6 : Nat) : Int)) ∧ ((0 ≤ (1 : Int) ∧ (1 : Int) < ((6 : Nat) : Int)) ∧ ((cond ((clF (listC ls.length mkLnk (lnksC ls)) (listC ((alI (listC ls.length mkLnk (lnksC ls))).length) mkInt (intsC (alI (listC ls.length mkLnk (lnksC ls))))) 6 0 1) == (1125899906842624 : Int)) ((true = true) ∧ (True)) ((0 ≤ (1 : Int) ∧ (1 : Int) < ((6 : Nat) : Int)) ∧ ((0 ≤ (0 : Int) ∧ (0 : Int) < ((6 : Nat) : Int)) ∧ (True)))) ∧ (lt ((bif ((clF (listC ls.length mkLnk (lnksC ls)) (listC ((alI (listC ls.length mkLnk (lnksC ls))).length) mkInt (intsC (alI (listC ls.length mkLnk (lnksC ls))))) 6 0 1) == (1125899906842624 : Int)) then true else ((clF (listC ls.length mkLnk (lnksC ls)) (listC ((alI (listC ls.length mkLnk (lnksC ls))).length) mkInt (intsC (alI (listC ls.length mkLnk (lnksC ls))))) 6 1 0) == (1125899906842624 : Int)))) fun x3 => cond x3 (post (.tu [.c (.v (.slice none 0 0)), .c (.v (.int .i64 21))])) ((0 ≤ (1 : Int) ∧ (1 : Int) < ((6 : Nat) : Int)) ∧ ((0 ≤ (0 : Int) ∧ (0 : Int) < ((6 : Nat) : Int)) ∧ (lt (IntKind.i64.wrap ((0 : Int) - (clF (listC ls.length mkLnk (lnksC ls)) (listC ((alI (listC ls.length mkLnk (lnksC ls))).length) mkInt (intsC (alI (listC ls.length mkLnk (lnksC ls))))) 6 1 0))) fun x4 => (0 ≤ (0 : Int) ∧ (0 : Int) < ((6 : Nat) : Int)) ∧ ((0 ≤ (1 : Int) ∧ (1 : Int) < ((6 : Nat) : Int)) ∧ ((roomP 16 (1 + 1)) ∧ ((0 ≤ (0 : Int) ∧ (0 : Int) < ((6 : Nat) : Int)) ∧ ((0 ≤ (2 : Int) ∧ (2 : Int) < ((6 : Nat) : Int)) ∧ ((cond ((clF (listC ls.length mkLnk (lnksC ls)) (listC ((alI (listC ls.length mkLnk (lnksC ls))).length) mkInt (intsC (alI (listC ls.length mkLnk (lnksC ls))))) 6 0 2) == (1125899906842624 : Int)) ((true = true) ∧ (True)) ((0 ≤ (2 : Int) ∧ (2 : Int) < ((6 : Nat) : Int)) ∧ ((0 ≤ (0 : Int) ∧ (0 : Int) < ((6 : Nat) : Int)) ∧ (True)))) ∧ (lt ((bif ((clF (listC ls.length mkLnk (lnksC ls)) (listC ((alI (listC ls.length mkLnk (lnksC ls))).length) mkInt (intsC (alI (listC ls.length mkLnk (lnksC ls))))) 6 0 2) == (1125899906842624 : Int)) then true else ((clF (listC ls.length mkLnk (lnksC ls)) (listC ((alI (listC ls.length mkLnk (lnksC ls))).length) mkInt (intsC (alI (listC ls.length mkLnk (lnksC ls))))) 6 2 0) == (1125899906842624 : Int)))) fun x5 => cond x5 (post (.tu [.c (.v (.slice none 0 0)), .c (.v (.int .i64 21))])) ((0 ≤ (2 : Int) ∧ (2 : Int) < ((6 : Nat) : Int)) ∧ ((0 ≤ (0 : Int) ∧ (0 : Int) < ((6 : Nat) : Int)) ∧ (lt (IntKind.i64.wrap ((0 : Int) - (clF (listC ls.length mkLnk (lnksC ls)) (listC ((alI (listC ls.length mkLnk (lnksC ls))).length) mkInt (intsC (alI (listC ls.length mkLnk (lnksC ls))))) 6 2 0))) fun x6 => (0 ≤ (0 : Int) ∧ (0 : Int) < ((6 : Nat) : Int)) ∧ ((0 ≤ (2 : Int) ∧ (2 : Int) < ((6 : Nat) : Int)) ∧ ((roomP 16 (2 + 1)) ∧ ((0 ≤ (0 : Int) ∧ (0 : Int) < ((6 : Nat) : Int)) ∧ ((0 ≤ (3 : Int) ∧ (3 : Int) < ((6 : Nat) : Int)) ∧ ((cond ((clF (listC ls.length mkLnk (lnksC ls)) (listC ((alI (listC ls.length mkLnk (lnksC ls))).length) mkInt (intsC (alI (listC ls.length mkLnk (lnksC ls))))) 6 0 3) == (1125899906842624 : Int)) ((true = true) ∧ (True)) ((0 ≤ (3 : Int) ∧ (3 : Int) < ((6 : Nat) : Int)) ∧ ((0 ≤ (0 : Int) ∧ (0 : Int) < ((6 : Nat) : Int)) ∧ (True)))) ∧ (lt ((bif ((clF (listC ls.length mkLnk (lnksC ls)) (listC ((alI (listC ls.length mkLnk (lnksC ls))).length) mkInt (intsC (alI (listC ls.length mkLnk (lnksC ls))))) 6 0 3) == (1125899906842624 : Int)) then true else ((clF (listC ls.length mkLnk (lnksC ls)) (listC ((alI (listC ls.length mkLnk (lnksC ls))).length) mkInt (intsC (alI (listC ls.length mkLnk (lnksC ls))))) 6 3 0) == (1125899906842624 : Int)))) fun x7 => cond x7 (post (.tu [.c (.v (.slice none 0 0)), .c (.v (.int .i64 21))])) ((0 ≤ (3 : Int) ∧ (3 : Int) < ((6 : Nat) : Int)) ∧ ((0 ≤ (0 : Int) ∧ (0 : Int) < ((6 : Nat) : Int)) ∧ (lt (IntKind.i64.wrap ((0 : Int) - (clF (listC ls.length mkLnk (lnksC ls)) (listC ((alI (listC ls.length mkLnk (lnksC ls))).length) mkInt (intsC (alI (listC ls.length mkLnk (lnksC ls))))) 6 3 0))) fun x8 => (0 ≤ (0 : Int) ∧ (0 : Int) < ((6 : Nat) : Int)) ∧ ((0 ≤ (3 : Int) ∧ (3 : Int) < ((6 : Nat) : Int)) ∧ ((roomP 16 (3 + 1)) ∧ ((0 ≤ (0 : Int) ∧ (0 : Int) < ((6 : Nat) : Int)) ∧ ((0 ≤ (4 : Int) ∧ (4 : Int) < ((6 : Nat) : Int)) ∧ ((cond ((clF (listC ls.length mkLnk (lnksC ls)) (listC ((alI (listC ls.length mkLnk (lnksC ls))).length) mkInt (intsC (alI (listC ls.length mkLnk (lnksC ls))))) 6 0 4) == (1125899906842624 : Int)) ((true = true) ∧ (True)) ((0 ≤ (4 : Int) ∧ (4 : Int) < ((6 : Nat) : Int)) ∧ ((0 ≤ (0 : Int) ∧ (0 : Int) < ((6 : Nat) : Int)) ∧ (True)))) ∧ (lt ((bif ((clF (listC ls.length mkLnk (lnksC ls)) (listC ((alI (listC ls.length mkLnk (lnksC ls))).length) mkInt (intsC (alI (listC ls.length mkLnk (lnksC ls))))) 6 0 4) == (1125899906842624 : Int)) then true else ((clF (listC ls.length mkLnk (lnksC ls)) (listC ((alI (listC ls.length mkLnk (lnksC ls))).length) mkInt (intsC (alI (listC ls.length mkLnk (lnksC ls))))) 6 4 0) == (1125899906842624 : Int)))) fun x9 => cond x9 (post (.tu [.c (.v (.slice none 0 0)), .c (.v (.int .i64 21))])) ((0 ≤ (4 : Int) ∧ (4 : Int) < ((6 : Nat) : Int)) ∧ ((0 ≤ (0 : Int) ∧ (0 : Int) < ((6 : Nat) : Int)) ∧ (lt (IntKind.i64.wrap ((0 : Int) - (clF (listC ls.length mkLnk (lnksC ls)) (listC ((alI (listC ls.length mkLnk (lnksC ls))).length) mkInt (intsC (alI (listC ls.length mkLnk (lnksC ls))))) 6 4 0))) fun x10 => (0 ≤ (0 : Int) ∧ (0 : Int) < ((6 : Nat) : Int)) ∧ ((0 ≤ (4 : Int) ∧ (4 : Int) < ((6 : Nat) : Int)) ∧ ((roomP 16 (4 + 1)) ∧ ((0 ≤ (0 : Int) ∧ (0 : Int) < ((6 : Nat) : Int)) ∧ ((0 ≤ (5 : Int) ∧ (5 : Int) < ((6 : Nat) : Int)) ∧ ((cond ((clF (listC ls.length mkLnk (lnksC ls)) (listC ((alI (listC ls.length mkLnk (lnksC ls))).length) mkInt (intsC (alI (listC ls.length mkLnk (lnksC ls))))) 6 0 5) == (1125899906842624 : Int)) ((true = true) ∧ (True)) ((0 ≤ (5 : Int) ∧ (5 : Int) < ((6 : Nat) : Int)) ∧ ((0 ≤ (0 : Int) ∧ (0 : Int) < ((6 : Nat) : Int)) ∧ (True)))) ∧ (lt ((bif ((clF (listC ls.length mkLnk (lnksC ls)) (listC ((alI (listC ls.length mkLnk (lnksC ls))).length) mkInt (intsC (alI (listC ls.length mkLnk (lnksC ls))))) 6 0 5) == (1125899906842624 : Int)) then true else ((clF (listC ls.length mkLnk (lnksC ls)) (listC ((alI (listC ls.length mkLnk (lnksC ls))).length) mkInt (intsC (alI (listC ls.length mkLnk (lnksC ls))))) 6 5 0) == (1125899906842624 : Int)))) fun x11 => cond x11 (post (.tu [.c (.v (.slice none 0 0)), .c (.v (.int .i64 21))])) ((0 ≤ (5 : Int) ∧ (5 : Int) < ((6 : Nat) : Int)) ∧ ((0 ≤ (0 : Int) ∧ (0 : Int) < ((6 : Nat) : Int)) ∧ (lt (IntKind.i64.wrap ((0 : Int) - (clF (listC ls.length mkLnk (lnksC ls)) (listC ((alI (listC ls.length mkLnk (lnksC ls))).length) mkInt (intsC (alI (listC ls.length mkLnk (lnksC ls))))) 6 5 0))) fun x12 => (0 ≤ (0 : Int) ∧ (0 : Int) < ((6 : Nat) : Int)) ∧ ((0 ≤ (5 : Int) ∧ (5 : Int) < ((6 : Nat) : Int)) ∧ ((roomP 16 (5 + 1)) ∧ (post (.tu [.c (.sl 2 6 (genC [[.v (.int .i64 x2), .v (.int .i64 (clF (listC ls.length mkLnk (lnksC ls)) (listC ((alI (listC ls.length mkLnk (lnksC ls))).length) mkInt (intsC (alI (listC ls.length mkLnk (lnksC ls))))) 6 0 0))], [.v (.int .i64 x4), .v (.int .i64 (clF (listC ls.length mkLnk (lnksC ls)) (listC ((alI (listC ls.length mkLnk (lnksC ls))).length) mkInt (intsC (alI (listC ls.length mkLnk (lnksC ls))))) 6 0 1))], [.v (.int .i64 x6), .v (.int .i64 (clF (listC ls.length mkLnk (lnksC ls)) (listC ((alI (listC ls.length mkLnk (lnksC ls))).length) mkInt (intsC (alI (listC ls.length mkLnk (lnksC ls))))) 6 0 2))], [.v (.int .i64 x8), .v (.int .i64 (clF (listC ls.length mkLnk (lnksC ls)) (listC ((alI (listC ls.length mkLnk (lnksC ls))).length) mkInt (intsC (alI (listC ls.length mkLnk (lnksC ls))))) 6 0 3))], [.v (.int .i64 x10), .v (.int .i64 (clF (listC ls.length mkLnk (lnksC ls)) (listC ((alI (listC ls.length mkLnk (lnksC ls))).length) mkInt (intsC (alI (listC ls.length mkLnk (lnksC ls))))) 6 0 4))], [.v (.int .i64 x12), .v (.int .i64 (clF (listC ls.length mkLnk (lnksC ls)) (listC ((alI (listC ls.length mkLnk (lnksC ls))).length) mkInt (intsC (alI (listC ls.length mkLnk (lnksC ls))))) 6 0 5))]])), .c (.v (.int .i64 0))]))))))))))))))))))))))))))))))))))))))))))))))))))))))))))
def ann_off_6 : Ann := ⟨fun r => lookA r [(1, ([[], [], [1], [0, 1, 2], [0, 1, 2, 3], [0, 1, 2, 3, 4], [0, 1, 2, 3, 4], [], [0, 1, 2, 3, 4, 5, 7], [0, 1, 2, 3, 4, 5, 6, 7, 8]], [[11, 12, 4], [11, 12, 4], [12, 4], [4], [4], [4], [4], [11, 12], [], []])), (10, ([[], [], [1], [1, 2], [1, 2, 3], [1, 2, 3, 4], [], [], [6, 7], [6, 7, 8], [1, 2, 3, 4, 5, 6, 7, 8, 9], [1, 2, 3, 4, 5, 6, 7, 8, 9, 10], [0, 1, 2, 3, 4, 5, 6, 7, 8, 9, 10, 11], [0, 1, 2, 3, 4, 5, 6, 7, 8, 9, 10, 11, 12]], [[47], [47], [47], [47], [47], [47], [47], [47], [47], [47], [47], [], [], []]))], fun b => lookA b [(0, (some 7, some ⟨[1, 4, 7], [1, 4], [(6, .gen 90 2 [])]⟩))], fun _ => [], I1, false, fun r => lookA r [(8, (6, [35]))], fun _ => none⟩
theorem ev_off_6 (J : Inv) (cs : List ByteArray) (ls : List Lnk) (post : DV → Prop) : evFn Try.prog tab Scc109 ann_off_6 J Try.f42 [.t (.a [.sl 1 6 (txsC cs), .sl 4 ls.length (lnksC ls)])] post = vc_off_6 cs ls post := by kernel_rfl
theorem fit_off_6 : okFn ann_off_6 Try.f42 = true := by kernel_rfl
theorem lp_off_6 (J : Inv) (post : DV → Prop) : AllG J (loopsFn Try.prog tab Scc109 ann_off_6 J Try.f42 post) = (True) := by kernel_rfl
set_option maxHeartbeats 8000000 in
set_option maxRecDepth 100000 in
theorem spec_off_6 (cs : List ByteArray) (ls : List Lnk) (hn : cs.length = 6) (hp : ntE cs ls = 0) : vc_off_6 cs ls (fun r => LeD r (.tu [.c (.sl 2 (ofV cs ls).length (rgsC (ofV cs ls))), .c (.v (.int .i64 (ofE cs ls)))])) := by
 have z := ntE_bd hp
 rw [hn] at z
 have hok : ∀ k, k < ls.length → (lnkAt ls k).ok 6 := z.2.2
 have hcl : clOk 6 ls (alI ls) := ⟨⟨by decide, by decide⟩, ⟨z.2.1, by rw [al_len]; have := z.2.1; omega⟩, hok, al_ok ls⟩
 have eB : clO ls (alI ls) 6 = bdB ls 6 := by rw [agree_cl (by decide) hok (al_ok ls), sel_all]
 have R := bd_cl (n := 6) (by decide) hok (al_ok ls)
 rw [sel_all] at R
 unfold vc_off_6
 simp only [lnks_listC, ints_listC]
 refine ⟨⟨txP_any cs _, numsP_lnks ls, by have := z.2.1; omega⟩, ⟨numsP_lnks ls, numsP_ints _, hcl⟩, cond_i (fun h => ?_) (fun h => ?_)⟩
 ·have g : bdB ls 6 = false := by rw [← eB]; simpa using h
  have e : ofE cs ls = 13 := by unfold ofE; rw [if_neg (by rw [hp]; simp), hn, if_neg (by rw [g]; simp)]
  rw [show ofV cs ls = [] from if_neg (by rw [e]; decide), e]
  exact le_tu le_nil (LeD.refl _)
 ·have gB : bdB ls 6 = true := by rw [← eB]; simpa using h
  have op : ∀ i, i < 6 → (bif (clF ls (alI ls) 6 0 i == 1125899906842624) then true else (clF ls (alI ls) 6 i 0 == 1125899906842624)) = true → LeD (.tu [.c (.v (.slice none 0 0)), .c (.v (.int .i64 21))]) (.tu [.c (.sl 2 (ofV cs ls).length (rgsC (ofV cs ls))), .c (.v (.int .i64 (ofE cs ls)))]) := fun i hi g => by
   rw [opn_cl R hi] at g
   have e : ofE cs ls = 21 := by
    unfold ofE
    rw [if_neg (by rw [hp]; simp), hn, if_pos gB, if_pos]
    unfold ofS
    rw [hn, List.any_eq_true]
    exact ⟨i, List.mem_range.2 hi, g⟩
   rw [show ofV cs ls = [] from if_neg (by rw [e]; decide), e]
   exact le_tu le_nil (LeD.refl _)
  have cl : ∀ i, i < 6 → (bif (clF ls (alI ls) 6 0 i == 1125899906842624) then true else (clF ls (alI ls) 6 i 0 == 1125899906842624)) = false → clF ls (alI ls) 6 0 i = bdF ls 6 0 i ∧ clF ls (alI ls) 6 i 0 = bdF ls 6 i 0 ∧ opnB ls 6 i = false := fun i hi g => by
   have g2 := g
   rw [opn_cl R hi] at g2
   exact ⟨(opn_val R hi g2).1, (opn_val R hi g2).2, g2⟩
  refine ⟨⟨by trivial, by decide⟩, ⟨by trivial, by decide⟩, ⟨cond_i (fun _ => ⟨trivial, trivial⟩) (fun _ => ⟨⟨by trivial, by decide⟩, ⟨by trivial, by decide⟩, trivial⟩), lt_i fun x0 h0 => cond_i (fun g => op 0 (by decide) (by rw [h0]; exact g)) (fun g0 => ⟨⟨by trivial, by decide⟩, ⟨by trivial, by decide⟩, lt_i fun y0 k0 => ⟨⟨by trivial, by decide⟩, ⟨by trivial, by decide⟩, by unfold roomP maxLen; decide, ?_⟩⟩)⟩⟩
  refine ⟨⟨by trivial, by decide⟩, ⟨by trivial, by decide⟩, ⟨cond_i (fun _ => ⟨trivial, trivial⟩) (fun _ => ⟨⟨by trivial, by decide⟩, ⟨by trivial, by decide⟩, trivial⟩), lt_i fun x1 h1 => cond_i (fun g => op 1 (by decide) (by rw [h1]; exact g)) (fun g1 => ⟨⟨by trivial, by decide⟩, ⟨by trivial, by decide⟩, lt_i fun y1 k1 => ⟨⟨by trivial, by decide⟩, ⟨by trivial, by decide⟩, by unfold roomP maxLen; decide, ?_⟩⟩)⟩⟩
  refine ⟨⟨by trivial, by decide⟩, ⟨by trivial, by decide⟩, ⟨cond_i (fun _ => ⟨trivial, trivial⟩) (fun _ => ⟨⟨by trivial, by decide⟩, ⟨by trivial, by decide⟩, trivial⟩), lt_i fun x2 h2 => cond_i (fun g => op 2 (by decide) (by rw [h2]; exact g)) (fun g2 => ⟨⟨by trivial, by decide⟩, ⟨by trivial, by decide⟩, lt_i fun y2 k2 => ⟨⟨by trivial, by decide⟩, ⟨by trivial, by decide⟩, by unfold roomP maxLen; decide, ?_⟩⟩)⟩⟩
  refine ⟨⟨by trivial, by decide⟩, ⟨by trivial, by decide⟩, ⟨cond_i (fun _ => ⟨trivial, trivial⟩) (fun _ => ⟨⟨by trivial, by decide⟩, ⟨by trivial, by decide⟩, trivial⟩), lt_i fun x3 h3 => cond_i (fun g => op 3 (by decide) (by rw [h3]; exact g)) (fun g3 => ⟨⟨by trivial, by decide⟩, ⟨by trivial, by decide⟩, lt_i fun y3 k3 => ⟨⟨by trivial, by decide⟩, ⟨by trivial, by decide⟩, by unfold roomP maxLen; decide, ?_⟩⟩)⟩⟩
  refine ⟨⟨by trivial, by decide⟩, ⟨by trivial, by decide⟩, ⟨cond_i (fun _ => ⟨trivial, trivial⟩) (fun _ => ⟨⟨by trivial, by decide⟩, ⟨by trivial, by decide⟩, trivial⟩), lt_i fun x4 h4 => cond_i (fun g => op 4 (by decide) (by rw [h4]; exact g)) (fun g4 => ⟨⟨by trivial, by decide⟩, ⟨by trivial, by decide⟩, lt_i fun y4 k4 => ⟨⟨by trivial, by decide⟩, ⟨by trivial, by decide⟩, by unfold roomP maxLen; decide, ?_⟩⟩)⟩⟩
  refine ⟨⟨by trivial, by decide⟩, ⟨by trivial, by decide⟩, ⟨cond_i (fun _ => ⟨trivial, trivial⟩) (fun _ => ⟨⟨by trivial, by decide⟩, ⟨by trivial, by decide⟩, trivial⟩), lt_i fun x5 h5 => cond_i (fun g => op 5 (by decide) (by rw [h5]; exact g)) (fun g5 => ⟨⟨by trivial, by decide⟩, ⟨by trivial, by decide⟩, lt_i fun y5 k5 => ⟨⟨by trivial, by decide⟩, ⟨by trivial, by decide⟩, by unfold roomP maxLen; decide, ?_⟩⟩)⟩⟩
  obtain ⟨u0, v0, w0⟩ := cl 0 (by decide) (by rw [h0]; exact g0)
  rw [v0, wi (by have := bdF_rg z 0 0; omega)] at k0
  obtain ⟨u1, v1, w1⟩ := cl 1 (by decide) (by rw [h1]; exact g1)
  rw [v1, wi (by have := bdF_rg z 1 0; omega)] at k1
  obtain ⟨u2, v2, w2⟩ := cl 2 (by decide) (by rw [h2]; exact g2)
  rw [v2, wi (by have := bdF_rg z 2 0; omega)] at k2
  obtain ⟨u3, v3, w3⟩ := cl 3 (by decide) (by rw [h3]; exact g3)
  rw [v3, wi (by have := bdF_rg z 3 0; omega)] at k3
  obtain ⟨u4, v4, w4⟩ := cl 4 (by decide) (by rw [h4]; exact g4)
  rw [v4, wi (by have := bdF_rg z 4 0; omega)] at k4
  obtain ⟨u5, v5, w5⟩ := cl 5 (by decide) (by rw [h5]; exact g5)
  rw [v5, wi (by have := bdF_rg z 5 0; omega)] at k5
  rw [u0, u1, u2, u3, u4, u5]
  rw [← k0, ← k1, ← k2, ← k3, ← k4, ← k5]
  have eS : ofS cs ls = false := by
   unfold ofS
   rw [hn, Bool.eq_false_iff]
   intro c
   obtain ⟨j, hj, hj2⟩ := List.any_eq_true.1 c
   have hj := List.mem_range.1 hj
   rcases (by omega : j = 0 ∨ j = 1 ∨ j = 2 ∨ j = 3 ∨ j = 4 ∨ j = 5) with rfl | rfl | rfl | rfl | rfl | rfl <;> simp_all
  have e0 : ofE cs ls = 0 := by unfold ofE; rw [if_neg (by rw [hp]; simp), hn, if_pos gB, if_neg (by rw [eS]; simp)]
  rw [show ofV cs ls = ofK ls 6 6 from (if_pos e0).trans (by rw [hn]), e0]
  simp only [Int.zero_sub]
  exact le_tu (le_rgs (ofK ls 6 6)) (LeD.refl _)
def con_Offsets : Con := fun args => match args with
 | [.t (.a [.sl 1 n_cs c_cs, .sl 4 n_ls c_ls])] => some (.tu [.c (.sl 2 (ofV (txOf n_cs c_cs) (listC n_ls mkLnk c_ls)).length (rgsC (ofV (txOf n_cs c_cs) (listC n_ls mkLnk c_ls)))), .c (.v (.int .i64 (ofE (txOf n_cs c_cs) (listC n_ls mkLnk c_ls))))], some (txP n_cs c_cs ∧ numsP 4 n_ls c_ls ∧ ntE (txOf n_cs c_cs) (listC n_ls mkLnk c_ls) = 0), Fre.no)
 | _ => none
theorem ok_Offsets : Ok Try.prog 42 con_Offsets := by
 intro args r pre fresh h hp
 unfold con_Offsets at h
 split at h
 ·rename_i n_cs c_cs n_ls c_ls
  cases h
  obtain ⟨hp0, hp1, hp⟩ := hp
  refine ⟨Enters.of (fn := Try.f42) (by kernel_rfl) (by kernel_rfl) (by kernel_rfl), fun W N vs hG hv => ?_⟩
  have hv : All2 (RelD (RelF W N)) [.t (.a [.sl 1 n_cs c_cs, .sl 4 n_ls c_ls])] vs := hv
  have hv2 := LeA_cons (leT_a (LeCs.cons (leL_str hp0) (LeCs.cons (leL_Lnk hp1) LeCs.nil))) LeA_nil W N vs hv
  generalize txOf n_cs c_cs = cs at *
  generalize listC n_ls mkLnk c_ls = ls at *
  have z := (ntE_bd hp).1
  rcases (by omega : cs.length = 1 ∨ cs.length = 2 ∨ cs.length = 3 ∨ cs.length = 4 ∨ cs.length = 5 ∨ cs.length = 6) with hn | hn | hn | hn | hn | hn
  ·rw [hn] at hv2
   exact (Ok.one (ann := ann_off_1) mixed tabOK VScc109 VI1 (f := 42) (fn := Try.f42) (by kernel_rfl) (by kernel_rfl) fit_off_1 (args := [.t (.a [.sl 1 1 (txsC cs), .sl 4 ls.length (lnksC ls)])]) (r := .tu [.c (.sl 2 (ofV cs ls).length (rgsC (ofV cs ls))), .c (.v (.int .i64 (ofE cs ls)))]) (Nat.le_of_ble_eq_true (by kernel_rfl)) (J := fun _ _ _ => False) (by rw [ev_off_1]; exact spec_off_1 cs ls hn hp) (by rw [lp_off_1]; trivial)).2 W N vs hG hv2
  ·rw [hn] at hv2
   exact (Ok.one (ann := ann_off_2) mixed tabOK VScc109 VI1 (f := 42) (fn := Try.f42) (by kernel_rfl) (by kernel_rfl) fit_off_2 (args := [.t (.a [.sl 1 2 (txsC cs), .sl 4 ls.length (lnksC ls)])]) (r := .tu [.c (.sl 2 (ofV cs ls).length (rgsC (ofV cs ls))), .c (.v (.int .i64 (ofE cs ls)))]) (Nat.le_of_ble_eq_true (by kernel_rfl)) (J := fun _ _ _ => False) (by rw [ev_off_2]; exact spec_off_2 cs ls hn hp) (by rw [lp_off_2]; trivial)).2 W N vs hG hv2
  ·rw [hn] at hv2
   exact (Ok.one (ann := ann_off_3) mixed tabOK VScc109 VI1 (f := 42) (fn := Try.f42) (by kernel_rfl) (by kernel_rfl) fit_off_3 (args := [.t (.a [.sl 1 3 (txsC cs), .sl 4 ls.length (lnksC ls)])]) (r := .tu [.c (.sl 2 (ofV cs ls).length (rgsC (ofV cs ls))), .c (.v (.int .i64 (ofE cs ls)))]) (Nat.le_of_ble_eq_true (by kernel_rfl)) (J := fun _ _ _ => False) (by rw [ev_off_3]; exact spec_off_3 cs ls hn hp) (by rw [lp_off_3]; trivial)).2 W N vs hG hv2
  ·rw [hn] at hv2
   exact (Ok.one (ann := ann_off_4) mixed tabOK VScc109 VI1 (f := 42) (fn := Try.f42) (by kernel_rfl) (by kernel_rfl) fit_off_4 (args := [.t (.a [.sl 1 4 (txsC cs), .sl 4 ls.length (lnksC ls)])]) (r := .tu [.c (.sl 2 (ofV cs ls).length (rgsC (ofV cs ls))), .c (.v (.int .i64 (ofE cs ls)))]) (Nat.le_of_ble_eq_true (by kernel_rfl)) (J := fun _ _ _ => False) (by rw [ev_off_4]; exact spec_off_4 cs ls hn hp) (by rw [lp_off_4]; trivial)).2 W N vs hG hv2
  ·rw [hn] at hv2
   exact (Ok.one (ann := ann_off_5) mixed tabOK VScc109 VI1 (f := 42) (fn := Try.f42) (by kernel_rfl) (by kernel_rfl) fit_off_5 (args := [.t (.a [.sl 1 5 (txsC cs), .sl 4 ls.length (lnksC ls)])]) (r := .tu [.c (.sl 2 (ofV cs ls).length (rgsC (ofV cs ls))), .c (.v (.int .i64 (ofE cs ls)))]) (Nat.le_of_ble_eq_true (by kernel_rfl)) (J := fun _ _ _ => False) (by rw [ev_off_5]; exact spec_off_5 cs ls hn hp) (by rw [lp_off_5]; trivial)).2 W N vs hG hv2
  ·rw [hn] at hv2
   exact (Ok.one (ann := ann_off_6) mixed tabOK VScc109 VI1 (f := 42) (fn := Try.f42) (by kernel_rfl) (by kernel_rfl) fit_off_6 (args := [.t (.a [.sl 1 6 (txsC cs), .sl 4 ls.length (lnksC ls)])]) (r := .tu [.c (.sl 2 (ofV cs ls).length (rgsC (ofV cs ls))), .c (.v (.int .i64 (ofE cs ls)))]) (Nat.le_of_ble_eq_true (by kernel_rfl)) (J := fun _ _ _ => False) (by rw [ev_off_6]; exact spec_off_6 cs ls hn hp) (by rw [lp_off_6]; trivial)).2 W N vs hG hv2
 ·cases h
def Scd110 : Sum := addS Scc109 42 con_Offsets
theorem VScd110 : Valid Try.prog Scd110 := Valid.add VScc109 ok_Offsets
end Go.Proofs.Ytkifmfmenobhnaa
set_option linter.unusedVariables false
set_option linter.unusedSimpArgs false
namespace Go.Proofs.Ytkifmfmenobhnaa
open Go.RowKit Ev
theorem n00 : (((0 : Nat) : Int)) = 0 := rfl
theorem lt_v {α : Type} (v : α) (k : α → Prop) : lt v k = k v := by unfold lt; rfl
end Go.Proofs.Ytkifmfmenobhnaa
set_option linter.unusedVariables false
set_option linter.unusedSimpArgs false
namespace Go.Proofs.Ytkifmfmenobhnaa
open Go.RowKit Ev
theorem q2a : ((2 : Int) == 0) = false := rfl
theorem q2b : ((2 : Int) != 0) = true := rfl
theorem q12a : ((12 : Int) == 0) = false := rfl
theorem q12b : ((12 : Int) != 0) = true := rfl
theorem q13a : ((13 : Int) == 0) = false := rfl
theorem q13b : ((13 : Int) != 0) = true := rfl
end Go.Proofs.Ytkifmfmenobhnaa
set_option linter.unusedVariables false
set_option linter.unusedSimpArgs false
namespace Go.Proofs.Ytkifmfmenobhnaa
open Go.RowKit Ev
theorem wr00 : IntKind.i64.wrap (0 + 0) = 0 := rfl
end Go.Proofs.Ytkifmfmenobhnaa
set_option linter.unusedVariables false
set_option linter.unusedSimpArgs false
namespace Go.Proofs.Ytkifmfmenobhnaa
open Go.RowKit Ev
end Go.Proofs.Ytkifmfmenobhnaa
set_option linter.unusedVariables false
set_option linter.unusedSimpArgs false
namespace Go.Proofs.Ytkifmfmenobhnaa
open Go.RowKit Ev
theorem nums_ints (l : List Int) : numsC .i64 l = intsC l := rfl
end Go.Proofs.Ytkifmfmenobhnaa
set_option linter.unusedVariables false
set_option linter.unusedSimpArgs false
namespace Go.Proofs.Ytkifmfmenobhnaa
open Go.RowKit Ev
end Go.Proofs.Ytkifmfmenobhnaa
set_option linter.unusedVariables false
set_option linter.unusedSimpArgs false
namespace Go.Proofs.Ytkifmfmenobhnaa
open Go.RowKit Ev
def free (c : Cab) (l : List Png) : Prop := trOk c l ∧ (∀ i, i < l.length → canB c (pngAt l i) = true) ∧ ∀ i k, i < k → k < l.length → apB c (pngAt l i) (pngAt l k) = false
end Go.Proofs.Ytkifmfmenobhnaa
set_option linter.unusedVariables false
set_option linter.unusedSimpArgs false
namespace Go.Proofs.Ytkifmfmenobhnaa
open Go.RowKit Ev
end Go.Proofs.Ytkifmfmenobhnaa
set_option linter.unusedVariables false
set_option linter.unusedSimpArgs false
namespace Go.Proofs.Ytkifmfmenobhnaa
open Go.RowKit Ev
theorem fwL_ok {cs : List ByteArray} {ls : List Lnk} (h : fwL cs ls = true) : cs.length ≤ 8 ∧ ls.length ≤ 14 ∧ ∀ k, k < cs.length → (txAt cs k).size ≤ 20 := by
 unfold fwL at h
 rw [Bool.and_eq_true, Bool.and_eq_true] at h
 have h1 := of_decide_eq_true h.1
 have h2 := of_decide_eq_true h.2.1
 exact ⟨by omega, by omega, fun k hk => of_decide_eq_true (List.all_eq_true.1 h.2.2 _ (txAt_in hk))⟩
theorem ofV_len (cs : List ByteArray) (ls : List Lnk) : (ofV cs ls).length ≤ cs.length := by
 unfold ofV
 split
 ·simp [ofK]
 ·simp
theorem nt_cases (cs : List ByteArray) (ls : List Lnk) (o : List Int) : ((ntE cs ls != 0) = true ∧ ofE cs ls = ntE cs ls ∧ ofV cs ls = [] ∧ ckE cs ls o = ntE cs ls ∧ ckI cs ls o = 0) ∨ (ntE cs ls = 0 ∧ ckE cs ls o = coE cs ls o ∧ ckI cs ls o = coI cs ls o) := by
 by_cases h : ntE cs ls = 0
 ·exact Or.inr ⟨h, if_neg (by rw [h]; simp), if_neg (by rw [h]; simp)⟩
 ·have e : ofE cs ls = ntE cs ls := if_pos h
  exact Or.inl ⟨by simpa using h, e, if_neg (by rw [e]; exact h), if_pos h, if_pos h⟩
def vc_law01_ClockNets (cs : List ByteArray) (ls : List Lnk) (o : List Int) (post : DV → Prop) : Prop := (txP cs.length (txsC cs) ∧ numsP 4 ls.length (lnksC ls)) ∧ ((cond (!(fwL (txOf cs.length (txsC cs)) (listC ls.length mkLnk (lnksC ls)))) ((true = true) ∧ (True)) (True)) ∧ (lt ((bif (!(fwL (txOf cs.length (txsC cs)) (listC ls.length mkLnk (lnksC ls)))) then true else decide (((o.length : Nat) : Int) > (10 : Int)))) fun x1 => cond x1 (post (.t (.c (.v (.bool true))))) ((txP cs.length (txsC cs) ∧ numsP 4 ls.length (lnksC ls) ∧ ((txOf cs.length (txsC cs))).length ≤ 1000 ∧ ((listC ls.length mkLnk (lnksC ls))).length ≤ 1000) ∧ ((txP ((txOf cs.length (txsC cs)).length) (txsC (txOf cs.length (txsC cs))) ∧ numsP 4 ((listC ls.length mkLnk (lnksC ls)).length) (lnksC (listC ls.length mkLnk (lnksC ls))) ∧ (∀ k, k < ((txOf ((txOf cs.length (txsC cs)).length) (txsC (txOf cs.length (txsC cs))))).length → (txAt (txOf ((txOf cs.length (txsC cs)).length) (txsC (txOf cs.length (txsC cs)))) k).size ≤ 1000000)) ∧ ((txP cs.length (txsC cs) ∧ numsP 4 ls.length (lnksC ls) ∧ ((txOf cs.length (txsC cs))).length ≤ 1000 ∧ ((listC ls.length mkLnk (lnksC ls))).length ≤ 1000) ∧ ((txP ((txOf cs.length (txsC cs)).length) (txsC (txOf cs.length (txsC cs))) ∧ numsP 4 ((listC ls.length mkLnk (lnksC ls)).length) (lnksC (listC ls.length mkLnk (lnksC ls))) ∧ (∀ k, k < ((txOf ((txOf cs.length (txsC cs)).length) (txsC (txOf cs.length (txsC cs))))).length → (txAt (txOf ((txOf cs.length (txsC cs)).length) (txsC (txOf cs.length (txsC cs)))) k).size ≤ 1000000)) ∧ ((txP cs.length (txsC cs) ∧ numsP 4 ls.length (lnksC ls) ∧ ((txOf cs.length (txsC cs))).length ≤ 1000 ∧ ((listC ls.length mkLnk (lnksC ls))).length ≤ 1000) ∧ ((numsP 1 o.length (intsC o) ∧ ((listC o.length mkInt (intsC o))).length ≤ 1000) ∧ ((txP ((txOf cs.length (txsC cs)).length) (txsC (txOf cs.length (txsC cs))) ∧ numsP 4 ((listC ls.length mkLnk (lnksC ls)).length) (lnksC (listC ls.length mkLnk (lnksC ls))) ∧ numsP 1 ((listC o.length mkInt (intsC o)).length) (intsC (listC o.length mkInt (intsC o))) ∧ (∀ k, k < ((txOf ((txOf cs.length (txsC cs)).length) (txsC (txOf cs.length (txsC cs))))).length → (txAt (txOf ((txOf cs.length (txsC cs)).length) (txsC (txOf cs.length (txsC cs)))) k).size ≤ 1000000) ∧ ((listC ((listC o.length mkInt (intsC o)).length) mkInt (intsC (listC o.length mkInt (intsC o))))).length ≤ 1000000) ∧ ((txP cs.length (txsC cs) ∧ numsP 4 ls.length (lnksC ls) ∧ (∀ k, k < ((txOf cs.length (txsC cs))).length → (txAt (txOf cs.length (txsC cs)) k).size ≤ 1000000)) ∧ ((cond ((ntE (txOf ((txOf cs.length (txsC cs)).length) (txsC (txOf cs.length (txsC cs)))) (listC ((listC ls.length mkLnk (lnksC ls)).length) mkLnk (lnksC (listC ls.length mkLnk (lnksC ls))))) != (ntE (txOf cs.length (txsC cs)) (listC ls.length mkLnk (lnksC ls)))) ((true = true) ∧ (True)) (True)) ∧ (lt ((bif ((ntE (txOf ((txOf cs.length (txsC cs)).length) (txsC (txOf cs.length (txsC cs)))) (listC ((listC ls.length mkLnk (lnksC ls)).length) mkLnk (lnksC (listC ls.length mkLnk (lnksC ls))))) != (ntE (txOf cs.length (txsC cs)) (listC ls.length mkLnk (lnksC ls)))) then true else ((ntI (txOf ((txOf cs.length (txsC cs)).length) (txsC (txOf cs.length (txsC cs)))) (listC ((listC ls.length mkLnk (lnksC ls)).length) mkLnk (lnksC (listC ls.length mkLnk (lnksC ls))))) != (ntI (txOf cs.length (txsC cs)) (listC ls.length mkLnk (lnksC ls)))))) fun x2 => cond x2 (post (.t (.c (.v (.bool false))))) (cond ((ntE (txOf cs.length (txsC cs)) (listC ls.length mkLnk (lnksC ls))) != (0 : Int)) ((cond ((ofE (txOf ((txOf cs.length (txsC cs)).length) (txsC (txOf cs.length (txsC cs)))) (listC ((listC ls.length mkLnk (lnksC ls)).length) mkLnk (lnksC (listC ls.length mkLnk (lnksC ls))))) == (ntE (txOf cs.length (txsC cs)) (listC ls.length mkLnk (lnksC ls)))) (cond ((((ofV (txOf ((txOf cs.length (txsC cs)).length) (txsC (txOf cs.length (txsC cs)))) (listC ((listC ls.length mkLnk (lnksC ls)).length) mkLnk (lnksC (listC ls.length mkLnk (lnksC ls))))).length : Nat) : Int) == (0 : Int)) (cond ((ckE (txOf ((txOf cs.length (txsC cs)).length) (txsC (txOf cs.length (txsC cs)))) (listC ((listC ls.length mkLnk (lnksC ls)).length) mkLnk (lnksC (listC ls.length mkLnk (lnksC ls)))) (listC ((listC o.length mkInt (intsC o)).length) mkInt (intsC (listC o.length mkInt (intsC o))))) == (ntE (txOf cs.length (txsC cs)) (listC ls.length mkLnk (lnksC ls)))) (True) ((false = false) ∧ (True))) ((false = false) ∧ ((false = false) ∧ (True)))) ((false = false) ∧ ((false = false) ∧ ((false = false) ∧ (True))))) ∧ (lt ((bif ((ofE (txOf ((txOf cs.length (txsC cs)).length) (txsC (txOf cs.length (txsC cs)))) (listC ((listC ls.length mkLnk (lnksC ls)).length) mkLnk (lnksC (listC ls.length mkLnk (lnksC ls))))) == (ntE (txOf cs.length (txsC cs)) (listC ls.length mkLnk (lnksC ls)))) then (bif ((((ofV (txOf ((txOf cs.length (txsC cs)).length) (txsC (txOf cs.length (txsC cs)))) (listC ((listC ls.length mkLnk (lnksC ls)).length) mkLnk (lnksC (listC ls.length mkLnk (lnksC ls))))).length : Nat) : Int) == (0 : Int)) then (bif ((ckE (txOf ((txOf cs.length (txsC cs)).length) (txsC (txOf cs.length (txsC cs)))) (listC ((listC ls.length mkLnk (lnksC ls)).length) mkLnk (lnksC (listC ls.length mkLnk (lnksC ls)))) (listC ((listC o.length mkInt (intsC o)).length) mkInt (intsC (listC o.length mkInt (intsC o))))) == (ntE (txOf cs.length (txsC cs)) (listC ls.length mkLnk (lnksC ls)))) then ((ckI (txOf ((txOf cs.length (txsC cs)).length) (txsC (txOf cs.length (txsC cs)))) (listC ((listC ls.length mkLnk (lnksC ls)).length) mkLnk (lnksC (listC ls.length mkLnk (lnksC ls)))) (listC ((listC o.length mkInt (intsC o)).length) mkInt (intsC (listC o.length mkInt (intsC o))))) == (0 : Int)) else false) else false) else false)) fun x3 => post (.t (.c (.v (.bool x3)))))) ((txP cs.length (txsC cs) ∧ numsP 4 ls.length (lnksC ls) ∧ ntE (txOf cs.length (txsC cs)) (listC ls.length mkLnk (lnksC ls)) = 0) ∧ ((cond ((ofE (txOf ((txOf cs.length (txsC cs)).length) (txsC (txOf cs.length (txsC cs)))) (listC ((listC ls.length mkLnk (lnksC ls)).length) mkLnk (lnksC (listC ls.length mkLnk (lnksC ls))))) != (ofE (txOf cs.length (txsC cs)) (listC ls.length mkLnk (lnksC ls)))) ((true = true) ∧ (True)) ((numsP 2 ((ofV (txOf ((txOf cs.length (txsC cs)).length) (txsC (txOf cs.length (txsC cs)))) (listC ((listC ls.length mkLnk (lnksC ls)).length) mkLnk (lnksC (listC ls.length mkLnk (lnksC ls))))).length) (rgsC (ofV (txOf ((txOf cs.length (txsC cs)).length) (txsC (txOf cs.length (txsC cs)))) (listC ((listC ls.length mkLnk (lnksC ls)).length) mkLnk (lnksC (listC ls.length mkLnk (lnksC ls)))))) ∧ numsP 2 ((ofV (txOf cs.length (txsC cs)) (listC ls.length mkLnk (lnksC ls))).length) (rgsC (ofV (txOf cs.length (txsC cs)) (listC ls.length mkLnk (lnksC ls)))) ∧ ((listC ((ofV (txOf ((txOf cs.length (txsC cs)).length) (txsC (txOf cs.length (txsC cs)))) (listC ((listC ls.length mkLnk (lnksC ls)).length) mkLnk (lnksC (listC ls.length mkLnk (lnksC ls))))).length) mkRg (rgsC (ofV (txOf ((txOf cs.length (txsC cs)).length) (txsC (txOf cs.length (txsC cs)))) (listC ((listC ls.length mkLnk (lnksC ls)).length) mkLnk (lnksC (listC ls.length mkLnk (lnksC ls)))))))).length ≤ 1000000) ∧ (True))) ∧ (lt ((bif ((ofE (txOf ((txOf cs.length (txsC cs)).length) (txsC (txOf cs.length (txsC cs)))) (listC ((listC ls.length mkLnk (lnksC ls)).length) mkLnk (lnksC (listC ls.length mkLnk (lnksC ls))))) != (ofE (txOf cs.length (txsC cs)) (listC ls.length mkLnk (lnksC ls)))) then true else (!(decide ((listC ((ofV (txOf ((txOf cs.length (txsC cs)).length) (txsC (txOf cs.length (txsC cs)))) (listC ((listC ls.length mkLnk (lnksC ls)).length) mkLnk (lnksC (listC ls.length mkLnk (lnksC ls))))).length) mkRg (rgsC (ofV (txOf ((txOf cs.length (txsC cs)).length) (txsC (txOf cs.length (txsC cs)))) (listC ((listC ls.length mkLnk (lnksC ls)).length) mkLnk (lnksC (listC ls.length mkLnk (lnksC ls))))))) = (listC ((ofV (txOf cs.length (txsC cs)) (listC ls.length mkLnk (lnksC ls))).length) mkRg (rgsC (ofV (txOf cs.length (txsC cs)) (listC ls.length mkLnk (lnksC ls)))))))))) fun x4 => cond x4 (post (.t (.c (.v (.bool false))))) ((txP cs.length (txsC cs) ∧ numsP 4 ls.length (lnksC ls) ∧ numsP 1 o.length (intsC o) ∧ ntE (txOf cs.length (txsC cs)) (listC ls.length mkLnk (lnksC ls)) = 0) ∧ ((cond ((ckE (txOf ((txOf cs.length (txsC cs)).length) (txsC (txOf cs.length (txsC cs)))) (listC ((listC ls.length mkLnk (lnksC ls)).length) mkLnk (lnksC (listC ls.length mkLnk (lnksC ls)))) (listC ((listC o.length mkInt (intsC o)).length) mkInt (intsC (listC o.length mkInt (intsC o))))) == (coE (txOf cs.length (txsC cs)) (listC ls.length mkLnk (lnksC ls)) (listC o.length mkInt (intsC o)))) (True) ((false = false) ∧ (True))) ∧ (lt ((bif ((ckE (txOf ((txOf cs.length (txsC cs)).length) (txsC (txOf cs.length (txsC cs)))) (listC ((listC ls.length mkLnk (lnksC ls)).length) mkLnk (lnksC (listC ls.length mkLnk (lnksC ls)))) (listC ((listC o.length mkInt (intsC o)).length) mkInt (intsC (listC o.length mkInt (intsC o))))) == (coE (txOf cs.length (txsC cs)) (listC ls.length mkLnk (lnksC ls)) (listC o.length mkInt (intsC o)))) then ((ckI (txOf ((txOf cs.length (txsC cs)).length) (txsC (txOf cs.length (txsC cs)))) (listC ((listC ls.length mkLnk (lnksC ls)).length) mkLnk (lnksC (listC ls.length mkLnk (lnksC ls)))) (listC ((listC o.length mkInt (intsC o)).length) mkInt (intsC (listC o.length mkInt (intsC o))))) == (coI (txOf cs.length (txsC cs)) (listC ls.length mkLnk (lnksC ls)) (listC o.length mkInt (intsC o)))) else false)) fun x5 => post (.t (.c (.v (.bool x5)))))))))))))))))))))))
def ann_law01_ClockNets : Ann := ⟨fun _ => none, fun _ => none, fun _ => [], I1, false, fun r => lookA r [(3, (4, [24])), (9, (4, [57])), (12, (4, [4])), (14, (4, [90])), (17, (4, [4]))], fun _ => none⟩
theorem ev_law01_ClockNets (J : Inv) (cs : List ByteArray) (ls : List Lnk) (o : List Int) (post : DV → Prop) : evFn Try.prog tab Scd110 ann_law01_ClockNets J Try.f6 [.t (.a [.sl 1 cs.length (txsC cs), .sl 4 ls.length (lnksC ls)]), .t (.c (.sl 1 o.length (intsC o)))] post = vc_law01_ClockNets cs ls o post := by kernel_rfl
theorem fit_law01_ClockNets : okFn ann_law01_ClockNets Try.f6 = true := by kernel_rfl
theorem lp_law01_ClockNets (J : Inv) (post : DV → Prop) : AllG J (loopsFn Try.prog tab Scd110 ann_law01_ClockNets J Try.f6 post) = (True) := by kernel_rfl
set_option maxHeartbeats 8000000 in
set_option maxRecDepth 100000 in
theorem spec_law01_ClockNets (cs : List ByteArray) (ls : List Lnk) (o : List Int) : vc_law01_ClockNets cs ls o (fun r => LeD r (.t (.c (.v (.bool true))))) := by
 unfold vc_law01_ClockNets
 simp only [ints_listC, lpps_listC, pngs_listC, rgs_listC, txs_of, lnks_listC]
 have n1 := txP_txs cs
 have n2 := numsP_lnks ls
 have n3 := numsP_ints o
 cases hf : fwL cs ls with
 | false =>
  simp only [n00, beq_self_eq_true, bne_self_eq_false, Bool.not_true, Bool.not_false, _root_.cond_true, _root_.cond_false, decide_true, eq_self_iff_true, List.length_nil, lt_v, q2a, q2b, q12a, q12b, q13a, q13b, wr00, nums_ints]
  (repeat' with_reducible first | assumption | trivial | (refine And.intro ?_ ?_))
  all_goals first | omega | exact LeD.refl _ | exact leB rfl | exact numsP_ints _
 | true =>
 obtain ⟨f1, f2, f3⟩ := fwL_ok hf
 have hs : ∀ k, k < cs.length → (txAt cs k).size ≤ 1000000 := fun k hk => by have := f3 k hk; omega
 by_cases ho : o.length ≤ 10
 case neg =>
  simp only [decide_eq_true (show ((o.length : Nat) : Int) > 10 by omega), n00, beq_self_eq_true, bne_self_eq_false, Bool.not_true, Bool.not_false, _root_.cond_true, _root_.cond_false, decide_true, eq_self_iff_true, List.length_nil, lt_v, q2a, q2b, q12a, q12b, q13a, q13b, wr00, nums_ints]
  (repeat' with_reducible first | assumption | trivial | (refine And.intro ?_ ?_))
  all_goals first | omega | exact LeD.refl _ | exact leB rfl | exact numsP_ints _
 simp only [decide_eq_false (show ¬ ((o.length : Nat) : Int) > 10 by omega), n00, beq_self_eq_true, bne_self_eq_false, Bool.not_true, Bool.not_false, _root_.cond_true, _root_.cond_false, decide_true, eq_self_iff_true, List.length_nil, lt_v, q2a, q2b, q12a, q12b, q13a, q13b, wr00, nums_ints]
 rcases nt_cases cs ls o with ⟨a1, a2, a3, a4, a5⟩ | ⟨a1, a2, a3⟩
 ·simp only [a1, a2, a3, a4, a5, n00, beq_self_eq_true, bne_self_eq_false, Bool.not_true, Bool.not_false, _root_.cond_true, _root_.cond_false, decide_true, eq_self_iff_true, List.length_nil, lt_v, q2a, q2b, q12a, q12b, q13a, q13b, wr00, nums_ints]
  (repeat' with_reducible first | assumption | trivial | (refine And.intro ?_ ?_))
  all_goals first | omega | exact LeD.refl _ | exact leB rfl | exact numsP_ints _
 ·have n4 := numsP_rgs (ofV cs ls)
  have n5 := ofV_len cs ls
  simp only [a1, a2, a3, n00, beq_self_eq_true, bne_self_eq_false, Bool.not_true, Bool.not_false, _root_.cond_true, _root_.cond_false, decide_true, eq_self_iff_true, List.length_nil, lt_v, q2a, q2b, q12a, q12b, q13a, q13b, wr00, nums_ints]
  (repeat' with_reducible first | assumption | trivial | (refine And.intro ?_ ?_))
  all_goals first | omega | exact LeD.refl _ | exact leB rfl | exact numsP_ints _
theorem law_law01_ClockNets (cs : List ByteArray) (ls : List Lnk) (o : List Int) (W : World) (N : Nat → Prop) (vs : List Value) (h : All2 (RelD (RelF W N)) [.t (.a [.sl 1 cs.length (txsC cs), .sl 4 ls.length (lnksC ls)]), .t (.c (.sl 1 o.length (intsC o)))] vs) : Calls Try.prog 6 vs.toArray W fun e w' => e = .returned (.bool true) ∧ Below W.heap.size W w' :=
 law_end (fn_sound mixed tabOK VScd110 (ann := ann_law01_ClockNets) VI1 (fn := Try.f6) (J := fun _ _ _ => False) (by kernel_rfl) fit_law01_ClockNets (args := [.t (.a [.sl 1 cs.length (txsC cs), .sl 4 ls.length (lnksC ls)]), .t (.c (.sl 1 o.length (intsC o)))]) (post := (fun r => LeD r (.t (.c (.v (.bool true)))))) (by rw [ev_law01_ClockNets]; exact spec_law01_ClockNets cs ls o) (by rw [lp_law01_ClockNets]; trivial) (Nat.le_of_ble_eq_true (by kernel_rfl)) W N vs trivial h)
end Go.Proofs.Ytkifmfmenobhnaa
set_option linter.unusedVariables false
set_option linter.unusedSimpArgs false
namespace Go.Proofs.Ytkifmfmenobhnaa
open Go.RowKit
section
variable {H : Type} {enc : TypeId × Value → H} {P : Program} {w : World} {base : Nat} {spare : Nat → Bool} {held : Bool}
theorem cell_lt {w : World} {a : Addr} {v : Value} (h : w.cell? a = some v) : a.block < w.heap.size := by
 unfold World.cell? at h
 cases e : w.heap[a.block]? with
 | none => simp [e] at h
 | some o => exact (Array.getElem?_eq_some_iff.1 e).1
theorem list_of {α : Type} (d : α) : ∀ (n : Nat) {R : Nat → α → Prop}, (∀ i, i < n → ∃ x, R i x) → ∃ l : List α, l.length = n ∧ ∀ i, i < n → R i (l.getD i d) := by
 intro n
 induction n with
 | zero => intro R _; exact ⟨[], rfl, fun i hi => absurd hi (by omega)⟩
 | succ n ih =>
  intro R h
  obtain ⟨l, hl, hr⟩ := ih (fun i hi => h i (by omega))
  obtain ⟨x, hx⟩ := h n (by omega)
  refine ⟨l ++ [x], by simp [hl], fun i hi => ?_⟩
  rcases Nat.lt_or_ge i n with h1 | h1
  ·have : (l ++ [x]).getD i d = l.getD i d := by simp [List.getD, List.getElem?_append_left (show i < l.length by omega)]
   rw [this]; exact hr i h1
  ·have e : i = n := by omega
   subst e
   have : (l ++ [x]).getD i d = x := by rw [← hl]; simp [List.getD]
   rw [this]; exact hx
theorem SlAt.congr {w : World} {v : Value} {n sz : Nat} {c d : Nat → Nat → Value} (h : SlAt w v n sz c) (e : ∀ i j, i < n → j < sz → c i j = d i j) : SlAt w v n sz d := by
 obtain ⟨ao, cap, rfl, h1, h2, h3, h4⟩ := h
 refine ⟨ao, cap, rfl, h1, h2, fun h0 => ?_, h4⟩
 obtain ⟨b, off, e1, hlt, hc⟩ := h3 h0
 exact ⟨b, off, e1, hlt, fun i j hi hj => by rw [hc i j hi hj, e i j hi hj]⟩
theorem slAt_of_trod {t e : TypeId} {sz fuel : Nat} {v : Value} {x : DataW H × List MemPlace} (ht : P.underlying t = some (.slice e)) (hc : P.cellsOf e = sz) (hsz : 0 < sz)
  (h : DataW.trod enc P w base spare held fuel t [v] = some x) :
  ∃ (n : Nat) (css : Nat → List Value), SlAt w v n sz (fun i j => (css i).getD j undef) ∧ ∀ i, i < n → (css i).length = sz ∧ ∃ m y, DataW.trod enc P w base spare held m e (css i) = some y := by
 rcases DataW.trod_slice ht h with ⟨h0, _⟩ | ⟨a, len, cap, elems, rest, m, _, h0, _, hb, hl, hm, hlen, hel, _, _⟩
 ·obtain rfl : v = .slice none 0 0 := by simpa using h0
  exact ⟨0, fun _ => [], ⟨none, 0, rfl, by simp, by simp, fun h => absurd h (by omega), fun _ => rfl⟩, fun i hi => absurd hi (by omega)⟩
 ·obtain rfl : v = .slice (some a) len cap := by simpa using h0
  have each : ∀ i, i < len → ∃ cs : List Value, w.cells? base (a.add (i * sz)) sz = some cs ∧ ∃ y, DataW.trod enc P w base spare held m e cs = some y := by
   intro i hi
   have h1 := hel i hi
   rw [hc] at h1
   have h2 : elems[i]? = some elems[i] := by simp
   rw [h2, Option.bind_eq_some_iff] at h1
   obtain ⟨cs, h3, h4⟩ := h1
   exact ⟨cs, h3, _, h4⟩
  obtain ⟨css, hcl, hcs⟩ := list_of ([] : List Value) len each
  have hcell : ∀ i j, i < len → j < sz → w.cell? ((a.add (i * sz)).add j) = some ((css.getD i []).getD j undef) := by
   intro i j hi hj
   obtain ⟨_, h2, h3⟩ := World.cells?_some (hcs i hi).1
   rw [h3 j hj]
   generalize css.getD i [] = c at h2 ⊢
   rw [List.getElem?_eq_getElem (by omega)]
   simp [List.getD, List.getElem?_eq_getElem (show j < c.length by omega)]
  refine ⟨len, fun i => css.getD i [], ⟨some a, cap, rfl, hl, hm, fun hp => ?_, fun h => by cases h⟩, fun i hi => ⟨(World.cells?_some (hcs i hi).1).2.1, m, (hcs i hi).2⟩⟩
  obtain ⟨b, off, spot⟩ := a
  have hspot : spot = none := by simpa [Addr.add] using World.cell?_spot (hcell 0 0 hp hsz)
  subst hspot
  refine ⟨b, off, rfl, by simpa [Addr.add] using cell_lt (hcell 0 0 hp hsz), fun i j hi hj => ?_⟩
  have := hcell i j hi hj
  rw [add_plain', add_plain'] at this
  exact this
end
end Go.Proofs.Ytkifmfmenobhnaa
set_option linter.unusedVariables false
set_option linter.unusedSimpArgs false
namespace Go.Proofs.Ytkifmfmenobhnaa.Ev
open Go.RowKit
inductive CK where
 | int (k : IntKind)
 | bool
 | str
 | sl (e : TypeId)
def findF (P : Program) (go : TypeId → Nat → Option CK) (j : Nat) : List Field → Option CK
 | [] => none
 | f :: l => bif Nat.ble f.offset j && Nat.blt j (f.offset + P.cellsOf f.type) then go f.type (j - f.offset) else findF P go j l
def kindAt (P : Program) : Nat → TypeId → Nat → Option CK
 | 0, _, _ => none
 | k + 1, t, j => match P.underlying t with
  | some (.int ik) => bif Nat.beq j 0 then some (.int ik) else none
  | some .bool => bif Nat.beq j 0 then some .bool else none
  | some .string => bif Nat.beq j 0 then some .str else none
  | some (.slice e) => bif Nat.beq j 0 then some (.sl e) else none
  | some (.array n e) => bif Nat.blt j (n * P.cellsOf e) then kindAt P k e (j % P.cellsOf e) else none
  | some (.struct fs) => findF P (kindAt P k) j fs.toList
  | _ => none
def kindB (P : Program) : Nat → TypeId → Bool
 | 0, _ => false
 | d + 1, t => (List.range (P.cellsOf t)).all fun j => match kindAt P 20 t j with
  | some (.sl e) => Nat.blt 0 (P.cellsOf e) && kindB P d e
  | some _ => true
  | none => false
def okK (P : Program) : Nat → CK → CV → Prop
 | _, .int ik, c => ∃ n, c = .v (.int ik n) ∧ (Lit.int ik n).wf = true
 | _, .bool, c => ∃ b, c = .v (.bool b)
 | _, .str, c => ∃ s, c = .v (.string s) ∧ s.size ≤ maxLen
 | 0, .sl e, c => False
 | d + 1, .sl e, c => ∃ n cc, c = .sl (P.cellsOf e) n cc ∧ n ≤ maxLen ∧ ∀ i j, i < n → j < P.cellsOf e → ∃ κ, kindAt P 20 e j = some κ ∧ okK P d κ (cc i j)
section
variable {H : Type} {enc : TypeId × Value → H} {P : Program} {w : World} {base : Nat} {spare : Nat → Bool} {held : Bool}
def leaf (H : Type) (enc : TypeId × Value → H) (P : Program) (w : World) (base : Nat) (spare : Nat → Bool) (held : Bool) : CK → Value → Prop
 | .int ik, u => ∃ n, u = .int ik n ∧ (Lit.int ik n).wf = true
 | .bool, u => ∃ b, u = .bool b
 | .str, u => ∃ s : ByteArray, u = .string s ∧ s.size ≤ maxLen
 | .sl e, u => ∃ t m y, P.underlying t = some (.slice e) ∧ DataW.trod enc P w base spare held m t [u] = some y
theorem leaf_of : ∀ (k : Nat) (t : TypeId) (fuel : Nat) (cs : List Value) (x : DataW H × List MemPlace) (j : Nat) (κ : CK), kindAt P k t j = some κ → DataW.trod enc P w base spare held fuel t cs = some x → ∃ u, cs[j]? = some u ∧ leaf H enc P w base spare held κ u := by
 intro k
 induction k with
 | zero => intro t fuel cs x j κ h; cases h
 | succ k ih =>
  intro t fuel cs x j κ hk h
  unfold kindAt at hk
  have zero : ∀ {κ' : CK}, (bif Nat.beq j 0 then some κ' else none) = some κ → j = 0 ∧ κ' = κ := by
   intro κ' e
   cases hb : Nat.beq j 0 with
   | false => rw [hb] at e; cases e
   | true => rw [hb] at e; cases e; exact ⟨Nat.eq_of_beq_eq_true hb, rfl⟩
  split at hk
  ·rename_i ik ht
   obtain ⟨rfl, rfl⟩ := zero hk
   obtain ⟨n, rfl, _, h2⟩ := DataW.trod_int ht h
   exact ⟨_, rfl, n, rfl, h2⟩
  ·rename_i ht
   obtain ⟨rfl, rfl⟩ := zero hk
   obtain ⟨b, rfl, _⟩ := DataW.trod_bool ht h
   exact ⟨_, rfl, b, rfl⟩
  ·rename_i ht
   obtain ⟨rfl, rfl⟩ := zero hk
   obtain ⟨s, rfl, _, h2⟩ := DataW.trod_string ht h
   exact ⟨_, rfl, s, rfl, h2⟩
  ·rename_i e ht
   obtain ⟨rfl, rfl⟩ := zero hk
   rcases DataW.trod_slice ht h with ⟨rfl, _⟩ | ⟨a, len, cap, elems, rest, m, _, rfl, _⟩
   ·exact ⟨_, rfl, t, fuel, x, ht, h⟩
   ·exact ⟨_, rfl, t, fuel, x, ht, h⟩
  ·rename_i n e ht
   cases hb : Nat.blt j (n * P.cellsOf e) with
   | false => rw [hb] at hk; cases hk
   | true =>
    rw [hb] at hk
    simp only [cond_true] at hk
    have hj : j < n * P.cellsOf e := Nat.le_of_ble_eq_true hb
    have hpos : 0 < P.cellsOf e := by
     rcases Nat.eq_zero_or_pos (P.cellsOf e) with q | q
     ·rw [q, Nat.mul_zero] at hj; omega
     ·exact q
    obtain ⟨xs, m, _, _, hl, hxs, hf⟩ := DataW.trod_array ht h
    have hi : j / P.cellsOf e < n := Nat.div_lt_of_lt_mul (by rwa [Nat.mul_comm])
    have h5 := hf _ hi
    rw [show xs[j / P.cellsOf e]? = some xs[j / P.cellsOf e] from List.getElem?_eq_getElem (by omega)] at h5
    obtain ⟨u, h6, h7⟩ := ih e _ _ _ _ _ hk h5
    refine ⟨u, ?_, h7⟩
    rw [List.getElem?_take, if_pos (Nat.mod_lt _ hpos), List.getElem?_drop] at h6
    rwa [Nat.div_add_mod' j (P.cellsOf e)] at h6
  ·rename_i fs ht
   obtain ⟨xs, m, _, _, hl, hxs, hf⟩ := DataW.trod_struct ht h
   have find : ∀ l : List Field, (∀ f ∈ l, ∃ i : Nat, fs[i]? = some f) → findF P (kindAt P k) j l = some κ → ∃ (f : Field) (i : Nat), fs[i]? = some f ∧ f.offset ≤ j ∧ j < f.offset + P.cellsOf f.type ∧ kindAt P k f.type (j - f.offset) = some κ := by
    intro l
    induction l with
    | nil => intro _ h; cases h
    | cons f l ihl =>
     intro hm h
     unfold findF at h
     cases hb : (Nat.ble f.offset j && Nat.blt j (f.offset + P.cellsOf f.type)) with
     | false => rw [hb] at h; exact ihl (fun g hg => hm g (by simp [hg])) h
     | true =>
      rw [hb] at h
      simp only [Bool.and_eq_true] at hb
      obtain ⟨i, hi⟩ := hm f (by simp)
      exact ⟨f, i, hi, Nat.le_of_ble_eq_true hb.1, Nat.le_of_ble_eq_true hb.2, h⟩
   obtain ⟨f, i, hi, h1, h2, h3⟩ := find fs.toList (fun f hf => by
    obtain ⟨i, hi, e⟩ := List.getElem_of_mem hf
    exact ⟨i, by rw [← e]; simp at hi ⊢⟩) hk
   have h5 := hf i f hi
   have hlt : i < fs.size := by
    rcases Nat.lt_or_ge i fs.size with q | q
    ·exact q
    ·rw [Array.getElem?_eq_none q] at hi; cases hi
   rw [show xs[i]? = some xs[i] from List.getElem?_eq_getElem (by omega)] at h5
   obtain ⟨u, h6, h7⟩ := ih _ _ _ _ _ _ h3 h5
   refine ⟨u, ?_, h7⟩
   rw [List.getElem?_take, if_pos (by omega), List.getElem?_drop] at h6
   rwa [show f.offset + (j - f.offset) = j by omega] at h6
  ·cases hk
theorem open_cell : ∀ (d : Nat) (t : TypeId) (fuel : Nat) (cs : List Value) (x : DataW H × List MemPlace), kindB P d t = true → DataW.trod enc P w base spare held fuel t cs = some x → ∀ j, j < P.cellsOf t → ∃ κ c u, kindAt P 20 t j = some κ ∧ cs[j]? = some u ∧ RelF w (fun _ => True) c u ∧ okK P d κ c := by
 intro d
 induction d with
 | zero => intro t fuel cs x h; cases h
 | succ d ih =>
  intro t fuel cs x hB h j hj
  have hB' := hB
  unfold kindB at hB
  have h1 := List.all_eq_true.1 hB j (List.mem_range.2 hj)
  cases hk : kindAt P 20 t j with
  | none => rw [hk] at h1; cases h1
  | some κ =>
   rw [hk] at h1
   obtain ⟨u, h2, h3⟩ := leaf_of 20 t fuel cs x j κ hk h
   cases κ with
   | int ik =>
    obtain ⟨n, rfl, hw⟩ := h3
    exact ⟨_, .v (.int ik n), _, rfl, h2, ⟨rfl, rfl⟩, by simp only [okK]; exact ⟨n, rfl, hw⟩⟩
   | bool =>
    obtain ⟨b, rfl⟩ := h3
    exact ⟨_, .v (.bool b), _, rfl, h2, ⟨rfl, rfl⟩, by simp only [okK]; exact ⟨b, rfl⟩⟩
   | str =>
    obtain ⟨s, rfl, hs⟩ := h3
    exact ⟨_, .v (.string s), _, rfl, h2, ⟨rfl, rfl⟩, by simp only [okK]; exact ⟨s, rfl, hs⟩⟩
   | sl e =>
    simp only [Bool.and_eq_true] at h1
    have hpos : 0 < P.cellsOf e := Nat.le_of_ble_eq_true h1.1
    obtain ⟨t', m, y, ht, hy⟩ := h3
    obtain ⟨n, css, ⟨ao, cap, rfl, g1, g2, g3, g4⟩, hel⟩ := slAt_of_trod ht rfl hpos hy
    have each : ∀ i j, i < n → j < P.cellsOf e → ∃ c : CV, ∃ κ u, kindAt P 20 e j = some κ ∧ (css i)[j]? = some u ∧ RelF w (fun _ => True) c u ∧ okK P d κ c := by
     intro i j hi hj
     obtain ⟨_, m', y', h6⟩ := hel i hi
     obtain ⟨κ, c, u, q⟩ := ih e m' (css i) y' h1.2 h6 j hj
     exact ⟨c, κ, u, q⟩
    classical
    let cc : Nat → Nat → CV := fun i j => if h : i < n ∧ j < P.cellsOf e then Classical.choose (each i j h.1 h.2) else .v (.bool false)
    have hcc : ∀ i j, i < n → j < P.cellsOf e → ∃ κ u, kindAt P 20 e j = some κ ∧ (css i)[j]? = some u ∧ RelF w (fun _ => True) (cc i j) u ∧ okK P d κ (cc i j) := by
     intro i j hi hj
     have : cc i j = Classical.choose (each i j hi hj) := dif_pos ⟨hi, hj⟩
     rw [this]
     exact Classical.choose_spec (each i j hi hj)
    refine ⟨_, .sl (P.cellsOf e) n cc, _, rfl, h2, ⟨ao, cap, rfl, g1, g2, g4, fun h0 => ?_⟩, by
     simp only [okK]
     exact ⟨n, cc, rfl, Nat.le_trans g1 g2, fun i j hi hj => by obtain ⟨κ, u, q1, _, _, q4⟩ := hcc i j hi hj; exact ⟨κ, q1, q4⟩⟩⟩
    obtain ⟨b, off, e1, hlt, hc⟩ := g3 h0
    refine ⟨b, off, e1, hlt, trivial, fun i j hi hj => ?_⟩
    obtain ⟨κ, u, q1, q2, q3, _⟩ := hcc i j hi hj
    refine ⟨u, ?_, q3⟩
    rw [hc i j hi hj]
    simp [List.getD, q2]
theorem open_cells {d : Nat} {t : TypeId} {fuel : Nat} {cs : List Value} {x : DataW H × List MemPlace} (hB : kindB P d t = true) (hl : cs.length = P.cellsOf t) (h : DataW.trod enc P w base spare held fuel t cs = some x) :
  ∃ l : List CV, l.length = P.cellsOf t ∧ All2 (RelF w (fun _ => True)) l cs ∧ ∀ j, j < P.cellsOf t → ∃ κ, kindAt P 20 t j = some κ ∧ okK P d κ (l.getD j (.v (.bool false))) := by
 have each := open_cell d t fuel cs x hB h
 obtain ⟨l, h1, h2⟩ := list_of (CV.v (.bool false)) (P.cellsOf t) (R := fun j c => ∃ κ u, kindAt P 20 t j = some κ ∧ cs[j]? = some u ∧ RelF w (fun _ => True) c u ∧ okK P d κ c) (fun j hj => by obtain ⟨κ, c, u, q⟩ := each j hj; exact ⟨c, κ, u, q⟩)
 refine ⟨l, h1, All2.of_get (by omega) fun i a b ha hb => ?_, fun j hj => ?_⟩
 ·have hi : i < P.cellsOf t := by
   rcases Nat.lt_or_ge i l.length with q | q
   ·omega
   ·rw [List.getElem?_eq_none q] at ha; cases ha
  obtain ⟨κ, u, _, q2, q3, _⟩ := h2 i hi
  rw [hb] at q2
  cases q2
  rw [show l.getD i (.v (.bool false)) = a by simp [List.getD, ha]] at q3
  exact q3
 ·obtain ⟨κ, u, q1, _, _, q4⟩ := h2 j hj
  exact ⟨κ, q1, q4⟩
theorem open_agg {d : Nat} {t : TypeId} {cs : Array Value} {y : DataW H} {ps : List MemPlace} (hB : kindB P d t = true) (hl : cs.size = P.cellsOf t) (h : DataW.Trod enc P w base spare held t (.agg cs) y ps) :
  ∃ l : List CV, l.length = P.cellsOf t ∧ All2 (RelF w (fun _ => True)) l cs.toList ∧ ∀ j, j < P.cellsOf t → ∃ κ, kindAt P 20 t j = some κ ∧ okK P d κ (l.getD j (.v (.bool false))) := by
 obtain ⟨fuel, hf⟩ := h
 exact open_cells hB (by simpa using hl) (by simpa [Value.cells] using hf)
end
theorem open_i64 {P : Program} {d : Nat} {t : TypeId} {j : Nat} {c : CV} (hk : kindAt P 20 t j = some (.int .i64)) (h : ∃ κ, kindAt P 20 t j = some κ ∧ okK P d κ c) : ∃ n : Int, c = .v (.int .i64 n) ∧ -9223372036854775808 ≤ n ∧ n ≤ 9223372036854775807 := by
 obtain ⟨κ, h1, h2⟩ := h
 rw [hk] at h1
 cases h1
 have h3 : ∃ n, c = .v (.int .i64 n) ∧ (Lit.int .i64 n).wf = true := by cases d <;> exact h2
 obtain ⟨n, e, hw⟩ := h3
 have := bounds_i64 hw
 exact ⟨n, e, this.1, this.2⟩
theorem open_st {P : Program} {d : Nat} {t : TypeId} {j : Nat} {c : CV} (hk : kindAt P 20 t j = some .str) (h : ∃ κ, kindAt P 20 t j = some κ ∧ okK P d κ c) : ∃ s : ByteArray, c = .v (.string s) ∧ s.size ≤ maxLen := by
 obtain ⟨κ, h1, h2⟩ := h
 rw [hk] at h1
 cases h1
 cases d <;> exact h2
theorem open_sl {P : Program} {d : Nat} {t e : TypeId} {j : Nat} {c : CV} (hk : kindAt P 20 t j = some (.sl e)) (h : ∃ κ, kindAt P 20 t j = some κ ∧ okK P (d + 1) κ c) : ∃ n cc, c = .sl (P.cellsOf e) n cc ∧ n ≤ maxLen ∧ ∀ i j, i < n → j < P.cellsOf e → ∃ κ, kindAt P 20 e j = some κ ∧ okK P d κ (cc i j) := by
 obtain ⟨κ, h1, h2⟩ := h
 rw [hk] at h1
 cases h1
 exact h2
def allI (P : Program) (e : TypeId) : Bool := (List.range (P.cellsOf e)).all fun j => match kindAt P 20 e j with
 | some (.int .i64) => true
 | _ => false
theorem nums_of {P : Program} {d : Nat} {e : TypeId} {n : Nat} {cc : Nat → Nat → CV} (hk : allI P e = true) (h : ∀ i j, i < n → j < P.cellsOf e → ∃ κ, kindAt P 20 e j = some κ ∧ okK P d κ (cc i j)) : numsP (P.cellsOf e) n cc := by
 intro i j hi hj
 have h1 := List.all_eq_true.1 hk j (List.mem_range.2 hj)
 split at h1
 ·rename_i hq
  obtain ⟨m, e1, _⟩ := open_i64 hq (h i j hi hj)
  rw [e1]; rfl
 ·cases h1
end Go.Proofs.Ytkifmfmenobhnaa.Ev
set_option linter.unusedVariables false
namespace Go.Proofs.Ytkifmfmenobhnaa
open Go.RowKit Ev
theorem txP_of {P : Program} {d : Nat} {e : TypeId} {n : Nat} {c : Nat → Nat → CV} (hk : kindAt P 20 e 0 = some .str) (hz : P.cellsOf e = 1) (f : ∀ i j, i < n → j < P.cellsOf e → ∃ κ, kindAt P 20 e j = some κ ∧ okK P d κ (c i j)) : txP n c := by
 intro i hi
 obtain ⟨s, hs, _⟩ := open_st (by rw [hk]) (f i 0 hi (by omega))
 rw [hs]; rfl
end Go.Proofs.Ytkifmfmenobhnaa