/- Texts of this claim, together. -/
import Derived.Test.YtkifmfmenobhnaaCC13
import Derived.Test.YtkifmfmenobhnaaCC5
import Derived.ProofKit
import Derived.OpenShut
import Derived.ShutString
import Derived.ChangeOld
import Derived.Below
import Derived.Lib.SmallJoins
import Derived.Test.YtkifmfmenobhnaaCC9

set_option linter.unusedVariables false
set_option linter.unusedSimpArgs false
namespace Go.Proofs.Ytkifmfmenobhnaa
open Go.RowKit Ev
theorem ints_part (l : List Int) {lo n : Nat} (h : lo + n ≤ l.length) : listC n mkInt (fun i j => intsC l (lo + i) j) = (l.drop lo).take n := by
 apply List.ext_getElem?
 intro i
 unfold listC
 by_cases hi : i < n
 ·simp only [List.getElem?_map, List.getElem?_range hi, List.getElem?_take_of_lt hi, List.getElem?_drop, Option.map_some]
  rw [List.getElem?_eq_getElem (by omega)]
  show some (l.getD (lo + i) 0) = _
  rw [List.getD_eq_getElem?_getD, List.getElem?_eq_getElem (by omega)]; rfl
 ·rw [List.getElem?_eq_none (by simpa using hi), List.getElem?_eq_none (by simp; omega)]
theorem ints_partR (l : List Int) {lo n : Nat} (h : lo + n ≤ l.length) : ((List.range n).map fun i => fwd ((fun i j => intsC l (lo + i) j) i) 0 1) = ((l.drop lo).take n).map fun n => [CV.v (.int .i64 n)] := by
 rw [← ints_part l h]
 unfold listC
 rw [List.map_map]
 rfl
theorem numsP_intg (l : List Int) : numsP 1 (l.map fun n => [CV.v (.int .i64 n)]).length (genC (l.map fun n => [CV.v (.int .i64 n)])) := by
 rw [List.length_map]
 intro i j hi hj
 obtain rfl : j = 0 := by omega
 unfold genC
 simp only [List.getD_eq_getElem?_getD, List.getElem?_map, List.getElem?_eq_getElem hi, Option.map_some, Option.getD_some]
 rfl
theorem intg_listC (l : List Int) : listC (l.map fun n => [CV.v (.int .i64 n)]).length mkInt (genC (l.map fun n => [CV.v (.int .i64 n)])) = l := by
 rw [List.length_map]
 refine listC_id 0 fun i hi => ?_
 unfold mkInt genC
 simp only [List.getD_eq_getElem?_getD, List.getElem?_map, List.getElem?_eq_getElem hi, Option.map_some, Option.getD_some]
 rfl
theorem cn_cases {cs : List ByteArray} {ls : List Lnk} (hz : ntE cs ls = 0) : ((cnG ls cs.length).2 = true ∧ cnE cs ls = 0 ∧ cnV cs ls = (cnG ls cs.length).1) ∨ ((cnG ls cs.length).2 = false ∧ cnE cs ls = 12 ∧ cnV cs ls = [] ∧ (cnG ls cs.length).1 = []) := by
 have z := ntE_bd hz
 obtain ⟨⟨z1, z2⟩, z3, z4⟩ := z
 rw [Int.toNat_natCast] at z4
 have hn : cs.length ≤ 6 := by omega
 have e1 : cnE cs ls = if (cnG ls cs.length).2 = true then 0 else 12 := if_neg (by rw [hz]; simp)
 have e2 : cnV cs ls = (cnG ls cs.length).1 := if_neg (by rw [hz]; simp)
 cases h : (cnG ls cs.length).2 with
 | true => exact Or.inl ⟨rfl, by rw [e1, h]; rfl, e2⟩
 | false =>
  have hb : bdB ls cs.length = true := by have := cnG_eq hn z4; rw [h] at this; simpa using this.symm
  have e3 : (cnG ls cs.length).1 = [] := by rw [cnG_none hn z4 hb]
  exact Or.inr ⟨rfl, by rw [e1, h]; rfl, by rw [e2, e3], e3⟩
theorem cn_len {cs : List ByteArray} {ls : List Lnk} (hz : ntE cs ls = 0) : (cnV cs ls).length ≤ 1000000 ∧ (cnG ls cs.length).1.length ≤ ls.length := by
 have z := (ntE_bd hz).2.1
 rcases cn_cases hz with ⟨b1, b2, b3⟩ | ⟨b1, b2, b3, b4⟩
 ·have := (cnG_least b1).2.1
  rw [b3]; exact ⟨by omega, this⟩
 ·rw [b3, b4]; simp
theorem nmd_cases {cs : List ByteArray} {ls : List Lnk} (hz : ntE cs ls = 0) : (nmB cs ls = true ∧ nmdE cs ls = 0 ∧ nmdT cs ls = nmS cs ls) ∨ (nmB cs ls = false ∧ nmdE cs ls = 12 ∧ nmdT cs ls = ⟨#[]⟩) := by
 have e1 : nmdE cs ls = if nmB cs ls = true then 0 else 12 := if_neg (by rw [hz]; simp)
 have e2 : nmdT cs ls = nmS cs ls := if_neg (by rw [hz]; simp)
 cases h : nmB cs ls with
 | true => exact Or.inl ⟨rfl, by rw [e1, h]; rfl, e2⟩
 | false =>
  refine Or.inr ⟨rfl, by rw [e1, h]; rfl, ?_⟩
  rw [e2]
  unfold nmB at h
  unfold nmS
  cases hc : nmI cs ls with
  | none => rfl
  | some k => rw [hc] at h; cases h
theorem t12_0 : ((12 : Int) != 0) = true := rfl
theorem t0_0 : ((0 : Int) != 0) = false := rfl
theorem k0_12 : ((0 : Int) == 12) = false := rfl
theorem k12_12 : ((12 : Int) != 12) = false := rfl
theorem k12_0 : ((12 : Int) == 0) = false := rfl
def Sck119 : Sum := addS Si4118 73 con_NamedIn
theorem VSck119 : Valid Try.prog Sck119 := Valid.add VSi4118 ok_NamedIn
def mk_law01_ClockContradictions_0 (cs : List ByteArray) (ls : List Lnk) (v0_0 : Int) : DS := ⟨[none, some (.t (.c (.p 1 0))), none, none, none, some (.t (.c (.v (.string (nmdT (txOf ((txOf cs.length (txsC cs)).length) (txsC (txOf cs.length (txsC cs)))) (listC ((listC ls.length mkLnk (lnksC ls)).length) mkLnk (lnksC (listC ls.length mkLnk (lnksC ls))))))))), some (.t (.c (.v (.int .i64 (nmdE (txOf ((txOf cs.length (txsC cs)).length) (txsC (txOf cs.length (txsC cs)))) (listC ((listC ls.length mkLnk (lnksC ls)).length) mkLnk (lnksC (listC ls.length mkLnk (lnksC ls))))))))), none, some (.t (.c (.sl 1 (((cnG (listC ls.length mkLnk (lnksC ls)) ((txOf cs.length (txsC cs))).length).1).length) (intsC ((cnG (listC ls.length mkLnk (lnksC ls)) ((txOf cs.length (txsC cs))).length).1))))), none, some (.t (.c (.v (.int .i64 v0_0)))), none, none, none, none, none, none, none, none, none, none, none, none, none, none, none, none, none, none, none, none, none, none, none, none, none, none, none, none, none, none, none, none, none, none, none, none, none, none, none, none, none, none, none, none, none, none, none, none, none, none, none, none, none, none, none, none, none, none, none, none, none, none, none, none, none, none, none, none, none, none, none, none, none, none, none, none, none, none, none, none, none, none, none, none, none, none, none, none, none, none, none, none, none, none, none, none, none, none, none, none, none, none, none, none, none, none, none, none, none, none, none, none, none, none, none, none, none, none, none, none, none, none, none, none, none, none, none, none, none, none, none, none, none], [none, some (.box 55 [.sl 1 cs.length (txsC cs), .sl 4 ls.length (lnksC ls)]), none, none, none, none, none, none, none, none, none, none, none, none, none, none, none, none, none, none, none, none, none, none, none, none, none, none, none, none, none, none, none, none, none, none, none, none, none, none, none, none, none, none, none, none, none, none, none, none, none, none, none, none, none, none, none, none, none, none, none, none, none, none, none, none, none, none, none, none, none, none, none, none, none, none, none, none, none, none, none, none, none, none, none, none, none, none, none, none, none, none, none, none, none, none, none, none, none, none, none, none, none, none, none, none, none, none, none, none, none, none, none, none, none, none, none, none, none, none, none, none, none, none, none, none, none, none, none, none, none, none, none, none, none, none, none, none, none, none, none, none, none, none]⟩
def vc_law01_ClockContradictions (J : Inv) (cs : List ByteArray) (ls : List Lnk) (post : DV → Prop) : Prop := (txP cs.length (txsC cs) ∧ numsP 4 ls.length (lnksC ls)) ∧ ((cond (!(fwL (txOf cs.length (txsC cs)) (listC ls.length mkLnk (lnksC ls)))) ((true = true) ∧ (True)) (cond (decide (((ls.length : Nat) : Int) > (8 : Int))) ((txP cs.length (txsC cs) ∧ numsP 4 ls.length (lnksC ls) ∧ (∀ k, k < ((txOf cs.length (txsC cs))).length → (txAt (txOf cs.length (txsC cs)) k).size ≤ 1000000)) ∧ (True)) ((false = false) ∧ (True)))) ∧ (lt ((bif (!(fwL (txOf cs.length (txsC cs)) (listC ls.length mkLnk (lnksC ls)))) then true else (bif decide (((ls.length : Nat) : Int) > (8 : Int)) then ((ntE (txOf cs.length (txsC cs)) (listC ls.length mkLnk (lnksC ls))) == (0 : Int)) else false))) fun x1 => cond x1 (post (.t (.c (.v (.bool true))))) ((txP cs.length (txsC cs) ∧ numsP 4 ls.length (lnksC ls) ∧ ((txOf cs.length (txsC cs))).length ≤ 1000 ∧ ((listC ls.length mkLnk (lnksC ls))).length ≤ 1000) ∧ ((txP ((txOf cs.length (txsC cs)).length) (txsC (txOf cs.length (txsC cs))) ∧ numsP 4 ((listC ls.length mkLnk (lnksC ls)).length) (lnksC (listC ls.length mkLnk (lnksC ls))) ∧ (∀ k, k < ((txOf ((txOf cs.length (txsC cs)).length) (txsC (txOf cs.length (txsC cs))))).length → (txAt (txOf ((txOf cs.length (txsC cs)).length) (txsC (txOf cs.length (txsC cs)))) k).size ≤ 1000000)) ∧ ((txP cs.length (txsC cs) ∧ numsP 4 ls.length (lnksC ls) ∧ ((txOf cs.length (txsC cs))).length ≤ 1000 ∧ ((listC ls.length mkLnk (lnksC ls))).length ≤ 1000) ∧ ((txP ((txOf cs.length (txsC cs)).length) (txsC (txOf cs.length (txsC cs))) ∧ numsP 4 ((listC ls.length mkLnk (lnksC ls)).length) (lnksC (listC ls.length mkLnk (lnksC ls))) ∧ ∀ k, k < (txOf ((txOf cs.length (txsC cs)).length) (txsC (txOf cs.length (txsC cs)))).length → (txAt (txOf ((txOf cs.length (txsC cs)).length) (txsC (txOf cs.length (txsC cs)))) k).size ≤ 1000000) ∧ ((txP cs.length (txsC cs) ∧ numsP 4 ls.length (lnksC ls) ∧ (∀ k, k < ((txOf cs.length (txsC cs))).length → (txAt (txOf cs.length (txsC cs)) k).size ≤ 1000000)) ∧ (cond ((ntE (txOf cs.length (txsC cs)) (listC ls.length mkLnk (lnksC ls))) != (0 : Int)) ((cond ((cnE (txOf ((txOf cs.length (txsC cs)).length) (txsC (txOf cs.length (txsC cs)))) (listC ((listC ls.length mkLnk (lnksC ls)).length) mkLnk (lnksC (listC ls.length mkLnk (lnksC ls))))) == (ntE (txOf cs.length (txsC cs)) (listC ls.length mkLnk (lnksC ls)))) (cond ((((cnV (txOf ((txOf cs.length (txsC cs)).length) (txsC (txOf cs.length (txsC cs)))) (listC ((listC ls.length mkLnk (lnksC ls)).length) mkLnk (lnksC (listC ls.length mkLnk (lnksC ls))))).length : Nat) : Int) == (0 : Int)) (cond ((nmdE (txOf ((txOf cs.length (txsC cs)).length) (txsC (txOf cs.length (txsC cs)))) (listC ((listC ls.length mkLnk (lnksC ls)).length) mkLnk (lnksC (listC ls.length mkLnk (lnksC ls))))) == (ntE (txOf cs.length (txsC cs)) (listC ls.length mkLnk (lnksC ls)))) (True) ((false = false) ∧ (True))) ((false = false) ∧ ((false = false) ∧ (True)))) ((false = false) ∧ ((false = false) ∧ ((false = false) ∧ (True))))) ∧ (lt ((bif ((cnE (txOf ((txOf cs.length (txsC cs)).length) (txsC (txOf cs.length (txsC cs)))) (listC ((listC ls.length mkLnk (lnksC ls)).length) mkLnk (lnksC (listC ls.length mkLnk (lnksC ls))))) == (ntE (txOf cs.length (txsC cs)) (listC ls.length mkLnk (lnksC ls)))) then (bif ((((cnV (txOf ((txOf cs.length (txsC cs)).length) (txsC (txOf cs.length (txsC cs)))) (listC ((listC ls.length mkLnk (lnksC ls)).length) mkLnk (lnksC (listC ls.length mkLnk (lnksC ls))))).length : Nat) : Int) == (0 : Int)) then (bif ((nmdE (txOf ((txOf cs.length (txsC cs)).length) (txsC (txOf cs.length (txsC cs)))) (listC ((listC ls.length mkLnk (lnksC ls)).length) mkLnk (lnksC (listC ls.length mkLnk (lnksC ls))))) == (ntE (txOf cs.length (txsC cs)) (listC ls.length mkLnk (lnksC ls)))) then (((nmdT (txOf ((txOf cs.length (txsC cs)).length) (txsC (txOf cs.length (txsC cs)))) (listC ((listC ls.length mkLnk (lnksC ls)).length) mkLnk (lnksC (listC ls.length mkLnk (lnksC ls))))) : ByteArray).toList == (⟨#[]⟩ : ByteArray).toList) else false) else false) else false)) fun x2 => post (.t (.c (.v (.bool x2)))))) ((txP cs.length (txsC cs) ∧ numsP 4 ls.length (lnksC ls) ∧ ntE (txOf cs.length (txsC cs)) (listC ls.length mkLnk (lnksC ls)) = 0) ∧ ((cond ((cnG (listC ls.length mkLnk (lnksC ls)) ((txOf cs.length (txsC cs))).length).2) (cond ((cnE (txOf ((txOf cs.length (txsC cs)).length) (txsC (txOf cs.length (txsC cs)))) (listC ((listC ls.length mkLnk (lnksC ls)).length) mkLnk (lnksC (listC ls.length mkLnk (lnksC ls))))) != (0 : Int)) ((true = true) ∧ ((true = true) ∧ (True))) ((numsP 1 ((cnV (txOf ((txOf cs.length (txsC cs)).length) (txsC (txOf cs.length (txsC cs)))) (listC ((listC ls.length mkLnk (lnksC ls)).length) mkLnk (lnksC (listC ls.length mkLnk (lnksC ls))))).length) (intsC (cnV (txOf ((txOf cs.length (txsC cs)).length) (txsC (txOf cs.length (txsC cs)))) (listC ((listC ls.length mkLnk (lnksC ls)).length) mkLnk (lnksC (listC ls.length mkLnk (lnksC ls)))))) ∧ numsP 1 (((cnG (listC ls.length mkLnk (lnksC ls)) ((txOf cs.length (txsC cs))).length).1).length) (intsC ((cnG (listC ls.length mkLnk (lnksC ls)) ((txOf cs.length (txsC cs))).length).1)) ∧ ((listC ((cnV (txOf ((txOf cs.length (txsC cs)).length) (txsC (txOf cs.length (txsC cs)))) (listC ((listC ls.length mkLnk (lnksC ls)).length) mkLnk (lnksC (listC ls.length mkLnk (lnksC ls))))).length) mkInt (intsC (cnV (txOf ((txOf cs.length (txsC cs)).length) (txsC (txOf cs.length (txsC cs)))) (listC ((listC ls.length mkLnk (lnksC ls)).length) mkLnk (lnksC (listC ls.length mkLnk (lnksC ls)))))))).length ≤ 1000000) ∧ (cond (!(decide ((listC ((cnV (txOf ((txOf cs.length (txsC cs)).length) (txsC (txOf cs.length (txsC cs)))) (listC ((listC ls.length mkLnk (lnksC ls)).length) mkLnk (lnksC (listC ls.length mkLnk (lnksC ls))))).length) mkInt (intsC (cnV (txOf ((txOf cs.length (txsC cs)).length) (txsC (txOf cs.length (txsC cs)))) (listC ((listC ls.length mkLnk (lnksC ls)).length) mkLnk (lnksC (listC ls.length mkLnk (lnksC ls))))))) = (listC (((cnG (listC ls.length mkLnk (lnksC ls)) ((txOf cs.length (txsC cs))).length).1).length) mkInt (intsC ((cnG (listC ls.length mkLnk (lnksC ls)) ((txOf cs.length (txsC cs))).length).1)))))) ((true = true) ∧ (True)) (cond (!((cnG (listC ls.length mkLnk (lnksC ls)) ((txOf cs.length (txsC cs))).length).2)) (cond ((cnE (txOf ((txOf cs.length (txsC cs)).length) (txsC (txOf cs.length (txsC cs)))) (listC ((listC ls.length mkLnk (lnksC ls)).length) mkLnk (lnksC (listC ls.length mkLnk (lnksC ls))))) != (12 : Int)) ((true = true) ∧ (True)) (True)) ((false = false) ∧ (True)))))) ((false = false) ∧ (cond (!((cnG (listC ls.length mkLnk (lnksC ls)) ((txOf cs.length (txsC cs))).length).2)) (cond ((cnE (txOf ((txOf cs.length (txsC cs)).length) (txsC (txOf cs.length (txsC cs)))) (listC ((listC ls.length mkLnk (lnksC ls)).length) mkLnk (lnksC (listC ls.length mkLnk (lnksC ls))))) != (12 : Int)) ((true = true) ∧ (True)) (True)) ((false = false) ∧ (True))))) ∧ (lt ((bif (cnG (listC ls.length mkLnk (lnksC ls)) ((txOf cs.length (txsC cs))).length).2 then (bif ((cnE (txOf ((txOf cs.length (txsC cs)).length) (txsC (txOf cs.length (txsC cs)))) (listC ((listC ls.length mkLnk (lnksC ls)).length) mkLnk (lnksC (listC ls.length mkLnk (lnksC ls))))) != (0 : Int)) then true else (bif (!(decide ((listC ((cnV (txOf ((txOf cs.length (txsC cs)).length) (txsC (txOf cs.length (txsC cs)))) (listC ((listC ls.length mkLnk (lnksC ls)).length) mkLnk (lnksC (listC ls.length mkLnk (lnksC ls))))).length) mkInt (intsC (cnV (txOf ((txOf cs.length (txsC cs)).length) (txsC (txOf cs.length (txsC cs)))) (listC ((listC ls.length mkLnk (lnksC ls)).length) mkLnk (lnksC (listC ls.length mkLnk (lnksC ls))))))) = (listC (((cnG (listC ls.length mkLnk (lnksC ls)) ((txOf cs.length (txsC cs))).length).1).length) mkInt (intsC ((cnG (listC ls.length mkLnk (lnksC ls)) ((txOf cs.length (txsC cs))).length).1)))))) then true else (bif (!((cnG (listC ls.length mkLnk (lnksC ls)) ((txOf cs.length (txsC cs))).length).2)) then (bif ((cnE (txOf ((txOf cs.length (txsC cs)).length) (txsC (txOf cs.length (txsC cs)))) (listC ((listC ls.length mkLnk (lnksC ls)).length) mkLnk (lnksC (listC ls.length mkLnk (lnksC ls))))) != (12 : Int)) then true else ((((cnV (txOf ((txOf cs.length (txsC cs)).length) (txsC (txOf cs.length (txsC cs)))) (listC ((listC ls.length mkLnk (lnksC ls)).length) mkLnk (lnksC (listC ls.length mkLnk (lnksC ls))))).length : Nat) : Int) != (0 : Int))) else false))) else (bif (!((cnG (listC ls.length mkLnk (lnksC ls)) ((txOf cs.length (txsC cs))).length).2)) then (bif ((cnE (txOf ((txOf cs.length (txsC cs)).length) (txsC (txOf cs.length (txsC cs)))) (listC ((listC ls.length mkLnk (lnksC ls)).length) mkLnk (lnksC (listC ls.length mkLnk (lnksC ls))))) != (12 : Int)) then true else ((((cnV (txOf ((txOf cs.length (txsC cs)).length) (txsC (txOf cs.length (txsC cs)))) (listC ((listC ls.length mkLnk (lnksC ls)).length) mkLnk (lnksC (listC ls.length mkLnk (lnksC ls))))).length : Nat) : Int) != (0 : Int))) else false))) fun x3 => cond x3 (post (.t (.c (.v (.bool false))))) (∃ n, J 0 (n :: []) (mk_law01_ClockContradictions_0 cs ls 0)))))))))))))
def ann_law01_ClockContradictions : Ann := ⟨fun r => lookA r [(16, ([[], [], [0, 1], [0, 1, 2], [], [], [5], [4, 5, 6], [0, 1, 2, 3, 4, 5, 6, 7], [0, 1, 2, 3, 4, 5, 6, 7, 8]], [[103], [103], [103], [], [103], [103], [103], [103], [], []]))], fun b => lookA b [(0, (none, some ⟨[1, 5, 6, 8, 10], [1], []⟩))], fun _ => [], I1, false, fun r => lookA r [(3, (4, [31])), (9, (4, [2])), (11, (2, [93])), (21, (2, [2]))], fun _ => none⟩
theorem ev_law01_ClockContradictions (J : Inv) (cs : List ByteArray) (ls : List Lnk) (post : DV → Prop) : evFn Try.prog tab Sck119 ann_law01_ClockContradictions J Try.f13 [.t (.a [.sl 1 cs.length (txsC cs), .sl 4 ls.length (lnksC ls)])] post = vc_law01_ClockContradictions J cs ls post := by kernel_rfl
theorem fit_law01_ClockContradictions : okFn ann_law01_ClockContradictions Try.f13 = true := by kernel_rfl
def rd_law01_ClockContradictions_0 (J : Inv) (cs : List ByteArray) (ls : List Lnk) (v0_0 : Int) (nn0 : Nat) (post : DV → Prop) : Prop := cond (decide (v0_0 < ((((cnG (listC ls.length mkLnk (lnksC ls)) ((txOf cs.length (txsC cs))).length).1).length : Nat) : Int))) ((0 ≤ (0 : Int) ∧ (0 : Int) ≤ v0_0 ∧ v0_0 ≤ ((((cnG (listC ls.length mkLnk (lnksC ls)) ((txOf cs.length (txsC cs))).length).1).length : Nat) : Int)) ∧ ((numsP 1 ((v0_0 - (0 : Int)).toNat) (fun i j => (intsC ((cnG (listC ls.length mkLnk (lnksC ls)) ((txOf cs.length (txsC cs))).length).1)) (((0 : Int)).toNat + i) j) ∧ ((listC ((v0_0 - (0 : Int)).toNat) mkInt (fun i j => (intsC ((cnG (listC ls.length mkLnk (lnksC ls)) ((txOf cs.length (txsC cs))).length).1)) (((0 : Int)).toNat + i) j))).length ≤ 1000) ∧ (lt (IntKind.i64.wrap (v0_0 + (1 : Int))) fun x1 => (0 ≤ x1 ∧ x1 ≤ ((((cnG (listC ls.length mkLnk (lnksC ls)) ((txOf cs.length (txsC cs))).length).1).length : Nat) : Int) ∧ ((((cnG (listC ls.length mkLnk (lnksC ls)) ((txOf cs.length (txsC cs))).length).1).length : Nat) : Int) ≤ ((((cnG (listC ls.length mkLnk (lnksC ls)) ((txOf cs.length (txsC cs))).length).1).length : Nat) : Int)) ∧ ((roomP 8 (((listC ((v0_0 - (0 : Int)).toNat) mkInt (fun i j => (intsC ((cnG (listC ls.length mkLnk (lnksC ls)) ((txOf cs.length (txsC cs))).length).1)) (((0 : Int)).toNat + i) j)).map fun n => [CV.v (.int .i64 n)]).length + ((List.range ((((((cnG (listC ls.length mkLnk (lnksC ls)) ((txOf cs.length (txsC cs))).length).1).length : Nat) : Int) - x1).toNat)).map fun i => fwd ((fun i j => (intsC ((cnG (listC ls.length mkLnk (lnksC ls)) ((txOf cs.length (txsC cs))).length).1)) ((x1).toNat + i) j) i) 0 1).length)) ∧ ((numsP 4 ls.length (lnksC ls) ∧ numsP 1 ((((listC ((v0_0 - (0 : Int)).toNat) mkInt (fun i j => (intsC ((cnG (listC ls.length mkLnk (lnksC ls)) ((txOf cs.length (txsC cs))).length).1)) (((0 : Int)).toNat + i) j)).map fun n => [CV.v (.int .i64 n)]) ++ ((List.range ((((((cnG (listC ls.length mkLnk (lnksC ls)) ((txOf cs.length (txsC cs))).length).1).length : Nat) : Int) - x1).toNat)).map fun i => fwd ((fun i j => (intsC ((cnG (listC ls.length mkLnk (lnksC ls)) ((txOf cs.length (txsC cs))).length).1)) ((x1).toNat + i) j) i) 0 1)).length) (genC (((listC ((v0_0 - (0 : Int)).toNat) mkInt (fun i j => (intsC ((cnG (listC ls.length mkLnk (lnksC ls)) ((txOf cs.length (txsC cs))).length).1)) (((0 : Int)).toNat + i) j)).map fun n => [CV.v (.int .i64 n)]) ++ ((List.range ((((((cnG (listC ls.length mkLnk (lnksC ls)) ((txOf cs.length (txsC cs))).length).1).length : Nat) : Int) - x1).toNat)).map fun i => fwd ((fun i j => (intsC ((cnG (listC ls.length mkLnk (lnksC ls)) ((txOf cs.length (txsC cs))).length).1)) ((x1).toNat + i) j) i) 0 1))) ∧ clOk cs.length (listC ls.length mkLnk (lnksC ls)) (listC ((((listC ((v0_0 - (0 : Int)).toNat) mkInt (fun i j => (intsC ((cnG (listC ls.length mkLnk (lnksC ls)) ((txOf cs.length (txsC cs))).length).1)) (((0 : Int)).toNat + i) j)).map fun n => [CV.v (.int .i64 n)]) ++ ((List.range ((((((cnG (listC ls.length mkLnk (lnksC ls)) ((txOf cs.length (txsC cs))).length).1).length : Nat) : Int) - x1).toNat)).map fun i => fwd ((fun i j => (intsC ((cnG (listC ls.length mkLnk (lnksC ls)) ((txOf cs.length (txsC cs))).length).1)) ((x1).toNat + i) j) i) 0 1)).length) mkInt (genC (((listC ((v0_0 - (0 : Int)).toNat) mkInt (fun i j => (intsC ((cnG (listC ls.length mkLnk (lnksC ls)) ((txOf cs.length (txsC cs))).length).1)) (((0 : Int)).toNat + i) j)).map fun n => [CV.v (.int .i64 n)]) ++ ((List.range ((((((cnG (listC ls.length mkLnk (lnksC ls)) ((txOf cs.length (txsC cs))).length).1).length : Nat) : Int) - x1).toNat)).map fun i => fwd ((fun i j => (intsC ((cnG (listC ls.length mkLnk (lnksC ls)) ((txOf cs.length (txsC cs))).length).1)) ((x1).toNat + i) j) i) 0 1))))) ∧ (cond (!(clO (listC ls.length mkLnk (lnksC ls)) (listC ((((listC ((v0_0 - (0 : Int)).toNat) mkInt (fun i j => (intsC ((cnG (listC ls.length mkLnk (lnksC ls)) ((txOf cs.length (txsC cs))).length).1)) (((0 : Int)).toNat + i) j)).map fun n => [CV.v (.int .i64 n)]) ++ ((List.range ((((((cnG (listC ls.length mkLnk (lnksC ls)) ((txOf cs.length (txsC cs))).length).1).length : Nat) : Int) - x1).toNat)).map fun i => fwd ((fun i j => (intsC ((cnG (listC ls.length mkLnk (lnksC ls)) ((txOf cs.length (txsC cs))).length).1)) ((x1).toNat + i) j) i) 0 1)).length) mkInt (genC (((listC ((v0_0 - (0 : Int)).toNat) mkInt (fun i j => (intsC ((cnG (listC ls.length mkLnk (lnksC ls)) ((txOf cs.length (txsC cs))).length).1)) (((0 : Int)).toNat + i) j)).map fun n => [CV.v (.int .i64 n)]) ++ ((List.range ((((((cnG (listC ls.length mkLnk (lnksC ls)) ((txOf cs.length (txsC cs))).length).1).length : Nat) : Int) - x1).toNat)).map fun i => fwd ((fun i j => (intsC ((cnG (listC ls.length mkLnk (lnksC ls)) ((txOf cs.length (txsC cs))).length).1)) ((x1).toNat + i) j) i) 0 1)))) cs.length)) (post (.t (.c (.v (.bool false))))) (lt (IntKind.i64.wrap (v0_0 + (1 : Int))) fun x2 => J 0 (nn0 :: []) (mk_law01_ClockContradictions_0 cs ls x2)))))))) ((txP cs.length (txsC cs) ∧ numsP 4 ls.length (lnksC ls) ∧ ntE (txOf cs.length (txsC cs)) (listC ls.length mkLnk (lnksC ls)) = 0) ∧ ((cond (nmB (txOf cs.length (txsC cs)) (listC ls.length mkLnk (lnksC ls))) (cond ((nmdE (txOf ((txOf cs.length (txsC cs)).length) (txsC (txOf cs.length (txsC cs)))) (listC ((listC ls.length mkLnk (lnksC ls)).length) mkLnk (lnksC (listC ls.length mkLnk (lnksC ls))))) == (0 : Int)) (cond (((nmdT (txOf ((txOf cs.length (txsC cs)).length) (txsC (txOf cs.length (txsC cs)))) (listC ((listC ls.length mkLnk (lnksC ls)).length) mkLnk (lnksC (listC ls.length mkLnk (lnksC ls))))) : ByteArray).toList == ((nmS (txOf cs.length (txsC cs)) (listC ls.length mkLnk (lnksC ls))) : ByteArray).toList) ((true = true) ∧ (True)) (cond (!(nmB (txOf cs.length (txsC cs)) (listC ls.length mkLnk (lnksC ls)))) (cond ((nmdE (txOf ((txOf cs.length (txsC cs)).length) (txsC (txOf cs.length (txsC cs)))) (listC ((listC ls.length mkLnk (lnksC ls)).length) mkLnk (lnksC (listC ls.length mkLnk (lnksC ls))))) == (12 : Int)) (True) ((false = false) ∧ (True))) ((false = false) ∧ ((false = false) ∧ (True))))) ((false = false) ∧ (cond (!(nmB (txOf cs.length (txsC cs)) (listC ls.length mkLnk (lnksC ls)))) (cond ((nmdE (txOf ((txOf cs.length (txsC cs)).length) (txsC (txOf cs.length (txsC cs)))) (listC ((listC ls.length mkLnk (lnksC ls)).length) mkLnk (lnksC (listC ls.length mkLnk (lnksC ls))))) == (12 : Int)) (True) ((false = false) ∧ (True))) ((false = false) ∧ ((false = false) ∧ (True)))))) ((false = false) ∧ ((false = false) ∧ (cond (!(nmB (txOf cs.length (txsC cs)) (listC ls.length mkLnk (lnksC ls)))) (cond ((nmdE (txOf ((txOf cs.length (txsC cs)).length) (txsC (txOf cs.length (txsC cs)))) (listC ((listC ls.length mkLnk (lnksC ls)).length) mkLnk (lnksC (listC ls.length mkLnk (lnksC ls))))) == (12 : Int)) (True) ((false = false) ∧ (True))) ((false = false) ∧ ((false = false) ∧ (True))))))) ∧ (lt ((bif nmB (txOf cs.length (txsC cs)) (listC ls.length mkLnk (lnksC ls)) then (bif ((nmdE (txOf ((txOf cs.length (txsC cs)).length) (txsC (txOf cs.length (txsC cs)))) (listC ((listC ls.length mkLnk (lnksC ls)).length) mkLnk (lnksC (listC ls.length mkLnk (lnksC ls))))) == (0 : Int)) then (bif (((nmdT (txOf ((txOf cs.length (txsC cs)).length) (txsC (txOf cs.length (txsC cs)))) (listC ((listC ls.length mkLnk (lnksC ls)).length) mkLnk (lnksC (listC ls.length mkLnk (lnksC ls))))) : ByteArray).toList == ((nmS (txOf cs.length (txsC cs)) (listC ls.length mkLnk (lnksC ls))) : ByteArray).toList) then true else (bif (!(nmB (txOf cs.length (txsC cs)) (listC ls.length mkLnk (lnksC ls)))) then (bif ((nmdE (txOf ((txOf cs.length (txsC cs)).length) (txsC (txOf cs.length (txsC cs)))) (listC ((listC ls.length mkLnk (lnksC ls)).length) mkLnk (lnksC (listC ls.length mkLnk (lnksC ls))))) == (12 : Int)) then (((nmdT (txOf ((txOf cs.length (txsC cs)).length) (txsC (txOf cs.length (txsC cs)))) (listC ((listC ls.length mkLnk (lnksC ls)).length) mkLnk (lnksC (listC ls.length mkLnk (lnksC ls))))) : ByteArray).toList == (⟨#[]⟩ : ByteArray).toList) else false) else false)) else (bif (!(nmB (txOf cs.length (txsC cs)) (listC ls.length mkLnk (lnksC ls)))) then (bif ((nmdE (txOf ((txOf cs.length (txsC cs)).length) (txsC (txOf cs.length (txsC cs)))) (listC ((listC ls.length mkLnk (lnksC ls)).length) mkLnk (lnksC (listC ls.length mkLnk (lnksC ls))))) == (12 : Int)) then (((nmdT (txOf ((txOf cs.length (txsC cs)).length) (txsC (txOf cs.length (txsC cs)))) (listC ((listC ls.length mkLnk (lnksC ls)).length) mkLnk (lnksC (listC ls.length mkLnk (lnksC ls))))) : ByteArray).toList == (⟨#[]⟩ : ByteArray).toList) else false) else false)) else (bif (!(nmB (txOf cs.length (txsC cs)) (listC ls.length mkLnk (lnksC ls)))) then (bif ((nmdE (txOf ((txOf cs.length (txsC cs)).length) (txsC (txOf cs.length (txsC cs)))) (listC ((listC ls.length mkLnk (lnksC ls)).length) mkLnk (lnksC (listC ls.length mkLnk (lnksC ls))))) == (12 : Int)) then (((nmdT (txOf ((txOf cs.length (txsC cs)).length) (txsC (txOf cs.length (txsC cs)))) (listC ((listC ls.length mkLnk (lnksC ls)).length) mkLnk (lnksC (listC ls.length mkLnk (lnksC ls))))) : ByteArray).toList == (⟨#[]⟩ : ByteArray).toList) else false) else false))) fun x3 => post (.t (.c (.v (.bool x3)))))))
theorem er_law01_ClockContradictions_0 (J : Inv) (cs : List ByteArray) (ls : List Lnk) (v0_0 : Int) (nn0 : Nat) (post : DV → Prop) : round Try.prog tab Sck119 ann_law01_ClockContradictions J Try.f13 post 0 (nn0 :: []) (mk_law01_ClockContradictions_0 cs ls v0_0) = rd_law01_ClockContradictions_0 J cs ls v0_0 nn0 post := by kernel_rfl
theorem lp_law01_ClockContradictions (J : Inv) (post : DV → Prop) : AllG J (loopsFn Try.prog tab Sck119 ann_law01_ClockContradictions J Try.f13 post) = (((∀ F s, ¬ J 0 (0 :: F) s) ∧ ∀ n F s, J 0 ((n + 1) :: F) s → round Try.prog tab Sck119 ann_law01_ClockContradictions J Try.f13 post 0 (n :: F) s) ∧ True) := by kernel_rfl
def J_law01_ClockContradictions (cs : List ByteArray) (ls : List Lnk) : Inv := fun b F s => match b, F with
 | 0, [nn0] => ∃ (v0_0 : Int), s = mk_law01_ClockContradictions_0 cs ls v0_0 ∧ ((ntE cs ls = 0 ∧ fwL cs ls = true) ∧ 0 ≤ v0_0 ∧ v0_0 ≤ (cnG ls cs.length).1.length ∧ (nn0 : Int) + v0_0 = (cnG ls cs.length).1.length + 1)
 | _, _ => False
set_option maxHeartbeats 8000000 in
set_option maxRecDepth 100000 in
theorem rnd_law01_ClockContradictions_0 (cs : List ByteArray) (ls : List Lnk) (v0_0 : Int) (nn0 : Nat) (hi : (ntE cs ls = 0 ∧ fwL cs ls = true) ∧ 0 ≤ v0_0 ∧ v0_0 ≤ (cnG ls cs.length).1.length ∧ ((nn0 + 1) : Int) + v0_0 = (cnG ls cs.length).1.length + 1) : rd_law01_ClockContradictions_0 (J_law01_ClockContradictions cs ls) cs ls v0_0 nn0 (fun r => LeD r (.t (.c (.v (.bool true))))) := by
 obtain ⟨⟨q1, q2⟩, i1, i2, i3⟩ := hi
 obtain ⟨k, rfl⟩ : ∃ k : Nat, v0_0 = k := ⟨v0_0.toNat, by omega⟩
 have hk : (k : Int).toNat = k := rfl
 obtain ⟨f1, f2, f3⟩ := fwL_ok q2
 have n1 := txP_txs cs
 have n2 := numsP_lnks ls
 have z := ntE_bd q1
 obtain ⟨⟨z1, z2⟩, z3, z4⟩ := z
 rw [Int.toNat_natCast] at z4
 have hn : cs.length ≤ 6 := by omega
 unfold rd_law01_ClockContradictions_0
 simp only [ints_listC, lpps_listC, pngs_listC, rgs_listC, txs_of, lnks_listC]
 have hl := (cn_len q1).2
 generalize hg : (cnG ls cs.length).1 = g at *
 refine cond_i (fun h => ?_) (fun h => ?_)
 ·have hlt : k < g.length := by have := of_decide_eq_true h; omega
  have ht : (cnG ls cs.length).2 = true := by
   rcases cn_cases q1 with ⟨b1, _⟩ | ⟨_, _, _, b4⟩
   ·exact b1
   ·rw [hg] at b4; rw [b4] at hlt; exact absurd hlt (by simp)
  obtain ⟨l1, l2, l3⟩ := cnG_least ht
  rw [hg] at l1 l2 l3
  have e1 : listC ((k : Int) - (0 : Int)).toNat mkInt (fun i j => intsC g ((0 : Int).toNat + i) j) = g.take k := by
   rw [show ((k : Int) - (0 : Int)).toNat = k by omega, ints_part g (by have : (0 : Int).toNat = 0 := rfl; omega)]
   rfl
  have p1 : numsP 1 ((k : Int) - (0 : Int)).toNat (fun i j => intsC g ((0 : Int).toNat + i) j) := fun i j _ _ => rfl
  refine ⟨by omega, ⟨p1, ?_⟩, lt_i fun x hx => ?_⟩
  ·rw [e1]; simp; omega
  rw [wi (by omega)] at hx
  subst hx
  have e2 : ((List.range ((g.length : Int) - ((k : Int) + 1)).toNat).map fun i => fwd ((fun i j => intsC g (((k : Int) + 1).toNat + i) j) i) 0 1) = (g.drop (k + 1)).map fun n => [CV.v (.int .i64 n)] := by
   rw [show ((g.length : Int) - ((k : Int) + 1)).toNat = g.length - (k + 1) by omega, show ((k : Int) + 1).toNat = k + 1 by omega, ints_partR g (by omega), List.take_of_length_le (by simp)]
  rw [e1]
  simp only [e2, ← List.map_append, intg_listC]
  have rg := (l1.erase k).rg
  have lt := l3 k hlt
  refine ⟨by omega, ?_, ⟨n2, numsP_intg _, ⟨by omega, by omega⟩, ⟨by omega, by simp; omega⟩, z4, rg⟩, ?_⟩
  ·unfold roomP maxLen; simp; omega
  rw [agree_cl hn z4 rg, lt]
  simp only [n00, beq_self_eq_true, bne_self_eq_false, Bool.not_true, Bool.not_false, _root_.cond_true, _root_.cond_false, decide_true, eq_self_iff_true, List.length_nil, lt_v, q2a, q2b, q12a, q12b, q13a, q13b, wr00, nums_ints, nums_ints, t12_0, t0_0, k0_12, k12_12, k12_0]
  rw [wi (by omega)]
  exact ⟨_, rfl, ⟨q1, q2⟩, by omega, by rw [hg]; omega, by rw [hg]; omega⟩
 ·have h := of_decide_eq_false h
  rcases nmd_cases q1 with ⟨b1, b2, b3⟩ | ⟨b1, b2, b3⟩
  ·simp only [b1, b2, b3, n00, beq_self_eq_true, bne_self_eq_false, Bool.not_true, Bool.not_false, _root_.cond_true, _root_.cond_false, decide_true, eq_self_iff_true, List.length_nil, lt_v, q2a, q2b, q12a, q12b, q13a, q13b, wr00, nums_ints, nums_ints, t12_0, t0_0, k0_12, k12_12, k12_0]
   (repeat' with_reducible first | assumption | trivial | (refine And.intro ?_ ?_))
   all_goals first | omega | exact LeD.refl _ | exact leB rfl | exact numsP_ints _
  ·simp only [b1, b2, b3, n00, beq_self_eq_true, bne_self_eq_false, Bool.not_true, Bool.not_false, _root_.cond_true, _root_.cond_false, decide_true, eq_self_iff_true, List.length_nil, lt_v, q2a, q2b, q12a, q12b, q13a, q13b, wr00, nums_ints, nums_ints, t12_0, t0_0, k0_12, k12_12, k12_0]
   (repeat' with_reducible first | assumption | trivial | (refine And.intro ?_ ?_))
   all_goals first | omega | exact LeD.refl _ | exact leB rfl | exact numsP_ints _
theorem zero_law01_ClockContradictions_0 (cs : List ByteArray) (ls : List Lnk) (v0_0 : Int)  (hi : (ntE cs ls = 0 ∧ fwL cs ls = true) ∧ 0 ≤ v0_0 ∧ v0_0 ≤ (cnG ls cs.length).1.length ∧ (0 : Int) + v0_0 = (cnG ls cs.length).1.length + 1) : False := by
 omega
set_option maxHeartbeats 8000000 in
set_option maxRecDepth 100000 in
theorem spec_law01_ClockContradictions (cs : List ByteArray) (ls : List Lnk) : vc_law01_ClockContradictions (J_law01_ClockContradictions cs ls) cs ls (fun r => LeD r (.t (.c (.v (.bool true))))) := by
 unfold vc_law01_ClockContradictions
 simp only [ints_listC, lpps_listC, pngs_listC, rgs_listC, txs_of, lnks_listC]
 have n1 := txP_txs cs
 have n2 := numsP_lnks ls
 cases hf : fwL cs ls with
 | false =>
  simp only [n00, beq_self_eq_true, bne_self_eq_false, Bool.not_true, Bool.not_false, _root_.cond_true, _root_.cond_false, decide_true, eq_self_iff_true, List.length_nil, lt_v, q2a, q2b, q12a, q12b, q13a, q13b, wr00, nums_ints, nums_ints, t12_0, t0_0, k0_12, k12_12, k12_0]
  (repeat' with_reducible first | assumption | trivial | (refine And.intro ?_ ?_))
  all_goals first | omega | exact LeD.refl _ | exact leB rfl | exact numsP_ints _
 | true =>
 obtain ⟨f1, f2, f3⟩ := fwL_ok hf
 have hs : ∀ k, k < cs.length → (txAt cs k).size ≤ 1000000 := fun k hk => by have := f3 k hk; omega
 have n4 := numsP_ints (cnV cs ls)
 have n5 := numsP_ints (cnG ls cs.length).1
 by_cases hz : ntE cs ls = 0
 case neg =>
  have a1 : cnE cs ls = ntE cs ls := if_pos hz
  have a2 : cnV cs ls = [] := if_pos hz
  have a3 : nmdE cs ls = ntE cs ls := if_pos hz
  have a4 : nmdT cs ls = ⟨#[]⟩ := if_pos hz
  have a5 : (ntE cs ls != 0) = true := by simpa using hz
  have a6 : (ntE cs ls == 0) = false := by simpa using hz
  simp only [a1, a2, a3, a4, a5, a6, ite_self, n00, beq_self_eq_true, bne_self_eq_false, Bool.not_true, Bool.not_false, _root_.cond_true, _root_.cond_false, decide_true, eq_self_iff_true, List.length_nil, lt_v, q2a, q2b, q12a, q12b, q13a, q13b, wr00, nums_ints, nums_ints, t12_0, t0_0, k0_12, k12_12, k12_0]
  cases (decide (((ls.length : Nat) : Int) > 8)) <;> simp only [n00, beq_self_eq_true, bne_self_eq_false, Bool.not_true, Bool.not_false, _root_.cond_true, _root_.cond_false, decide_true, eq_self_iff_true, List.length_nil, lt_v, q2a, q2b, q12a, q12b, q13a, q13b, wr00, nums_ints, nums_ints, t12_0, t0_0, k0_12, k12_12, k12_0] <;>
  (repeat' with_reducible first | assumption | trivial | (refine And.intro ?_ ?_))
  all_goals first | omega | exact LeD.refl _ | exact leB rfl | exact numsP_ints _
 have a5 : (ntE cs ls != 0) = false := by simpa using hz
 have a6 : (ntE cs ls == 0) = true := by simpa using hz
 by_cases h8 : ls.length ≤ 8
 case neg =>
  simp only [decide_eq_true (show ((ls.length : Nat) : Int) > 8 by omega), a6, n00, beq_self_eq_true, bne_self_eq_false, Bool.not_true, Bool.not_false, _root_.cond_true, _root_.cond_false, decide_true, eq_self_iff_true, List.length_nil, lt_v, q2a, q2b, q12a, q12b, q13a, q13b, wr00, nums_ints, nums_ints, t12_0, t0_0, k0_12, k12_12, k12_0]
  (repeat' with_reducible first | assumption | trivial | (refine And.intro ?_ ?_))
  all_goals first | omega | exact LeD.refl _ | exact leB rfl | exact numsP_ints _
 have hc : (cnV cs ls).length ≤ 1000000 ∧ ((cnG ls cs.length).1.length ≤ ls.length) := cn_len hz
 simp only [decide_eq_false (show ¬ ((ls.length : Nat) : Int) > 8 by omega), a5, n00, beq_self_eq_true, bne_self_eq_false, Bool.not_true, Bool.not_false, _root_.cond_true, _root_.cond_false, decide_true, eq_self_iff_true, List.length_nil, lt_v, q2a, q2b, q12a, q12b, q13a, q13b, wr00, nums_ints, nums_ints, t12_0, t0_0, k0_12, k12_12, k12_0]
 have hJ : ∃ n, J_law01_ClockContradictions cs ls 0 (n :: []) (mk_law01_ClockContradictions_0 cs ls 0) := ⟨(cnG ls cs.length).1.length + 1, _, rfl, ⟨hz, hf⟩, by omega, by omega, by omega⟩
 rcases cn_cases hz with ⟨b1, b2, b3⟩ | ⟨b1, b2, b3, b4⟩
 ·simp only [b1, b2, b3, n00, beq_self_eq_true, bne_self_eq_false, Bool.not_true, Bool.not_false, _root_.cond_true, _root_.cond_false, decide_true, eq_self_iff_true, List.length_nil, lt_v, q2a, q2b, q12a, q12b, q13a, q13b, wr00, nums_ints, nums_ints, t12_0, t0_0, k0_12, k12_12, k12_0]
  (repeat' with_reducible first | assumption | trivial | (refine And.intro ?_ ?_))
  all_goals first | omega | exact LeD.refl _ | exact leB rfl | exact numsP_ints _
 ·simp only [b1, b2, b3, b4, n00, beq_self_eq_true, bne_self_eq_false, Bool.not_true, Bool.not_false, _root_.cond_true, _root_.cond_false, decide_true, eq_self_iff_true, List.length_nil, lt_v, q2a, q2b, q12a, q12b, q13a, q13b, wr00, nums_ints, nums_ints, t12_0, t0_0, k0_12, k12_12, k12_0]
  (repeat' with_reducible first | assumption | trivial | (refine And.intro ?_ ?_))
  all_goals first | omega | exact LeD.refl _ | exact leB rfl | exact numsP_ints _
theorem all_law01_ClockContradictions (cs : List ByteArray) (ls : List Lnk) : AllG (J_law01_ClockContradictions cs ls) (loopsFn Try.prog tab Sck119 ann_law01_ClockContradictions (J_law01_ClockContradictions cs ls) Try.f13 (fun r => LeD r (.t (.c (.v (.bool true)))))) := by
 rw [lp_law01_ClockContradictions]
 refine ⟨⟨?_, ?_⟩, trivial⟩
 ·intro F s h
  obtain _ | ⟨g, F⟩ := F
  case cons => exact h.elim
  obtain ⟨w0, rfl, hi⟩ := h
  exact zero_law01_ClockContradictions_0 cs ls w0 hi
 ·intro n F s h
  obtain _ | ⟨g, F⟩ := F
  case cons => exact h.elim
  obtain ⟨w0, rfl, hi⟩ := h
  rw [er_law01_ClockContradictions_0]
  exact rnd_law01_ClockContradictions_0 cs ls _ _ hi
theorem law_law01_ClockContradictions (cs : List ByteArray) (ls : List Lnk) (W : World) (N : Nat → Prop) (vs : List Value) (h : All2 (RelD (RelF W N)) [.t (.a [.sl 1 cs.length (txsC cs), .sl 4 ls.length (lnksC ls)])] vs) : Calls Try.prog 13 vs.toArray W fun e w' => e = .returned (.bool true) ∧ Below W.heap.size W w' :=
 law_end (fn_sound mixed tabOK VSck119 (ann := ann_law01_ClockContradictions) VI1 (fn := Try.f13) (J := J_law01_ClockContradictions cs ls) (by kernel_rfl) fit_law01_ClockContradictions (args := [.t (.a [.sl 1 cs.length (txsC cs), .sl 4 ls.length (lnksC ls)])]) (post := (fun r => LeD r (.t (.c (.v (.bool true)))))) (by rw [ev_law01_ClockContradictions]; exact spec_law01_ClockContradictions cs ls) (all_law01_ClockContradictions cs ls) (Nat.le_of_ble_eq_true (by kernel_rfl)) W N vs trivial h)
end Go.Proofs.Ytkifmfmenobhnaa
set_option linter.unusedVariables false
set_option linter.unusedSimpArgs false
namespace Go.Proofs.Ytkifmfmenobhnaa
open Go.RowKit
section
variable {H : Type} {enc : TypeId × Value → H} {P : Program} {w : World} {base : Nat} {spare : Nat → Bool} {held : Bool}
theorem cell_lt {w : World} {a : Addr} {v : Value} (h : w.cell? a = some v) : a.block < w.heap.size := by
 unfold World.cell? at h
 cases e : w.heap[a.block]? with
 | none => simp [e] at h
 | some o => exact (Array.getElem?_eq_some_iff.1 e).1
theorem list_of {α : Type} (d : α) : ∀ (n : Nat) {R : Nat → α → Prop}, (∀ i, i < n → ∃ x, R i x) → ∃ l : List α, l.length = n ∧ ∀ i, i < n → R i (l.getD i d) := by
 intro n
 induction n with
 | zero => intro R _; exact ⟨[], rfl, fun i hi => absurd hi (by omega)⟩
 | succ n ih =>
  intro R h
  obtain ⟨l, hl, hr⟩ := ih (fun i hi => h i (by omega))
  obtain ⟨x, hx⟩ := h n (by omega)
  refine ⟨l ++ [x], by simp [hl], fun i hi => ?_⟩
  rcases Nat.lt_or_ge i n with h1 | h1
  ·have : (l ++ [x]).getD i d = l.getD i d := by simp [List.getD, List.getElem?_append_left (show i < l.length by omega)]
   rw [this]; exact hr i h1
  ·have e : i = n := by omega
   subst e
   have : (l ++ [x]).getD i d = x := by rw [← hl]; simp [List.getD]
   rw [this]; exact hx
theorem SlAt.congr {w : World} {v : Value} {n sz : Nat} {c d : Nat → Nat → Value} (h : SlAt w v n sz c) (e : ∀ i j, i < n → j < sz → c i j = d i j) : SlAt w v n sz d := by
 obtain ⟨ao, cap, rfl, h1, h2, h3, h4⟩ := h
 refine ⟨ao, cap, rfl, h1, h2, fun h0 => ?_, h4⟩
 obtain ⟨b, off, e1, hlt, hc⟩ := h3 h0
 exact ⟨b, off, e1, hlt, fun i j hi hj => by rw [hc i j hi hj, e i j hi hj]⟩
theorem slAt_of_trod {t e : TypeId} {sz fuel : Nat} {v : Value} {x : DataW H × List MemPlace} (ht : P.underlying t = some (.slice e)) (hc : P.cellsOf e = sz) (hsz : 0 < sz)
  (h : DataW.trod enc P w base spare held fuel t [v] = some x) :
  ∃ (n : Nat) (css : Nat → List Value), SlAt w v n sz (fun i j => (css i).getD j undef) ∧ ∀ i, i < n → (css i).length = sz ∧ ∃ m y, DataW.trod enc P w base spare held m e (css i) = some y := by
 rcases DataW.trod_slice ht h with ⟨h0, _⟩ | ⟨a, len, cap, elems, rest, m, _, h0, _, hb, hl, hm, hlen, hel, _, _⟩
 ·obtain rfl : v = .slice none 0 0 := by simpa using h0
  exact ⟨0, fun _ => [], ⟨none, 0, rfl, by simp, by simp, fun h => absurd h (by omega), fun _ => rfl⟩, fun i hi => absurd hi (by omega)⟩
 ·obtain rfl : v = .slice (some a) len cap := by simpa using h0
  have each : ∀ i, i < len → ∃ cs : List Value, w.cells? base (a.add (i * sz)) sz = some cs ∧ ∃ y, DataW.trod enc P w base spare held m e cs = some y := by
   intro i hi
   have h1 := hel i hi
   rw [hc] at h1
   have h2 : elems[i]? = some elems[i] := by simp
   rw [h2, Option.bind_eq_some_iff] at h1
   obtain ⟨cs, h3, h4⟩ := h1
   exact ⟨cs, h3, _, h4⟩
  obtain ⟨css, hcl, hcs⟩ := list_of ([] : List Value) len each
  have hcell : ∀ i j, i < len → j < sz → w.cell? ((a.add (i * sz)).add j) = some ((css.getD i []).getD j undef) := by
   intro i j hi hj
   obtain ⟨_, h2, h3⟩ := World.cells?_some (hcs i hi).1
   rw [h3 j hj]
   generalize css.getD i [] = c at h2 ⊢
   rw [List.getElem?_eq_getElem (by omega)]
   simp [List.getD, List.getElem?_eq_getElem (show j < c.length by omega)]
  refine ⟨len, fun i => css.getD i [], ⟨some a, cap, rfl, hl, hm, fun hp => ?_, fun h => by cases h⟩, fun i hi => ⟨(World.cells?_some (hcs i hi).1).2.1, m, (hcs i hi).2⟩⟩
  obtain ⟨b, off, spot⟩ := a
  have hspot : spot = none := by simpa [Addr.add] using World.cell?_spot (hcell 0 0 hp hsz)
  subst hspot
  refine ⟨b, off, rfl, by simpa [Addr.add] using cell_lt (hcell 0 0 hp hsz), fun i j hi hj => ?_⟩
  have := hcell i j hi hj
  rw [add_plain', add_plain'] at this
  exact this
end
end Go.Proofs.Ytkifmfmenobhnaa
set_option linter.unusedVariables false
set_option linter.unusedSimpArgs false
namespace Go.Proofs.Ytkifmfmenobhnaa.Ev
open Go.RowKit
inductive CK where
 | int (k : IntKind)
 | bool
 | str
 | sl (e : TypeId)
def findF (P : Program) (go : TypeId → Nat → Option CK) (j : Nat) : List Field → Option CK
 | [] => none
 | f :: l => bif Nat.ble f.offset j && Nat.blt j (f.offset + P.cellsOf f.type) then go f.type (j - f.offset) else findF P go j l
def kindAt (P : Program) : Nat → TypeId → Nat → Option CK
 | 0, _, _ => none
 | k + 1, t, j => match P.underlying t with
  | some (.int ik) => bif Nat.beq j 0 then some (.int ik) else none
  | some .bool => bif Nat.beq j 0 then some .bool else none
  | some .string => bif Nat.beq j 0 then some .str else none
  | some (.slice e) => bif Nat.beq j 0 then some (.sl e) else none
  | some (.array n e) => bif Nat.blt j (n * P.cellsOf e) then kindAt P k e (j % P.cellsOf e) else none
  | some (.struct fs) => findF P (kindAt P k) j fs.toList
  | _ => none
def kindB (P : Program) : Nat → TypeId → Bool
 | 0, _ => false
 | d + 1, t => (List.range (P.cellsOf t)).all fun j => match kindAt P 20 t j with
  | some (.sl e) => Nat.blt 0 (P.cellsOf e) && kindB P d e
  | some _ => true
  | none => false
def okK (P : Program) : Nat → CK → CV → Prop
 | _, .int ik, c => ∃ n, c = .v (.int ik n) ∧ (Lit.int ik n).wf = true
 | _, .bool, c => ∃ b, c = .v (.bool b)
 | _, .str, c => ∃ s, c = .v (.string s) ∧ s.size ≤ maxLen
 | 0, .sl e, c => False
 | d + 1, .sl e, c => ∃ n cc, c = .sl (P.cellsOf e) n cc ∧ n ≤ maxLen ∧ ∀ i j, i < n → j < P.cellsOf e → ∃ κ, kindAt P 20 e j = some κ ∧ okK P d κ (cc i j)
section
variable {H : Type} {enc : TypeId × Value → H} {P : Program} {w : World} {base : Nat} {spare : Nat → Bool} {held : Bool}
def leaf (H : Type) (enc : TypeId × Value → H) (P : Program) (w : World) (base : Nat) (spare : Nat → Bool) (held : Bool) : CK → Value → Prop
 | .int ik, u => ∃ n, u = .int ik n ∧ (Lit.int ik n).wf = true
 | .bool, u => ∃ b, u = .bool b
 | .str, u => ∃ s : ByteArray, u = .string s ∧ s.size ≤ maxLen
 | .sl e, u => ∃ t m y, P.underlying t = some (.slice e) ∧ DataW.trod enc P w base spare held m t [u] = some y
theorem leaf_of : ∀ (k : Nat) (t : TypeId) (fuel : Nat) (cs : List Value) (x : DataW H × List MemPlace) (j : Nat) (κ : CK), kindAt P k t j = some κ → DataW.trod enc P w base spare held fuel t cs = some x → ∃ u, cs[j]? = some u ∧ leaf H enc P w base spare held κ u := by
 intro k
 induction k with
 | zero => intro t fuel cs x j κ h; cases h
 | succ k ih =>
  intro t fuel cs x j κ hk h
  unfold kindAt at hk
  have zero : ∀ {κ' : CK}, (bif Nat.beq j 0 then some κ' else none) = some κ → j = 0 ∧ κ' = κ := by
   intro κ' e
   cases hb : Nat.beq j 0 with
   | false => rw [hb] at e; cases e
   | true => rw [hb] at e; cases e; exact ⟨Nat.eq_of_beq_eq_true hb, rfl⟩
  split at hk
  ·rename_i ik ht
   obtain ⟨rfl, rfl⟩ := zero hk
   obtain ⟨n, rfl, _, h2⟩ := DataW.trod_int ht h
   exact ⟨_, rfl, n, rfl, h2⟩
  ·rename_i ht
   obtain ⟨rfl, rfl⟩ := zero hk
   obtain ⟨b, rfl, _⟩ := DataW.trod_bool ht h
   exact ⟨_, rfl, b, rfl⟩
  ·rename_i ht
   obtain ⟨rfl, rfl⟩ := zero hk
   obtain ⟨s, rfl, _, h2⟩ := DataW.trod_string ht h
   exact ⟨_, rfl, s, rfl, h2⟩
  ·rename_i e ht
   obtain ⟨rfl, rfl⟩ := zero hk
   rcases DataW.trod_slice ht h with ⟨rfl, _⟩ | ⟨a, len, cap, elems, rest, m, _, rfl, _⟩
   ·exact ⟨_, rfl, t, fuel, x, ht, h⟩
   ·exact ⟨_, rfl, t, fuel, x, ht, h⟩
  ·rename_i n e ht
   cases hb : Nat.blt j (n * P.cellsOf e) with
   | false => rw [hb] at hk; cases hk
   | true =>
    rw [hb] at hk
    simp only [cond_true] at hk
    have hj : j < n * P.cellsOf e := Nat.le_of_ble_eq_true hb
    have hpos : 0 < P.cellsOf e := by
     rcases Nat.eq_zero_or_pos (P.cellsOf e) with q | q
     ·rw [q, Nat.mul_zero] at hj; omega
     ·exact q
    obtain ⟨xs, m, _, _, hl, hxs, hf⟩ := DataW.trod_array ht h
    have hi : j / P.cellsOf e < n := Nat.div_lt_of_lt_mul (by rwa [Nat.mul_comm])
    have h5 := hf _ hi
    rw [show xs[j / P.cellsOf e]? = some xs[j / P.cellsOf e] from List.getElem?_eq_getElem (by omega)] at h5
    obtain ⟨u, h6, h7⟩ := ih e _ _ _ _ _ hk h5
    refine ⟨u, ?_, h7⟩
    rw [List.getElem?_take, if_pos (Nat.mod_lt _ hpos), List.getElem?_drop] at h6
    rwa [Nat.div_add_mod' j (P.cellsOf e)] at h6
  ·rename_i fs ht
   obtain ⟨xs, m, _, _, hl, hxs, hf⟩ := DataW.trod_struct ht h
   have find : ∀ l : List Field, (∀ f ∈ l, ∃ i : Nat, fs[i]? = some f) → findF P (kindAt P k) j l = some κ → ∃ (f : Field) (i : Nat), fs[i]? = some f ∧ f.offset ≤ j ∧ j < f.offset + P.cellsOf f.type ∧ kindAt P k f.type (j - f.offset) = some κ := by
    intro l
    induction l with
    | nil => intro _ h; cases h
    | cons f l ihl =>
     intro hm h
     unfold findF at h
     cases hb : (Nat.ble f.offset j && Nat.blt j (f.offset + P.cellsOf f.type)) with
     | false => rw [hb] at h; exact ihl (fun g hg => hm g (by simp [hg])) h
     | true =>
      rw [hb] at h
      simp only [Bool.and_eq_true] at hb
      obtain ⟨i, hi⟩ := hm f (by simp)
      exact ⟨f, i, hi, Nat.le_of_ble_eq_true hb.1, Nat.le_of_ble_eq_true hb.2, h⟩
   obtain ⟨f, i, hi, h1, h2, h3⟩ := find fs.toList (fun f hf => by
    obtain ⟨i, hi, e⟩ := List.getElem_of_mem hf
    exact ⟨i, by rw [← e]; simp at hi ⊢⟩) hk
   have h5 := hf i f hi
   have hlt : i < fs.size := by
    rcases Nat.lt_or_ge i fs.size with q | q
    ·exact q
    ·rw [Array.getElem?_eq_none q] at hi; cases hi
   rw [show xs[i]? = some xs[i] from List.getElem?_eq_getElem (by omega)] at h5
   obtain ⟨u, h6, h7⟩ := ih _ _ _ _ _ _ h3 h5
   refine ⟨u, ?_, h7⟩
   rw [List.getElem?_take, if_pos (by omega), List.getElem?_drop] at h6
   rwa [show f.offset + (j - f.offset) = j by omega] at h6
  ·cases hk
theorem open_cell : ∀ (d : Nat) (t : TypeId) (fuel : Nat) (cs : List Value) (x : DataW H × List MemPlace), kindB P d t = true → DataW.trod enc P w base spare held fuel t cs = some x → ∀ j, j < P.cellsOf t → ∃ κ c u, kindAt P 20 t j = some κ ∧ cs[j]? = some u ∧ RelF w (fun _ => True) c u ∧ okK P d κ c := by
 intro d
 induction d with
 | zero => intro t fuel cs x h; cases h
 | succ d ih =>
  intro t fuel cs x hB h j hj
  have hB' := hB
  unfold kindB at hB
  have h1 := List.all_eq_true.1 hB j (List.mem_range.2 hj)
  cases hk : kindAt P 20 t j with
  | none => rw [hk] at h1; cases h1
  | some κ =>
   rw [hk] at h1
   obtain ⟨u, h2, h3⟩ := leaf_of 20 t fuel cs x j κ hk h
   cases κ with
   | int ik =>
    obtain ⟨n, rfl, hw⟩ := h3
    exact ⟨_, .v (.int ik n), _, rfl, h2, ⟨rfl, rfl⟩, by simp only [okK]; exact ⟨n, rfl, hw⟩⟩
   | bool =>
    obtain ⟨b, rfl⟩ := h3
    exact ⟨_, .v (.bool b), _, rfl, h2, ⟨rfl, rfl⟩, by simp only [okK]; exact ⟨b, rfl⟩⟩
   | str =>
    obtain ⟨s, rfl, hs⟩ := h3
    exact ⟨_, .v (.string s), _, rfl, h2, ⟨rfl, rfl⟩, by simp only [okK]; exact ⟨s, rfl, hs⟩⟩
   | sl e =>
    simp only [Bool.and_eq_true] at h1
    have hpos : 0 < P.cellsOf e := Nat.le_of_ble_eq_true h1.1
    obtain ⟨t', m, y, ht, hy⟩ := h3
    obtain ⟨n, css, ⟨ao, cap, rfl, g1, g2, g3, g4⟩, hel⟩ := slAt_of_trod ht rfl hpos hy
    have each : ∀ i j, i < n → j < P.cellsOf e → ∃ c : CV, ∃ κ u, kindAt P 20 e j = some κ ∧ (css i)[j]? = some u ∧ RelF w (fun _ => True) c u ∧ okK P d κ c := by
     intro i j hi hj
     obtain ⟨_, m', y', h6⟩ := hel i hi
     obtain ⟨κ, c, u, q⟩ := ih e m' (css i) y' h1.2 h6 j hj
     exact ⟨c, κ, u, q⟩
    classical
    let cc : Nat → Nat → CV := fun i j => if h : i < n ∧ j < P.cellsOf e then Classical.choose (each i j h.1 h.2) else .v (.bool false)
    have hcc : ∀ i j, i < n → j < P.cellsOf e → ∃ κ u, kindAt P 20 e j = some κ ∧ (css i)[j]? = some u ∧ RelF w (fun _ => True) (cc i j) u ∧ okK P d κ (cc i j) := by
     intro i j hi hj
     have : cc i j = Classical.choose (each i j hi hj) := dif_pos ⟨hi, hj⟩
     rw [this]
     exact Classical.choose_spec (each i j hi hj)
    refine ⟨_, .sl (P.cellsOf e) n cc, _, rfl, h2, ⟨ao, cap, rfl, g1, g2, g4, fun h0 => ?_⟩, by
     simp only [okK]
     exact ⟨n, cc, rfl, Nat.le_trans g1 g2, fun i j hi hj => by obtain ⟨κ, u, q1, _, _, q4⟩ := hcc i j hi hj; exact ⟨κ, q1, q4⟩⟩⟩
    obtain ⟨b, off, e1, hlt, hc⟩ := g3 h0
    refine ⟨b, off, e1, hlt, trivial, fun i j hi hj => ?_⟩
    obtain ⟨κ, u, q1, q2, q3, _⟩ := hcc i j hi hj
    refine ⟨u, ?_, q3⟩
    rw [hc i j hi hj]
    simp [List.getD, q2]
theorem open_cells {d : Nat} {t : TypeId} {fuel : Nat} {cs : List Value} {x : DataW H × List MemPlace} (hB : kindB P d t = true) (hl : cs.length = P.cellsOf t) (h : DataW.trod enc P w base spare held fuel t cs = some x) :
  ∃ l : List CV, l.length = P.cellsOf t ∧ All2 (RelF w (fun _ => True)) l cs ∧ ∀ j, j < P.cellsOf t → ∃ κ, kindAt P 20 t j = some κ ∧ okK P d κ (l.getD j (.v (.bool false))) := by
 have each := open_cell d t fuel cs x hB h
 obtain ⟨l, h1, h2⟩ := list_of (CV.v (.bool false)) (P.cellsOf t) (R := fun j c => ∃ κ u, kindAt P 20 t j = some κ ∧ cs[j]? = some u ∧ RelF w (fun _ => True) c u ∧ okK P d κ c) (fun j hj => by obtain ⟨κ, c, u, q⟩ := each j hj; exact ⟨c, κ, u, q⟩)
 refine ⟨l, h1, All2.of_get (by omega) fun i a b ha hb => ?_, fun j hj => ?_⟩
 ·have hi : i < P.cellsOf t := by
   rcases Nat.lt_or_ge i l.length with q | q
   ·omega
   ·rw [List.getElem?_eq_none q] at ha; cases ha
  obtain ⟨κ, u, _, q2, q3, _⟩ := h2 i hi
  rw [hb] at q2
  cases q2
  rw [show l.getD i (.v (.bool false)) = a by simp [List.getD, ha]] at q3
  exact q3
 ·obtain ⟨κ, u, q1, _, _, q4⟩ := h2 j hj
  exact ⟨κ, q1, q4⟩
theorem open_agg {d : Nat} {t : TypeId} {cs : Array Value} {y : DataW H} {ps : List MemPlace} (hB : kindB P d t = true) (hl : cs.size = P.cellsOf t) (h : DataW.Trod enc P w base spare held t (.agg cs) y ps) :
  ∃ l : List CV, l.length = P.cellsOf t ∧ All2 (RelF w (fun _ => True)) l cs.toList ∧ ∀ j, j < P.cellsOf t → ∃ κ, kindAt P 20 t j = some κ ∧ okK P d κ (l.getD j (.v (.bool false))) := by
 obtain ⟨fuel, hf⟩ := h
 exact open_cells hB (by simpa using hl) (by simpa [Value.cells] using hf)
end
theorem open_i64 {P : Program} {d : Nat} {t : TypeId} {j : Nat} {c : CV} (hk : kindAt P 20 t j = some (.int .i64)) (h : ∃ κ, kindAt P 20 t j = some κ ∧ okK P d κ c) : ∃ n : Int, c = .v (.int .i64 n) ∧ -9223372036854775808 ≤ n ∧ n ≤ 9223372036854775807 := by
 obtain ⟨κ, h1, h2⟩ := h
 rw [hk] at h1
 cases h1
 have h3 : ∃ n, c = .v (.int .i64 n) ∧ (Lit.int .i64 n).wf = true := by cases d <;> exact h2
 obtain ⟨n, e, hw⟩ := h3
 have := bounds_i64 hw
 exact ⟨n, e, this.1, this.2⟩
theorem open_st {P : Program} {d : Nat} {t : TypeId} {j : Nat} {c : CV} (hk : kindAt P 20 t j = some .str) (h : ∃ κ, kindAt P 20 t j = some κ ∧ okK P d κ c) : ∃ s : ByteArray, c = .v (.string s) ∧ s.size ≤ maxLen := by
 obtain ⟨κ, h1, h2⟩ := h
 rw [hk] at h1
 cases h1
 cases d <;> exact h2
theorem open_sl {P : Program} {d : Nat} {t e : TypeId} {j : Nat} {c : CV} (hk : kindAt P 20 t j = some (.sl e)) (h : ∃ κ, kindAt P 20 t j = some κ ∧ okK P (d + 1) κ c) : ∃ n cc, c = .sl (P.cellsOf e) n cc ∧ n ≤ maxLen ∧ ∀ i j, i < n → j < P.cellsOf e → ∃ κ, kindAt P 20 e j = some κ ∧ okK P d κ (cc i j) := by
 obtain ⟨κ, h1, h2⟩ := h
 rw [hk] at h1
 cases h1
 exact h2
def allI (P : Program) (e : TypeId) : Bool := (List.range (P.cellsOf e)).all fun j => match kindAt P 20 e j with
 | some (.int .i64) => true
 | _ => false
theorem nums_of {P : Program} {d : Nat} {e : TypeId} {n : Nat} {cc : Nat → Nat → CV} (hk : allI P e = true) (h : ∀ i j, i < n → j < P.cellsOf e → ∃ κ, kindAt P 20 e j = some κ ∧ okK P d κ (cc i j)) : numsP (P.cellsOf e) n cc := by
 intro i j hi hj
 have h1 := List.all_eq_true.1 hk j (List.mem_range.2 hj)
 split at h1
 ·rename_i hq
  obtain ⟨m, e1, _⟩ := open_i64 hq (h i j hi hj)
  rw [e1]; rfl
 ·cases h1
end Go.Proofs.Ytkifmfmenobhnaa.Ev
set_option linter.unusedVariables false
namespace Go.Proofs.Ytkifmfmenobhnaa
open Go.RowKit Ev
theorem txP_of {P : Program} {d : Nat} {e : TypeId} {n : Nat} {c : Nat → Nat → CV} (hk : kindAt P 20 e 0 = some .str) (hz : P.cellsOf e = 1) (f : ∀ i j, i < n → j < P.cellsOf e → ∃ κ, kindAt P 20 e j = some κ ∧ okK P d κ (c i j)) : txP n c := by
 intro i hi
 obtain ⟨s, hs, _⟩ := open_st (by rw [hk]) (f i 0 hi (by omega))
 rw [hs]; rfl
end Go.Proofs.Ytkifmfmenobhnaa