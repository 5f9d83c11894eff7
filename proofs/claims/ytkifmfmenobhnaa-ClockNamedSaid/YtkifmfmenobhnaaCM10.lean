/- Texts of this claim, together. -/
import Derived.Test.YtkifmfmenobhnaaCM9
import Derived.Test.YtkifmfmenobhnaaCM7
import Derived.ArgAppend

set_option linter.unusedVariables false
set_option linter.unusedSimpArgs false
namespace Go.Proofs.Ytkifmfmenobhnaa
open Go.RowKit Ev
def txCv (s : ByteArray) : List CV := [.v (.string s)]
theorem txs_fwd (l : List ByteArray) : ((List.range l.length).map fun i => fwd ((txsC l) i) 0 1) = l.map txCv := by
 apply List.ext_getElem?
 intro i
 by_cases hi : i < l.length
 ·simp [hi, fwd, txsC, txCv, txAt, List.getD]
 ·simp [hi]
theorem leC_txs (l : List ByteArray) : LeC1 (.sl 1 (l.map txCv).length (genC (l.map txCv))) (.sl 1 l.length (txsC l)) := by
 rw [List.length_map]
 refine leSlC fun i j hi hj => ?_
 obtain rfl : j = 0 := by omega
 refine leC_k ?_
 simp [genC, txsC, txCv, txAt, List.getD, hi]
theorem leC_lnks (l : List Lnk) : LeC1 (.sl 4 (l.map lnkCv).length (genC (l.map lnkCv))) (.sl 4 l.length (lnksC l)) := fun w N v h => le_lnks l w N v h
theorem plain_str (l : List ByteArray) (i j : Nat) : ∃ y, txsC l i j = .v y := ⟨_, rfl⟩
theorem txAt_in {l : List ByteArray} {k : Nat} (h : k < l.length) : txAt l k ∈ l := by
 rw [show txAt l k = l[k] by simp [txAt, List.getD, h]]; exact List.getElem_mem h
theorem txs_mem {l : List ByteArray} {s : ByteArray} (h : s ∈ l) : ∃ j, j < l.length ∧ txAt l j = s := by
 obtain ⟨j, hj, e⟩ := List.mem_iff_getElem.1 h
 exact ⟨j, hj, by simp [txAt, List.getD, hj, e]⟩
theorem stepK_le (f : Nat → Nat → Int) (k i j x y : Nat) : stepK f k i j x y ≤ f x y := by
 unfold stepK
 split
 ·unfold updI
  split
  ·rename_i h; rw [h.1, h.2]; omega
  ·omega
 ·omega
theorem jK_le (f : Nat → Nat → Int) (k i : Nat) : ∀ j x y, jK f k i j x y ≤ f x y := by
 intro j
 induction j with
 | zero => intro x y; exact Int.le_refl _
 | succ j ih => intro x y; exact Int.le_trans (stepK_le _ k i j x y) (ih x y)
theorem iK_le (f : Nat → Nat → Int) (n k : Nat) : ∀ i x y, iK f n k i x y ≤ f x y := by
 intro i
 induction i with
 | zero => intro x y; exact Int.le_refl _
 | succ i ih => intro x y; exact Int.le_trans (jK_le _ k i n x y) (ih x y)
theorem kK_le (f : Nat → Nat → Int) (n : Nat) : ∀ k x y, kK f n k x y ≤ f x y := by
 intro k
 induction k with
 | zero => intro x y; exact Int.le_refl _
 | succ k ih => intro x y; exact Int.le_trans (iK_le _ n k n x y) (ih x y)
theorem lnkM_hi (l : List Lnk) : ∀ k, k ≤ l.length → ∀ x y, lnkM l k x y ≤ far := by
 intro k
 induction k with
 | zero => intro _ x y; show initM x y ≤ far; unfold initM far; split <;> decide
 | succ k ih =>
  intro hk x y
  have i := ih (by omega)
  rw [lnkM_succ hk]
  generalize lnkAt l k = z at *
  have F : ∀ x y, lnkF (lnkM l k) z x y ≤ far := by
   intro x y
   unfold lnkF updI
   have := i z.frm.toNat z.to.toNat
   have := i x y
   split <;> omega
  unfold lnkG updI
  have := F z.to.toNat z.frm.toNat
  have := F x y
  split <;> omega
theorem bdF_rg {n : Nat} {l : List Lnk} (h : bdOk n l) (x y : Nat) : -50000000000000 ≤ bdF l n x y ∧ bdF l n x y ≤ 1152921504606846976 := by
 obtain ⟨hn, hl, hok⟩ := h
 rw [Int.toNat_natCast] at hok
 have h1 := kK_low (by decide) (lnkM_low hok l.length (Nat.le_refl _)) n n x y
 have h2 := kK_le (lnkM l l.length) n n x y
 have h3 := lnkM_hi l l.length (Nat.le_refl _) x y
 unfold bdF
 unfold far at h3
 refine ⟨?_, by omega⟩
 rcases (by omega : n = 1 ∨ n = 2 ∨ n = 3 ∨ n = 4 ∨ n = 5 ∨ n = 6) with rfl | rfl | rfl | rfl | rfl | rfl <;> simp at h1 <;> omega
theorem ntE_ok {cs : List ByteArray} {ls : List Lnk} (h : ntE cs ls = 0) : ntH cs ls = 0 ∧ (∀ j, j < cs.length → nmE cs j = 0) ∧ ∀ j, j < ls.length → lkE cs.length (lnkAt ls j) = 0 := by
 unfold ntE at h
 split at h
 ·rename_i g; exact absurd h g
 ·rename_i g
  split at h
  ·rename_i g2; exact absurd h g2
  ·rename_i g2
   exact ⟨by omega, scan_zero (by omega), scan_zero h⟩
theorem fnz {a : Int} {l : List Int} (h : firstNZ (a :: l) = 0) : a = 0 ∧ firstNZ l = 0 := by
 by_cases e : a = 0
 ·subst e; exact ⟨rfl, by simpa [firstNZ] using h⟩
 ·simp [firstNZ, e] at h
theorem lkE_ok {n : Nat} {x : Lnk} (h : lkE n x = 0) : x.ok n := by
 obtain ⟨h1, h⟩ := fnz (show firstNZ (_ :: _) = 0 from h)
 obtain ⟨h2, h⟩ := fnz h
 obtain ⟨h3, h⟩ := fnz h
 obtain ⟨h4, _⟩ := fnz h
 rw [unl_0 (by decide)] at h1 h2 h3 h4
 rw [Bool.and_eq_true, inB_true, inB_true] at h1 h3
 have h4 := of_decide_eq_true h4
 have h2 : x.frm ≠ x.to := by simpa using h2
 exact ⟨by omega, by omega, h2, by omega, h4, by omega⟩
theorem ntE_bd {cs : List ByteArray} {ls : List Lnk} (h : ntE cs ls = 0) : bdOk cs.length ls := by
 obtain ⟨h1, h2, h3⟩ := ntE_ok h
 have h1 := ntH_ok h1
 refine ⟨by omega, h1.2, fun k hk => ?_⟩
 rw [Int.toNat_natCast]
 exact lkE_ok (h3 k hk)
def opnB (l : List Lnk) (n i : Nat) : Bool := (bdF l n 0 i == 1152921504606846976) || (bdF l n i 0 == 1152921504606846976)
def ofS (cs : List ByteArray) (ls : List Lnk) : Bool := (List.range cs.length).any (opnB ls cs.length)
def ofE (cs : List ByteArray) (ls : List Lnk) : Int := if ntE cs ls ≠ 0 then ntE cs ls else if bdB ls cs.length = true then (if ofS cs ls = true then 21 else 0) else 13
def ofK (ls : List Lnk) (n k : Nat) : List Rg := (List.range k).map fun i => ⟨-bdF ls n i 0, bdF ls n 0 i⟩
theorem ofK_succ (ls : List Lnk) (n k : Nat) : ofK ls n (k + 1) = ofK ls n k ++ [⟨-bdF ls n k 0, bdF ls n 0 k⟩] := by
 unfold ofK; rw [List.range_succ, List.map_append]; rfl
def ofV (cs : List ByteArray) (ls : List Lnk) : List Rg := if ofE cs ls = 0 then ofK ls cs.length cs.length else []
def fwL (cs : List ByteArray) (ls : List Lnk) : Bool := decide ((cs.length : Int) ≤ 8) && (decide ((ls.length : Int) ≤ 14) && cs.all fun s => decide (s.size ≤ 20))
def exP : List Png := [⟨1000, 50, 250, 1300⟩, ⟨101000, 100050, 100250, 101304⟩]
def exC : List ByteArray := [⟨#[97]⟩, ⟨#[98]⟩, ⟨#[100]⟩]
def exL : List Lnk := [⟨0, 1, 5, 7⟩, ⟨1, 2, 1, 2⟩, ⟨0, 2, 7, 10⟩]
def Sw91 : Sum := addS St90 93 con_bounds
theorem VSw91 : Valid Try.prog Sw91 := Valid.add VSt90 ok_bounds
def vc_clock_agree (sz : Int) (ls : List Lnk) (post : DV → Prop) : Prop := (numsP 4 ls.length (lnksC ls) ∧ bdOk sz (listC ls.length mkLnk (lnksC ls))) ∧ (post (.t (.c (.v (.bool (bdB (listC ls.length mkLnk (lnksC ls)) ((sz).toNat)))))))
def ann_clock_agree : Ann := ⟨fun _ => none, fun _ => none, fun _ => [], I1, false, fun _ => none, fun _ => none⟩
theorem ev_clock_agree (J : Inv) (sz : Int) (ls : List Lnk) (post : DV → Prop) : evFn Try.prog tab Sw91 ann_clock_agree J Try.f116 [.t (.c (.v (.int .i64 sz))), .t (.c (.sl 4 ls.length (lnksC ls)))] post = vc_clock_agree sz ls post := by kernel_rfl
theorem fit_clock_agree : okFn ann_clock_agree Try.f116 = true := by kernel_rfl
theorem lp_clock_agree (J : Inv) (post : DV → Prop) : AllG J (loopsFn Try.prog tab Sw91 ann_clock_agree J Try.f116 post) = (True) := by kernel_rfl
theorem spec_clock_agree (sz : Int) (ls : List Lnk) (hp : bdOk sz ls) : vc_clock_agree sz ls (fun r => LeD r (.t (.c (.v (.bool (bdB ls (sz).toNat)))))) := by
 unfold vc_clock_agree
 simp only [lnks_listC]
 exact ⟨⟨numsP_lnks ls, hp⟩, LeD.refl _⟩
def con_clock_agree : Con := fun args => match args with
 | [.t (.c (.v (.int .i64 sz))), .t (.c (.sl 4 n_ls c_ls))] => some (.t (.c (.v (.bool (bdB (listC n_ls mkLnk c_ls) (sz).toNat)))), some (numsP 4 n_ls c_ls ∧ bdOk sz (listC n_ls mkLnk c_ls)), false)
 | _ => none
theorem ok_clock_agree : Ok Try.prog 116 con_clock_agree := by
 refine Ok.fn (ann := ann_clock_agree) mixed tabOK VSw91 VI1 (fn := Try.f116) (by kernel_rfl) (by kernel_rfl) fit_clock_agree fun args r pre fresh h hp => ?_
 unfold con_clock_agree at h
 split at h
 ·rename_i sz n_ls c_ls
  cases h
  obtain ⟨hp0, hp⟩ := hp
  refine ⟨rfl, fun _ _ _ => False, [.t (.c (.v (.int .i64 sz))), .t (.c (.sl 4 ((listC n_ls mkLnk c_ls).length) (lnksC (listC n_ls mkLnk c_ls))))], ?_, Nat.le_of_ble_eq_true (by kernel_rfl), ?_, ?_⟩
  ·exact (LeA_cons (LeD.refl _) (LeA_cons (leT_c ((leL_Lnk hp0))) LeA_nil))
  ·rw [ev_clock_agree]; exact spec_clock_agree sz (listC n_ls mkLnk c_ls) hp
  ·rw [lp_clock_agree]; trivial
 ·cases h
def Sw92 : Sum := addS Sw91 116 con_clock_agree
theorem VSw92 : Valid Try.prog Sw92 := Valid.add VSw91 ok_clock_agree
def mk_clock_OffsetsOf_0 (cs : List ByteArray) (ls : List Lnk) (v0_0 : List (List CV)) (v0_1 : Int) : DS := ⟨[none, none, none, none, none, some (.t (.c (.sl 1 (bdN (listC ls.length mkLnk (lnksC ls)) ((((cs.length : Nat) : Int)).toNat)) (matC ((((cs.length : Nat) : Int)).toNat) (bdF (listC ls.length mkLnk (lnksC ls)) ((((cs.length : Nat) : Int)).toNat)))))), none, some (.t (.c (.os 7))), none, none, none, none, none, none, none, none, none, none, none, none, none, none, none, none, none, none, none, some (.t (.c (.v (.int .i64 ((cs.length : Nat) : Int))))), some (.t (.c (.v (.int .i64 v0_1)))), none, none, none, none, none, none, none, none, none, none, none, none, none, none, none, none, none, none, none, none, none, none, none, none, none, none, none, none, none, none, none, none, none, none, none, none, none], [none, none, none, none, none, none, none, some (.gen 90 2 v0_0), none, none, none, none, none, none, none, none, none, none, none, none, none, none, none, none, none, none, none, none, none, none, none, none, none, none, none, none, none, none, none, none, none, none, none, none, none, none, none, none, none, none, none, none, none, none, none, none, none, none, none, none, none, none, none, none, none, none]⟩
def vc_clock_OffsetsOf (J : Inv) (cs : List ByteArray) (ls : List Lnk) (post : DV → Prop) : Prop := (txP cs.length (txsC cs) ∧ numsP 4 ls.length (lnksC ls) ∧ (∀ k, k < ((txOf cs.length (txsC cs))).length → (txAt (txOf cs.length (txsC cs)) k).size ≤ 1000000)) ∧ (cond ((ntE (txOf cs.length (txsC cs)) (listC ls.length mkLnk (lnksC ls))) != (0 : Int)) (post (.tu [.c (.v (.slice none 0 0)), .c (.v (.int .i64 (ntE (txOf cs.length (txsC cs)) (listC ls.length mkLnk (lnksC ls)))))])) ((numsP 4 ls.length (lnksC ls) ∧ bdOk ((cs.length : Nat) : Int) (listC ls.length mkLnk (lnksC ls))) ∧ (cond (!(bdB (listC ls.length mkLnk (lnksC ls)) ((((cs.length : Nat) : Int)).toNat))) (post (.tu [.c (.v (.slice none 0 0)), .c (.v (.int .i64 13))])) (∃ n, J 0 (n :: []) (mk_clock_OffsetsOf_0 cs ls ([]) 0)))))
def ann_clock_OffsetsOf : Ann := ⟨fun r => lookA r [(13, ([[], [], [], [1, 2], [1, 2, 3], [1, 2, 3, 4], [1, 2, 3, 4, 5], [1, 2, 3, 4, 5, 6], [], [8], [8, 9], [], [8, 9, 10, 11], [8, 9, 10, 11, 12], [1, 2, 3, 4, 5, 6, 7, 8, 9, 10, 11, 12, 13], [1, 2, 3, 4, 5, 6, 7, 8, 9, 10, 11, 12, 13, 14], [0, 1, 2, 3, 4, 5, 6, 7, 8, 9, 10, 11, 12, 13, 14, 15], [0, 1, 2, 3, 4, 5, 6, 7, 8, 9, 10, 11, 12, 13, 14, 15, 16]], [[62], [62], [62], [62], [62], [62], [62], [62], [62], [62], [62], [62], [62], [62], [62], [], [], []]))], fun b => lookA b [(0, (none, some ⟨[5, 27, 28], [], [(7, .gen 90 2 [])]⟩))], fun _ => [], I1, false, fun r => lookA r [(11, (8, [46]))], fun _ => none⟩
theorem ev_clock_OffsetsOf (J : Inv) (cs : List ByteArray) (ls : List Lnk) (post : DV → Prop) : evFn Try.prog tab Sw92 ann_clock_OffsetsOf J Try.f39 [.t (.a [.sl 1 cs.length (txsC cs), .sl 4 ls.length (lnksC ls)])] post = vc_clock_OffsetsOf J cs ls post := by kernel_rfl
theorem fit_clock_OffsetsOf : okFn ann_clock_OffsetsOf Try.f39 = true := by kernel_rfl
def rd_clock_OffsetsOf_0 (J : Inv) (cs : List ByteArray) (ls : List Lnk) (v0_0 : List (List CV)) (v0_1 : Int) (nn0 : Nat) (post : DV → Prop) : Prop := cond (decide (v0_1 < ((cs.length : Nat) : Int))) ((0 ≤ (0 : Int) ∧ (0 : Int) < (((bdN (listC ls.length mkLnk (lnksC ls)) ((((cs.length : Nat) : Int)).toNat)) : Nat) : Int)) ∧ ((0 ≤ v0_1 ∧ v0_1 < (((((cs.length : Nat) : Int)).toNat : Nat) : Int)) ∧ ((cond ((bdF (listC ls.length mkLnk (lnksC ls)) ((((cs.length : Nat) : Int)).toNat) 0 v0_1.toNat) == (1152921504606846976 : Int)) ((true = true) ∧ (True)) ((0 ≤ v0_1 ∧ v0_1 < (((bdN (listC ls.length mkLnk (lnksC ls)) ((((cs.length : Nat) : Int)).toNat)) : Nat) : Int)) ∧ ((0 ≤ (0 : Int) ∧ (0 : Int) < (((((cs.length : Nat) : Int)).toNat : Nat) : Int)) ∧ (True)))) ∧ (lt ((bif ((bdF (listC ls.length mkLnk (lnksC ls)) ((((cs.length : Nat) : Int)).toNat) 0 v0_1.toNat) == (1152921504606846976 : Int)) then true else ((bdF (listC ls.length mkLnk (lnksC ls)) ((((cs.length : Nat) : Int)).toNat) v0_1.toNat 0) == (1152921504606846976 : Int)))) fun x1 => cond x1 (post (.tu [.c (.v (.slice none 0 0)), .c (.v (.int .i64 21))])) ((0 ≤ v0_1 ∧ v0_1 < (((bdN (listC ls.length mkLnk (lnksC ls)) ((((cs.length : Nat) : Int)).toNat)) : Nat) : Int)) ∧ ((0 ≤ (0 : Int) ∧ (0 : Int) < (((((cs.length : Nat) : Int)).toNat : Nat) : Int)) ∧ (lt (IntKind.i64.wrap ((0 : Int) - (bdF (listC ls.length mkLnk (lnksC ls)) ((((cs.length : Nat) : Int)).toNat) v0_1.toNat 0))) fun x2 => (0 ≤ (0 : Int) ∧ (0 : Int) < (((bdN (listC ls.length mkLnk (lnksC ls)) ((((cs.length : Nat) : Int)).toNat)) : Nat) : Int)) ∧ ((0 ≤ v0_1 ∧ v0_1 < (((((cs.length : Nat) : Int)).toNat : Nat) : Int)) ∧ ((roomP 16 (v0_0.length + ([[.v (.int .i64 x2), .v (.int .i64 (bdF (listC ls.length mkLnk (lnksC ls)) ((((cs.length : Nat) : Int)).toNat) 0 v0_1.toNat))]] : List (List CV)).length)) ∧ (lt (IntKind.i64.wrap (v0_1 + (1 : Int))) fun x3 => J 0 (nn0 :: []) (mk_clock_OffsetsOf_0 cs ls (v0_0 ++ ([[.v (.int .i64 x2), .v (.int .i64 (bdF (listC ls.length mkLnk (lnksC ls)) ((((cs.length : Nat) : Int)).toNat) 0 v0_1.toNat))]] : List (List CV))) x3))))))))))) (post (.tu [.c (.sl 2 v0_0.length (genC v0_0)), .c (.v (.int .i64 0))]))
theorem er_clock_OffsetsOf_0 (J : Inv) (cs : List ByteArray) (ls : List Lnk) (v0_0 : List (List CV)) (v0_1 : Int) (nn0 : Nat) (post : DV → Prop) : round Try.prog tab Sw92 ann_clock_OffsetsOf J Try.f39 post 0 (nn0 :: []) (mk_clock_OffsetsOf_0 cs ls v0_0 v0_1) = rd_clock_OffsetsOf_0 J cs ls v0_0 v0_1 nn0 post := by kernel_rfl
theorem lp_clock_OffsetsOf (J : Inv) (post : DV → Prop) : AllG J (loopsFn Try.prog tab Sw92 ann_clock_OffsetsOf J Try.f39 post) = (((∀ F s, ¬ J 0 (0 :: F) s) ∧ ∀ n F s, J 0 ((n + 1) :: F) s → round Try.prog tab Sw92 ann_clock_OffsetsOf J Try.f39 post 0 (n :: F) s) ∧ True) := by kernel_rfl
def J_clock_OffsetsOf (cs : List ByteArray) (ls : List Lnk) : Inv := fun b F s => match b, F with
 | 0, [nn0] => ∃ (v0_0 : List (List CV)) (v0_1 : Int), s = mk_clock_OffsetsOf_0 cs ls v0_0 v0_1 ∧ ((ntE cs ls = 0 ∧ bdB ls cs.length = true) ∧ 0 ≤ v0_1 ∧ v0_1 ≤ cs.length ∧ (nn0 : Int) + v0_1 = cs.length + 1 ∧ v0_0 = (ofK ls cs.length v0_1.toNat).map rgCv ∧ ∀ j : Nat, (j : Int) < v0_1 → opnB ls cs.length j = false)
 | _, _ => False
theorem rnd_clock_OffsetsOf_0 (cs : List ByteArray) (ls : List Lnk) (v0_0 : List (List CV)) (v0_1 : Int) (nn0 : Nat) (hp : (∀ k, k < (cs).length → (txAt cs k).size ≤ 1000000)) (hi : (ntE cs ls = 0 ∧ bdB ls cs.length = true) ∧ 0 ≤ v0_1 ∧ v0_1 ≤ cs.length ∧ ((nn0 + 1) : Int) + v0_1 = cs.length + 1 ∧ v0_0 = (ofK ls cs.length v0_1.toNat).map rgCv ∧ ∀ j : Nat, (j : Int) < v0_1 → opnB ls cs.length j = false) : rd_clock_OffsetsOf_0 (J_clock_OffsetsOf cs ls) cs ls v0_0 v0_1 nn0 (fun r => LeD r (.tu [.c (.sl 2 ((ofV cs ls).length) (rgsC (ofV cs ls))), .c (.v (.int .i64 (ofE cs ls)))])) := by
 obtain ⟨q, i1, i2, i3, i4, i5⟩ := hi
 obtain ⟨k, rfl⟩ : ∃ k : Nat, v0_1 = k := ⟨v0_1.toNat, by omega⟩
 have hk : (k : Int).toNat = k := rfl
 rw [hk] at i4
 unfold rd_clock_OffsetsOf_0
 simp only [lnks_listC, Int.toNat_natCast]
 have eN : bdN ls cs.length = cs.length := if_pos q.2
 have z := ntE_bd q.1
 have zn := z.1
 rw [eN]
 refine cond_i (fun h => ?_) (fun h => ?_)
 ·have hlt : k < cs.length := by have := of_decide_eq_true h; omega
  have b1 := bdF_rg z k 0
  refine ⟨⟨by trivial, by omega⟩, ⟨by omega, by omega⟩, ⟨cond_i (fun _ => ⟨by trivial, trivial⟩) (fun _ => ⟨⟨by omega, by omega⟩, ⟨by trivial, by omega⟩, trivial⟩), lt_i fun x1 h1 => ?_⟩⟩
  have e1 : x1 = opnB ls cs.length k := by rw [← h1]; unfold opnB; cases (bdF ls cs.length 0 k == 1152921504606846976) <;> rfl
  subst e1
  refine cond_i (fun g => ?_) (fun g => ⟨⟨by omega, by omega⟩, ⟨by trivial, by omega⟩, lt_i fun x2 h2 => ⟨⟨by trivial, by omega⟩, ⟨by omega, by omega⟩, ?_, lt_i fun x3 h3 => ?_⟩⟩)
  ·have e : ofE cs ls = 21 := by
    unfold ofE
    rw [if_neg (by rw [q.1]; simp), if_pos q.2, if_pos]
    unfold ofS
    rw [List.any_eq_true]
    exact ⟨k, List.mem_range.2 hlt, g⟩
   rw [show ofV cs ls = [] from if_neg (by rw [e]; decide), e]
   exact le_tu le_nil (LeD.refl _)
  ·unfold roomP maxLen; rw [i4]; simp [ofK]; omega
  ·rw [wi (by omega)] at h2 h3
   subst h2 h3
   refine ⟨_, _, rfl, q, by omega, by omega, by omega, ?_, fun j hj => ?_⟩
   ·rw [show ((k : Int) + 1).toNat = k + 1 by omega, ofK_succ, List.map_append, i4, Int.zero_sub]
    rfl
   ·rcases (by omega : (j : Int) < k ∨ j = k) with c | rfl
    ·exact i5 j c
    ·exact g
 ·have h := of_decide_eq_false h
  have e : k = cs.length := by omega
  have eS : ofS cs ls = false := by
   unfold ofS
   rw [Bool.eq_false_iff]
   intro c
   obtain ⟨j, hj, hj2⟩ := List.any_eq_true.1 c
   have := List.mem_range.1 hj
   rw [i5 j (by omega)] at hj2
   cases hj2
  have e0 : ofE cs ls = 0 := by
   unfold ofE
   rw [if_neg (by rw [q.1]; simp), if_pos q.2, if_neg (by rw [eS]; simp)]
  rw [show ofV cs ls = ofK ls cs.length cs.length from if_pos e0, e0, i4, e]
  exact le_tu (le_rgs _) (LeD.refl _)
theorem zero_clock_OffsetsOf_0 (cs : List ByteArray) (ls : List Lnk) (v0_0 : List (List CV)) (v0_1 : Int)  (hi : (ntE cs ls = 0 ∧ bdB ls cs.length = true) ∧ 0 ≤ v0_1 ∧ v0_1 ≤ cs.length ∧ (0 : Int) + v0_1 = cs.length + 1 ∧ v0_0 = (ofK ls cs.length v0_1.toNat).map rgCv ∧ ∀ j : Nat, (j : Int) < v0_1 → opnB ls cs.length j = false) : False := by
 omega
theorem spec_clock_OffsetsOf (cs : List ByteArray) (ls : List Lnk) (hp : (∀ k, k < (cs).length → (txAt cs k).size ≤ 1000000)) : vc_clock_OffsetsOf (J_clock_OffsetsOf cs ls) cs ls (fun r => LeD r (.tu [.c (.sl 2 ((ofV cs ls).length) (rgsC (ofV cs ls))), .c (.v (.int .i64 (ofE cs ls)))])) := by
 unfold vc_clock_OffsetsOf
 simp only [lnks_listC, txs_of, Int.toNat_natCast]
 refine ⟨⟨txP_txs cs, numsP_lnks ls, hp⟩, cond_i (fun h => ?_) (fun h => ?_)⟩
 ·have h : ntE cs ls ≠ 0 := by simpa using h
  have e : ofE cs ls = ntE cs ls := if_pos h
  rw [show ofV cs ls = [] from if_neg (by rw [e]; exact h), e]
  exact le_tu le_nil (LeD.refl _)
 ·have h : ntE cs ls = 0 := by simpa using h
  refine ⟨⟨numsP_lnks ls, ntE_bd h⟩, cond_i (fun g => ?_) (fun g => ?_)⟩
  ·have g : bdB ls cs.length = false := by simpa using g
   have e : ofE cs ls = 13 := by unfold ofE; rw [if_neg (by rw [h]; simp), if_neg (by rw [g]; simp)]
   rw [show ofV cs ls = [] from if_neg (by rw [e]; decide), e]
   exact le_tu le_nil (LeD.refl _)
  ·have g : bdB ls cs.length = true := by simpa using g
   exact ⟨cs.length + 1, [], 0, rfl, ⟨h, g⟩, by omega, by omega, by omega, rfl, fun j hj => by omega⟩
theorem all_clock_OffsetsOf (cs : List ByteArray) (ls : List Lnk) (hp : (∀ k, k < (cs).length → (txAt cs k).size ≤ 1000000)) : AllG (J_clock_OffsetsOf cs ls) (loopsFn Try.prog tab Sw92 ann_clock_OffsetsOf (J_clock_OffsetsOf cs ls) Try.f39 (fun r => LeD r (.tu [.c (.sl 2 ((ofV cs ls).length) (rgsC (ofV cs ls))), .c (.v (.int .i64 (ofE cs ls)))]))) := by
 rw [lp_clock_OffsetsOf]
 refine ⟨⟨?_, ?_⟩, trivial⟩
 ·intro F s h
  obtain _ | ⟨g, F⟩ := F
  case cons => exact h.elim
  obtain ⟨w0, w1, rfl, hi⟩ := h
  exact zero_clock_OffsetsOf_0 cs ls w0 w1 hi
 ·intro n F s h
  obtain _ | ⟨g, F⟩ := F
  case cons => exact h.elim
  obtain ⟨w0, w1, rfl, hi⟩ := h
  rw [er_clock_OffsetsOf_0]
  exact rnd_clock_OffsetsOf_0 cs ls _ _ _ hp hi
def con_clock_OffsetsOf : Con := fun args => match args with
 | [.t (.a [.sl 1 n_cs c_cs, .sl 4 n_ls c_ls])] => some (.tu [.c (.sl 2 ((ofV (txOf n_cs c_cs) (listC n_ls mkLnk c_ls)).length) (rgsC (ofV (txOf n_cs c_cs) (listC n_ls mkLnk c_ls)))), .c (.v (.int .i64 (ofE (txOf n_cs c_cs) (listC n_ls mkLnk c_ls))))], some (txP n_cs c_cs ∧ numsP 4 n_ls c_ls ∧ (∀ k, k < ((txOf n_cs c_cs)).length → (txAt (txOf n_cs c_cs) k).size ≤ 1000000)), false)
 | _ => none
theorem ok_clock_OffsetsOf : Ok Try.prog 39 con_clock_OffsetsOf := by
 refine Ok.fn (ann := ann_clock_OffsetsOf) mixed tabOK VSw92 VI1 (fn := Try.f39) (by kernel_rfl) (by kernel_rfl) fit_clock_OffsetsOf fun args r pre fresh h hp => ?_
 unfold con_clock_OffsetsOf at h
 split at h
 ·rename_i n_cs c_cs n_ls c_ls
  cases h
  obtain ⟨hp0, hp1, hp⟩ := hp
  refine ⟨rfl, J_clock_OffsetsOf (txOf n_cs c_cs) (listC n_ls mkLnk c_ls), [.t (.a [.sl 1 ((txOf n_cs c_cs).length) (txsC (txOf n_cs c_cs)), .sl 4 ((listC n_ls mkLnk c_ls).length) (lnksC (listC n_ls mkLnk c_ls))])], ?_, Nat.le_of_ble_eq_true (by kernel_rfl), ?_, ?_⟩
  ·exact (LeA_cons (leT_a (LeCs.cons ((leL_str hp0)) (LeCs.cons ((leL_Lnk hp1)) LeCs.nil))) LeA_nil)
  ·rw [ev_clock_OffsetsOf]; exact spec_clock_OffsetsOf (txOf n_cs c_cs) (listC n_ls mkLnk c_ls) hp
  ·exact all_clock_OffsetsOf (txOf n_cs c_cs) (listC n_ls mkLnk c_ls) hp
 ·cases h
def Sw93 : Sum := addS Sw92 39 con_clock_OffsetsOf
theorem VSw93 : Valid Try.prog Sw93 := Valid.add VSw92 ok_clock_OffsetsOf
def vc_ref01_CopyNet (cs : List ByteArray) (ls : List Lnk) (post : DV → Prop) : Prop := (roomP 16 (([] : List (List CV)).length + ((List.range cs.length).map fun i => fwd ((txsC cs) i) 0 1).length)) ∧ ((roomP 32 (([] : List (List CV)).length + ((List.range ls.length).map fun i => fwd ((lnksC ls) i) 0 4).length)) ∧ (post (.t (.a [.sl 1 ((([] : List (List CV)) ++ ((List.range cs.length).map fun i => fwd ((txsC cs) i) 0 1)).length) (genC (([] : List (List CV)) ++ ((List.range cs.length).map fun i => fwd ((txsC cs) i) 0 1))), .sl 4 ((([] : List (List CV)) ++ ((List.range ls.length).map fun i => fwd ((lnksC ls) i) 0 4)).length) (genC (([] : List (List CV)) ++ ((List.range ls.length).map fun i => fwd ((lnksC ls) i) 0 4)))]))))
def ann_ref01_CopyNet : Ann := ⟨fun r => lookA r [(1, ([[], [], [1], [0, 1, 2], [], [], [5], [0, 1, 2, 3, 4, 5, 6], [0, 1, 2, 3, 4, 5, 6, 7], [0, 1, 2, 3, 4, 5, 6, 7, 8]], [[7], [3, 7], [3, 7], [9999, 3, 6], [3, 6], [3, 7], [3, 6, 7], [], [], []]))], fun _ => none, fun _ => [], I1, true, fun _ => none, fun _ => none⟩
theorem ev_ref01_CopyNet (J : Inv) (cs : List ByteArray) (ls : List Lnk) (post : DV → Prop) : evFn Try.prog tab Sw93 ann_ref01_CopyNet J Try.f38 [.t (.a [.sl 1 cs.length (txsC cs), .sl 4 ls.length (lnksC ls)])] post = vc_ref01_CopyNet cs ls post := by kernel_rfl
theorem fit_ref01_CopyNet : okFn ann_ref01_CopyNet Try.f38 = true := by kernel_rfl
theorem lp_ref01_CopyNet (J : Inv) (post : DV → Prop) : AllG J (loopsFn Try.prog tab Sw93 ann_ref01_CopyNet J Try.f38 post) = (True) := by kernel_rfl
theorem spec_ref01_CopyNet (cs : List ByteArray) (ls : List Lnk) (hp : (cs).length ≤ 1000 ∧ (ls).length ≤ 1000) : vc_ref01_CopyNet cs ls (fun r => LeD r (.t (.a [.sl 1 cs.length (txsC cs), .sl 4 ls.length (lnksC ls)]))) := by
 unfold vc_ref01_CopyNet
 rw [txs_fwd, lnks_fwd, List.nil_append, List.nil_append]
 refine ⟨?_, ?_, leT_a (LeCs.cons (leC_txs cs) (LeCs.cons (leC_lnks ls) LeCs.nil))⟩
 all_goals
  unfold roomP maxLen
  simp
  omega
def con_ref01_CopyNet : Con := fun args => match args with
 | [.t (.a [.sl 1 n_cs c_cs, .sl 4 n_ls c_ls])] => some (.t (.a [.sl 1 ((txOf n_cs c_cs).length) (txsC (txOf n_cs c_cs)), .sl 4 ((listC n_ls mkLnk c_ls).length) (lnksC (listC n_ls mkLnk c_ls))]), some (txP n_cs c_cs ∧ numsP 4 n_ls c_ls ∧ ((txOf n_cs c_cs)).length ≤ 1000 ∧ ((listC n_ls mkLnk c_ls)).length ≤ 1000), true)
 | _ => none
theorem ok_ref01_CopyNet : Ok Try.prog 38 con_ref01_CopyNet := by
 refine Ok.fnFr (ann := ann_ref01_CopyNet) mixed tabOK VSw93 VI1 rfl (fn := Try.f38) (by kernel_rfl) (by kernel_rfl) fit_ref01_CopyNet fun args r pre fresh h hp => ?_
 unfold con_ref01_CopyNet at h
 split at h
 ·rename_i n_cs c_cs n_ls c_ls
  cases h
  obtain ⟨hp0, hp1, hp⟩ := hp
  refine ⟨rfl, (by intro x hx; simp only [List.mem_cons, List.not_mem_nil, or_false] at hx; rcases hx with rfl | rfl <;> first | trivial | exact (fun i j _ hj => plain_str _ i j) | exact (fun i j _ hj => plain_Lnk _ i j)), fun _ _ _ => False, [.t (.a [.sl 1 ((txOf n_cs c_cs).length) (txsC (txOf n_cs c_cs)), .sl 4 ((listC n_ls mkLnk c_ls).length) (lnksC (listC n_ls mkLnk c_ls))])], ?_, Nat.le_of_ble_eq_true (by kernel_rfl), ?_, ?_⟩
  ·exact (LeA_cons (leT_a (LeCs.cons ((leL_str hp0)) (LeCs.cons ((leL_Lnk hp1)) LeCs.nil))) LeA_nil)
  ·rw [ev_ref01_CopyNet]; exact spec_ref01_CopyNet (txOf n_cs c_cs) (listC n_ls mkLnk c_ls) hp
  ·rw [lp_ref01_CopyNet]; trivial
 ·cases h
def Sw94 : Sum := addS Sw93 38 con_ref01_CopyNet
theorem VSw94 : Valid Try.prog Sw94 := Valid.add VSw93 ok_ref01_CopyNet
def Sw95 : Sum := Sw94
theorem VSw95 : Valid Try.prog Sw95 := VSw94
def mk_law01_fewLinks_0 (cs : List ByteArray) (ls : List Lnk) (v0_0 : Int) : DS := ⟨[none, some (.t (.c (.p 1 0))), none, some (.t (.c (.v (.int .i64 v0_0)))), none, none, none, none, none, none, none, none, none, none, none, none, none, none, none, none, none, none, none, none, none, none, none, none], [none, some (.box 55 [.sl 1 cs.length (txsC cs), .sl 4 ls.length (lnksC ls)]), none, none, none, none, none, none, none, none, none, none, none, none, none, none, none, none, none, none, none, none, none, none, none, none, none, none]⟩
def vc_law01_fewLinks (J : Inv) (cs : List ByteArray) (ls : List Lnk) (post : DV → Prop) : Prop := (cond (decide (((cs.length : Nat) : Int) > (8 : Int))) ((true = true) ∧ (True)) (True)) ∧ (lt ((bif decide (((cs.length : Nat) : Int) > (8 : Int)) then true else decide (((ls.length : Nat) : Int) > (14 : Int)))) fun x1 => cond x1 (post (.t (.c (.v (.bool false))))) (∃ n, J 0 (n :: []) (mk_law01_fewLinks_0 cs ls 0)))
def ann_law01_fewLinks : Ann := ⟨fun _ => none, fun b => lookA b [(0, (none, some ⟨[1, 3], [1], []⟩))], fun _ => [], I1, false, fun r => lookA r [(1, (5, [13]))], fun _ => none⟩
theorem ev_law01_fewLinks (J : Inv) (cs : List ByteArray) (ls : List Lnk) (post : DV → Prop) : evFn Try.prog tab Sw95 ann_law01_fewLinks J Try.f36 [.t (.a [.sl 1 cs.length (txsC cs), .sl 4 ls.length (lnksC ls)])] post = vc_law01_fewLinks J cs ls post := by kernel_rfl
theorem fit_law01_fewLinks : okFn ann_law01_fewLinks Try.f36 = true := by kernel_rfl
def rd_law01_fewLinks_0 (J : Inv) (cs : List ByteArray) (ls : List Lnk) (v0_0 : Int) (nn0 : Nat) (post : DV → Prop) : Prop := cond (decide (v0_0 < ((cs.length : Nat) : Int))) ((0 ≤ v0_0 ∧ v0_0 < ((cs.length : Nat) : Int)) ∧ (cond (decide (((((txAt cs v0_0.toNat) : ByteArray).size : Nat) : Int) > (20 : Int))) (post (.t (.c (.v (.bool false))))) (lt (IntKind.i64.wrap (v0_0 + (1 : Int))) fun x1 => J 0 (nn0 :: []) (mk_law01_fewLinks_0 cs ls x1)))) (post (.t (.c (.v (.bool true)))))
theorem er_law01_fewLinks_0 (J : Inv) (cs : List ByteArray) (ls : List Lnk) (v0_0 : Int) (nn0 : Nat) (post : DV → Prop) : round Try.prog tab Sw95 ann_law01_fewLinks J Try.f36 post 0 (nn0 :: []) (mk_law01_fewLinks_0 cs ls v0_0) = rd_law01_fewLinks_0 J cs ls v0_0 nn0 post := by kernel_rfl
theorem lp_law01_fewLinks (J : Inv) (post : DV → Prop) : AllG J (loopsFn Try.prog tab Sw95 ann_law01_fewLinks J Try.f36 post) = (((∀ F s, ¬ J 0 (0 :: F) s) ∧ ∀ n F s, J 0 ((n + 1) :: F) s → round Try.prog tab Sw95 ann_law01_fewLinks J Try.f36 post 0 (n :: F) s) ∧ True) := by kernel_rfl
def J_law01_fewLinks (cs : List ByteArray) (ls : List Lnk) : Inv := fun b F s => match b, F with
 | 0, [nn0] => ∃ (v0_0 : Int), s = mk_law01_fewLinks_0 cs ls v0_0 ∧ (((cs.length : Int) ≤ 8 ∧ (ls.length : Int) ≤ 14) ∧ 0 ≤ v0_0 ∧ v0_0 ≤ cs.length ∧ (nn0 : Int) + v0_0 = cs.length + 1 ∧ ∀ j : Nat, (j : Int) < v0_0 → (txAt cs j).size ≤ 20)
 | _, _ => False
theorem rnd_law01_fewLinks_0 (cs : List ByteArray) (ls : List Lnk) (v0_0 : Int) (nn0 : Nat) (hi : ((cs.length : Int) ≤ 8 ∧ (ls.length : Int) ≤ 14) ∧ 0 ≤ v0_0 ∧ v0_0 ≤ cs.length ∧ ((nn0 + 1) : Int) + v0_0 = cs.length + 1 ∧ ∀ j : Nat, (j : Int) < v0_0 → (txAt cs j).size ≤ 20) : rd_law01_fewLinks_0 (J_law01_fewLinks cs ls) cs ls v0_0 nn0 (fun r => LeD r (.t (.c (.v (.bool (fwL cs ls)))))) := by
 obtain ⟨q, i1, i2, i3, i4⟩ := hi
 obtain ⟨k, rfl⟩ : ∃ k : Nat, v0_0 = k := ⟨v0_0.toNat, by omega⟩
 have hk : (k : Int).toNat = k := rfl
 unfold rd_law01_fewLinks_0
 rw [hk]
 refine cond_i (fun h => ⟨by have := of_decide_eq_true h; omega, cond_i (fun g => leB ?_) (fun g => lt_i fun x1 h1 => ?_)⟩) (fun h => leB ?_)
 ·have hlt : k < cs.length := by have := of_decide_eq_true h; omega
  have g := of_decide_eq_true g
  unfold fwL
  have e : (cs.all fun s => decide (s.size ≤ 20)) = false := ?_
  ·rw [e, decide_eq_true q.2, decide_eq_true q.1]; rfl
  rw [Bool.eq_false_iff]
  intro c
  have := of_decide_eq_true (List.all_eq_true.1 c (txAt cs k) (txAt_in hlt))
  omega
 ·have hlt : k < cs.length := by have := of_decide_eq_true h; omega
  have g := of_decide_eq_false g
  rw [wi (by omega)] at h1
  subst h1
  refine ⟨_, rfl, q, by omega, by omega, by omega, fun j hj => ?_⟩
  rcases (by omega : (j : Int) < k ∨ j = k) with c | rfl
  ·exact i4 j c
  ·omega
 ·have h := of_decide_eq_false h
  unfold fwL
  rw [decide_eq_true q.1, decide_eq_true q.2, Bool.true_and, Bool.true_and]
  refine (List.all_eq_true.2 fun s hs => ?_).symm
  obtain ⟨j, hj, rfl⟩ := txs_mem hs
  exact decide_eq_true (i4 j (by omega))
theorem zero_law01_fewLinks_0 (cs : List ByteArray) (ls : List Lnk) (v0_0 : Int)  (hi : ((cs.length : Int) ≤ 8 ∧ (ls.length : Int) ≤ 14) ∧ 0 ≤ v0_0 ∧ v0_0 ≤ cs.length ∧ (0 : Int) + v0_0 = cs.length + 1 ∧ ∀ j : Nat, (j : Int) < v0_0 → (txAt cs j).size ≤ 20) : False := by
 omega
theorem spec_law01_fewLinks (cs : List ByteArray) (ls : List Lnk) : vc_law01_fewLinks (J_law01_fewLinks cs ls) cs ls (fun r => LeD r (.t (.c (.v (.bool (fwL cs ls)))))) := by
 unfold vc_law01_fewLinks
 refine ⟨cond_i (fun _ => ⟨rfl, trivial⟩) (fun _ => trivial), lt_i fun x1 h1 => cond_i (fun g => leB ?_) (fun g => ?_)⟩
 ·subst h1
  unfold fwL
  cases e : decide ((cs.length : Int) > 8) with
  | true => rw [decide_eq_false (by have := of_decide_eq_true e; omega)]; rfl
  | false =>
   rw [e] at g
   have := of_decide_eq_true g
   rw [decide_eq_false (show ¬ (ls.length : Int) ≤ 14 by omega)]; cases decide ((cs.length : Int) ≤ 8) <;> rfl
 ·subst h1
  have c : (cs.length : Int) ≤ 8 ∧ (ls.length : Int) ≤ 14 := by
   cases e : decide ((cs.length : Int) > 8) with
   | true => rw [e] at g; cases g
   | false =>
    rw [e] at g
    have h1 := of_decide_eq_false e
    have h2 := of_decide_eq_false g
    omega
  exact ⟨cs.length + 1, 0, rfl, c, by omega, by omega, by omega, fun j hj => by omega⟩
theorem all_law01_fewLinks (cs : List ByteArray) (ls : List Lnk) : AllG (J_law01_fewLinks cs ls) (loopsFn Try.prog tab Sw95 ann_law01_fewLinks (J_law01_fewLinks cs ls) Try.f36 (fun r => LeD r (.t (.c (.v (.bool (fwL cs ls))))))) := by
 rw [lp_law01_fewLinks]
 refine ⟨⟨?_, ?_⟩, trivial⟩
 ·intro F s h
  obtain _ | ⟨g, F⟩ := F
  case cons => exact h.elim
  obtain ⟨w0, rfl, hi⟩ := h
  exact zero_law01_fewLinks_0 cs ls w0 hi
 ·intro n F s h
  obtain _ | ⟨g, F⟩ := F
  case cons => exact h.elim
  obtain ⟨w0, rfl, hi⟩ := h
  rw [er_law01_fewLinks_0]
  exact rnd_law01_fewLinks_0 cs ls _ _ hi
def con_law01_fewLinks : Con := fun args => match args with
 | [.t (.a [.sl 1 n_cs c_cs, .sl 4 n_ls c_ls])] => some (.t (.c (.v (.bool (fwL (txOf n_cs c_cs) (listC n_ls mkLnk c_ls))))), some (txP n_cs c_cs ∧ numsP 4 n_ls c_ls), false)
 | _ => none
theorem ok_law01_fewLinks : Ok Try.prog 36 con_law01_fewLinks := by
 refine Ok.fn (ann := ann_law01_fewLinks) mixed tabOK VSw95 VI1 (fn := Try.f36) (by kernel_rfl) (by kernel_rfl) fit_law01_fewLinks fun args r pre fresh h hp => ?_
 unfold con_law01_fewLinks at h
 split at h
 ·rename_i n_cs c_cs n_ls c_ls
  cases h
  obtain ⟨hp0, hp1⟩ := hp
  refine ⟨rfl, J_law01_fewLinks (txOf n_cs c_cs) (listC n_ls mkLnk c_ls), [.t (.a [.sl 1 ((txOf n_cs c_cs).length) (txsC (txOf n_cs c_cs)), .sl 4 ((listC n_ls mkLnk c_ls).length) (lnksC (listC n_ls mkLnk c_ls))])], ?_, Nat.le_of_ble_eq_true (by kernel_rfl), ?_, ?_⟩
  ·exact (LeA_cons (leT_a (LeCs.cons ((leL_str hp0)) (LeCs.cons ((leL_Lnk hp1)) LeCs.nil))) LeA_nil)
  ·rw [ev_law01_fewLinks]; exact spec_law01_fewLinks (txOf n_cs c_cs) (listC n_ls mkLnk c_ls)
  ·exact all_law01_fewLinks (txOf n_cs c_cs) (listC n_ls mkLnk c_ls)
 ·cases h
def Sw96 : Sum := addS Sw95 36 con_law01_fewLinks
theorem VSw96 : Valid Try.prog Sw96 := Valid.add VSw95 ok_law01_fewLinks
def vc_law01_Cable  (post : DV → Prop) : Prop := post (.t (.a [.v (.int .i64 100), .v (.int .i64 2)]))
def ann_law01_Cable : Ann := ⟨fun _ => none, fun _ => none, fun _ => [], I1, false, fun _ => none, fun _ => none⟩
theorem ev_law01_Cable (J : Inv)  (post : DV → Prop) : evFn Try.prog tab Sw96 ann_law01_Cable J Try.f122 [] post = vc_law01_Cable  post := by kernel_rfl
theorem fit_law01_Cable : okFn ann_law01_Cable Try.f122 = true := by kernel_rfl
theorem lp_law01_Cable (J : Inv) (post : DV → Prop) : AllG J (loopsFn Try.prog tab Sw96 ann_law01_Cable J Try.f122 post) = (True) := by kernel_rfl
theorem spec_law01_Cable  : vc_law01_Cable  (fun r => LeD r (.t (.a [.v (.int .i64 100), .v (.int .i64 2)]))) := by
 exact LeD.refl _
def con_law01_Cable : Con := fun args => match args with
 | [] => some (.t (.a [.v (.int .i64 100), .v (.int .i64 2)]), none, false)
 | _ => none
theorem ok_law01_Cable : Ok Try.prog 122 con_law01_Cable := by
 refine Ok.fn (ann := ann_law01_Cable) mixed tabOK VSw96 VI1 (fn := Try.f122) (by kernel_rfl) (by kernel_rfl) fit_law01_Cable fun args r pre fresh h hp => ?_
 unfold con_law01_Cable at h
 split at h
 ·cases h
  refine ⟨rfl, fun _ _ _ => False, _, LeA.refl _, Nat.le_of_ble_eq_true (by kernel_rfl), ?_, ?_⟩
  ·rw [ev_law01_Cable]; exact spec_law01_Cable 
  ·rw [lp_law01_Cable]; trivial
 ·cases h
def Sw97 : Sum := addS Sw96 122 con_law01_Cable
theorem VSw97 : Valid Try.prog Sw97 := Valid.add VSw96 ok_law01_Cable
def vc_law01_Ping  (post : DV → Prop) : Prop := post (.t (.a [.v (.int .i64 1000), .v (.int .i64 50), .v (.int .i64 250), .v (.int .i64 1300)]))
def ann_law01_Ping : Ann := ⟨fun _ => none, fun _ => none, fun _ => [], I1, false, fun _ => none, fun _ => none⟩
theorem ev_law01_Ping (J : Inv)  (post : DV → Prop) : evFn Try.prog tab Sw97 ann_law01_Ping J Try.f123 [] post = vc_law01_Ping  post := by kernel_rfl
theorem fit_law01_Ping : okFn ann_law01_Ping Try.f123 = true := by kernel_rfl
theorem lp_law01_Ping (J : Inv) (post : DV → Prop) : AllG J (loopsFn Try.prog tab Sw97 ann_law01_Ping J Try.f123 post) = (True) := by kernel_rfl
theorem spec_law01_Ping  : vc_law01_Ping  (fun r => LeD r (.t (.a [.v (.int .i64 1000), .v (.int .i64 50), .v (.int .i64 250), .v (.int .i64 1300)]))) := by
 exact LeD.refl _
def con_law01_Ping : Con := fun args => match args with
 | [] => some (.t (.a [.v (.int .i64 1000), .v (.int .i64 50), .v (.int .i64 250), .v (.int .i64 1300)]), none, false)
 | _ => none
theorem ok_law01_Ping : Ok Try.prog 123 con_law01_Ping := by
 refine Ok.fn (ann := ann_law01_Ping) mixed tabOK VSw97 VI1 (fn := Try.f123) (by kernel_rfl) (by kernel_rfl) fit_law01_Ping fun args r pre fresh h hp => ?_
 unfold con_law01_Ping at h
 split at h
 ·cases h
  refine ⟨rfl, fun _ _ _ => False, _, LeA.refl _, Nat.le_of_ble_eq_true (by kernel_rfl), ?_, ?_⟩
  ·rw [ev_law01_Ping]; exact spec_law01_Ping 
  ·rw [lp_law01_Ping]; trivial
 ·cases h
def Sw98 : Sum := addS Sw97 123 con_law01_Ping
theorem VSw98 : Valid Try.prog Sw98 := Valid.add VSw97 ok_law01_Ping
def vc_law01_Track  (post : DV → Prop) : Prop := post (.t (.a [.v (.int .i64 100), .v (.int .i64 2), .sl 4 2 (genC [[.v (.int .i64 1000), .v (.int .i64 50), .v (.int .i64 250), .v (.int .i64 1300)], [.v (.int .i64 101000), .v (.int .i64 100050), .v (.int .i64 100250), .v (.int .i64 101304)]])]))
def ann_law01_Track : Ann := ⟨fun _ => none, fun _ => none, fun _ => [], I1, true, fun _ => none, fun _ => none⟩
theorem ev_law01_Track (J : Inv)  (post : DV → Prop) : evFn Try.prog tab Sw98 ann_law01_Track J Try.f77 [] post = vc_law01_Track  post := by kernel_rfl
theorem fit_law01_Track : okFn ann_law01_Track Try.f77 = true := by kernel_rfl
theorem lp_law01_Track (J : Inv) (post : DV → Prop) : AllG J (loopsFn Try.prog tab Sw98 ann_law01_Track J Try.f77 post) = (True) := by kernel_rfl
theorem spec_law01_Track  : vc_law01_Track  (fun r => LeD r (.t (.a [.v (.int .i64 100), .v (.int .i64 2), .sl 4 exP.length (pngsC exP)]))) := by
 exact leT_a (LeCs.cons (LeC1.refl _) (LeCs.cons (LeC1.refl _) (LeCs.cons (leC_pngs exP) LeCs.nil)))
def con_law01_Track : Con := fun args => match args with
 | [] => some (.t (.a [.v (.int .i64 100), .v (.int .i64 2), .sl 4 exP.length (pngsC exP)]), none, true)
 | _ => none
theorem ok_law01_Track : Ok Try.prog 77 con_law01_Track := by
 refine Ok.fnFr (ann := ann_law01_Track) mixed tabOK VSw98 VI1 rfl (fn := Try.f77) (by kernel_rfl) (by kernel_rfl) fit_law01_Track fun args r pre fresh h hp => ?_
 unfold con_law01_Track at h
 split at h
 ·cases h
  refine ⟨rfl, (by intro x hx; simp only [List.mem_cons, List.not_mem_nil, or_false] at hx; rcases hx with rfl | rfl | rfl <;> first | trivial | exact (fun i j _ hj => plain_Png _ i j)), fun _ _ _ => False, _, LeA.refl _, Nat.le_of_ble_eq_true (by kernel_rfl), ?_, ?_⟩
  ·rw [ev_law01_Track]; exact spec_law01_Track 
  ·rw [lp_law01_Track]; trivial
 ·cases h
def Sw99 : Sum := addS Sw98 77 con_law01_Track
theorem VSw99 : Valid Try.prog Sw99 := Valid.add VSw98 ok_law01_Track
def vc_law01_Net  (post : DV → Prop) : Prop := post (.t (.a [.sl 1 3 (genC [[.v (.string ⟨#[97]⟩)], [.v (.string ⟨#[98]⟩)], [.v (.string ⟨#[100]⟩)]]), .sl 4 3 (genC [[.v (.int .i64 0), .v (.int .i64 1), .v (.int .i64 5), .v (.int .i64 7)], [.v (.int .i64 1), .v (.int .i64 2), .v (.int .i64 1), .v (.int .i64 2)], [.v (.int .i64 0), .v (.int .i64 2), .v (.int .i64 7), .v (.int .i64 10)]])]))
def ann_law01_Net : Ann := ⟨fun _ => none, fun _ => none, fun _ => [], I1, true, fun _ => none, fun _ => none⟩
theorem ev_law01_Net (J : Inv)  (post : DV → Prop) : evFn Try.prog tab Sw99 ann_law01_Net J Try.f78 [] post = vc_law01_Net  post := by kernel_rfl
theorem fit_law01_Net : okFn ann_law01_Net Try.f78 = true := by kernel_rfl
theorem lp_law01_Net (J : Inv) (post : DV → Prop) : AllG J (loopsFn Try.prog tab Sw99 ann_law01_Net J Try.f78 post) = (True) := by kernel_rfl
theorem spec_law01_Net  : vc_law01_Net  (fun r => LeD r (.t (.a [.sl 1 exC.length (txsC exC), .sl 4 exL.length (lnksC exL)]))) := by
 exact leT_a (LeCs.cons (leC_txs exC) (LeCs.cons (leC_lnks exL) LeCs.nil))
def con_law01_Net : Con := fun args => match args with
 | [] => some (.t (.a [.sl 1 exC.length (txsC exC), .sl 4 exL.length (lnksC exL)]), none, true)
 | _ => none
theorem ok_law01_Net : Ok Try.prog 78 con_law01_Net := by
 refine Ok.fnFr (ann := ann_law01_Net) mixed tabOK VSw99 VI1 rfl (fn := Try.f78) (by kernel_rfl) (by kernel_rfl) fit_law01_Net fun args r pre fresh h hp => ?_
 unfold con_law01_Net at h
 split at h
 ·cases h
  refine ⟨rfl, (by intro x hx; simp only [List.mem_cons, List.not_mem_nil, or_false] at hx; rcases hx with rfl | rfl <;> first | trivial | exact (fun i j _ hj => plain_str _ i j) | exact (fun i j _ hj => plain_Lnk _ i j)), fun _ _ _ => False, _, LeA.refl _, Nat.le_of_ble_eq_true (by kernel_rfl), ?_, ?_⟩
  ·rw [ev_law01_Net]; exact spec_law01_Net 
  ·rw [lp_law01_Net]; trivial
 ·cases h
def Sw100 : Sum := addS Sw99 78 con_law01_Net
theorem VSw100 : Valid Try.prog Sw100 := Valid.add VSw99 ok_law01_Net
end Go.Proofs.Ytkifmfmenobhnaa
set_option linter.unusedVariables false
set_option linter.unusedSimpArgs false
namespace Go.Proofs.Ytkifmfmenobhnaa
open Go.RowKit Ev
theorem cond_t {b : Bool} {A B : Prop} (hb : b = true) (h : A) : cond b A B := by rw [hb]; exact h
theorem nums2_gen (l : List (Int × Int)) : numsP 2 l.length (genC (l.map fun x => [.v (.int .i64 x.1), .v (.int .i64 x.2)])) := by
 intro i j hi hj
 rcases (by omega : j = 0 ∨ j = 1) with rfl | rfl <;> simp [genC, List.getD, hi, cvInt]
def tabM (n : Nat) (t : List Int) : Nat → Nat → Int := fun i j => t.getD (i * n + j) far
def AgM (n : Nat) (f : Nat → Nat → Int) (t : List Int) : Prop := t.length = n * n ∧ ∀ x y, x < n → y < n → f x y = tabM n t x y
theorem ix_lt {n i j : Nat} (hi : i < n) (hj : j < n) : i * n + j < n * n := by
 have : (i + 1) * n ≤ n * n := Nat.mul_le_mul_right n hi
 rw [Nat.succ_mul] at this; omega
theorem ix_eq {n i j x y : Nat} (hj : j < n) (hy : y < n) (h : i * n + j = x * n + y) : i = x ∧ j = y := by
 have h1 : (i * n + j) / n = i := by rw [Nat.add_comm, Nat.add_mul_div_right _ _ (by omega), Nat.div_eq_of_lt hj, Nat.zero_add]
 have h2 : (x * n + y) / n = x := by rw [Nat.add_comm, Nat.add_mul_div_right _ _ (by omega), Nat.div_eq_of_lt hy, Nat.zero_add]
 have e : i = x := by rw [← h1, ← h2, h]
 subst e
 exact ⟨rfl, by omega⟩
theorem AgM.upd {n : Nat} {f : Nat → Nat → Int} {t : List Int} (h : AgM n f t) {i j : Nat} (hi : i < n) (hj : j < n) (v : Int) : AgM n (updI f i j v) (t.set (i * n + j) v) := by
 refine ⟨by rw [List.length_set]; exact h.1, fun x y hx hy => ?_⟩
 unfold updI
 by_cases e : x = i ∧ y = j
 ·obtain ⟨rfl, rfl⟩ := e
  rw [if_pos ⟨rfl, rfl⟩]
  simp [tabM, List.getD, h.1, ix_lt hi hj]
 ·rw [if_neg e, h.2 x y hx hy]
  have : i * n + j ≠ x * n + y := fun q => e ⟨(ix_eq hj hy q).1.symm, (ix_eq hj hy q).2.symm⟩
  simp [tabM, List.getD, List.getElem?_set, this]
def stepT (n : Nat) (t : List Int) (k i j : Nat) : List Int := if tabM n t i k < far ∧ tabM n t k j < far then t.set (i * n + j) (min (tabM n t i j) (tabM n t i k + tabM n t k j)) else t
theorem AgM.step {n : Nat} {f : Nat → Nat → Int} {t : List Int} (h : AgM n f t) {k i j : Nat} (hk : k < n) (hi : i < n) (hj : j < n) : AgM n (stepK f k i j) (stepT n t k i j) := by
 unfold stepK stepT
 rw [← h.2 i k hi hk, ← h.2 k j hk hj, ← h.2 i j hi hj]
 split
 ·exact h.upd hi hj _
 ·exact h
def jT (n : Nat) (t : List Int) (k i : Nat) : Nat → List Int
 | 0 => t
 | j + 1 => stepT n (jT n t k i j) k i j
def iT (n : Nat) (t : List Int) (k : Nat) : Nat → List Int
 | 0 => t
 | i + 1 => jT n (iT n t k i) k i n
def kT (n : Nat) (t : List Int) : Nat → List Int
 | 0 => t
 | k + 1 => iT n (kT n t k) k n
theorem AgM.j {n : Nat} {f : Nat → Nat → Int} {t : List Int} (h : AgM n f t) {k i : Nat} (hk : k < n) (hi : i < n) : ∀ j, j ≤ n → AgM n (jK f k i j) (jT n t k i j)
 | 0, _ => h
 | j + 1, hj => (AgM.j h hk hi j (by omega)).step hk hi (by omega)
theorem AgM.i {n : Nat} {f : Nat → Nat → Int} {t : List Int} (h : AgM n f t) {k : Nat} (hk : k < n) : ∀ i, i ≤ n → AgM n (iK f n k i) (iT n t k i)
 | 0, _ => h
 | i + 1, hi => (AgM.i h hk i (by omega)).j hk (by omega) n (Nat.le_refl _)
theorem AgM.k {n : Nat} {f : Nat → Nat → Int} {t : List Int} (h : AgM n f t) : ∀ k, k ≤ n → AgM n (kK f n k) (kT n t k)
 | 0, _ => h
 | k + 1, hk => (AgM.k h k (by omega)).i (by omega) n (Nat.le_refl _)
def lnkT (n : Nat) (t : List Int) (x : Lnk) : List Int := (fun t => t.set (x.to.toNat * n + x.frm.toNat) (min (tabM n t x.to.toNat x.frm.toNat) (-x.lo))) (t.set (x.frm.toNat * n + x.to.toNat) (min (tabM n t x.frm.toNat x.to.toNat) x.hi))
theorem AgM.lnk {n : Nat} {f : Nat → Nat → Int} {t : List Int} (h : AgM n f t) {x : Lnk} (hx : x.ok n) : AgM n (lnkG f x) (lnkT n t x) := by
 obtain ⟨h1, h2, _⟩ := hx
 have g := h.upd (i := x.frm.toNat) (j := x.to.toNat) (by omega) (by omega) (min (tabM n t x.frm.toNat x.to.toNat) x.hi)
 have g2 := g.upd (i := x.to.toNat) (j := x.frm.toNat) (by omega) (by omega) (min (tabM n (t.set (x.frm.toNat * n + x.to.toNat) (min (tabM n t x.frm.toNat x.to.toNat) x.hi)) x.to.toNat x.frm.toNat) (-x.lo))
 rw [← g.2 _ _ (by omega) (by omega), ← h.2 _ _ (by omega) (by omega)] at g2
 unfold lnkG lnkF lnkT
 rw [← h.2 _ _ (by omega) (by omega)]
 rw [← h.2 _ _ (by omega) (by omega)] at g
 dsimp only
 rw [← g.2 _ _ (by omega) (by omega)]
 exact g2
def initT (n : Nat) : List Int := (List.range (n * n)).map fun q => if q / n = q % n then 0 else far
theorem AgM.init {n : Nat} : AgM n initM (initT n) := by
 refine ⟨by simp [initT], fun x y hx hy => ?_⟩
 have h1 : (x * n + y) / n = x := by rw [Nat.add_comm, Nat.add_mul_div_right _ _ (by omega), Nat.div_eq_of_lt hy, Nat.zero_add]
 have h2 : (x * n + y) % n = y := by rw [Nat.add_comm, Nat.add_mul_mod_self_right, Nat.mod_eq_of_lt hy]
 simp [tabM, initT, List.getD, ix_lt hx hy, h1, h2, initM]
def bdT (l : List Lnk) (n : Nat) : List Int := kT n (l.foldl (lnkT n) (initT n)) n
theorem AgM.links {n : Nat} : ∀ {l : List Lnk} {f : Nat → Nat → Int} {t : List Int}, (∀ x ∈ l, x.ok n) → AgM n f t → AgM n (l.foldl lnkG f) (l.foldl (lnkT n) t)
 | [], _, _, _, h => h
 | x :: l, f, t, hx, h => AgM.links (f := lnkG f x) (t := lnkT n t x) (fun y hy => hx y (by simp [hy])) (h.lnk (hx x (by simp)))
theorem lnks_ok {n : Nat} {l : List Lnk} (h : ∀ k, k < l.length → (lnkAt l k).ok n) : ∀ x ∈ l, x.ok n := by
 intro x hx
 obtain ⟨i, hi, e⟩ := List.mem_iff_getElem.1 hx
 have := h i hi
 rwa [show lnkAt l i = x by simp [lnkAt, List.getD, hi, e]] at this
theorem bd_tab {n : Nat} {l : List Lnk} (h : ∀ k, k < l.length → (lnkAt l k).ok n) : AgM n (bdF l n) (bdT l n) := by
 unfold bdF bdT lnkM
 rw [List.take_length]
 exact (AgM.links (lnks_ok h) AgM.init).k n (Nat.le_refl _)
theorem ex_nt : ntE exC exL = 0 := by kernel_rfl
theorem ex_bd (i j : Nat) (hi : i < 3) (hj : j < 3) : bdF exL 3 i j = tabM 3 [0, 7, 9, -5, 0, 2, -7, -1, 0] i j := by
 have h := ntE_bd ex_nt
 have e := (bd_tab (n := 3) h.2.2).2 i j hi hj
 rw [e, show bdT exL 3 = [0, 7, 9, -5, 0, 2, -7, -1, 0] from by kernel_rfl]
theorem ex_bdB : bdB exL exC.length = true := by
 rw [bdB_true]
 intro i hi
 have hi : i < 3 := hi
 rw [show exC.length = 3 from rfl, ex_bd i i hi hi]
 rcases (by omega : i = 0 ∨ i = 1 ∨ i = 2) with rfl | rfl | rfl <;> decide
theorem ex_opn (i : Nat) (hi : i < 3) : opnB exL 3 i = false := by
 unfold opnB
 rw [ex_bd 0 i (by omega) hi, ex_bd i 0 hi (by omega)]
 rcases (by omega : i = 0 ∨ i = 1 ∨ i = 2) with rfl | rfl | rfl <;> decide
theorem ex_ofE : ofE exC exL = 0 := by
 unfold ofE
 rw [if_neg (by rw [ex_nt]; simp), if_pos ex_bdB, if_neg]
 intro h
 unfold ofS at h
 obtain ⟨i, hi, e⟩ := List.any_eq_true.1 h
 rw [show exC.length = 3 from rfl, ex_opn i (List.mem_range.1 hi)] at e
 cases e
theorem ex_ofV : ofV exC exL = [⟨0, 0⟩, ⟨5, 7⟩, ⟨7, 9⟩] := by
 unfold ofV ofK
 rw [if_pos ex_ofE, show exC.length = 3 from rfl]
 simp only [show List.range 3 = [0, 1, 2] from rfl, List.map_cons, List.map_nil]
 rw [ex_bd 0 0 (by omega) (by omega), ex_bd 1 0 (by omega) (by omega), ex_bd 0 1 (by omega) (by omega), ex_bd 2 0 (by omega) (by omega), ex_bd 0 2 (by omega) (by omega)]
 rfl
def vc_law01_awake  (post : DV → Prop) : Prop := (numsP 4 exP.length (pngsC exP)) ∧ ((txP exC.length (txsC exC) ∧ numsP 4 exL.length (lnksC exL) ∧ (∀ k, k < ((txOf exC.length (txsC exC))).length → (txAt (txOf exC.length (txsC exC)) k).size ≤ 1000000)) ∧ ((numsP 1 4 (genC [[.v (.int .i64 7)], [.v (.int .i64 2)], [.v (.int .i64 2)], [.v (.int .i64 9)]]) ∧ (([(7 : Int), (2 : Int), (2 : Int), (9 : Int)] : List Int)).length ≤ 1000000) ∧ ((numsP 2 2 (genC [[.v (.int .i64 100), .v (.int .i64 5)], [.v (.int .i64 200), .v (.int .i64 (-3))]])) ∧ ((numsP 1 6 (genC [[.v (.int .i64 0)], [.v (.int .i64 1)], [.v (.int .i64 2)], [.v (.int .i64 3)], [.v (.int .i64 6)], [.v (.int .i64 0)]]) ∧ numsP 1 4 (genC [[.v (.int .i64 1)], [.v (.int .i64 2)], [.v (.int .i64 3)], [.v (.int .i64 6)]]) ∧ (([(0 : Int), (1 : Int), (2 : Int), (3 : Int), (6 : Int), (0 : Int)] : List Int)).length ≤ 1000000 ∧ (([(1 : Int), (2 : Int), (3 : Int), (6 : Int)] : List Int)).length ≤ 1000000) ∧ (cond ((obE (⟨(100 : Int), (2 : Int)⟩ : Cab) (listC exP.length mkPng (pngsC exP)) (50050 : Int)) == (0 : Int)) (cond (bif (((taV (⟨(100 : Int), (2 : Int)⟩ : Cab) (listC exP.length mkPng (pngsC exP)) (50050 : Int)).lo) == (51045 : Int)) then (bif (((taV (⟨(100 : Int), (2 : Int)⟩ : Cab) (listC exP.length mkPng (pngsC exP)) (50050 : Int)).hi) == (51057 : Int)) then true else false) else false) (cond ((ofE (txOf exC.length (txsC exC)) (listC exL.length mkLnk (lnksC exL))) == (0 : Int)) ((numsP 2 ((ofV (txOf exC.length (txsC exC)) (listC exL.length mkLnk (lnksC exL))).length) (rgsC (ofV (txOf exC.length (txsC exC)) (listC exL.length mkLnk (lnksC exL)))) ∧ numsP 2 3 (genC [[.v (.int .i64 0), .v (.int .i64 0)], [.v (.int .i64 5), .v (.int .i64 7)], [.v (.int .i64 7), .v (.int .i64 9)]]) ∧ ((listC ((ofV (txOf exC.length (txsC exC)) (listC exL.length mkLnk (lnksC exL))).length) mkRg (rgsC (ofV (txOf exC.length (txsC exC)) (listC exL.length mkLnk (lnksC exL)))))).length ≤ 1000000) ∧ (cond (decide ((listC ((ofV (txOf exC.length (txsC exC)) (listC exL.length mkLnk (lnksC exL))).length) mkRg (rgsC (ofV (txOf exC.length (txsC exC)) (listC exL.length mkLnk (lnksC exL))))) = (listC 3 mkRg (genC [[.v (.int .i64 0), .v (.int .i64 0)], [.v (.int .i64 5), .v (.int .i64 7)], [.v (.int .i64 7), .v (.int .i64 9)]])))) (cond ((urE ([(7 : Int), (2 : Int), (2 : Int), (9 : Int)] : List Int) (10 : Int)) == (0 : Int)) ((numsP 1 ((urR ([(7 : Int), (2 : Int), (2 : Int), (9 : Int)] : List Int) (10 : Int)).length) (intsC (urR ([(7 : Int), (2 : Int), (2 : Int), (9 : Int)] : List Int) (10 : Int))) ∧ numsP 1 4 (genC [[.v (.int .i64 7)], [.v (.int .i64 12)], [.v (.int .i64 12)], [.v (.int .i64 19)]]) ∧ ((listC ((urR ([(7 : Int), (2 : Int), (2 : Int), (9 : Int)] : List Int) (10 : Int)).length) mkInt (intsC (urR ([(7 : Int), (2 : Int), (2 : Int), (9 : Int)] : List Int) (10 : Int))))).length ≤ 1000000) ∧ (cond (decide ((listC ((urR ([(7 : Int), (2 : Int), (2 : Int), (9 : Int)] : List Int) (10 : Int)).length) mkInt (intsC (urR ([(7 : Int), (2 : Int), (2 : Int), (9 : Int)] : List Int) (10 : Int)))) = ([(7 : Int), (12 : Int), (12 : Int), (19 : Int)] : List Int))) (cond ((tfE (listC 2 mkLpp (genC [[.v (.int .i64 100), .v (.int .i64 5)], [.v (.int .i64 200), .v (.int .i64 (-3))]])) (203 : Int)) == (0 : Int)) ((numsP 1 ((tfV (listC 2 mkLpp (genC [[.v (.int .i64 100), .v (.int .i64 5)], [.v (.int .i64 200), .v (.int .i64 (-3))]])) (203 : Int)).length) (intsC (tfV (listC 2 mkLpp (genC [[.v (.int .i64 100), .v (.int .i64 5)], [.v (.int .i64 200), .v (.int .i64 (-3))]])) (203 : Int))) ∧ numsP 1 2 (genC [[.v (.int .i64 198)], [.v (.int .i64 201)]]) ∧ ((listC ((tfV (listC 2 mkLpp (genC [[.v (.int .i64 100), .v (.int .i64 5)], [.v (.int .i64 200), .v (.int .i64 (-3))]])) (203 : Int)).length) mkInt (intsC (tfV (listC 2 mkLpp (genC [[.v (.int .i64 100), .v (.int .i64 5)], [.v (.int .i64 200), .v (.int .i64 (-3))]])) (203 : Int))))).length ≤ 1000000) ∧ (cond (decide ((listC ((tfV (listC 2 mkLpp (genC [[.v (.int .i64 100), .v (.int .i64 5)], [.v (.int .i64 200), .v (.int .i64 (-3))]])) (203 : Int)).length) mkInt (intsC (tfV (listC 2 mkLpp (genC [[.v (.int .i64 100), .v (.int .i64 5)], [.v (.int .i64 200), .v (.int .i64 (-3))]])) (203 : Int)))) = ([(198 : Int), (201 : Int)] : List Int))) (cond ((avE ([(0 : Int), (1 : Int), (2 : Int), (3 : Int), (6 : Int), (0 : Int)] : List Int) ([(1 : Int), (2 : Int), (3 : Int), (6 : Int)] : List Int)) == (0 : Int)) (post (.t (.c (.v (.bool ((avV ([(0 : Int), (1 : Int), (2 : Int), (3 : Int), (6 : Int), (0 : Int)] : List Int) ([(1 : Int), (2 : Int), (3 : Int), (6 : Int)] : List Int)) == (1 : Int))))))) ((false = false) ∧ (post (.t (.c (.v (.bool false))))))) ((false = false) ∧ ((false = false) ∧ (post (.t (.c (.v (.bool false))))))))) ((false = false) ∧ ((false = false) ∧ ((false = false) ∧ (post (.t (.c (.v (.bool false))))))))) ((false = false) ∧ ((false = false) ∧ ((false = false) ∧ ((false = false) ∧ (post (.t (.c (.v (.bool false))))))))))) ((false = false) ∧ ((false = false) ∧ ((false = false) ∧ ((false = false) ∧ ((false = false) ∧ (post (.t (.c (.v (.bool false))))))))))) ((false = false) ∧ ((false = false) ∧ ((false = false) ∧ ((false = false) ∧ ((false = false) ∧ ((false = false) ∧ (post (.t (.c (.v (.bool false))))))))))))) ((false = false) ∧ ((false = false) ∧ ((false = false) ∧ ((false = false) ∧ ((false = false) ∧ ((false = false) ∧ ((false = false) ∧ (post (.t (.c (.v (.bool false))))))))))))) ((false = false) ∧ ((false = false) ∧ ((false = false) ∧ ((false = false) ∧ ((false = false) ∧ ((false = false) ∧ ((false = false) ∧ ((false = false) ∧ (post (.t (.c (.v (.bool false)))))))))))))) ((false = false) ∧ ((false = false) ∧ ((false = false) ∧ ((false = false) ∧ ((false = false) ∧ ((false = false) ∧ ((false = false) ∧ ((false = false) ∧ ((false = false) ∧ (post (.t (.c (.v (.bool false)))))))))))))))))))
def ann_law01_awake : Ann := ⟨fun _ => none, fun _ => none, fun _ => [], I1, false, fun _ => none, fun _ => none⟩
theorem ev_law01_awake (J : Inv)  (post : DV → Prop) : evFn Try.prog tab Sw100 ann_law01_awake J Try.f15 [] post = vc_law01_awake  post := by kernel_rfl
theorem fit_law01_awake : okFn ann_law01_awake Try.f15 = true := by kernel_rfl
theorem lp_law01_awake (J : Inv) (post : DV → Prop) : AllG J (loopsFn Try.prog tab Sw100 ann_law01_awake J Try.f15 post) = (True) := by kernel_rfl
set_option maxHeartbeats 8000000 in
set_option maxRecDepth 100000 in
theorem spec_law01_awake  : vc_law01_awake  (fun r => LeD r (.t (.c (.v (.bool true))))) := by
 unfold vc_law01_awake
 rw [pngs_listC, txs_of, lnks_listC, rgs_listC, ints_listC, ints_listC]
 have hs : ∀ k, k < exC.length → (txAt exC k).size ≤ 1000000 := by
  intro k hk
  have hk : k < 3 := hk
  rcases (by omega : k = 0 ∨ k = 1 ∨ k = 2) with rfl | rfl | rfl <;> decide
 refine ⟨numsP_pngs _, ⟨txP_txs _, numsP_lnks _, hs⟩, ⟨numsP_gen [_, _, _, _], by decide⟩, nums2_gen [(100, 5), (200, -3)], ⟨numsP_gen [_, _, _, _, _, _], numsP_gen [_, _, _, _], by decide, by decide⟩, ?_⟩
 refine cond_t (by kernel_rfl) (cond_t (by kernel_rfl) (cond_t (by rw [ex_ofE]; rfl) ⟨⟨numsP_rgs _, nums2_gen [(0, 0), (5, 7), (7, 9)], by rw [ex_ofV]; decide⟩, cond_t (by rw [ex_ofV]; kernel_rfl) (cond_t (by kernel_rfl) ⟨⟨numsP_ints _, numsP_gen [_, _, _, _], by decide⟩, cond_t (by kernel_rfl) (cond_t (by kernel_rfl) ⟨⟨numsP_ints _, numsP_gen [_, _], by decide⟩, cond_t (by kernel_rfl) (cond_t (by kernel_rfl) (leB (by kernel_rfl)))⟩)⟩)⟩))
def con_law01_awake : Con := fun args => match args with
 | [] => some (.t (.c (.v (.bool true))), none, false)
 | _ => none
theorem ok_law01_awake : Ok Try.prog 15 con_law01_awake := by
 refine Ok.fn (ann := ann_law01_awake) mixed tabOK VSw100 VI1 (fn := Try.f15) (by kernel_rfl) (by kernel_rfl) fit_law01_awake fun args r pre fresh h hp => ?_
 unfold con_law01_awake at h
 split at h
 ·cases h
  refine ⟨rfl, fun _ _ _ => False, _, LeA.refl _, Nat.le_of_ble_eq_true (by kernel_rfl), ?_, ?_⟩
  ·rw [ev_law01_awake]; exact spec_law01_awake 
  ·rw [lp_law01_awake]; trivial
 ·cases h
def Sy101 : Sum := addS Sw100 15 con_law01_awake
theorem VSy101 : Valid Try.prog Sy101 := Valid.add VSw100 ok_law01_awake
end Go.Proofs.Ytkifmfmenobhnaa
set_option linter.unusedVariables false
set_option linter.unusedSimpArgs false
namespace Go.Proofs.Ytkifmfmenobhnaa
open Go.RowKit Ev
@[reducible] def cvs36 (f : Nat → Nat → Int) : List CV := (List.range 36).map fun q => .v (.int .i64 (f (q / 6) (q % 6)))
end Go.Proofs.Ytkifmfmenobhnaa
set_option linter.unusedVariables false
set_option linter.unusedSimpArgs false
namespace Go.Proofs.Ytkifmfmenobhnaa
open Go.RowKit Ev
def alI (l : List Lnk) : List Int := (List.range l.length).map fun i : Nat => (i : Int)
def woK (l : List Lnk) (q : Int) (k : Nat) : List Int := ((List.range k).filter fun i => (lnkAt l i).frm != q && (lnkAt l i).to != q).map fun i : Nat => (i : Int)
def woI (l : List Lnk) (q : Int) : List Int := woK l q l.length
theorem woK_succ (l : List Lnk) (q : Int) (k : Nat) : woK l q (k + 1) = woK l q k ++ (if ((lnkAt l k).frm != q && (lnkAt l k).to != q) = true then [(k : Int)] else []) := by
 unfold woK
 rw [List.range_succ, List.filter_append, List.map_append]
 congr 1
 rw [List.filter_cons]
 cases ((lnkAt l k).frm != q && (lnkAt l k).to != q) <;> rfl
theorem woK_len (l : List Lnk) (q : Int) (k : Nat) : (woK l q k).length ≤ k := by
 unfold woK
 rw [List.length_map]
 have := List.length_filter_le (fun i => (lnkAt l i).frm != q && (lnkAt l i).to != q) (List.range k)
 rwa [List.length_range] at this
def coF (ls : List Lnk) (o : List Int) (i : Nat) : Int := unl (inB (o.getD (lnkAt ls i).to.toNat 0 - o.getD (lnkAt ls i).frm.toNat 0) (lnkAt ls i).lo (lnkAt ls i).hi) 19
def Scc102 : Sum := Sy101
theorem VScc102 : Valid Try.prog Scc102 := VSy101
def Scc103 : Sum := Scc102
theorem VScc103 : Valid Try.prog Scc103 := VScc102
def Scc104 : Sum := Scc103
theorem VScc104 : Valid Try.prog Scc104 := VScc103
def vc_clock_CheckOffsets_1 (m : Int) (post : DV → Prop) : Prop := post (.t (.c (.v (.bool (!(inB m (-8000000000 : Int) (8000000000 : Int)))))))
def ann_clock_CheckOffsets_1 : Ann := ⟨fun _ => none, fun _ => none, fun _ => [], I1, false, fun _ => none, fun _ => none⟩
theorem ev_clock_CheckOffsets_1 (J : Inv) (m : Int) (post : DV → Prop) : evFn Try.prog tab Scc104 ann_clock_CheckOffsets_1 J Try.f94 [.t (.c (.v (.int .i64 m)))] post = vc_clock_CheckOffsets_1 m post := by kernel_rfl
theorem fit_clock_CheckOffsets_1 : okFn ann_clock_CheckOffsets_1 Try.f94 = true := by kernel_rfl
theorem lp_clock_CheckOffsets_1 (J : Inv) (post : DV → Prop) : AllG J (loopsFn Try.prog tab Scc104 ann_clock_CheckOffsets_1 J Try.f94 post) = (True) := by kernel_rfl
theorem spec_clock_CheckOffsets_1 (m : Int) : vc_clock_CheckOffsets_1 m (fun r => LeD r (.t (.c (.v (.bool (!inB m (-8000000000) 8000000000)))))) := by
 exact LeD.refl _
def con_clock_CheckOffsets_1 : Con := fun args => match args with
 | [.t (.c (.v (.int .i64 m)))] => some (.t (.c (.v (.bool (!inB m (-8000000000) 8000000000)))), none, false)
 | _ => none
theorem ok_clock_CheckOffsets_1 : Ok Try.prog 94 con_clock_CheckOffsets_1 := by
 refine Ok.fn (ann := ann_clock_CheckOffsets_1) mixed tabOK VScc104 VI1 (fn := Try.f94) (by kernel_rfl) (by kernel_rfl) fit_clock_CheckOffsets_1 fun args r pre fresh h hp => ?_
 unfold con_clock_CheckOffsets_1 at h
 split at h
 ·rename_i m
  cases h
  refine ⟨rfl, fun _ _ _ => False, _, LeA.refl _, Nat.le_of_ble_eq_true (by kernel_rfl), ?_, ?_⟩
  ·rw [ev_clock_CheckOffsets_1]; exact spec_clock_CheckOffsets_1 m
  ·rw [lp_clock_CheckOffsets_1]; trivial
 ·cases h
def Scc105 : Sum := addS Scc104 94 con_clock_CheckOffsets_1
theorem VScc105 : Valid Try.prog Scc105 := Valid.add VScc104 ok_clock_CheckOffsets_1
def mk_slices_IndexFunc_int_int_c_0 (l : List Int) (v0_0 : Int) : DS := ⟨[some (.t (.c (.sl 1 l.length (intsC l)))), some (.t (.fn 94 [])), none, none, none, none, none, some (.t (.c (.v (.int .i64 ((l.length : Nat) : Int))))), some (.t (.c (.v (.int .i64 v0_0)))), none, none, none, none, none, none, none, none, none, none], [none, none, none, none, none, none, none, none, none, none, none, none, none, none, none, none, none, none, none]⟩
def vc_slices_IndexFunc_int_int_c (J : Inv) (l : List Int) (post : DV → Prop) : Prop := ∃ n, J 0 (n :: []) (mk_slices_IndexFunc_int_int_c_0 l 0)
def ann_slices_IndexFunc_int_int_c : Ann := ⟨fun _ => none, fun b => lookA b [(0, (none, some ⟨[0, 1, 7, 8], [], []⟩))], fun _ => [], I1, false, fun _ => none, fun _ => none⟩
theorem ev_slices_IndexFunc_int_int_c (J : Inv) (l : List Int) (post : DV → Prop) : evFn Try.prog tab Scc105 ann_slices_IndexFunc_int_int_c J Try.f124 [.t (.c (.sl 1 l.length (intsC l))), .t (.fn 94 [])] post = vc_slices_IndexFunc_int_int_c J l post := by kernel_rfl
theorem fit_slices_IndexFunc_int_int_c : okFn ann_slices_IndexFunc_int_int_c Try.f124 = true := by kernel_rfl
def rd_slices_IndexFunc_int_int_c_0 (J : Inv) (l : List Int) (v0_0 : Int) (nn0 : Nat) (post : DV → Prop) : Prop := cond (decide (v0_0 < ((l.length : Nat) : Int))) ((0 ≤ v0_0 ∧ v0_0 < ((l.length : Nat) : Int)) ∧ (cond (!inB (l.getD v0_0.toNat 0) (-8000000000) 8000000000) (post (.t (.c (.v (.int .i64 v0_0))))) (lt (IntKind.i64.wrap (v0_0 + (1 : Int))) fun x1 => J 0 (nn0 :: []) (mk_slices_IndexFunc_int_int_c_0 l x1)))) (post (.t (.c (.v (.int .i64 (-1))))))
theorem er_slices_IndexFunc_int_int_c_0 (J : Inv) (l : List Int) (v0_0 : Int) (nn0 : Nat) (post : DV → Prop) : round Try.prog tab Scc105 ann_slices_IndexFunc_int_int_c J Try.f124 post 0 (nn0 :: []) (mk_slices_IndexFunc_int_int_c_0 l v0_0) = rd_slices_IndexFunc_int_int_c_0 J l v0_0 nn0 post := by kernel_rfl
theorem lp_slices_IndexFunc_int_int_c (J : Inv) (post : DV → Prop) : AllG J (loopsFn Try.prog tab Scc105 ann_slices_IndexFunc_int_int_c J Try.f124 post) = (((∀ F s, ¬ J 0 (0 :: F) s) ∧ ∀ n F s, J 0 ((n + 1) :: F) s → round Try.prog tab Scc105 ann_slices_IndexFunc_int_int_c J Try.f124 post 0 (n :: F) s) ∧ True) := by kernel_rfl
def J_slices_IndexFunc_int_int_c (l : List Int) : Inv := fun b F s => match b, F with
 | 0, [nn0] => ∃ (v0_0 : Int), s = mk_slices_IndexFunc_int_int_c_0 l v0_0 ∧ ((l.length ≤ 1000000) ∧ 0 ≤ v0_0 ∧ v0_0 ≤ l.length ∧ (nn0 : Int) + v0_0 = l.length + 1 ∧ ∀ k : Nat, (k : Int) < v0_0 → (!inB (l.getD k 0) (-8000000000) 8000000000) = false)
 | _, _ => False
theorem rnd_slices_IndexFunc_int_int_c_0 (l : List Int) (v0_0 : Int) (nn0 : Nat) (hp : (l).length ≤ 1000000) (hi : (l.length ≤ 1000000) ∧ 0 ≤ v0_0 ∧ v0_0 ≤ l.length ∧ ((nn0 + 1) : Int) + v0_0 = l.length + 1 ∧ ∀ k : Nat, (k : Int) < v0_0 → (!inB (l.getD k 0) (-8000000000) 8000000000) = false) : rd_slices_IndexFunc_int_int_c_0 (J_slices_IndexFunc_int_int_c l) l v0_0 nn0 (fun r => LeD r (.t (.c (.v (.int .i64 (idxP (fun n => !inB n (-8000000000) 8000000000) l)))))) := by
 obtain ⟨i0, i1, i2, i3, i4⟩ := hi
 obtain ⟨k, rfl⟩ : ∃ k : Nat, v0_0 = k := ⟨v0_0.toNat, by omega⟩
 have hk : (k : Int).toNat = k := rfl
 unfold rd_slices_IndexFunc_int_int_c_0
 rw [hk]
 refine cond_i (fun h => ?_) (fun h => leI ?_)
 ·have hlt : k < l.length := by have := of_decide_eq_true h; omega
  refine ⟨by omega, cond_i (fun e => leI ?_) (fun e => lt_i fun x hx => ?_)⟩
  ·exact (idxP_at (d := (0 : Int)) hlt (fun j hj => i4 j (by omega)) (by simpa using e)).symm
  ·rw [wi (by omega)] at hx
   subst hx
   exact ⟨_, rfl, i0, by omega, by omega, by omega, fun j hj => by
    by_cases q : j = k
    ·rw [q]; simpa using e
    ·exact i4 j (by omega)⟩
 ·have hge : k = l.length := by have := of_decide_eq_false h; omega
  subst hge
  exact (idxP_none (d := (0 : Int)) fun j hj => i4 j (by omega)).symm
theorem zero_slices_IndexFunc_int_int_c_0 (l : List Int) (v0_0 : Int)  (hi : (l.length ≤ 1000000) ∧ 0 ≤ v0_0 ∧ v0_0 ≤ l.length ∧ (0 : Int) + v0_0 = l.length + 1 ∧ ∀ k : Nat, (k : Int) < v0_0 → (!inB (l.getD k 0) (-8000000000) 8000000000) = false) : False := by
 omega
theorem spec_slices_IndexFunc_int_int_c (l : List Int) (hp : (l).length ≤ 1000000) : vc_slices_IndexFunc_int_int_c (J_slices_IndexFunc_int_int_c l) l (fun r => LeD r (.t (.c (.v (.int .i64 (idxP (fun n => !inB n (-8000000000) 8000000000) l)))))) := by
 unfold vc_slices_IndexFunc_int_int_c
 exact ⟨l.length + 1, 0, rfl, hp, by omega, by omega, by omega, fun j hj => by omega⟩
theorem all_slices_IndexFunc_int_int_c (l : List Int) (hp : (l).length ≤ 1000000) : AllG (J_slices_IndexFunc_int_int_c l) (loopsFn Try.prog tab Scc105 ann_slices_IndexFunc_int_int_c (J_slices_IndexFunc_int_int_c l) Try.f124 (fun r => LeD r (.t (.c (.v (.int .i64 (idxP (fun n => !inB n (-8000000000) 8000000000) l))))))) := by
 rw [lp_slices_IndexFunc_int_int_c]
 refine ⟨⟨?_, ?_⟩, trivial⟩
 ·intro F s h
  obtain _ | ⟨g, F⟩ := F
  case cons => exact h.elim
  obtain ⟨w0, rfl, hi⟩ := h
  exact zero_slices_IndexFunc_int_int_c_0 l w0 hi
 ·intro n F s h
  obtain _ | ⟨g, F⟩ := F
  case cons => exact h.elim
  obtain ⟨w0, rfl, hi⟩ := h
  rw [er_slices_IndexFunc_int_int_c_0]
  exact rnd_slices_IndexFunc_int_int_c_0 l _ _ hp hi
def con_slices_IndexFunc_int_int_c : Con := fun args => match args with
 | [.t (.c (.sl 1 n_l c_l)), .t (.fn 94 [])] => some (.t (.c (.v (.int .i64 (idxP (fun n => !inB n (-8000000000) 8000000000) (listC n_l mkInt c_l))))), some (numsP 1 n_l c_l ∧ ((listC n_l mkInt c_l)).length ≤ 1000000), false)
 | _ => none
theorem ok_slices_IndexFunc_int_int_c : Ok Try.prog 124 con_slices_IndexFunc_int_int_c := by
 refine Ok.fn (ann := ann_slices_IndexFunc_int_int_c) mixed tabOK VScc105 VI1 (fn := Try.f124) (by kernel_rfl) (by kernel_rfl) fit_slices_IndexFunc_int_int_c fun args r pre fresh h hp => ?_
 unfold con_slices_IndexFunc_int_int_c at h
 split at h
 ·rename_i n_l c_l
  cases h
  obtain ⟨hp0, hp⟩ := hp
  refine ⟨rfl, J_slices_IndexFunc_int_int_c (listC n_l mkInt c_l), [.t (.c (.sl 1 ((listC n_l mkInt c_l).length) (intsC (listC n_l mkInt c_l)))), .t (.fn 94 [])], ?_, Nat.le_of_ble_eq_true (by kernel_rfl), ?_, ?_⟩
  ·exact (LeA_cons (leT_c ((leL_int hp0))) (LeA_cons (leT_f LeCs.nil) LeA_nil))
  ·rw [ev_slices_IndexFunc_int_int_c]; exact spec_slices_IndexFunc_int_int_c (listC n_l mkInt c_l) hp
  ·exact all_slices_IndexFunc_int_int_c (listC n_l mkInt c_l) hp
 ·cases h
def Scc106 : Sum := addF Scc105 124 con_slices_IndexFunc_int_int_c
theorem VScc106 : Valid Try.prog Scc106 := Valid.addF VScc105 ok_slices_IndexFunc_int_int_c
def vc_slices_ContainsFunc_int_int_c (l : List Int) (post : DV → Prop) : Prop := (numsP 1 l.length (intsC l) ∧ ((listC l.length mkInt (intsC l))).length ≤ 1000000) ∧ (post (.t (.c (.v (.bool (decide ((idxP (fun n => !inB n (-8000000000) 8000000000) (listC l.length mkInt (intsC l))) ≥ (0 : Int))))))))
def ann_slices_ContainsFunc_int_int_c : Ann := ⟨fun _ => none, fun _ => none, fun _ => [], I1, false, fun _ => none, fun _ => none⟩
theorem ev_slices_ContainsFunc_int_int_c (J : Inv) (l : List Int) (post : DV → Prop) : evFn Try.prog tab Scc106 ann_slices_ContainsFunc_int_int_c J Try.f80 [.t (.c (.sl 1 l.length (intsC l))), .t (.fn 94 [])] post = vc_slices_ContainsFunc_int_int_c l post := by kernel_rfl
theorem fit_slices_ContainsFunc_int_int_c : okFn ann_slices_ContainsFunc_int_int_c Try.f80 = true := by kernel_rfl
theorem lp_slices_ContainsFunc_int_int_c (J : Inv) (post : DV → Prop) : AllG J (loopsFn Try.prog tab Scc106 ann_slices_ContainsFunc_int_int_c J Try.f80 post) = (True) := by kernel_rfl
theorem spec_slices_ContainsFunc_int_int_c (l : List Int) (hp : (l).length ≤ 1000000) : vc_slices_ContainsFunc_int_int_c l (fun r => LeD r (.t (.c (.v (.bool ((l).any fun n => !inB n (-8000000000) 8000000000)))))) := by
 unfold vc_slices_ContainsFunc_int_int_c
 rw [ints_listC]
 refine ⟨⟨numsP_ints l, hp⟩, leB ?_⟩
 rw [idxP_any]
def con_slices_ContainsFunc_int_int_c : Con := fun args => match args with
 | [.t (.c (.sl 1 n_l c_l)), .t (.fn 94 [])] => some (.t (.c (.v (.bool (((listC n_l mkInt c_l)).any fun n => !inB n (-8000000000) 8000000000)))), some (numsP 1 n_l c_l ∧ ((listC n_l mkInt c_l)).length ≤ 1000000), false)
 | _ => none
theorem ok_slices_ContainsFunc_int_int_c : Ok Try.prog 80 con_slices_ContainsFunc_int_int_c := by
 refine Ok.fn (ann := ann_slices_ContainsFunc_int_int_c) mixed tabOK VScc106 VI1 (fn := Try.f80) (by kernel_rfl) (by kernel_rfl) fit_slices_ContainsFunc_int_int_c fun args r pre fresh h hp => ?_
 unfold con_slices_ContainsFunc_int_int_c at h
 split at h
 ·rename_i n_l c_l
  cases h
  obtain ⟨hp0, hp⟩ := hp
  refine ⟨rfl, fun _ _ _ => False, [.t (.c (.sl 1 ((listC n_l mkInt c_l).length) (intsC (listC n_l mkInt c_l)))), .t (.fn 94 [])], ?_, Nat.le_of_ble_eq_true (by kernel_rfl), ?_, ?_⟩
  ·exact (LeA_cons (leT_c ((leL_int hp0))) (LeA_cons (leT_f LeCs.nil) LeA_nil))
  ·rw [ev_slices_ContainsFunc_int_int_c]; exact spec_slices_ContainsFunc_int_int_c (listC n_l mkInt c_l) hp
  ·rw [lp_slices_ContainsFunc_int_int_c]; trivial
 ·cases h
def Scc107 : Sum := addF Scc106 80 con_slices_ContainsFunc_int_int_c
theorem VScc107 : Valid Try.prog Scc107 := Valid.addF VScc106 ok_slices_ContainsFunc_int_int_c
def Scc108 : Sum := Scc107
theorem VScc108 : Valid Try.prog Scc108 := VScc107
def Scc109 : Sum := Scc108
theorem VScc109 : Valid Try.prog Scc109 := VScc108
end Go.Proofs.Ytkifmfmenobhnaa
set_option linter.unusedVariables false
set_option linter.unusedSimpArgs false
namespace Go.Proofs.Ytkifmfmenobhnaa
open Go.RowKit Ev
def rel2 (n : Nat) (U : Int) (f g : Nat → Nat → Int) : Prop := ∀ x y, x < n → y < n → (f x y = far ∧ g x y = free6) ∨ (f x y = g x y ∧ f x y ≤ U)
def relK (n : Nat) (U : Int) (k : Nat) (f g : Nat → Nat → Int) : Prop := ∀ x y, x < n → y < n → (f x y = far ∧ g x y = free6) ∨ (f x y = g x y ∧ f x y ≤ 2 * U ∧ (x = k ∨ y = k → f x y ≤ U))
theorem rel2.start {n : Nat} {U : Int} (hU : 0 ≤ U) {f g : Nat → Nat → Int} (h : rel2 n U f g) (k : Nat) : relK n U k f g := fun x y hx hy => by
 rcases h x y hx hy with h | ⟨h1, h2⟩
 ·exact Or.inl h
 ·exact Or.inr ⟨h1, by omega, fun _ => h2⟩
theorem relK.done {n : Nat} {U : Int} {k : Nat} {f g : Nat → Nat → Int} (h : relK n U k f g) : rel2 n (2 * U) f g := fun x y hx hy => by
 rcases h x y hx hy with h | ⟨h1, h2, _⟩
 ·exact Or.inl h
 ·exact Or.inr ⟨h1, h2⟩
theorem relK.step {n : Nat} {U : Int} (hU : 0 ≤ U ∧ 2 * U < 1125899906842624) {k : Nat} {f g : Nat → Nat → Int} (h : relK n U k f g) {i j : Nat} (hk : k < n) (hi : i < n) (hj : j < n) : relK n U k (stepK f k i j) (stepZ free6 g k i j) := by
 have ef : far = 1152921504606846976 := rfl
 have eg : free6 = 1125899906842624 := rfl
 have h1 := h i k hi hk
 have h2 := h k j hk hj
 have h3 := h i j hi hj
 unfold stepK stepZ
 by_cases c1 : f i k = far
 ·have d1 : g i k = free6 := by rcases h1 with h1 | ⟨h1, h4, h5⟩ <;> omega
  rw [if_neg (by omega), if_neg (by omega)]
  exact h
 ·by_cases c2 : f k j = far
  ·have d2 : g k j = free6 := by rcases h2 with h2 | ⟨h2, h4, h5⟩ <;> omega
   rw [if_neg (by omega), if_neg (by omega)]
   exact h
  ·have a1 : f i k = g i k ∧ f i k ≤ U := by
    rcases h1 with h1 | ⟨h1, h4, h5⟩
    ·exact absurd h1.1 c1
    ·exact ⟨h1, h5 (Or.inr rfl)⟩
   have a2 : f k j = g k j ∧ f k j ≤ U := by
    rcases h2 with h2 | ⟨h2, h4, h5⟩
    ·exact absurd h2.1 c2
    ·exact ⟨h2, h5 (Or.inl rfl)⟩
   rw [if_pos (by omega), if_pos (by omega)]
   intro x y hx hy
   unfold updI
   by_cases e : x = i ∧ y = j
   ·rw [if_pos e, if_pos e]
    obtain ⟨rfl, rfl⟩ := e
    refine Or.inr ?_
    rcases h3 with ⟨b1, b2⟩ | ⟨b1, b2, b3⟩
    ·refine ⟨by omega, by omega, fun hxy => ?_⟩
     exfalso
     rcases hxy with q | q
     ·rw [q] at b1; exact c2 b1
     ·rw [q] at b1; exact c1 b1
    ·refine ⟨by omega, by omega, fun hxy => ?_⟩
     have := b3 hxy
     omega
   ·rw [if_neg e, if_neg e]
    exact h x y hx hy
theorem relK.j {n : Nat} {U : Int} (hU : 0 ≤ U ∧ 2 * U < 1125899906842624) {k : Nat} {f g : Nat → Nat → Int} (h : relK n U k f g) {i : Nat} (hk : k < n) (hi : i < n) : ∀ j, j ≤ n → relK n U k (jK f k i j) (jZ free6 g k i j)
 | 0, _ => h
 | j + 1, hj => (relK.j hU h hk hi j (by omega)).step hU hk hi (by omega)
theorem relK.i {n : Nat} {U : Int} (hU : 0 ≤ U ∧ 2 * U < 1125899906842624) {k : Nat} {f g : Nat → Nat → Int} (h : relK n U k f g) (hk : k < n) : ∀ i, i ≤ n → relK n U k (iK f n k i) (iZ free6 g n k i)
 | 0, _ => h
 | i + 1, hi => (relK.i hU h hk i (by omega)).j hU hk (by omega) n (Nat.le_refl _)
theorem rel2.k {n : Nat} {f g : Nat → Nat → Int} (hn : n ≤ 6) (h : rel2 n 1000000000 f g) : ∀ k, k ≤ n → rel2 n (2 ^ k * 1000000000) (kK f n k) (kZ free6 g n k)
 | 0, _ => by simpa [kK, kZ] using h
 | k + 1, hk => by
  have ih := rel2.k hn h k (by omega)
  have hp : (0 : Int) ≤ 2 ^ k * 1000000000 ∧ 2 * (2 ^ k * 1000000000) < (1125899906842624 : Int) := by
   rcases (by omega : k = 0 ∨ k = 1 ∨ k = 2 ∨ k = 3 ∨ k = 4 ∨ k = 5) with rfl | rfl | rfl | rfl | rfl | rfl <;> decide
  have := ((ih.start hp.1 k).i hp (by omega) n (Nat.le_refl _)).done
  rw [Int.pow_succ, Int.mul_comm ((2 : Int) ^ k) 2, Int.mul_assoc]
  exact this
theorem rel2.lnk {n : Nat} {f g : Nat → Nat → Int} (h : rel2 n 1000000000 f g) {x : Lnk} (hx : x.ok n) : rel2 n 1000000000 (lnkG f x) (lnkG g x) := by
 have ef : far = 1152921504606846976 := rfl
 have eg : free6 = 1125899906842624 := rfl
 obtain ⟨o1, o2, o3, o4, o5, o6⟩ := hx
 have F : rel2 n 1000000000 (lnkF f x) (lnkF g x) := fun p q hp hq => by
  have h1 := h x.frm.toNat x.to.toNat (by omega) (by omega)
  unfold lnkF updI
  by_cases e : p = x.frm.toNat ∧ q = x.to.toNat
  ·rw [if_pos e, if_pos e]
   refine Or.inr ?_
   rcases h1 with h1 | ⟨h1, h2⟩ <;> omega
  ·rw [if_neg e, if_neg e]; exact h p q hp hq
 intro p q hp hq
 have h1 := F x.to.toNat x.frm.toNat (by omega) (by omega)
 unfold lnkG
 unfold updI
 by_cases e : p = x.to.toNat ∧ q = x.frm.toNat
 ·rw [if_pos e, if_pos e]
  refine Or.inr ?_
  rcases h1 with h1 | ⟨h1, h2⟩ <;> omega
 ·rw [if_neg e, if_neg e]; exact F p q hp hq
def selL (l : List Lnk) (s : List Int) : List Lnk := s.map fun q => lnkAt l q.toNat
theorem sel_len (l : List Lnk) (s : List Int) : (selL l s).length = s.length := by simp [selL]
theorem sel_at {l : List Lnk} {s : List Int} {k : Nat} (h : k < s.length) : lnkAt (selL l s) k = lnkAt l (s.getD k 0).toNat := by simp [lnkAt, selL, List.getD, h]
theorem sel_ok {n : Nat} {l : List Lnk} {s : List Int} (hok : ∀ k, k < l.length → (lnkAt l k).ok n) (hs : ∀ k, k < s.length → 0 ≤ s.getD k 0 ∧ s.getD k 0 < l.length) : ∀ k, k < (selL l s).length → (lnkAt (selL l s) k).ok n := fun k hk => by
 rw [sel_len] at hk
 rw [sel_at hk]
 have := hs k hk
 exact hok _ (by omega)
theorem rel2.init (n : Nat) : rel2 n 1000000000 initM (iniC n n 0) := fun x y hx hy => by
 unfold initM iniC
 rw [if_pos (show x < n ∧ y < n from ⟨hx, hy⟩)]
 by_cases e : x = y
 ·rw [if_pos e, if_pos e]; exact Or.inr ⟨rfl, by decide⟩
 ·rw [if_neg e, if_neg e]; exact Or.inl ⟨rfl, rfl⟩
theorem rel2.links {n : Nat} {l : List Lnk} {s : List Int} (hok : ∀ k, k < l.length → (lnkAt l k).ok n) (hs : ∀ k, k < s.length → 0 ≤ s.getD k 0 ∧ s.getD k 0 < l.length) : ∀ k, k ≤ s.length → rel2 n 1000000000 (lnkM (selL l s) k) (lnkS n l s k) := by
 intro k
 induction k with
 | zero => intro _; exact rel2.init n
 | succ k ih =>
  intro hk
  rw [lnkM_succ (by rw [sel_len]; exact hk), lnkS_succ hk, sel_at hk]
  have := hs k hk
  exact (ih (by omega)).lnk (hok _ (by omega))
theorem al_len (l : List Lnk) : (alI l).length = l.length := by simp [alI]
theorem al_at {l : List Lnk} {k : Nat} (h : k < l.length) : (alI l).getD k 0 = k := by simp [alI, List.getD, h]
theorem al_ok (l : List Lnk) : ∀ k, k < (alI l).length → 0 ≤ (alI l).getD k 0 ∧ (alI l).getD k 0 < l.length := fun k hk => by
 rw [al_len] at hk
 rw [al_at hk]; omega
theorem sel_all (l : List Lnk) : selL l (alI l) = l := by
 apply List.ext_getElem?
 intro i
 by_cases hi : i < l.length
 ·simp [selL, alI, hi, lnkAt, List.getD]
 ·simp [selL, alI, hi]
end Go.Proofs.Ytkifmfmenobhnaa
set_option linter.unusedVariables false
set_option linter.unusedSimpArgs false
namespace Go.Proofs.Ytkifmfmenobhnaa
open Go.RowKit Ev
def Scd110 : Sum := Scc109
theorem VScd110 : Valid Try.prog Scd110 := VScc109
end Go.Proofs.Ytkifmfmenobhnaa
set_option linter.unusedVariables false
set_option linter.unusedSimpArgs false
namespace Go.Proofs.Ytkifmfmenobhnaa
open Go.RowKit Ev
def clP (cs : List ByteArray) (ls : List Lnk) (sel : List Int) : Prop := ntE cs ls = 0 ∧ sel.length ≤ 12 ∧ ∀ k, k < sel.length → 0 ≤ sel.getD k 0 ∧ sel.getD k 0 < ls.length
def mk_clock_clash_0 (cs : List ByteArray) (ls : List Lnk) (sel : List Int) (i0 : Int) (m0 : Int) (v0_0 : List (List CV)) (v0_1 : Int) : DS := ⟨[none, some (.t (.c (.sl 1 sel.length (intsC sel)))), none, none, some (.t (.c (.p 4 0))), none, none, none, none, none, some (.t (.c (.os 10))), none, none, none, none, none, none, none, some (.t (.c (.sl 1 sel.length (intsC sel)))), some (.t (.c (.v (.int .i64 ((sel.length : Nat) : Int))))), some (.t (.c (.v (.int .i64 v0_1)))), none, none, none, none, none, none, none, none, none, none, none, none, none, none, none, none, none, none, none, none, none, none, none, none, none, none, none, none, none, none, none, none, none, none, none, none, none, none, none, none, none, none, none], [none, none, none, none, some (.box 55 [.sl 1 cs.length (txsC cs), .sl 4 ls.length (lnksC ls)]), none, none, none, none, none, some (.gen 125 4 v0_0), none, none, none, none, none, none, none, none, none, none, none, none, none, none, none, none, none, none, none, none, none, none, none, none, none, none, none, none, none, none, none, none, none, none, none, none, none, none, none, none, none, none, none, none, none, none, none, none, none, none, none, none, none]⟩
def vc_clock_clash (J : Inv) (cs : List ByteArray) (ls : List Lnk) (sel : List Int) (i0 : Int) (m0 : Int) (post : DV → Prop) : Prop := cond (m0 == (0 : Int)) (∃ n, J 0 (n :: []) (mk_clock_clash_0 cs ls sel i0 m0 ([]) 0)) (False)
def ann_clock_clash : Ann := ⟨fun r => lookA r [(12, ([[], [], [1], [], [3], [1, 2, 3, 4], [], [6], [], [8], [0, 1, 2, 3, 4, 5, 6, 7, 8, 9], [0, 1, 2, 3, 4, 5, 6, 7, 8, 9, 10], [0, 1, 2, 3, 4, 5, 6, 7, 8, 9, 10, 11], [0, 1, 2, 3, 4, 5, 6, 7, 8, 9, 10, 11], [0, 1, 2, 3, 4, 5, 6, 7, 8, 9, 10, 11, 12], [0, 1, 2, 3, 4, 5, 6, 7, 8, 9, 10, 11, 12, 13, 14]], [[51, 53, 54, 59], [51, 53, 54, 59], [53, 54, 59], [51, 53, 54, 59], [51, 54, 59], [9999, 54], [51, 53, 54, 59], [51, 53, 54, 59], [51, 53, 54, 59], [51, 53, 54, 59], [], [], [], [], [], []]))], fun b => lookA b [(0, (none, some ⟨[1, 4, 18, 19, 20], [4], [(10, .gen 125 4 [])]⟩)), (2, (some 0, none))], fun _ => [], I1, false, fun _ => none, fun _ => none⟩
theorem ev_clock_clash (J : Inv) (cs : List ByteArray) (ls : List Lnk) (sel : List Int) (i0 : Int) (m0 : Int) (post : DV → Prop) : evFn Try.prog tab Scd110 ann_clock_clash J Try.f115 [.t (.a [.sl 1 cs.length (txsC cs), .sl 4 ls.length (lnksC ls)]), .t (.c (.sl 1 sel.length (intsC sel))), .t (.c (.v (.int .i64 i0))), .t (.c (.v (.int .i64 m0)))] post = vc_clock_clash J cs ls sel i0 m0 post := by kernel_rfl
theorem fit_clock_clash : okFn ann_clock_clash Try.f115 = true := by kernel_rfl
def rd_clock_clash_0 (J : Inv) (cs : List ByteArray) (ls : List Lnk) (sel : List Int) (i0 : Int) (m0 : Int) (v0_0 : List (List CV)) (v0_1 : Int) (nn0 : Nat) (post : DV → Prop) : Prop := cond (decide (v0_1 < ((sel.length : Nat) : Int))) ((0 ≤ v0_1 ∧ v0_1 < ((sel.length : Nat) : Int)) ∧ ((0 ≤ (sel.getD v0_1.toNat 0) ∧ (sel.getD v0_1.toNat 0) < ((ls.length : Nat) : Int)) ∧ ((roomP 32 (v0_0.length + ([[.v (.int .i64 ((lnkAt ls ((sel.getD v0_1.toNat 0).toNat)).frm)), .v (.int .i64 ((lnkAt ls ((sel.getD v0_1.toNat 0).toNat)).to)), .v (.int .i64 ((lnkAt ls ((sel.getD v0_1.toNat 0).toNat)).lo)), .v (.int .i64 ((lnkAt ls ((sel.getD v0_1.toNat 0).toNat)).hi))]] : List (List CV)).length)) ∧ (lt (IntKind.i64.wrap (v0_1 + (1 : Int))) fun x1 => J 0 (nn0 :: []) (mk_clock_clash_0 cs ls sel i0 m0 (v0_0 ++ ([[.v (.int .i64 ((lnkAt ls ((sel.getD v0_1.toNat 0).toNat)).frm)), .v (.int .i64 ((lnkAt ls ((sel.getD v0_1.toNat 0).toNat)).to)), .v (.int .i64 ((lnkAt ls ((sel.getD v0_1.toNat 0).toNat)).lo)), .v (.int .i64 ((lnkAt ls ((sel.getD v0_1.toNat 0).toNat)).hi))]] : List (List CV))) x1))))) ((numsP 4 v0_0.length (genC v0_0) ∧ bdOk ((cs.length : Nat) : Int) (listC v0_0.length mkLnk (genC v0_0))) ∧ (post (.tu [.c (.sl 1 sel.length (intsC sel)), .c (.v (.bool (!(bdB (listC v0_0.length mkLnk (genC v0_0)) (((cs.length : Nat) : Int)).toNat))))])))
theorem er_clock_clash_0 (J : Inv) (cs : List ByteArray) (ls : List Lnk) (sel : List Int) (i0 : Int) (m0 : Int) (v0_0 : List (List CV)) (v0_1 : Int) (nn0 : Nat) (post : DV → Prop) : round Try.prog tab Scd110 ann_clock_clash J Try.f115 post 0 (nn0 :: []) (mk_clock_clash_0 cs ls sel i0 m0 v0_0 v0_1) = rd_clock_clash_0 J cs ls sel i0 m0 v0_0 v0_1 nn0 post := by kernel_rfl
theorem lp_clock_clash (J : Inv) (post : DV → Prop) : AllG J (loopsFn Try.prog tab Scd110 ann_clock_clash J Try.f115 post) = (((∀ F s, ¬ J 0 (0 :: F) s) ∧ ∀ n F s, J 0 ((n + 1) :: F) s → round Try.prog tab Scd110 ann_clock_clash J Try.f115 post 0 (n :: F) s) ∧ True) := by kernel_rfl
def J_clock_clash (cs : List ByteArray) (ls : List Lnk) (sel : List Int) (i0 : Int) (m0 : Int) : Inv := fun b F s => match b, F with
 | 0, [nn0] => ∃ (v0_0 : List (List CV)) (v0_1 : Int), s = mk_clock_clash_0 cs ls sel i0 m0 v0_0 v0_1 ∧ (clP cs ls sel ∧ 0 ≤ v0_1 ∧ v0_1 ≤ sel.length ∧ (nn0 : Int) + v0_1 = sel.length + 1 ∧ v0_0 = (selL ls (sel.take v0_1.toNat)).map lnkCv)
 | _, _ => False
theorem rnd_clock_clash_0 (cs : List ByteArray) (ls : List Lnk) (sel : List Int) (i0 : Int) (m0 : Int) (v0_0 : List (List CV)) (v0_1 : Int) (nn0 : Nat) (hp : m0 = 0 ∧ clP cs ls sel) (hi : clP cs ls sel ∧ 0 ≤ v0_1 ∧ v0_1 ≤ sel.length ∧ ((nn0 + 1) : Int) + v0_1 = sel.length + 1 ∧ v0_0 = (selL ls (sel.take v0_1.toNat)).map lnkCv) : rd_clock_clash_0 (J_clock_clash cs ls sel i0 m0) cs ls sel i0 m0 v0_0 v0_1 nn0 (fun r => LeD r (.tu [.c (.sl 1 sel.length (intsC sel)), .c (.v (.bool (!bdB (selL ls sel) (cs).length)))])) := by
 obtain ⟨q, i1, i2, i3, i4⟩ := hi
 obtain ⟨k, rfl⟩ : ∃ k : Nat, v0_1 = k := ⟨v0_1.toNat, by omega⟩
 have hk : (k : Int).toNat = k := rfl
 rw [hk] at i4
 unfold rd_clock_clash_0
 rw [hk]
 refine cond_i (fun h => ?_) (fun h => ?_)
 ·have hlt : k < sel.length := by have := of_decide_eq_true h; omega
  have b := q.2.2 k hlt
  refine ⟨by omega, b, ?_, lt_i fun x hx => ?_⟩
  ·unfold roomP maxLen; rw [i4]; have := q.2.1; simp [selL]; omega
  ·rw [wi (by have := q.2.1; omega)] at hx
   subst hx
   refine ⟨_, _, rfl, q, by omega, by omega, by omega, ?_⟩
   rw [show ((k : Int) + 1).toNat = k + 1 by omega, List.take_add_one, i4, List.getElem?_eq_getElem hlt, selL, selL, List.map_append, List.map_append]
   simp [List.getD, hlt, lnkCv]
 ·have h := of_decide_eq_false h
  obtain rfl : k = sel.length := by omega
  rw [List.take_length] at i4
  subst i4
  have z := ntE_bd q.1
  refine ⟨⟨numsP_lnkg _, ?_⟩, ?_⟩
  ·rw [lnkg_listC]
   exact ⟨z.1, by rw [sel_len]; exact q.2.1, sel_ok z.2.2 q.2.2⟩
  ·rw [lnkg_listC]
   exact LeD.refl _
theorem zero_clock_clash_0 (cs : List ByteArray) (ls : List Lnk) (sel : List Int) (i0 : Int) (m0 : Int) (v0_0 : List (List CV)) (v0_1 : Int)  (hi : clP cs ls sel ∧ 0 ≤ v0_1 ∧ v0_1 ≤ sel.length ∧ (0 : Int) + v0_1 = sel.length + 1 ∧ v0_0 = (selL ls (sel.take v0_1.toNat)).map lnkCv) : False := by
 omega
theorem spec_clock_clash (cs : List ByteArray) (ls : List Lnk) (sel : List Int) (i0 : Int) (m0 : Int) (hp : m0 = 0 ∧ clP cs ls sel) : vc_clock_clash (J_clock_clash cs ls sel i0 m0) cs ls sel i0 m0 (fun r => LeD r (.tu [.c (.sl 1 sel.length (intsC sel)), .c (.v (.bool (!bdB (selL ls sel) (cs).length)))])) := by
 unfold vc_clock_clash
 refine cond_i (fun h => ?_) (fun h => ?_)
 ·exact ⟨sel.length + 1, [], 0, rfl, hp.2, by omega, by omega, by omega, rfl⟩
 ·exact absurd hp.1 (by simpa using h)
theorem all_clock_clash (cs : List ByteArray) (ls : List Lnk) (sel : List Int) (i0 : Int) (m0 : Int) (hp : m0 = 0 ∧ clP cs ls sel) : AllG (J_clock_clash cs ls sel i0 m0) (loopsFn Try.prog tab Scd110 ann_clock_clash (J_clock_clash cs ls sel i0 m0) Try.f115 (fun r => LeD r (.tu [.c (.sl 1 sel.length (intsC sel)), .c (.v (.bool (!bdB (selL ls sel) (cs).length)))]))) := by
 rw [lp_clock_clash]
 refine ⟨⟨?_, ?_⟩, trivial⟩
 ·intro F s h
  obtain _ | ⟨g, F⟩ := F
  case cons => exact h.elim
  obtain ⟨w0, w1, rfl, hi⟩ := h
  exact zero_clock_clash_0 cs ls sel i0 m0 w0 w1 hi
 ·intro n F s h
  obtain _ | ⟨g, F⟩ := F
  case cons => exact h.elim
  obtain ⟨w0, w1, rfl, hi⟩ := h
  rw [er_clock_clash_0]
  exact rnd_clock_clash_0 cs ls sel i0 m0 _ _ _ hp hi
def con_clock_clash : Con := fun args => match args with
 | [.t (.a [.sl 1 n_cs c_cs, .sl 4 n_ls c_ls]), .t (.c (.sl 1 n_sel c_sel)), .t (.c (.v (.int .i64 i0))), .t (.c (.v (.int .i64 m0)))] => some (.tu [.c (.sl 1 ((listC n_sel mkInt c_sel).length) (intsC (listC n_sel mkInt c_sel))), .c (.v (.bool (!bdB (selL (listC n_ls mkLnk c_ls) (listC n_sel mkInt c_sel)) ((txOf n_cs c_cs)).length)))], some (txP n_cs c_cs ∧ numsP 4 n_ls c_ls ∧ numsP 1 n_sel c_sel ∧ m0 = 0 ∧ clP (txOf n_cs c_cs) (listC n_ls mkLnk c_ls) (listC n_sel mkInt c_sel)), false)
 | _ => none
theorem ok_clock_clash : Ok Try.prog 115 con_clock_clash := by
 refine Ok.fn (ann := ann_clock_clash) mixed tabOK VScd110 VI1 (fn := Try.f115) (by kernel_rfl) (by kernel_rfl) fit_clock_clash fun args r pre fresh h hp => ?_
 unfold con_clock_clash at h
 split at h
 ·rename_i n_cs c_cs n_ls c_ls n_sel c_sel i0 m0
  cases h
  obtain ⟨hp0, hp1, hp2, hp⟩ := hp
  refine ⟨rfl, J_clock_clash (txOf n_cs c_cs) (listC n_ls mkLnk c_ls) (listC n_sel mkInt c_sel) i0 m0, [.t (.a [.sl 1 ((txOf n_cs c_cs).length) (txsC (txOf n_cs c_cs)), .sl 4 ((listC n_ls mkLnk c_ls).length) (lnksC (listC n_ls mkLnk c_ls))]), .t (.c (.sl 1 ((listC n_sel mkInt c_sel).length) (intsC (listC n_sel mkInt c_sel)))), .t (.c (.v (.int .i64 i0))), .t (.c (.v (.int .i64 m0)))], ?_, Nat.le_of_ble_eq_true (by kernel_rfl), ?_, ?_⟩
  ·exact (LeA_cons (leT_a (LeCs.cons ((leL_str hp0)) (LeCs.cons ((leL_Lnk hp1)) LeCs.nil))) (LeA_cons (leT_c ((leL_int hp2))) (LeA_cons (LeD.refl _) (LeA_cons (LeD.refl _) LeA_nil))))
  ·rw [ev_clock_clash]; exact spec_clock_clash (txOf n_cs c_cs) (listC n_ls mkLnk c_ls) (listC n_sel mkInt c_sel) i0 m0 hp
  ·exact all_clock_clash (txOf n_cs c_cs) (listC n_ls mkLnk c_ls) (listC n_sel mkInt c_sel) i0 m0 hp
 ·cases h
def Sf0111 : Sum := addS Scd110 115 con_clock_clash
theorem VSf0111 : Valid Try.prog Sf0111 := Valid.add VScd110 ok_clock_clash
end Go.Proofs.Ytkifmfmenobhnaa
set_option linter.unusedVariables false
set_option linter.unusedSimpArgs false
namespace Go.Proofs.Ytkifmfmenobhnaa
open Go.RowKit Ev
def grI (f : Nat → List Int × Bool) : Nat → Nat → List Int × Bool
 | 0, _ => ([], false)
 | k + 1, i => if (f i).2 = true then ((f i).1, true) else grI f k (i + 1)
def grow (ls : List Lnk) (n : Nat) : Nat → List Int → Nat → List Int × Bool
 | 0, s, _ => (s, !bdB (selL ls s) n)
 | m + 1, s, i0 => grI (fun i => grow ls n m (s ++ [(i : Int)]) (i + 1)) (ls.length - i0) i0
theorem grI_skip {f : Nat → List Int × Bool} : ∀ (k n i : Nat), k ≤ n → (∀ j, i ≤ j → j < i + k → (f j).2 = false) → grI f n i = grI f (n - k) (i + k)
 | 0, n, i, _, _ => rfl
 | k + 1, n + 1, i, hk, h => by
  rw [grI, if_neg (by rw [h i (by omega) (by omega)]; simp), grI_skip k n (i + 1) (by omega) fun j h1 h2 => h j (by omega) (by omega)]
  rw [show n + 1 - (k + 1) = n - k by omega, show i + 1 + k = i + (k + 1) by omega]
 | k + 1, 0, i, hk, _ => by omega
theorem grow_hit {ls : List Lnk} {n m : Nat} {s : List Int} {i0 k : Nat} (h0 : i0 ≤ k) (hk : k < ls.length) (h : ∀ j, i0 ≤ j → j < k → (grow ls n m (s ++ [(j : Int)]) (j + 1)).2 = false) (hh : (grow ls n m (s ++ [(k : Int)]) (k + 1)).2 = true) : grow ls n (m + 1) s i0 = ((grow ls n m (s ++ [(k : Int)]) (k + 1)).1, true) := by
 rw [grow, grI_skip (k - i0) _ _ (by omega) fun j h1 h2 => h j h1 (by omega)]
 rw [show ls.length - i0 - (k - i0) = (ls.length - k - 1) + 1 by omega, show i0 + (k - i0) = k by omega, grI, if_pos hh]
theorem grow_none {ls : List Lnk} {n m : Nat} {s : List Int} {i0 : Nat} (h0 : i0 ≤ ls.length) (h : ∀ j, i0 ≤ j → j < ls.length → (grow ls n m (s ++ [(j : Int)]) (j + 1)).2 = false) : grow ls n (m + 1) s i0 = ([], false) := by
 rw [grow, grI_skip (ls.length - i0) _ _ (by omega) fun j h1 h2 => h j h1 (by omega)]
 rw [show ls.length - i0 - (ls.length - i0) = 0 by omega, grI]
theorem clP.more {cs : List ByteArray} {ls : List Lnk} {s : List Int} {k : Nat} (h : clP cs ls s) (hs : s.length + 1 ≤ 12) (hk : k < ls.length) : clP cs ls (s ++ [(k : Int)]) := by
 refine ⟨h.1, by simpa using hs, fun j hj => ?_⟩
 rcases Nat.lt_or_ge j s.length with c | c
 ·have := h.2.2 j c
  simpa [List.getD, List.getElem?_append_left c] using this
 ·have e : j = s.length := by simp at hj; omega
  subst e
  simp [List.getD]
  omega
def GrC (cs : List ByteArray) (ls : List Lnk) (m : Nat) : Prop := ∀ (W : World) (N : Nat → Prop) (sel : List Int) (i0 : Nat) (v x0 x1 : Value), Gd W → clP cs ls sel → sel.length + m ≤ 12 → i0 ≤ ls.length → RelF W N (.sl 1 cs.length (txsC cs)) x0 → RelF W N (.sl 4 ls.length (lnksC ls)) x1 → RelF W N (.sl 1 sel.length (intsC sel)) v → Calls Try.prog 115 #[.agg #[x0, x1], v, .int .i64 i0, .int .i64 m] W fun e W' => ∃ u, e = .returned (.tuple #[u, .bool (grow ls cs.length m sel i0).2]) ∧ RelF W' (resN W N .no) (.sl 1 (grow ls cs.length m sel i0).1.length (intsC (grow ls cs.length m sel i0).1)) u ∧ Below W.heap.size W W'
theorem clash_zero (cs : List ByteArray) (ls : List Lnk) : GrC cs ls 0 := by
 intro W N sel i0 v x0 x1 hG hp hm hi h0 h1 hv
 have h := (ok_clock_clash [.t (.a [.sl 1 cs.length (txsC cs), .sl 4 ls.length (lnksC ls)]), .t (.c (.sl 1 sel.length (intsC sel))), .t (.c (.v (.int .i64 i0))), .t (.c (.v (.int .i64 ((0 : Nat) : Int))))] _ _ _ rfl ?_).2 W N [.agg #[x0, x1], v, .int .i64 i0, .int .i64 ((0 : Nat) : Int)] hG ?_
 ·refine h.mono ?_
  rintro e w' ⟨u, rfl, hr, hb⟩
  obtain ⟨vs, rfl, g⟩ := hr
  obtain ⟨u0, us, rfl, g0, g⟩ := g.cons_inv
  obtain ⟨u1, us, rfl, g1, g⟩ := g.cons_inv
  obtain rfl := g.nil_inv
  obtain ⟨rfl, _⟩ := g1
  simp only [lnks_listC, txs_of, ints_listC] at *
  exact ⟨u0, rfl, g0, hb⟩
 ·simp only [lnks_listC, txs_of, ints_listC]
  exact ⟨txP_txs cs, numsP_lnks ls, numsP_ints sel, rfl, hp⟩
 ·exact ⟨⟨[x0, x1], rfl, h0, h1, trivial⟩, hv, ⟨rfl, rfl⟩, ⟨rfl, rfl⟩, trivial⟩
end Go.Proofs.Ytkifmfmenobhnaa
set_option linter.unusedVariables false
set_option linter.unusedSimpArgs false
namespace Go.Proofs.Ytkifmfmenobhnaa
open Go.RowKit Ev
theorem wpList_append_clip {P : Program} {ops : Array Oper} {rest : List Oper} {o : Oper} {a : Act} {Q : Exit → Act → World → Prop} {w wb : World} (hB : Below wb.heap.size wb w) (hgd : o.guard = none) (s x : Operand) (t : TypeId)
  (ho : o.op = .call { callee := .builtin .append, args := #[s, x], argTypes := #[t, t] }) {e : TypeId} {sz bytes : Nat} (E : Elem P t e sz bytes)
  (ao : Option Addr) (n : Nat) (olds : List Value) (hs : a.eval s = .slice ao n n) (hnone : ao = none → n = 0) (hlo : olds.length = n * sz) (holds : ∀ b, ao = some b → ∀ j u, olds[j]? = some u → w.cell? (b.add j) = some u)
  (us : List Value) (hul : us.length = sz) (h1 : ∀ u ∈ us, u.oneCell' = true) (ad : Addr) (hx : a.eval x = .slice (some ad) 1 1) (hc : ∀ j u, us[j]? = some u → w.cell? (ad.add j) = some u)
  (hb : (n + 1) * bytes ≤ 140737488355328) (hn : n + 1 ≤ maxLen)
  (h : ∀ v' w', w'.ownsRow wb.heap.size e sz v' (n + 1) (olds ++ us) → Below wb.heap.size wb w' → wpList P ops Q rest (a.put o.dst v') w') : wpList P ops Q (o :: rest) a w := by
 obtain ⟨i, z, ht, hi, hz, hsize, hby, hzs, hsz⟩ := E
 refine wpList_append_grows w hgd s x t ho e i z sz bytes ht hi hz hsize hby hzs hsz ao n n olds hs (fun h => ⟨hnone h, hnone h⟩) hlo holds ad 1 1 us hx (by omega) hc h1 (by omega) hn hb ?_
 intro v' w' g1 g2
 refine h v' w' (ownsRow_base g1 hB.size) (hB.trans ?_)
 exact ⟨g2.os, g2.tape, g2.output, g2.size, fun j hj => g2.block j (by have := hB.size; omega) (by simp)⟩
theorem walk_Clip (W : World) (ao : Option Addr) (n cap : Nat) (hn : ao = none → n = 0) (hc : n ≤ cap) (hm : cap ≤ maxLen) :
  Calls Try.prog 132 #[.slice ao n cap] W fun e W' => e = .returned (.slice ao n n) ∧ Below W.heap.size W W' := by
 go_enter Try.func132, Try.ntmps132
 go_wp2_with fail
 ((try simp only [Exit.inBlock, Exit.then]); refine bodyPost_ret (v := .slice ao n n) ?_ rfl ?_; (next => simp [results, Try.results132, go_sem]); refine ⟨?_, ?_⟩; (next => rfl); (next => exact BelowA))
theorem cur_cellC {w : World} {g i m : Nat} {cur : Array Value} {e : TypeId} {xs : List Int} (hg : w.heap[g]? = some (.cells cur e (0, 0))) (htk : cur.toList.take (m * 1) = xs.map (Value.int .i64)) (hx : xs.length = m) (hi : i < m) : w.cell? ⟨g, i, none⟩ = some (.int .i64 (xs.getD i 0)) := by
 rw [cell_of_row w g i cur e (0, 0) hg]
 have e1 : (cur.toList.take (m * 1))[i]? = some (.int .i64 (xs.getD i 0)) := by rw [htk]; simp [List.getD, show i < xs.length by omega]
 rw [List.getElem?_take] at e1
 split at e1
 ·simpa using e1
 ·cases e1
theorem own_relF {w w' : World} {N : Nat → Prop} {base : Nat} {e : TypeId} {v : Value} {L : List Int} (h : w'.ownsRow base e 1 v L.length (L.map (Value.int .i64))) (hb : w.heap.size ≤ base) : RelF w' (resN w N .no) (.sl 1 L.length (intsC L)) v := by
 rcases h.2 with ⟨rfl, h0⟩ | ⟨g, oc, cur, rfl, hbg, hgc, hmc, hcm, hcs, htk⟩
 ·exact ⟨none, 0, by rw [h0], by omega, by unfold maxLen; omega, fun _ => rfl, fun q => by omega⟩
 ·refine ⟨some ⟨g, 0, none⟩, oc, rfl, hmc, hcm, (fun q => by cases q), fun _ => ⟨g, 0, rfl, (Array.getElem?_eq_some_iff.1 hgc).1, Or.inr (by omega), fun i j hi hj => ?_⟩⟩
  have c := cur_cellC hgc htk rfl hi
  refine ⟨_, by rw [show 0 + i * 1 + j = i by omega]; exact c, rfl, rfl⟩
theorem relF_below {W w : World} {N : Nat → Prop} {x : CV} {v : Value} (h : RelF W N x v) (hb : Below W.heap.size W w) : RelF w (resN W N .no) x v :=
 RelF.mono hb.size (fun b _ h2 off => hb.cell (p := ⟨b, off, none⟩) h2) (fun b hN _ => Or.inl ⟨rfl, hN⟩) x h
theorem relF_res {W w w' : World} {N : Nat → Prop} {x : CV} {v : Value} (hs : W.heap.size ≤ w.heap.size) (h : RelF w' (resN w (resN W N .no) .no) x v) : RelF w' (resN W N .no) x v :=
 RelF.all h fun b hb => by
  rcases hb with ⟨_, h⟩ | h
  ·exact h
  ·exact Or.inr (by omega)
set_option maxRecDepth 100000 in
set_option maxHeartbeats 2000000 in
theorem clash_succ (cs : List ByteArray) (ls : List Lnk) (m : Nat) (IH : Hid (GrC cs ls m)) : GrC cs ls (m + 1) := by
 intro W N sel i0 v x0 x1 hG hp hm hi h0 h1 hv
 have HG := hid hG
 have HP := hid hp
 have hl12 : ls.length ≤ 12 := (ntE_bd hp.1).2.1
 have H0 := hid h0
 have H1 := hid h1
 obtain ⟨aoC, capC, hx0, hc1, hc2, _⟩ := h0
 subst hx0
 obtain ⟨aoL, capL, hx1, hl1, hl2, _⟩ := h1
 subst hx1
 obtain ⟨ao, cap, hv1, hcap, hmx, hnil, hcells⟩ := hv
 subst hv1
 have hn0 : ao = none → sel.length = 0 := fun e => by have := hnil e; omega
 have HO : Hid (∀ w', Below W.heap.size W w' → ∀ b, ao = some b → ∀ j u, (sel.map (Value.int .i64))[j]? = some u → w'.cell? (b.add j) = some u) := hid fun w' hw b hb j u hu => by
  have hj : j < sel.length := by have := (List.getElem?_eq_some_iff.1 hu).1; simpa using this
  obtain ⟨b', off, e1, e2, e3, e4⟩ := hcells (by omega)
  rw [hb] at e1
  cases e1
  obtain ⟨x, y1, y2⟩ := e4 j 0 hj (by omega)
  obtain ⟨rfl, _⟩ := y2
  rw [Addr.add_lit, hw.cell (p := ⟨b', off + j, none⟩) e2]
  rw [show off + j * 1 + 0 = off + j by omega] at y1
  rw [y1, ← hu]
  simp [List.getD, hj]
 clear hcells hnil hG hp
 have HCAP := hid hcap
 obtain ⟨q, hq⟩ : ∃ q : Int, q = ((m + 1 : Nat) : Int) := ⟨_, rfl⟩
 rw [← hq]
 have hq0 : (q == 0) = false := by simp; omega
 have hq1 : 1 ≤ q := by omega
 have hq2 : q ≤ 12 := by omega
 have HQ := hid hq
 clear hq
 go_enter Try.func115, Try.ntmps115
 go_wp2_with fail
 (try simp only [hq0])
 obtain ⟨W0, hW0⟩ : ∃ W0, W0 = W.alloc (.cells #[.slice aoC cs.length capC, .slice aoL ls.length capL] 55) := ⟨_, rfl⟩
 have r0 : W0.cell? ⟨W.heap.size, 0, none⟩ = some (.slice aoC cs.length capC) := by rw [hW0]; simp
 have r1 : W0.cell? ⟨W.heap.size, 1, none⟩ = some (.slice aoL ls.length capL) := by rw [hW0]; simp
 have hk0 : W.heap.size < W0.heap.size := by rw [hW0]; simp
 have hBW : Below W.heap.size W W0 := by rw [hW0]; exact BelowA
 rw [← hW0]
 clear hW0
 have HK0 := hid hk0
 have HBW := hid hBW
 have HR0 := hid r0
 have HR1 := hid r1
 clear r0 r1 hBW
 go_loopw [13] (fun i wr => ∃ k : Nat, i0 ≤ k ∧ k ≤ ls.length ∧ i = .int .i64 k ∧ Below W0.heap.size W0 wr ∧ Hid (∀ j, i0 ≤ j → j < k → (grow ls cs.length m (sel ++ [(j : Int)]) (j + 1)).2 = false)) (fun i _ => ls.length - (intOf i).toNat)
 case atStart => exact ⟨i0, Nat.le_refl _, hi, rfl, Below.refl _ _, hid fun j h1 h2 => by omega⟩
 case round =>
  obtain ⟨k, hk1, hk2, rfl, hB, HF⟩ := hrel
  have HB := hid hB
  obtain ⟨hcb, hfb⟩ := bcell hB
  have c0 := (hcb _ 0 hk0).trans HR0.out
  have c1 := (hcb _ 1 hk0).trans HR1.out
  have hkw : W.heap.size < wr.heap.size := Nat.lt_of_lt_of_le hk0 hB.size
  have hBr : Below W.heap.size W wr := HBW.out.trans (hB.mono HBW.out.size)
  have HBR := hid hBr
  clear hcb hfb hB hBr
  by_cases hlt : k < ls.length
  ·obtain ⟨G, hG⟩ : ∃ G, G = grow ls cs.length m (sel ++ [(k : Int)]) (k + 1) := ⟨_, rfl⟩
   have HGR := hid hG
   have HIH : Hid (∀ (w4 : World) (v4 : Value) (base : Nat), Below W.heap.size W w4 → W.heap.size ≤ base → w4.ownsRow base 3 1 v4 (sel.length + 1) (sel.map (Value.int .i64) ++ [.int .i64 k]) → Calls Try.prog 115 #[.agg #[.slice aoC cs.length capC, .slice aoL ls.length capL], v4, .int .i64 (k + 1), .int .i64 (q - 1)] w4 fun e W' => ∃ u, e = .returned (.tuple #[u, .bool G.2]) ∧ RelF W' (resN W N .no) (.sl 1 G.1.length (intsC G.1)) u ∧ Below w4.heap.size w4 W') := by
    refine hid fun w4 v4 base hw hb ho => ?_
    rw [show q - 1 = (m : Int) by have := HQ.out; omega]
    have ho' : w4.ownsRow base 3 1 v4 (sel ++ [(k : Int)]).length ((sel ++ [(k : Int)]).map (Value.int .i64)) := by simpa using ho
    refine (IH.out w4 (resN W N .no) (sel ++ [(k : Int)]) (k + 1) v4 _ _ (HG.out.below hw) (HP.out.more (by omega) hlt) (by simp; omega) (by omega) (relF_below H0.out hw) (relF_below H1.out hw) (own_relF ho' hb)).mono ?_
    rintro e w' ⟨u, rfl, hr, hb'⟩
    rw [← HGR.out] at hr
    exact ⟨u, by rw [← HGR.out], relF_res hw.size hr, hb'⟩
   obtain ⟨g1, g2⟩ := G
   simp only at HIH
   have HCK := hid hkw
   have hmr : m ≤ 12 := by omega
   have hk12 : k < 12 := by omega
   have hs12 : sel.length ≤ 12 := by omega
   clear hG
   go_wp2_with fail
   refine wp_mixC (fun wc => Below (wr.heap.size) wr wc) 15 [.q [0, 1, 3, 6, 7, 8, 9], .p 2 4, .f [5, 10], .q [11, 12, 13, 14]] [.q [15]] (by kernel_rfl) (by kernel_rfl) ((Below.refl _ _).drew) ?_
   intro Q' hQ'
   (rw [wpMixC]; simp only [pick, List.drop_succ_cons, List.drop_zero, List.head?_cons, Option.toList_some, List.cons_append, List.nil_append])
   (repeat (first | go_big_quiet_skip | (go_big_quiet_want; refine quiet_simple rfl ?_; go_big_quiet_op; go_big_quiet_on) | (go_big_quiet_want; refine quiet_agg2B (ty := 55) rfl rfl (by kernel_rfl) (by assumption) (by assumption) (by first | omega | (simp; omega)) ?_; simp only [Act.put, List.setIfInBounds_toArray, List.set_cons_succ, List.set_cons_zero]; go_big_quiet_on)))
   (try refine wpQuiet_nil ?_)
   (rw [wpMixC]; simp only [pick, List.drop_succ_cons, List.drop_zero, List.head?_cons, Option.toList_some, List.cons_append, List.nil_append])
   (refine ⟨?_, ?_⟩)
   all_goals (rw [wpSteps]; go_wp2_with (first | (go_at_call 132; refine (walk_Clip _ ao sel.length cap hn0 HCAP.out hmx).mono ?_; rintro _ w3 ⟨rfl, hb3⟩) | (at_builtin; refine wpList_append_clip (wb := wr) (by exact BelowA) rfl (.tmp 51) (.tmp 53) _ rfl elemInt ao sel.length (sel.map (Value.int .i64)) rfl hn0 (by simp) (HO.out _ (HBR.out.trans (Below.mono (show Below wr.heap.size wr _ by exact BelowA) (Nat.le_of_lt HCK.out)))) [.int .i64 k] rfl (by simp [Value.oneCell']) _ rfl (by first | exact World.news_of_block (cs := #[.int .i64 k]) (heap_alloc_new _ _) | exact World.news_of_block (cs := #[.int .i64 k]) ((hb3.block _ (by simp)).trans (heap_alloc_new _ _))) (by omega) (by unfold maxLen; omega) ?_; intro v4 w4 hown4 hq4) | (go_at_call 115; refine (HIH.out _ v4 _ (HBR.out.trans (hq4.mono (Nat.le_of_lt HCK.out))) (Nat.le_of_lt HCK.out) hown4).mono ?_; rintro _ w5 ⟨u5, rfl, hr5, hb5⟩)); rw [contF]; refine ⟨?_, ?_⟩; (next => exact BelowA))
   all_goals (rw [wpSteps]; go_wp2_with (first | (go_at_call 132; refine (walk_Clip _ ao sel.length cap hn0 HCAP.out hmx).mono ?_; rintro _ w3 ⟨rfl, hb3⟩) | (at_builtin; refine wpList_append_clip (wb := wr) (by exact BelowA) rfl (.tmp 51) (.tmp 53) _ rfl elemInt ao sel.length (sel.map (Value.int .i64)) rfl hn0 (by simp) (HO.out _ (HBR.out.trans (Below.mono (show Below wr.heap.size wr _ by exact BelowA) (Nat.le_of_lt HCK.out)))) [.int .i64 k] rfl (by simp [Value.oneCell']) _ rfl (by first | exact World.news_of_block (cs := #[.int .i64 k]) (heap_alloc_new _ _) | exact World.news_of_block (cs := #[.int .i64 k]) ((hb3.block _ (by simp)).trans (heap_alloc_new _ _))) (by omega) (by unfold maxLen; omega) ?_; intro v4 w4 hown4 hq4) | (go_at_call 115; refine (HIH.out _ v4 _ (HBR.out.trans (hq4.mono (Nat.le_of_lt HCK.out))) (Nat.le_of_lt HCK.out) hown4).mono ?_; rintro _ w5 ⟨u5, rfl, hr5, hb5⟩)); rw [contF]; refine ⟨?_, ?_⟩; (next => exact BelowA))
   all_goals (rw [wpSteps])
   all_goals (rw [wpMixC]; simp only [pick, List.drop_succ_cons, List.drop_zero, List.head?_cons, Option.toList_some, List.cons_append, List.nil_append])
   all_goals (rw [wpSteps]; go_wp2_with (first | (go_at_call 132; refine (walk_Clip _ ao sel.length cap hn0 HCAP.out hmx).mono ?_; rintro _ w3 ⟨rfl, hb3⟩) | (at_builtin; refine wpList_append_clip (wb := wr) (by exact BelowA) rfl (.tmp 51) (.tmp 53) _ rfl elemInt ao sel.length (sel.map (Value.int .i64)) rfl hn0 (by simp) (HO.out _ (HBR.out.trans (Below.mono (show Below wr.heap.size wr _ by exact BelowA) (Nat.le_of_lt HCK.out)))) [.int .i64 k] rfl (by simp [Value.oneCell']) _ rfl (by first | exact World.news_of_block (cs := #[.int .i64 k]) (heap_alloc_new _ _) | exact World.news_of_block (cs := #[.int .i64 k]) ((hb3.block _ (by simp)).trans (heap_alloc_new _ _))) (by omega) (by unfold maxLen; omega) ?_; intro v4 w4 hown4 hq4) | (go_at_call 115; refine (HIH.out _ v4 _ (HBR.out.trans (hq4.mono (Nat.le_of_lt HCK.out))) (Nat.le_of_lt HCK.out) hown4).mono ?_; rintro _ w5 ⟨u5, rfl, hr5, hb5⟩)); rw [contF]; refine ⟨?_, ?_⟩; (next => exact BelowA))
   all_goals (rw [wpSteps]; go_wp2_with (first | (go_at_call 132; refine (walk_Clip _ ao sel.length cap hn0 HCAP.out hmx).mono ?_; rintro _ w3 ⟨rfl, hb3⟩) | (at_builtin; refine wpList_append_clip (wb := wr) (by exact BelowA) rfl (.tmp 51) (.tmp 53) _ rfl elemInt ao sel.length (sel.map (Value.int .i64)) rfl hn0 (by simp) (HO.out _ (HBR.out.trans (Below.mono (show Below wr.heap.size wr _ by exact BelowA) (Nat.le_of_lt HCK.out)))) [.int .i64 k] rfl (by simp [Value.oneCell']) _ rfl (by first | exact World.news_of_block (cs := #[.int .i64 k]) (heap_alloc_new _ _) | exact World.news_of_block (cs := #[.int .i64 k]) ((hb3.block _ (by simp)).trans (heap_alloc_new _ _))) (by omega) (by unfold maxLen; omega) ?_; intro v4 w4 hown4 hq4) | (go_at_call 115; refine (HIH.out _ v4 _ (HBR.out.trans (hq4.mono (Nat.le_of_lt HCK.out))) (Nat.le_of_lt HCK.out) hown4).mono ?_; rintro _ w5 ⟨u5, rfl, hr5, hb5⟩)); rw [contF]; refine ⟨?_, ?_⟩; (next => exact BelowA))
   all_goals (rw [wpSteps])
   all_goals (rw [wpMixC]; simp only [pick, List.drop_succ_cons, List.drop_zero, List.head?_cons, Option.toList_some, List.cons_append, List.nil_append])
   all_goals (repeat (first | go_big_quiet_skip | (go_big_quiet_want; refine quiet_simple rfl ?_; go_big_quiet_op; go_big_quiet_on) | (go_big_quiet_want; refine quiet_agg2B (ty := 55) rfl rfl (by kernel_rfl) (by assumption) (by assumption) (by first | omega | (simp; omega)) ?_; simp only [Act.put, List.setIfInBounds_toArray, List.set_cons_succ, List.set_cons_zero]; go_big_quiet_on)))
   all_goals (try refine wpQuiet_nil ?_)
   all_goals (rw [wpMixC])
   all_goals (rw [wpMix]; simp only [pick, List.drop_succ_cons, List.drop_zero, List.head?_cons, Option.toList_some, List.cons_append, List.nil_append])
   all_goals (repeat (first | (go_big_quiet_step (fail)) | (quiet_step (fail))))
   all_goals (try refine wpQuiet_nil ?_)
   all_goals (rw [wpMix])
   all_goals (refine hQ' _ _ ?_)
   all_goals
    have hB5 : Below wr.heap.size wr w5 := hq4.trans (hb5.mono hq4.size)
    have HR5 := hid hr5
    have HB5 := hid hB5
    clear hr5 hB5 hq4 hb5 hown4 hb3 c0 c1
    cases g2 with
    | true =>
     go_wp2_with fail
     ((try simp only [Exit.inBlock, Exit.then]); refine bodyPost_ret (v := .tuple #[u5, .bool true]) ?_ rfl ?_; (next => simp [results, Try.results115, go_sem]))
     have e := grow_hit (n := cs.length) (m := m) (s := sel) hk1 hlt HF.out (by rw [← HGR.out])
     rw [← HGR.out] at e
     rw [e]
     exact ⟨_, rfl, HR5.out, HBR.out.trans (HB5.out.mono (Nat.le_of_lt HCK.out))⟩
    | false =>
     go_wp2_with fail
     go_roundw
     case rel =>
      refine ⟨k + 1, by omega, by omega, by go_num, HB.out.trans (HB5.out.mono HB.out.size), hid fun j h1 h2 => ?_⟩
      rcases Nat.lt_or_ge j k with c | c
      ·exact HF.out j h1 c
      ·obtain rfl : j = k := by omega
       rw [← HGR.out]
     case measure => simp [intOf]; omega
  ·have e : k = ls.length := by omega
   subst e
   go_wp2_with fail
   ((try simp only [Exit.inBlock, Exit.then]); refine bodyPost_ret (v := .tuple #[.slice none 0 0, .bool false]) ?_ rfl ?_; (next => simp [results, Try.results115, go_sem]))
   have e := grow_none (n := cs.length) (m := m) (s := sel) hk1 HF.out
   rw [e]
   exact ⟨_, rfl, ⟨none, 0, rfl, Nat.le_refl _, by unfold maxLen; omega, fun _ => rfl, fun q => absurd q (by simp)⟩, HBR.out⟩
end Go.Proofs.Ytkifmfmenobhnaa
set_option linter.unusedVariables false
set_option linter.unusedSimpArgs false
namespace Go.Proofs.Ytkifmfmenobhnaa
open Go.RowKit Ev
theorem elemLnk : Elem Try.prog 53 125 4 32 := Elem.mk (z := .agg #[.int .i64 0, .int .i64 0, .int .i64 0, .int .i64 0]) Try.underlying53 (by kernel_rfl) rfl (by decide)
def hasK (q : Int) (x : Lnk) : Bool := x.frm == q || x.to == q
def lnkV (x : Lnk) : Value := .agg #[.int .i64 x.frm, .int .i64 x.to, .int .i64 x.lo, .int .i64 x.hi]
set_option maxRecDepth 100000 in
theorem walk_Named1 (W : World) (B : Nat) (q : Int) (x : Lnk) (hB : B < W.heap.size) (hq : W.cell? ⟨B, 0, none⟩ = some (.int .i64 q)) :
  Calls Try.prog 119 #[lnkV x, .pointer (some ⟨B, 0, none⟩)] W fun e W' => e = .returned (.bool (hasK q x)) ∧ Below W.heap.size W W' := by
 obtain ⟨a, b, c, d⟩ := x
 unfold lnkV
 simp only
 have hne : ¬ (B = W.heap.size) := by omega
 by_cases h1 : a = q
 ·subst h1
  go_enter Try.func119, Try.ntmps119
  go_wp2_with fail
  ((try simp only [Exit.inBlock, Exit.then]); refine bodyPost_ret (v := .bool true) ?_ rfl ?_; (next => simp [results, Try.results119, go_sem]))
  exact ⟨by simp [hasK], by exact BelowA⟩
 ·have h1' : (a == q) = false := by simpa using h1
  go_enter Try.func119, Try.ntmps119
  go_wp2_with fail
  ((try simp only [Exit.inBlock, Exit.then]); refine bodyPost_ret (v := .bool (b == q)) ?_ rfl ?_; (next => simp [results, Try.results119, go_sem]))
  exact ⟨by simp [hasK, h1'], by exact BelowA⟩
def LnkAt (W : World) (ao : Option Addr) (l : List Lnk) : Prop := ∀ k, k < l.length → ∃ b off, ao = some ⟨b, off, none⟩ ∧ b < W.heap.size ∧ W.cell? ⟨b, off + k * 4, none⟩ = some (.int .i64 (lnkAt l k).frm) ∧ W.cell? ⟨b, off + k * 4 + 1, none⟩ = some (.int .i64 (lnkAt l k).to) ∧ W.cell? ⟨b, off + k * 4 + 2, none⟩ = some (.int .i64 (lnkAt l k).lo) ∧ W.cell? ⟨b, off + k * 4 + 3, none⟩ = some (.int .i64 (lnkAt l k).hi)
def FirstK (q : Int) (l : List Lnk) (r : Int) : Prop := (r = -1 ∧ ∀ j, j < l.length → hasK q (lnkAt l j) = false) ∨ ∃ k : Nat, r = k ∧ k < l.length ∧ hasK q (lnkAt l k) = true ∧ ∀ j, j < k → hasK q (lnkAt l j) = false
set_option maxRecDepth 100000 in
set_option maxHeartbeats 2000000 in
theorem walk_IndexFuncL (W : World) (B : Nat) (q : Int) (hB : B < W.heap.size) (hq : W.cell? ⟨B, 0, none⟩ = some (.int .i64 q)) (l : List Lnk) (ao : Option Addr) (cap : Nat) (hl : l.length ≤ 100) (hc : LnkAt W ao l) :
  Calls Try.prog 133 #[.slice ao l.length cap, .func (.func 119) #[] #[.pointer (some ⟨B, 0, none⟩)]] W fun e W' => ∃ r, e = .returned (.int .i64 r) ∧ FirstK q l r ∧ Below W.heap.size W W' := by
 have HC := hid hc
 have HQ := hid hq
 have HB := hid hB
 clear hc hq
 go_enter Try.func133, Try.ntmps133
 go_wp2_with fail
 go_loopw [8] (fun i wr => ∃ k : Nat, k ≤ l.length ∧ i = .int .i64 k ∧ Below W.heap.size W wr ∧ Hid (∀ j, j < k → hasK q (lnkAt l j) = false)) (fun i _ => l.length - (intOf i).toNat)
 case atStart => exact ⟨0, Nat.zero_le _, rfl, Below.refl _ _, hid fun j h => by omega⟩
 case round =>
  obtain ⟨k, hk, rfl, hb, HF⟩ := hrel
  have HBL := hid hb
  by_cases hlt : k < l.length
  ·obtain ⟨b, off, rfl, hbl, c0, c1, c2, c3⟩ := HC.out k hlt
   obtain ⟨hcb, hfb⟩ := bcell hb
   rw [← hcb b _ hbl] at c0 c1 c2 c3
   have hq2 := (hcb B 0 HB.out).trans HQ.out
   have HQ2 := hid hq2
   have hBw : B < wr.heap.size := Nat.lt_of_lt_of_le HB.out hb.size
   have HBW := hid hBw
   obtain ⟨x, hx⟩ : ∃ x, x = lnkAt l k := ⟨_, rfl⟩
   have HX := hid hx
   rw [← hx] at c0 c1 c2 c3
   clear hcb hfb hb hq2 hx
   have HW1 : Hid (∀ w2, w2 = wr → Calls Try.prog 119 #[lnkV x, .pointer (some ⟨B, 0, none⟩)] w2 fun e W' => e = .returned (.bool (hasK q x)) ∧ Below w2.heap.size w2 W') := hid fun w2 e => by subst e; exact walk_Named1 w2 B q x HBW.out HQ2.out
   obtain ⟨bb, hbb⟩ : ∃ bb, bb = hasK q x := ⟨_, rfl⟩
   rw [← hbb] at HW1
   rw [HX.out] at hbb
   have HBB := hid hbb
   clear hbb
   cases bb with
   | true =>
    go_wp2_with (go_at_call 119; refine (HW1.out _ rfl).mono ?_; rintro _ w3 ⟨rfl, hb3⟩)
    ((try simp only [Exit.inBlock, Exit.then]); refine bodyPost_ret (v := .int .i64 k) ?_ rfl ?_; (next => simp [results, Try.results133, go_sem]))
    exact ⟨_, rfl, Or.inr ⟨k, rfl, hlt, HBB.out.symm, HF.out⟩, HBL.out.trans (hb3.mono HBL.out.size)⟩
   | false =>
    go_wp2_with (go_at_call 119; refine (HW1.out _ rfl).mono ?_; rintro _ w3 ⟨rfl, hb3⟩)
    go_roundw
    case rel =>
     refine ⟨k + 1, by omega, by go_num, HBL.out.trans (hb3.mono HBL.out.size), hid fun j h => ?_⟩
     rcases Nat.lt_or_ge j k with c | c
     ·exact HF.out j c
     ·obtain rfl : j = k := by omega
      exact HBB.out.symm
    case measure => simp [intOf]; omega
  ·have e : k = l.length := by omega
   subst e
   go_wp2_with fail
   ((try simp only [Exit.inBlock, Exit.then]); refine bodyPost_ret (v := .int .i64 (-1)) ?_ rfl ?_; (next => simp [results, Try.results133, go_sem]))
   exact ⟨_, rfl, Or.inl ⟨rfl, HF.out⟩, HBL.out⟩
def lkC (x : Lnk) (j : Nat) : Value := if j = 0 then .int .i64 x.frm else if j = 1 then .int .i64 x.to else if j = 2 then .int .i64 x.lo else .int .i64 x.hi
theorem lk_one (x : Lnk) (j : Nat) : (lkC x j).oneCell' = true := by
 unfold lkC
 by_cases h0 : j = 0
 ·rw [if_pos h0]; rfl
 ·rw [if_neg h0]
  by_cases h1 : j = 1
  ·rw [if_pos h1]; rfl
  ·rw [if_neg h1]
   by_cases h2 : j = 2
   ·rw [if_pos h2]; rfl
   ·rw [if_neg h2]; rfl
def lkFl (l : List Lnk) : List Value := flat l.length 4 fun i j => lkC (lnkAt l i) j
set_option maxRecDepth 100000 in
theorem walk_CloneL (w : World) (l : List Lnk) (v : Value) (h : SlAt w v l.length 4 fun i j => lkC (lnkAt l i) j) (hl : l.length ≤ 100) :
  Calls Try.prog 118 #[v] w fun e w' => ∃ u, e = .returned u ∧ w'.ownsRow w.heap.size 125 4 u l.length (lkFl l) ∧ Below w.heap.size w w' := by
 have HSL := hid h
 obtain ⟨ao, cap, rfl, h1, h2, h3⟩ := SlAt.src h
 have h0 : ao = none → l.length = 0 ∧ cap = 0 := fun e => by
  obtain ⟨ao', cap', q1, q2, q3, q4, q5⟩ := HSL.out
  cases q1
  have := q5 e
  omega
 cases ao with
 | none =>
  obtain ⟨e1, rfl⟩ := h0 rfl
  have hEq : ∀ w, Sem.run Try.prog (binOp BinOp.eql 53 (.slice none 0 0) (.slice none 0 0)) w = .ok (.bool true) w := fun _ => by kernel_rfl
  rw [e1]
  have HN : Hid (l = []) := hid (List.eq_nil_of_length_eq_zero e1)
  clear h3 h0 h1 h2 h e1
  go_enter Try.func118, Try.ntmps118
  go_wp2_with fail
  ((try simp only [Exit.inBlock, Exit.then]); refine bodyPost_ret (v := .slice none 0 0) ?_ rfl ?_; (next => simp [results, Try.results118, go_sem]))
  rw [HN.out]
  exact ⟨_, rfl, World.ownsRow_nil _ _ _ _, Below.refl _ _⟩
 | some a =>
  have hEq : ∀ n c w, Sem.run Try.prog (binOp BinOp.eql 53 (.slice (some a) n c) (.slice none 0 0)) w = .ok (.bool false) w := fun _ _ _ => by kernel_rfl
  have HE : (w.alloc (.cells #[] 125)).ownsRow w.heap.size 125 4 (.slice (some ⟨w.heap.size, 0, none⟩) 0 0) 0 [] := ownsRow_empty w elemLnk
  have HS := h3 (w.alloc (.cells #[] 125)) ((Below.refl _ _).alloc (Nat.le_refl _) _)
  clear h3 h0 h
  go_enter Try.func118, Try.ntmps118
  go_wp2_with (at_builtin; go_must (refine wpList_append_list rfl (.tmp 5) (.tmp 6) _ rfl elemLnk w.heap.size (.slice (some ⟨w.heap.size, 0, none⟩) 0 0) 0 [] rfl HE (some a) l.length cap _ rfl (flat_len _ _ _) (flat_one fun i j _ _ => lk_one _ j) HS (by omega) (by unfold maxLen; omega) (by simp) ?_); intro v3 w3 hown4 hp4 _)
  ((try simp only [Exit.inBlock, Exit.then]); refine bodyPost_ret (v := v3) ?_ rfl ?_; (next => simp [results, Try.results118, go_sem]))
  rw [Nat.zero_add, List.nil_append] at hown4
  exact ⟨_, rfl, hown4, ((Below.refl _ _).alloc (Nat.le_refl _) _).trans hp4.below⟩
end Go.Proofs.Ytkifmfmenobhnaa