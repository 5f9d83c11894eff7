/- Texts of this claim, together. -/
import Derived.Test.YtlapeoboekchpaaGreatDoorTS10
import Derived.Test.YtlapeoboekchpaaGreatDoorTS5
import Derived.ProofKit
import Derived.OpenShut
import Derived.ShutString
import Derived.ChangeOld
import Derived.Below
import Derived.Lib.SmallJoins
import Derived.Test.YtlapeoboekchpaaGreatDoorTS9
import Derived.Shelf.Strings.Builder1
import Derived.Shelf.Strings.Builder2
import Derived.Shelf.Strings.OnBuilder
import Derived.Shelf.Utf8.RuneCount
import Derived.Shelf.Strconv.Atoi
import Derived.Shelf.Strconv.Itoa0
import Derived.Shelf.Strconv.Itoa1
import Derived.Shelf.LaysM
import Derived.Shelf.Strconv.Itoa2
import Derived.Shelf.Strconv.Itoa3
import Derived.Shelf.Strconv.AtoiErrFast
import Derived.Shelf.Strconv.ParseIntEmpty
import Derived.Shelf.Strconv.AtoiFail
import Derived.Shelf.Strconv.Clone
import Derived.Shelf.Strconv.SyntaxError
import Derived.Shelf.LaysC
import Derived.Shelf.Strconv.ToError
import Derived.Shelf.Strconv.Lower
import Derived.Shelf.Strconv.ParseUint10
import Derived.Shelf.Strconv.ParseUint10Empty
import Derived.Shelf.Strconv.ParseUint10Any
import Derived.Shelf.Strconv.ParseInt10
import Derived.Shelf.Strconv.AtoiLong
import Derived.Shelf.Strconv.AtoiInnerAll
import Derived.Shelf.Strconv.RangeError
import Derived.Shelf.Strconv.ToErrorRange
import Derived.Shelf.Strconv.AtoiAll
import Derived.Shelf.Strings.Search1
import Derived.Shelf.Strings.Search2
import Derived.Shelf.Strings.Search3
import Derived.Shelf.Strings.Cut
import Derived.Shelf.Strings.Count
import Derived.Shelf.Strings.Shaped
import Derived.Shelf.Strings.Prefix
import Derived.Shelf.Strings.Split
import Derived.Shelf.Strings.SplitShaped
import Derived.Shelf.Unicode.Decode
import Derived.Shelf.Strings.RuneCount
import Derived.Shelf.Strings.Explode
import Derived.Shelf.Bits.Mul64
import Derived.Shelf.Unicode.DecodeSlow
import Derived.Shelf.Unicode.DecodeAny
import Derived.Ground.Names2Prog
import Derived.Shelf.Slices.SearchI
import Derived.Test.YtlapeoboekchpaaGreatDoorProg
import Derived.Test.YtlapeoboekchpaaGreatDoorTS1
import Derived.Test.YtlapeoboekchpaaGreatDoorRows
import Derived.LaidMore
import Derived.LaidSub
import Derived.Lay
import Derived.Shelf.Vars
import Derived.Stop.Joined
import Derived.HandedShaped
import Derived.Lib.AtoiAllCases
import Derived.Lib.AtoiTie
import Derived.Lib.ItoaNum
import Derived.Lib.Split
import Derived.Lib.Join

set_option linter.unusedVariables false
set_option linter.unusedSimpArgs false
namespace Go.Proofs.YtlapeoboekchpaaGreatDoor
open Go.RowKit Ev
def txCv (s : ByteArray) : List CV := [.v (.string s)]
theorem txs_fwd (l : List ByteArray) : ((List.range l.length).map fun i => fwd ((txsC l) i) 0 1) = l.map txCv := by
 apply List.ext_getElem?
 intro i
 by_cases hi : i < l.length
 ·simp [hi, fwd, txsC, txCv, txAt, List.getD]
 ·simp [hi]
theorem leC_txs (l : List ByteArray) : LeC1 (.sl 1 (l.map txCv).length (genC (l.map txCv))) (.sl 1 l.length (txsC l)) := by
 rw [List.length_map]
 refine leSlC fun i j hi hj => ?_
 obtain rfl : j = 0 := by omega
 refine leC_k ?_
 simp [genC, txsC, txCv, txAt, List.getD, hi]
theorem leC_lnks (l : List Lnk) : LeC1 (.sl 4 (l.map lnkCv).length (genC (l.map lnkCv))) (.sl 4 l.length (lnksC l)) := fun w N v h => le_lnks l w N v h
theorem txAt_in {l : List ByteArray} {k : Nat} (h : k < l.length) : txAt l k ∈ l := by
 rw [show txAt l k = l[k] by simp [txAt, List.getD, h]]; exact List.getElem_mem h
theorem txs_mem {l : List ByteArray} {s : ByteArray} (h : s ∈ l) : ∃ j, j < l.length ∧ txAt l j = s := by
 obtain ⟨j, hj, e⟩ := List.mem_iff_getElem.1 h
 exact ⟨j, hj, by simp [txAt, List.getD, hj, e]⟩
theorem stepK_le (f : Nat → Nat → Int) (k i j x y : Nat) : stepK f k i j x y ≤ f x y := by
 unfold stepK
 split
 ·unfold updI
  split
  ·rename_i h; rw [h.1, h.2]; omega
  ·omega
 ·omega
theorem jK_le (f : Nat → Nat → Int) (k i : Nat) : ∀ j x y, jK f k i j x y ≤ f x y := by
 intro j
 induction j with
 | zero => intro x y; exact Int.le_refl _
 | succ j ih => intro x y; exact Int.le_trans (stepK_le _ k i j x y) (ih x y)
theorem iK_le (f : Nat → Nat → Int) (n k : Nat) : ∀ i x y, iK f n k i x y ≤ f x y := by
 intro i
 induction i with
 | zero => intro x y; exact Int.le_refl _
 | succ i ih => intro x y; exact Int.le_trans (jK_le _ k i n x y) (ih x y)
theorem kK_le (f : Nat → Nat → Int) (n : Nat) : ∀ k x y, kK f n k x y ≤ f x y := by
 intro k
 induction k with
 | zero => intro x y; exact Int.le_refl _
 | succ k ih => intro x y; exact Int.le_trans (iK_le _ n k n x y) (ih x y)
theorem lnkM_hi (l : List Lnk) : ∀ k, k ≤ l.length → ∀ x y, lnkM l k x y ≤ far := by
 intro k
 induction k with
 | zero => intro _ x y; show initM x y ≤ far; unfold initM far; split <;> decide
 | succ k ih =>
  intro hk x y
  have i := ih (by omega)
  rw [lnkM_succ hk]
  generalize lnkAt l k = z at *
  have F : ∀ x y, lnkF (lnkM l k) z x y ≤ far := by
   intro x y
   unfold lnkF updI
   have := i z.frm.toNat z.to.toNat
   have := i x y
   split <;> omega
  unfold lnkG updI
  have := F z.to.toNat z.frm.toNat
  have := F x y
  split <;> omega
theorem bdF_rg {n : Nat} {l : List Lnk} (h : bdOk n l) (x y : Nat) : -50000000000000 ≤ bdF l n x y ∧ bdF l n x y ≤ 1152921504606846976 := by
 obtain ⟨hn, hl, hok⟩ := h
 rw [Int.toNat_natCast] at hok
 have h1 := kK_low (by decide) (lnkM_low hok l.length (Nat.le_refl _)) n n x y
 have h2 := kK_le (lnkM l l.length) n n x y
 have h3 := lnkM_hi l l.length (Nat.le_refl _) x y
 unfold bdF
 unfold far at h3
 refine ⟨?_, by omega⟩
 rcases (by omega : n = 1 ∨ n = 2 ∨ n = 3 ∨ n = 4 ∨ n = 5 ∨ n = 6) with rfl | rfl | rfl | rfl | rfl | rfl <;> simp at h1 <;> omega
theorem ntE_ok {cs : List ByteArray} {ls : List Lnk} (h : ntE cs ls = 0) : ntH cs ls = 0 ∧ (∀ j, j < cs.length → nmE cs j = 0) ∧ ∀ j, j < ls.length → lkE cs.length (lnkAt ls j) = 0 := by
 unfold ntE at h
 split at h
 ·rename_i g; exact absurd h g
 ·rename_i g
  split at h
  ·rename_i g2; exact absurd h g2
  ·rename_i g2
   exact ⟨by omega, scan_zero (by omega), scan_zero h⟩
theorem fnz {a : Int} {l : List Int} (h : firstNZ (a :: l) = 0) : a = 0 ∧ firstNZ l = 0 := by
 by_cases e : a = 0
 ·subst e; exact ⟨rfl, by simpa [firstNZ] using h⟩
 ·simp [firstNZ, e] at h
theorem lkE_ok {n : Nat} {x : Lnk} (h : lkE n x = 0) : x.ok n := by
 obtain ⟨h1, h⟩ := fnz (show firstNZ (_ :: _) = 0 from h)
 obtain ⟨h2, h⟩ := fnz h
 obtain ⟨h3, h⟩ := fnz h
 obtain ⟨h4, _⟩ := fnz h
 rw [unl_0 (by decide)] at h1 h2 h3 h4
 rw [Bool.and_eq_true, inB_true, inB_true] at h1 h3
 have h4 := of_decide_eq_true h4
 have h2 : x.frm ≠ x.«to» := by simpa using h2
 exact ⟨by omega, by omega, h2, by omega, h4, by omega⟩
theorem ntE_bd {cs : List ByteArray} {ls : List Lnk} (h : ntE cs ls = 0) : bdOk cs.length ls := by
 obtain ⟨h1, h2, h3⟩ := ntE_ok h
 have h1 := ntH_ok h1
 refine ⟨by omega, h1.2, fun k hk => ?_⟩
 rw [Int.toNat_natCast]
 exact lkE_ok (h3 k hk)
def opnB (l : List Lnk) (n i : Nat) : Bool := (bdF l n 0 i == 1152921504606846976) || (bdF l n i 0 == 1152921504606846976)
def ofS (cs : List ByteArray) (ls : List Lnk) : Bool := (List.range cs.length).any (opnB ls cs.length)
def ofE (cs : List ByteArray) (ls : List Lnk) : Int := if ntE cs ls ≠ 0 then ntE cs ls else if bdB ls cs.length = true then (if ofS cs ls = true then 21 else 0) else 13
def ofK (ls : List Lnk) (n k : Nat) : List Rg := (List.range k).map fun i => ⟨-bdF ls n i 0, bdF ls n 0 i⟩
theorem ofK_succ (ls : List Lnk) (n k : Nat) : ofK ls n (k + 1) = ofK ls n k ++ [⟨-bdF ls n k 0, bdF ls n 0 k⟩] := by
 unfold ofK; rw [List.range_succ, List.map_append]; rfl
def ofV (cs : List ByteArray) (ls : List Lnk) : List Rg := if ofE cs ls = 0 then ofK ls cs.length cs.length else []
def fwL (cs : List ByteArray) (ls : List Lnk) : Bool := decide ((cs.length : Int) ≤ 8) && (decide ((ls.length : Int) ≤ 14) && cs.all fun s => decide (s.size ≤ 20))
def exP : List Png := [⟨1000, 50, 250, 1300⟩, ⟨101000, 100050, 100250, 101304⟩]
def exC : List ByteArray := [⟨#[97]⟩, ⟨#[98]⟩, ⟨#[100]⟩]
def exL : List Lnk := [⟨0, 1, 5, 7⟩, ⟨1, 2, 1, 2⟩, ⟨0, 2, 7, 10⟩]
def Sw59 : Sum := addS St58 69 con_bounds
theorem VSw59 : Valid Tryz.prog Sw59 := Valid.add VSt58 ok_bounds
def vc_clock_agree (sz : Int) (ls : List Lnk) (post : DV → Prop) : Prop := (numsP 4 ls.length (lnksC ls) ∧ bdOk sz (listC ls.length mkLnk (lnksC ls))) ∧ (post (.t (.c (.v (.bool (bdB (listC ls.length mkLnk (lnksC ls)) ((sz).toNat)))))))
def ann_clock_agree : Ann := ⟨fun _ => none, fun _ => none, fun _ => [], I1, false, fun _ => none, fun _ => none⟩
theorem ev_clock_agree (J : Inv) (sz : Int) (ls : List Lnk) (post : DV → Prop) : evFn Tryz.prog tab Sw59 ann_clock_agree J Tryz.f60 [.t (.c (.v (.int .i64 sz))), .t (.c (.sl 4 ls.length (lnksC ls)))] post = vc_clock_agree sz ls post := by kernel_rfl
theorem fit_clock_agree : okFn ann_clock_agree Tryz.f60 = true := by kernel_rfl
theorem lp_clock_agree (J : Inv) (post : DV → Prop) : AllG J (loopsFn Tryz.prog tab Sw59 ann_clock_agree J Tryz.f60 post) = (True) := by kernel_rfl
theorem spec_clock_agree (sz : Int) (ls : List Lnk) (hp : bdOk sz ls) : vc_clock_agree sz ls (fun r => LeD r (.t (.c (.v (.bool (bdB ls (sz).toNat)))))) := by
 unfold vc_clock_agree
 simp only [lnks_listC]
 exact ⟨⟨numsP_lnks ls, hp⟩, LeD.refl _⟩
def con_clock_agree : Con := fun args => match args with
 | [.t (.c (.v (.int .i64 sz))), .t (.c (.sl 4 n_ls c_ls))] => some (.t (.c (.v (.bool (bdB (listC n_ls mkLnk c_ls) (sz).toNat)))), some (numsP 4 n_ls c_ls ∧ bdOk sz (listC n_ls mkLnk c_ls)), false)
 | _ => none
theorem ok_clock_agree : Ok Tryz.prog 60 con_clock_agree := by
 refine Ok.fn (ann := ann_clock_agree) mixed tabOK VSw59 VI1 (fn := Tryz.f60) (by kernel_rfl) (by kernel_rfl) fit_clock_agree fun args r pre fresh h hp => ?_
 unfold con_clock_agree at h
 split at h
 ·rename_i sz n_ls c_ls
  cases h
  obtain ⟨hp0, hp⟩ := hp
  refine ⟨rfl, fun _ _ _ => False, [.t (.c (.v (.int .i64 sz))), .t (.c (.sl 4 ((listC n_ls mkLnk c_ls).length) (lnksC (listC n_ls mkLnk c_ls))))], ?_, Nat.le_of_ble_eq_true (by kernel_rfl), ?_, ?_⟩
  ·exact (LeA_cons (LeD.refl _) (LeA_cons (leT_c ((leL_Lnk hp0))) LeA_nil))
  ·rw [ev_clock_agree]; exact spec_clock_agree sz (listC n_ls mkLnk c_ls) hp
  ·rw [lp_clock_agree]; trivial
 ·cases h
def Sw60 : Sum := addS Sw59 60 con_clock_agree
theorem VSw60 : Valid Tryz.prog Sw60 := Valid.add VSw59 ok_clock_agree
def mk_clock_OffsetsOf_0 (cs : List ByteArray) (ls : List Lnk) (v0_0 : List (List CV)) (v0_1 : Int) : DS := ⟨[none, none, none, none, none, some (.t (.c (.sl 1 (bdN (listC ls.length mkLnk (lnksC ls)) ((((cs.length : Nat) : Int)).toNat)) (matC ((((cs.length : Nat) : Int)).toNat) (bdF (listC ls.length mkLnk (lnksC ls)) ((((cs.length : Nat) : Int)).toNat)))))), none, some (.t (.c (.os 7))), none, none, none, none, none, none, none, none, none, none, none, none, none, none, none, none, none, none, none, some (.t (.c (.v (.int .i64 ((cs.length : Nat) : Int))))), some (.t (.c (.v (.int .i64 v0_1)))), none, none, none, none, none, none, none, none, none, none, none, none, none, none, none, none, none, none, none, none, none, none, none, none, none, none, none, none, none, none, none, none, none, none, none, none, none], [none, none, none, none, none, none, none, some (.gen 51 2 v0_0), none, none, none, none, none, none, none, none, none, none, none, none, none, none, none, none, none, none, none, none, none, none, none, none, none, none, none, none, none, none, none, none, none, none, none, none, none, none, none, none, none, none, none, none, none, none, none, none, none, none, none, none, none, none, none, none, none, none]⟩
def vc_clock_OffsetsOf (J : Inv) (cs : List ByteArray) (ls : List Lnk) (post : DV → Prop) : Prop := (txP cs.length (txsC cs) ∧ numsP 4 ls.length (lnksC ls) ∧ (∀ k, k < ((txOf cs.length (txsC cs))).length → (txAt (txOf cs.length (txsC cs)) k).size ≤ 1000000)) ∧ (cond ((ntE (txOf cs.length (txsC cs)) (listC ls.length mkLnk (lnksC ls))) != (0 : Int)) (post (.tu [.c (.v (.slice none 0 0)), .c (.v (.int .i64 (ntE (txOf cs.length (txsC cs)) (listC ls.length mkLnk (lnksC ls)))))])) ((numsP 4 ls.length (lnksC ls) ∧ bdOk ((cs.length : Nat) : Int) (listC ls.length mkLnk (lnksC ls))) ∧ (cond (!(bdB (listC ls.length mkLnk (lnksC ls)) ((((cs.length : Nat) : Int)).toNat))) (post (.tu [.c (.v (.slice none 0 0)), .c (.v (.int .i64 13))])) (∃ n, J 0 (n :: []) (mk_clock_OffsetsOf_0 cs ls ([]) 0)))))
def ann_clock_OffsetsOf : Ann := ⟨fun r => lookA r [(13, ([[], [], [], [1, 2], [1, 2, 3], [1, 2, 3, 4], [1, 2, 3, 4, 5], [1, 2, 3, 4, 5, 6], [], [8], [8, 9], [], [8, 9, 10, 11], [8, 9, 10, 11, 12], [1, 2, 3, 4, 5, 6, 7, 8, 9, 10, 11, 12, 13], [1, 2, 3, 4, 5, 6, 7, 8, 9, 10, 11, 12, 13, 14], [0, 1, 2, 3, 4, 5, 6, 7, 8, 9, 10, 11, 12, 13, 14, 15], [0, 1, 2, 3, 4, 5, 6, 7, 8, 9, 10, 11, 12, 13, 14, 15, 16]], [[62], [62], [62], [62], [62], [62], [62], [62], [62], [62], [62], [62], [62], [62], [62], [], [], []]))], fun b => lookA b [(0, (none, some ⟨[5, 27, 28], [], [(7, .gen 51 2 [])]⟩))], fun _ => [], I1, false, fun r => lookA r [(11, (8, [46]))], fun _ => none⟩
theorem ev_clock_OffsetsOf (J : Inv) (cs : List ByteArray) (ls : List Lnk) (post : DV → Prop) : evFn Tryz.prog tab Sw60 ann_clock_OffsetsOf J Tryz.f28 [.t (.a [.sl 1 cs.length (txsC cs), .sl 4 ls.length (lnksC ls)])] post = vc_clock_OffsetsOf J cs ls post := by kernel_rfl
theorem fit_clock_OffsetsOf : okFn ann_clock_OffsetsOf Tryz.f28 = true := by kernel_rfl
def rd_clock_OffsetsOf_0 (J : Inv) (cs : List ByteArray) (ls : List Lnk) (v0_0 : List (List CV)) (v0_1 : Int) (nn0 : Nat) (post : DV → Prop) : Prop := cond (decide (v0_1 < ((cs.length : Nat) : Int))) ((0 ≤ (0 : Int) ∧ (0 : Int) < (((bdN (listC ls.length mkLnk (lnksC ls)) ((((cs.length : Nat) : Int)).toNat)) : Nat) : Int)) ∧ ((0 ≤ v0_1 ∧ v0_1 < (((((cs.length : Nat) : Int)).toNat : Nat) : Int)) ∧ ((cond ((bdF (listC ls.length mkLnk (lnksC ls)) ((((cs.length : Nat) : Int)).toNat) 0 v0_1.toNat) == (1152921504606846976 : Int)) ((true = true) ∧ (True)) ((0 ≤ v0_1 ∧ v0_1 < (((bdN (listC ls.length mkLnk (lnksC ls)) ((((cs.length : Nat) : Int)).toNat)) : Nat) : Int)) ∧ ((0 ≤ (0 : Int) ∧ (0 : Int) < (((((cs.length : Nat) : Int)).toNat : Nat) : Int)) ∧ (True)))) ∧ (lt ((bif ((bdF (listC ls.length mkLnk (lnksC ls)) ((((cs.length : Nat) : Int)).toNat) 0 v0_1.toNat) == (1152921504606846976 : Int)) then true else ((bdF (listC ls.length mkLnk (lnksC ls)) ((((cs.length : Nat) : Int)).toNat) v0_1.toNat 0) == (1152921504606846976 : Int)))) fun x1 => cond x1 (post (.tu [.c (.v (.slice none 0 0)), .c (.v (.int .i64 21))])) ((0 ≤ v0_1 ∧ v0_1 < (((bdN (listC ls.length mkLnk (lnksC ls)) ((((cs.length : Nat) : Int)).toNat)) : Nat) : Int)) ∧ ((0 ≤ (0 : Int) ∧ (0 : Int) < (((((cs.length : Nat) : Int)).toNat : Nat) : Int)) ∧ (lt (IntKind.i64.wrap ((0 : Int) - (bdF (listC ls.length mkLnk (lnksC ls)) ((((cs.length : Nat) : Int)).toNat) v0_1.toNat 0))) fun x2 => (0 ≤ (0 : Int) ∧ (0 : Int) < (((bdN (listC ls.length mkLnk (lnksC ls)) ((((cs.length : Nat) : Int)).toNat)) : Nat) : Int)) ∧ ((0 ≤ v0_1 ∧ v0_1 < (((((cs.length : Nat) : Int)).toNat : Nat) : Int)) ∧ ((roomP 16 (v0_0.length + ([[.v (.int .i64 x2), .v (.int .i64 (bdF (listC ls.length mkLnk (lnksC ls)) ((((cs.length : Nat) : Int)).toNat) 0 v0_1.toNat))]] : List (List CV)).length)) ∧ (lt (IntKind.i64.wrap (v0_1 + (1 : Int))) fun x3 => J 0 (nn0 :: []) (mk_clock_OffsetsOf_0 cs ls (v0_0 ++ ([[.v (.int .i64 x2), .v (.int .i64 (bdF (listC ls.length mkLnk (lnksC ls)) ((((cs.length : Nat) : Int)).toNat) 0 v0_1.toNat))]] : List (List CV))) x3))))))))))) (post (.tu [.c (.sl 2 v0_0.length (genC v0_0)), .c (.v (.int .i64 0))]))
theorem er_clock_OffsetsOf_0 (J : Inv) (cs : List ByteArray) (ls : List Lnk) (v0_0 : List (List CV)) (v0_1 : Int) (nn0 : Nat) (post : DV → Prop) : round Tryz.prog tab Sw60 ann_clock_OffsetsOf J Tryz.f28 post 0 (nn0 :: []) (mk_clock_OffsetsOf_0 cs ls v0_0 v0_1) = rd_clock_OffsetsOf_0 J cs ls v0_0 v0_1 nn0 post := by kernel_rfl
theorem lp_clock_OffsetsOf (J : Inv) (post : DV → Prop) : AllG J (loopsFn Tryz.prog tab Sw60 ann_clock_OffsetsOf J Tryz.f28 post) = (((∀ F s, ¬ J 0 (0 :: F) s) ∧ ∀ n F s, J 0 ((n + 1) :: F) s → round Tryz.prog tab Sw60 ann_clock_OffsetsOf J Tryz.f28 post 0 (n :: F) s) ∧ True) := by kernel_rfl
def J_clock_OffsetsOf (cs : List ByteArray) (ls : List Lnk) : Inv := fun b F s => match b, F with
 | 0, [nn0] => ∃ (v0_0 : List (List CV)) (v0_1 : Int), s = mk_clock_OffsetsOf_0 cs ls v0_0 v0_1 ∧ ((ntE cs ls = 0 ∧ bdB ls cs.length = true) ∧ 0 ≤ v0_1 ∧ v0_1 ≤ cs.length ∧ (nn0 : Int) + v0_1 = cs.length + 1 ∧ v0_0 = (ofK ls cs.length v0_1.toNat).map rgCv ∧ ∀ j : Nat, (j : Int) < v0_1 → opnB ls cs.length j = false)
 | _, _ => False
theorem rnd_clock_OffsetsOf_0 (cs : List ByteArray) (ls : List Lnk) (v0_0 : List (List CV)) (v0_1 : Int) (nn0 : Nat) (hp : (∀ k, k < (cs).length → (txAt cs k).size ≤ 1000000)) (hi : (ntE cs ls = 0 ∧ bdB ls cs.length = true) ∧ 0 ≤ v0_1 ∧ v0_1 ≤ cs.length ∧ ((nn0 + 1) : Int) + v0_1 = cs.length + 1 ∧ v0_0 = (ofK ls cs.length v0_1.toNat).map rgCv ∧ ∀ j : Nat, (j : Int) < v0_1 → opnB ls cs.length j = false) : rd_clock_OffsetsOf_0 (J_clock_OffsetsOf cs ls) cs ls v0_0 v0_1 nn0 (fun r => LeD r (.tu [.c (.sl 2 ((ofV cs ls).length) (rgsC (ofV cs ls))), .c (.v (.int .i64 (ofE cs ls)))])) := by
 obtain ⟨q, i1, i2, i3, i4, i5⟩ := hi
 obtain ⟨k, rfl⟩ : ∃ k : Nat, v0_1 = k := ⟨v0_1.toNat, by omega⟩
 have hk : (k : Int).toNat = k := rfl
 rw [hk] at i4
 unfold rd_clock_OffsetsOf_0
 simp only [lnks_listC, Int.toNat_natCast]
 have eN : bdN ls cs.length = cs.length := if_pos q.2
 have z := ntE_bd q.1
 have zn := z.1
 rw [eN]
 refine cond_i (fun h => ?_) (fun h => ?_)
 ·have hlt : k < cs.length := by have := of_decide_eq_true h; omega
  have b1 := bdF_rg z k 0
  refine ⟨⟨by trivial, by omega⟩, ⟨by omega, by omega⟩, ⟨cond_i (fun _ => ⟨by trivial, trivial⟩) (fun _ => ⟨⟨by omega, by omega⟩, ⟨by trivial, by omega⟩, trivial⟩), lt_i fun x1 h1 => ?_⟩⟩
  have e1 : x1 = opnB ls cs.length k := by rw [← h1]; unfold opnB; cases (bdF ls cs.length 0 k == 1152921504606846976) <;> rfl
  subst e1
  refine cond_i (fun g => ?_) (fun g => ⟨⟨by omega, by omega⟩, ⟨by trivial, by omega⟩, lt_i fun x2 h2 => ⟨⟨by trivial, by omega⟩, ⟨by omega, by omega⟩, ?_, lt_i fun x3 h3 => ?_⟩⟩)
  ·have e : ofE cs ls = 21 := by
    unfold ofE
    rw [if_neg (by rw [q.1]; simp), if_pos q.2, if_pos]
    unfold ofS
    rw [List.any_eq_true]
    exact ⟨k, List.mem_range.2 hlt, g⟩
   rw [show ofV cs ls = [] from if_neg (by rw [e]; decide), e]
   exact le_tu le_nil (LeD.refl _)
  ·unfold roomP maxLen; rw [i4]; simp [ofK]; omega
  ·rw [wi (by omega)] at h2 h3
   subst h2 h3
   refine ⟨_, _, rfl, q, by omega, by omega, by omega, ?_, fun j hj => ?_⟩
   ·rw [show ((k : Int) + 1).toNat = k + 1 by omega, ofK_succ, List.map_append, i4, Int.zero_sub]
    rfl
   ·rcases (by omega : (j : Int) < k ∨ j = k) with c | rfl
    ·exact i5 j c
    ·exact g
 ·have h := of_decide_eq_false h
  have e : k = cs.length := by omega
  have eS : ofS cs ls = false := by
   unfold ofS
   rw [Bool.eq_false_iff]
   intro c
   obtain ⟨j, hj, hj2⟩ := List.any_eq_true.1 c
   have := List.mem_range.1 hj
   rw [i5 j (by omega)] at hj2
   cases hj2
  have e0 : ofE cs ls = 0 := by
   unfold ofE
   rw [if_neg (by rw [q.1]; simp), if_pos q.2, if_neg (by rw [eS]; simp)]
  rw [show ofV cs ls = ofK ls cs.length cs.length from if_pos e0, e0, i4, e]
  exact le_tu (le_rgs _) (LeD.refl _)
theorem zero_clock_OffsetsOf_0 (cs : List ByteArray) (ls : List Lnk) (v0_0 : List (List CV)) (v0_1 : Int)  (hi : (ntE cs ls = 0 ∧ bdB ls cs.length = true) ∧ 0 ≤ v0_1 ∧ v0_1 ≤ cs.length ∧ (0 : Int) + v0_1 = cs.length + 1 ∧ v0_0 = (ofK ls cs.length v0_1.toNat).map rgCv ∧ ∀ j : Nat, (j : Int) < v0_1 → opnB ls cs.length j = false) : False := by
 omega
theorem spec_clock_OffsetsOf (cs : List ByteArray) (ls : List Lnk) (hp : (∀ k, k < (cs).length → (txAt cs k).size ≤ 1000000)) : vc_clock_OffsetsOf (J_clock_OffsetsOf cs ls) cs ls (fun r => LeD r (.tu [.c (.sl 2 ((ofV cs ls).length) (rgsC (ofV cs ls))), .c (.v (.int .i64 (ofE cs ls)))])) := by
 unfold vc_clock_OffsetsOf
 simp only [lnks_listC, txs_of, Int.toNat_natCast]
 refine ⟨⟨txP_txs cs, numsP_lnks ls, hp⟩, cond_i (fun h => ?_) (fun h => ?_)⟩
 ·have h : ntE cs ls ≠ 0 := by simpa using h
  have e : ofE cs ls = ntE cs ls := if_pos h
  rw [show ofV cs ls = [] from if_neg (by rw [e]; exact h), e]
  exact le_tu le_nil (LeD.refl _)
 ·have h : ntE cs ls = 0 := by simpa using h
  refine ⟨⟨numsP_lnks ls, ntE_bd h⟩, cond_i (fun g => ?_) (fun g => ?_)⟩
  ·have g : bdB ls cs.length = false := by simpa using g
   have e : ofE cs ls = 13 := by unfold ofE; rw [if_neg (by rw [h]; simp), if_neg (by rw [g]; simp)]
   rw [show ofV cs ls = [] from if_neg (by rw [e]; decide), e]
   exact le_tu le_nil (LeD.refl _)
  ·have g : bdB ls cs.length = true := by simpa using g
   exact ⟨cs.length + 1, [], 0, rfl, ⟨h, g⟩, by omega, by omega, by omega, rfl, fun j hj => by omega⟩
theorem all_clock_OffsetsOf (cs : List ByteArray) (ls : List Lnk) (hp : (∀ k, k < (cs).length → (txAt cs k).size ≤ 1000000)) : AllG (J_clock_OffsetsOf cs ls) (loopsFn Tryz.prog tab Sw60 ann_clock_OffsetsOf (J_clock_OffsetsOf cs ls) Tryz.f28 (fun r => LeD r (.tu [.c (.sl 2 ((ofV cs ls).length) (rgsC (ofV cs ls))), .c (.v (.int .i64 (ofE cs ls)))]))) := by
 rw [lp_clock_OffsetsOf]
 refine ⟨⟨?_, ?_⟩, trivial⟩
 ·intro F s h
  obtain _ | ⟨g, F⟩ := F
  case cons => exact h.elim
  obtain ⟨w0, w1, rfl, hi⟩ := h
  exact zero_clock_OffsetsOf_0 cs ls w0 w1 hi
 ·intro n F s h
  obtain _ | ⟨g, F⟩ := F
  case cons => exact h.elim
  obtain ⟨w0, w1, rfl, hi⟩ := h
  rw [er_clock_OffsetsOf_0]
  exact rnd_clock_OffsetsOf_0 cs ls _ _ _ hp hi
def con_clock_OffsetsOf : Con := fun args => match args with
 | [.t (.a [.sl 1 n_cs c_cs, .sl 4 n_ls c_ls])] => some (.tu [.c (.sl 2 ((ofV (txOf n_cs c_cs) (listC n_ls mkLnk c_ls)).length) (rgsC (ofV (txOf n_cs c_cs) (listC n_ls mkLnk c_ls)))), .c (.v (.int .i64 (ofE (txOf n_cs c_cs) (listC n_ls mkLnk c_ls))))], some (txP n_cs c_cs ∧ numsP 4 n_ls c_ls ∧ (∀ k, k < ((txOf n_cs c_cs)).length → (txAt (txOf n_cs c_cs) k).size ≤ 1000000)), false)
 | _ => none
theorem ok_clock_OffsetsOf : Ok Tryz.prog 28 con_clock_OffsetsOf := by
 refine Ok.fn (ann := ann_clock_OffsetsOf) mixed tabOK VSw60 VI1 (fn := Tryz.f28) (by kernel_rfl) (by kernel_rfl) fit_clock_OffsetsOf fun args r pre fresh h hp => ?_
 unfold con_clock_OffsetsOf at h
 split at h
 ·rename_i n_cs c_cs n_ls c_ls
  cases h
  obtain ⟨hp0, hp1, hp⟩ := hp
  refine ⟨rfl, J_clock_OffsetsOf (txOf n_cs c_cs) (listC n_ls mkLnk c_ls), [.t (.a [.sl 1 ((txOf n_cs c_cs).length) (txsC (txOf n_cs c_cs)), .sl 4 ((listC n_ls mkLnk c_ls).length) (lnksC (listC n_ls mkLnk c_ls))])], ?_, Nat.le_of_ble_eq_true (by kernel_rfl), ?_, ?_⟩
  ·exact (LeA_cons (leT_a (LeCs.cons ((leL_str hp0)) (LeCs.cons ((leL_Lnk hp1)) LeCs.nil))) LeA_nil)
  ·rw [ev_clock_OffsetsOf]; exact spec_clock_OffsetsOf (txOf n_cs c_cs) (listC n_ls mkLnk c_ls) hp
  ·exact all_clock_OffsetsOf (txOf n_cs c_cs) (listC n_ls mkLnk c_ls) hp
 ·cases h
def Sw61 : Sum := addS Sw60 28 con_clock_OffsetsOf
theorem VSw61 : Valid Tryz.prog Sw61 := Valid.add VSw60 ok_clock_OffsetsOf
def vc_ref01_CopyNet (cs : List ByteArray) (ls : List Lnk) (post : DV → Prop) : Prop := (roomP 16 (([] : List (List CV)).length + ((List.range cs.length).map fun i => fwd ((txsC cs) i) 0 1).length)) ∧ ((roomP 32 (([] : List (List CV)).length + ((List.range ls.length).map fun i => fwd ((lnksC ls) i) 0 4).length)) ∧ (post (.t (.a [.sl 1 ((([] : List (List CV)) ++ ((List.range cs.length).map fun i => fwd ((txsC cs) i) 0 1)).length) (genC (([] : List (List CV)) ++ ((List.range cs.length).map fun i => fwd ((txsC cs) i) 0 1))), .sl 4 ((([] : List (List CV)) ++ ((List.range ls.length).map fun i => fwd ((lnksC ls) i) 0 4)).length) (genC (([] : List (List CV)) ++ ((List.range ls.length).map fun i => fwd ((lnksC ls) i) 0 4)))]))))
def ann_ref01_CopyNet : Ann := ⟨fun r => lookA r [(1, ([[], [], [1], [0, 1, 2], [], [], [5], [0, 1, 2, 3, 4, 5, 6], [0, 1, 2, 3, 4, 5, 6, 7], [0, 1, 2, 3, 4, 5, 6, 7, 8]], [[7], [3, 7], [3, 7], [9999, 3, 6], [3, 6], [3, 7], [3, 6, 7], [], [], []]))], fun _ => none, fun _ => [], I1, true, fun _ => none, fun _ => none⟩
theorem ev_ref01_CopyNet (J : Inv) (cs : List ByteArray) (ls : List Lnk) (post : DV → Prop) : evFn Tryz.prog tab Sw61 ann_ref01_CopyNet J Tryz.f10 [.t (.a [.sl 1 cs.length (txsC cs), .sl 4 ls.length (lnksC ls)])] post = vc_ref01_CopyNet cs ls post := by kernel_rfl
theorem fit_ref01_CopyNet : okFn ann_ref01_CopyNet Tryz.f10 = true := by kernel_rfl
theorem lp_ref01_CopyNet (J : Inv) (post : DV → Prop) : AllG J (loopsFn Tryz.prog tab Sw61 ann_ref01_CopyNet J Tryz.f10 post) = (True) := by kernel_rfl
theorem spec_ref01_CopyNet (cs : List ByteArray) (ls : List Lnk) (hp : (cs).length ≤ 1000 ∧ (ls).length ≤ 1000) : vc_ref01_CopyNet cs ls (fun r => LeD r (.t (.a [.sl 1 cs.length (txsC cs), .sl 4 ls.length (lnksC ls)]))) := by
 unfold vc_ref01_CopyNet
 rw [txs_fwd, lnks_fwd, List.nil_append, List.nil_append]
 refine ⟨?_, ?_, leT_a (LeCs.cons (leC_txs cs) (LeCs.cons (leC_lnks ls) LeCs.nil))⟩
 all_goals
  unfold roomP maxLen
  simp
  omega
def con_ref01_CopyNet : Con := fun args => match args with
 | [.t (.a [.sl 1 n_cs c_cs, .sl 4 n_ls c_ls])] => some (.t (.a [.sl 1 ((txOf n_cs c_cs).length) (txsC (txOf n_cs c_cs)), .sl 4 ((listC n_ls mkLnk c_ls).length) (lnksC (listC n_ls mkLnk c_ls))]), some (txP n_cs c_cs ∧ numsP 4 n_ls c_ls ∧ ((txOf n_cs c_cs)).length ≤ 1000 ∧ ((listC n_ls mkLnk c_ls)).length ≤ 1000), true)
 | _ => none
theorem ok_ref01_CopyNet : Ok Tryz.prog 10 con_ref01_CopyNet := by
 refine Ok.fnFr (ann := ann_ref01_CopyNet) mixed tabOK VSw61 VI1 rfl (fn := Tryz.f10) (by kernel_rfl) (by kernel_rfl) fit_ref01_CopyNet fun args r pre fresh h hp => ?_
 unfold con_ref01_CopyNet at h
 split at h
 ·rename_i n_cs c_cs n_ls c_ls
  cases h
  obtain ⟨hp0, hp1, hp⟩ := hp
  refine ⟨rfl, (by intro x hx; simp only [List.mem_cons, List.not_mem_nil, or_false] at hx; rcases hx with rfl | rfl <;> first | trivial | exact (fun i j _ hj => plain_str _ i j) | exact (fun i j _ hj => plain_Lnk _ i j)), fun _ _ _ => False, [.t (.a [.sl 1 ((txOf n_cs c_cs).length) (txsC (txOf n_cs c_cs)), .sl 4 ((listC n_ls mkLnk c_ls).length) (lnksC (listC n_ls mkLnk c_ls))])], ?_, Nat.le_of_ble_eq_true (by kernel_rfl), ?_, ?_⟩
  ·exact (LeA_cons (leT_a (LeCs.cons ((leL_str hp0)) (LeCs.cons ((leL_Lnk hp1)) LeCs.nil))) LeA_nil)
  ·rw [ev_ref01_CopyNet]; exact spec_ref01_CopyNet (txOf n_cs c_cs) (listC n_ls mkLnk c_ls) hp
  ·rw [lp_ref01_CopyNet]; trivial
 ·cases h
def Sw62 : Sum := addS Sw61 10 con_ref01_CopyNet
theorem VSw62 : Valid Tryz.prog Sw62 := Valid.add VSw61 ok_ref01_CopyNet
def mk_law01_fewLinks_0 (cs : List ByteArray) (ls : List Lnk) (v0_0 : Int) : DS := ⟨[none, some (.t (.c (.p 1 0))), none, some (.t (.c (.v (.int .i64 v0_0)))), none, none, none, none, none, none, none, none, none, none, none, none, none, none, none, none, none, none, none, none, none, none, none, none], [none, some (.box 27 [.sl 1 cs.length (txsC cs), .sl 4 ls.length (lnksC ls)]), none, none, none, none, none, none, none, none, none, none, none, none, none, none, none, none, none, none, none, none, none, none, none, none, none, none]⟩
def vc_law01_fewLinks (J : Inv) (cs : List ByteArray) (ls : List Lnk) (post : DV → Prop) : Prop := (cond (decide (((cs.length : Nat) : Int) > (8 : Int))) ((true = true) ∧ (True)) (True)) ∧ (lt ((bif decide (((cs.length : Nat) : Int) > (8 : Int)) then true else decide (((ls.length : Nat) : Int) > (14 : Int)))) fun x1 => cond x1 (post (.t (.c (.v (.bool false))))) (∃ n, J 0 (n :: []) (mk_law01_fewLinks_0 cs ls 0)))
def ann_law01_fewLinks : Ann := ⟨fun _ => none, fun b => lookA b [(0, (none, some ⟨[1, 3], [1], []⟩))], fun _ => [], I1, false, fun r => lookA r [(1, (5, [13]))], fun _ => none⟩
theorem ev_law01_fewLinks (J : Inv) (cs : List ByteArray) (ls : List Lnk) (post : DV → Prop) : evFn Tryz.prog tab Sw62 ann_law01_fewLinks J Tryz.f7 [.t (.a [.sl 1 cs.length (txsC cs), .sl 4 ls.length (lnksC ls)])] post = vc_law01_fewLinks J cs ls post := by kernel_rfl
theorem fit_law01_fewLinks : okFn ann_law01_fewLinks Tryz.f7 = true := by kernel_rfl
def rd_law01_fewLinks_0 (J : Inv) (cs : List ByteArray) (ls : List Lnk) (v0_0 : Int) (nn0 : Nat) (post : DV → Prop) : Prop := cond (decide (v0_0 < ((cs.length : Nat) : Int))) ((0 ≤ v0_0 ∧ v0_0 < ((cs.length : Nat) : Int)) ∧ (cond (decide (((((txAt cs v0_0.toNat) : ByteArray).size : Nat) : Int) > (20 : Int))) (post (.t (.c (.v (.bool false))))) (lt (IntKind.i64.wrap (v0_0 + (1 : Int))) fun x1 => J 0 (nn0 :: []) (mk_law01_fewLinks_0 cs ls x1)))) (post (.t (.c (.v (.bool true)))))
theorem er_law01_fewLinks_0 (J : Inv) (cs : List ByteArray) (ls : List Lnk) (v0_0 : Int) (nn0 : Nat) (post : DV → Prop) : round Tryz.prog tab Sw62 ann_law01_fewLinks J Tryz.f7 post 0 (nn0 :: []) (mk_law01_fewLinks_0 cs ls v0_0) = rd_law01_fewLinks_0 J cs ls v0_0 nn0 post := by kernel_rfl
theorem lp_law01_fewLinks (J : Inv) (post : DV → Prop) : AllG J (loopsFn Tryz.prog tab Sw62 ann_law01_fewLinks J Tryz.f7 post) = (((∀ F s, ¬ J 0 (0 :: F) s) ∧ ∀ n F s, J 0 ((n + 1) :: F) s → round Tryz.prog tab Sw62 ann_law01_fewLinks J Tryz.f7 post 0 (n :: F) s) ∧ True) := by kernel_rfl
def J_law01_fewLinks (cs : List ByteArray) (ls : List Lnk) : Inv := fun b F s => match b, F with
 | 0, [nn0] => ∃ (v0_0 : Int), s = mk_law01_fewLinks_0 cs ls v0_0 ∧ (((cs.length : Int) ≤ 8 ∧ (ls.length : Int) ≤ 14) ∧ 0 ≤ v0_0 ∧ v0_0 ≤ cs.length ∧ (nn0 : Int) + v0_0 = cs.length + 1 ∧ ∀ j : Nat, (j : Int) < v0_0 → (txAt cs j).size ≤ 20)
 | _, _ => False
theorem rnd_law01_fewLinks_0 (cs : List ByteArray) (ls : List Lnk) (v0_0 : Int) (nn0 : Nat) (hi : ((cs.length : Int) ≤ 8 ∧ (ls.length : Int) ≤ 14) ∧ 0 ≤ v0_0 ∧ v0_0 ≤ cs.length ∧ ((nn0 + 1) : Int) + v0_0 = cs.length + 1 ∧ ∀ j : Nat, (j : Int) < v0_0 → (txAt cs j).size ≤ 20) : rd_law01_fewLinks_0 (J_law01_fewLinks cs ls) cs ls v0_0 nn0 (fun r => LeD r (.t (.c (.v (.bool (fwL cs ls)))))) := by
 obtain ⟨q, i1, i2, i3, i4⟩ := hi
 obtain ⟨k, rfl⟩ : ∃ k : Nat, v0_0 = k := ⟨v0_0.toNat, by omega⟩
 have hk : (k : Int).toNat = k := rfl
 unfold rd_law01_fewLinks_0
 rw [hk]
 refine cond_i (fun h => ⟨by have := of_decide_eq_true h; omega, cond_i (fun g => leB ?_) (fun g => lt_i fun x1 h1 => ?_)⟩) (fun h => leB ?_)
 ·have hlt : k < cs.length := by have := of_decide_eq_true h; omega
  have g := of_decide_eq_true g
  unfold fwL
  have e : (cs.all fun s => decide (s.size ≤ 20)) = false := ?_
  ·rw [e, decide_eq_true q.2, decide_eq_true q.1]; rfl
  rw [Bool.eq_false_iff]
  intro c
  have := of_decide_eq_true (List.all_eq_true.1 c (txAt cs k) (txAt_in hlt))
  omega
 ·have hlt : k < cs.length := by have := of_decide_eq_true h; omega
  have g := of_decide_eq_false g
  rw [wi (by omega)] at h1
  subst h1
  refine ⟨_, rfl, q, by omega, by omega, by omega, fun j hj => ?_⟩
  rcases (by omega : (j : Int) < k ∨ j = k) with c | rfl
  ·exact i4 j c
  ·omega
 ·have h := of_decide_eq_false h
  unfold fwL
  rw [decide_eq_true q.1, decide_eq_true q.2, Bool.true_and, Bool.true_and]
  refine (List.all_eq_true.2 fun s hs => ?_).symm
  obtain ⟨j, hj, rfl⟩ := txs_mem hs
  exact decide_eq_true (i4 j (by omega))
theorem zero_law01_fewLinks_0 (cs : List ByteArray) (ls : List Lnk) (v0_0 : Int)  (hi : ((cs.length : Int) ≤ 8 ∧ (ls.length : Int) ≤ 14) ∧ 0 ≤ v0_0 ∧ v0_0 ≤ cs.length ∧ (0 : Int) + v0_0 = cs.length + 1 ∧ ∀ j : Nat, (j : Int) < v0_0 → (txAt cs j).size ≤ 20) : False := by
 omega
theorem spec_law01_fewLinks (cs : List ByteArray) (ls : List Lnk) : vc_law01_fewLinks (J_law01_fewLinks cs ls) cs ls (fun r => LeD r (.t (.c (.v (.bool (fwL cs ls)))))) := by
 unfold vc_law01_fewLinks
 refine ⟨cond_i (fun _ => ⟨rfl, trivial⟩) (fun _ => trivial), lt_i fun x1 h1 => cond_i (fun g => leB ?_) (fun g => ?_)⟩
 ·subst h1
  unfold fwL
  cases e : decide ((cs.length : Int) > 8) with
  | true => rw [decide_eq_false (by have := of_decide_eq_true e; omega)]; rfl
  | false =>
   rw [e] at g
   have := of_decide_eq_true g
   rw [decide_eq_false (show ¬ (ls.length : Int) ≤ 14 by omega)]; cases decide ((cs.length : Int) ≤ 8) <;> rfl
 ·subst h1
  have c : (cs.length : Int) ≤ 8 ∧ (ls.length : Int) ≤ 14 := by
   cases e : decide ((cs.length : Int) > 8) with
   | true => rw [e] at g; cases g
   | false =>
    rw [e] at g
    have h1 := of_decide_eq_false e
    have h2 := of_decide_eq_false g
    omega
  exact ⟨cs.length + 1, 0, rfl, c, by omega, by omega, by omega, fun j hj => by omega⟩
theorem all_law01_fewLinks (cs : List ByteArray) (ls : List Lnk) : AllG (J_law01_fewLinks cs ls) (loopsFn Tryz.prog tab Sw62 ann_law01_fewLinks (J_law01_fewLinks cs ls) Tryz.f7 (fun r => LeD r (.t (.c (.v (.bool (fwL cs ls))))))) := by
 rw [lp_law01_fewLinks]
 refine ⟨⟨?_, ?_⟩, trivial⟩
 ·intro F s h
  obtain _ | ⟨g, F⟩ := F
  case cons => exact h.elim
  obtain ⟨w0, rfl, hi⟩ := h
  exact zero_law01_fewLinks_0 cs ls w0 hi
 ·intro n F s h
  obtain _ | ⟨g, F⟩ := F
  case cons => exact h.elim
  obtain ⟨w0, rfl, hi⟩ := h
  rw [er_law01_fewLinks_0]
  exact rnd_law01_fewLinks_0 cs ls _ _ hi
def con_law01_fewLinks : Con := fun args => match args with
 | [.t (.a [.sl 1 n_cs c_cs, .sl 4 n_ls c_ls])] => some (.t (.c (.v (.bool (fwL (txOf n_cs c_cs) (listC n_ls mkLnk c_ls))))), some (txP n_cs c_cs ∧ numsP 4 n_ls c_ls), false)
 | _ => none
theorem ok_law01_fewLinks : Ok Tryz.prog 7 con_law01_fewLinks := by
 refine Ok.fn (ann := ann_law01_fewLinks) mixed tabOK VSw62 VI1 (fn := Tryz.f7) (by kernel_rfl) (by kernel_rfl) fit_law01_fewLinks fun args r pre fresh h hp => ?_
 unfold con_law01_fewLinks at h
 split at h
 ·rename_i n_cs c_cs n_ls c_ls
  cases h
  obtain ⟨hp0, hp1⟩ := hp
  refine ⟨rfl, J_law01_fewLinks (txOf n_cs c_cs) (listC n_ls mkLnk c_ls), [.t (.a [.sl 1 ((txOf n_cs c_cs).length) (txsC (txOf n_cs c_cs)), .sl 4 ((listC n_ls mkLnk c_ls).length) (lnksC (listC n_ls mkLnk c_ls))])], ?_, Nat.le_of_ble_eq_true (by kernel_rfl), ?_, ?_⟩
  ·exact (LeA_cons (leT_a (LeCs.cons ((leL_str hp0)) (LeCs.cons ((leL_Lnk hp1)) LeCs.nil))) LeA_nil)
  ·rw [ev_law01_fewLinks]; exact spec_law01_fewLinks (txOf n_cs c_cs) (listC n_ls mkLnk c_ls)
  ·exact all_law01_fewLinks (txOf n_cs c_cs) (listC n_ls mkLnk c_ls)
 ·cases h
def Sw63 : Sum := addS Sw62 7 con_law01_fewLinks
theorem VSw63 : Valid Tryz.prog Sw63 := Valid.add VSw62 ok_law01_fewLinks
def vc_law01_Cable  (post : DV → Prop) : Prop := post (.t (.a [.v (.int .i64 100), .v (.int .i64 2)]))
def ann_law01_Cable : Ann := ⟨fun _ => none, fun _ => none, fun _ => [], I1, false, fun _ => none, fun _ => none⟩
theorem ev_law01_Cable (J : Inv)  (post : DV → Prop) : evFn Tryz.prog tab Sw63 ann_law01_Cable J Tryz.f79 [] post = vc_law01_Cable  post := by kernel_rfl
theorem fit_law01_Cable : okFn ann_law01_Cable Tryz.f79 = true := by kernel_rfl
theorem lp_law01_Cable (J : Inv) (post : DV → Prop) : AllG J (loopsFn Tryz.prog tab Sw63 ann_law01_Cable J Tryz.f79 post) = (True) := by kernel_rfl
theorem spec_law01_Cable  : vc_law01_Cable  (fun r => LeD r (.t (.a [.v (.int .i64 100), .v (.int .i64 2)]))) := by
 exact LeD.refl _
def con_law01_Cable : Con := fun args => match args with
 | [] => some (.t (.a [.v (.int .i64 100), .v (.int .i64 2)]), none, false)
 | _ => none
theorem ok_law01_Cable : Ok Tryz.prog 79 con_law01_Cable := by
 refine Ok.fn (ann := ann_law01_Cable) mixed tabOK VSw63 VI1 (fn := Tryz.f79) (by kernel_rfl) (by kernel_rfl) fit_law01_Cable fun args r pre fresh h hp => ?_
 unfold con_law01_Cable at h
 split at h
 ·cases h
  refine ⟨rfl, fun _ _ _ => False, _, LeA.refl _, Nat.le_of_ble_eq_true (by kernel_rfl), ?_, ?_⟩
  ·rw [ev_law01_Cable]; exact spec_law01_Cable 
  ·rw [lp_law01_Cable]; trivial
 ·cases h
def Sw64 : Sum := addS Sw63 79 con_law01_Cable
theorem VSw64 : Valid Tryz.prog Sw64 := Valid.add VSw63 ok_law01_Cable
def vc_law01_Ping  (post : DV → Prop) : Prop := post (.t (.a [.v (.int .i64 1000), .v (.int .i64 50), .v (.int .i64 250), .v (.int .i64 1300)]))
def ann_law01_Ping : Ann := ⟨fun _ => none, fun _ => none, fun _ => [], I1, false, fun _ => none, fun _ => none⟩
theorem ev_law01_Ping (J : Inv)  (post : DV → Prop) : evFn Tryz.prog tab Sw64 ann_law01_Ping J Tryz.f80 [] post = vc_law01_Ping  post := by kernel_rfl
theorem fit_law01_Ping : okFn ann_law01_Ping Tryz.f80 = true := by kernel_rfl
theorem lp_law01_Ping (J : Inv) (post : DV → Prop) : AllG J (loopsFn Tryz.prog tab Sw64 ann_law01_Ping J Tryz.f80 post) = (True) := by kernel_rfl
theorem spec_law01_Ping  : vc_law01_Ping  (fun r => LeD r (.t (.a [.v (.int .i64 1000), .v (.int .i64 50), .v (.int .i64 250), .v (.int .i64 1300)]))) := by
 exact LeD.refl _
def con_law01_Ping : Con := fun args => match args with
 | [] => some (.t (.a [.v (.int .i64 1000), .v (.int .i64 50), .v (.int .i64 250), .v (.int .i64 1300)]), none, false)
 | _ => none
theorem ok_law01_Ping : Ok Tryz.prog 80 con_law01_Ping := by
 refine Ok.fn (ann := ann_law01_Ping) mixed tabOK VSw64 VI1 (fn := Tryz.f80) (by kernel_rfl) (by kernel_rfl) fit_law01_Ping fun args r pre fresh h hp => ?_
 unfold con_law01_Ping at h
 split at h
 ·cases h
  refine ⟨rfl, fun _ _ _ => False, _, LeA.refl _, Nat.le_of_ble_eq_true (by kernel_rfl), ?_, ?_⟩
  ·rw [ev_law01_Ping]; exact spec_law01_Ping 
  ·rw [lp_law01_Ping]; trivial
 ·cases h
def Sw65 : Sum := addS Sw64 80 con_law01_Ping
theorem VSw65 : Valid Tryz.prog Sw65 := Valid.add VSw64 ok_law01_Ping
def vc_law01_Track  (post : DV → Prop) : Prop := post (.t (.a [.v (.int .i64 100), .v (.int .i64 2), .sl 4 2 (genC [[.v (.int .i64 1000), .v (.int .i64 50), .v (.int .i64 250), .v (.int .i64 1300)], [.v (.int .i64 101000), .v (.int .i64 100050), .v (.int .i64 100250), .v (.int .i64 101304)]])]))
def ann_law01_Track : Ann := ⟨fun _ => none, fun _ => none, fun _ => [], I1, true, fun _ => none, fun _ => none⟩
theorem ev_law01_Track (J : Inv)  (post : DV → Prop) : evFn Tryz.prog tab Sw65 ann_law01_Track J Tryz.f40 [] post = vc_law01_Track  post := by kernel_rfl
theorem fit_law01_Track : okFn ann_law01_Track Tryz.f40 = true := by kernel_rfl
theorem lp_law01_Track (J : Inv) (post : DV → Prop) : AllG J (loopsFn Tryz.prog tab Sw65 ann_law01_Track J Tryz.f40 post) = (True) := by kernel_rfl
theorem spec_law01_Track  : vc_law01_Track  (fun r => LeD r (.t (.a [.v (.int .i64 100), .v (.int .i64 2), .sl 4 exP.length (pngsC exP)]))) := by
 exact leT_a (LeCs.cons (LeC1.refl _) (LeCs.cons (LeC1.refl _) (LeCs.cons (leC_pngs exP) LeCs.nil)))
def con_law01_Track : Con := fun args => match args with
 | [] => some (.t (.a [.v (.int .i64 100), .v (.int .i64 2), .sl 4 exP.length (pngsC exP)]), none, true)
 | _ => none
theorem ok_law01_Track : Ok Tryz.prog 40 con_law01_Track := by
 refine Ok.fnFr (ann := ann_law01_Track) mixed tabOK VSw65 VI1 rfl (fn := Tryz.f40) (by kernel_rfl) (by kernel_rfl) fit_law01_Track fun args r pre fresh h hp => ?_
 unfold con_law01_Track at h
 split at h
 ·cases h
  refine ⟨rfl, (by intro x hx; simp only [List.mem_cons, List.not_mem_nil, or_false] at hx; rcases hx with rfl | rfl | rfl <;> first | trivial | exact (fun i j _ hj => plain_Png _ i j)), fun _ _ _ => False, _, LeA.refl _, Nat.le_of_ble_eq_true (by kernel_rfl), ?_, ?_⟩
  ·rw [ev_law01_Track]; exact spec_law01_Track 
  ·rw [lp_law01_Track]; trivial
 ·cases h
def Sw66 : Sum := addS Sw65 40 con_law01_Track
theorem VSw66 : Valid Tryz.prog Sw66 := Valid.add VSw65 ok_law01_Track
def vc_law01_Net  (post : DV → Prop) : Prop := post (.t (.a [.sl 1 3 (genC [[.v (.string ⟨#[97]⟩)], [.v (.string ⟨#[98]⟩)], [.v (.string ⟨#[100]⟩)]]), .sl 4 3 (genC [[.v (.int .i64 0), .v (.int .i64 1), .v (.int .i64 5), .v (.int .i64 7)], [.v (.int .i64 1), .v (.int .i64 2), .v (.int .i64 1), .v (.int .i64 2)], [.v (.int .i64 0), .v (.int .i64 2), .v (.int .i64 7), .v (.int .i64 10)]])]))
def ann_law01_Net : Ann := ⟨fun _ => none, fun _ => none, fun _ => [], I1, true, fun _ => none, fun _ => none⟩
theorem ev_law01_Net (J : Inv)  (post : DV → Prop) : evFn Tryz.prog tab Sw66 ann_law01_Net J Tryz.f41 [] post = vc_law01_Net  post := by kernel_rfl
theorem fit_law01_Net : okFn ann_law01_Net Tryz.f41 = true := by kernel_rfl
theorem lp_law01_Net (J : Inv) (post : DV → Prop) : AllG J (loopsFn Tryz.prog tab Sw66 ann_law01_Net J Tryz.f41 post) = (True) := by kernel_rfl
theorem spec_law01_Net  : vc_law01_Net  (fun r => LeD r (.t (.a [.sl 1 exC.length (txsC exC), .sl 4 exL.length (lnksC exL)]))) := by
 exact leT_a (LeCs.cons (leC_txs exC) (LeCs.cons (leC_lnks exL) LeCs.nil))
def con_law01_Net : Con := fun args => match args with
 | [] => some (.t (.a [.sl 1 exC.length (txsC exC), .sl 4 exL.length (lnksC exL)]), none, true)
 | _ => none
theorem ok_law01_Net : Ok Tryz.prog 41 con_law01_Net := by
 refine Ok.fnFr (ann := ann_law01_Net) mixed tabOK VSw66 VI1 rfl (fn := Tryz.f41) (by kernel_rfl) (by kernel_rfl) fit_law01_Net fun args r pre fresh h hp => ?_
 unfold con_law01_Net at h
 split at h
 ·cases h
  refine ⟨rfl, (by intro x hx; simp only [List.mem_cons, List.not_mem_nil, or_false] at hx; rcases hx with rfl | rfl <;> first | trivial | exact (fun i j _ hj => plain_str _ i j) | exact (fun i j _ hj => plain_Lnk _ i j)), fun _ _ _ => False, _, LeA.refl _, Nat.le_of_ble_eq_true (by kernel_rfl), ?_, ?_⟩
  ·rw [ev_law01_Net]; exact spec_law01_Net 
  ·rw [lp_law01_Net]; trivial
 ·cases h
def Sw67 : Sum := addS Sw66 41 con_law01_Net
theorem VSw67 : Valid Tryz.prog Sw67 := Valid.add VSw66 ok_law01_Net
end Go.Proofs.YtlapeoboekchpaaGreatDoor
set_option linter.unusedVariables false
set_option linter.unusedSimpArgs false
namespace Go.Proofs.YtlapeoboekchpaaGreatDoor
open Go.RowKit
section
variable {H : Type} {enc : TypeId × Value → H} {P : Program} {w : World} {base : Nat} {spare : Nat → Bool} {held : Bool}
theorem cell_lt {w : World} {a : Addr} {v : Value} (h : w.cell? a = some v) : a.block < w.heap.size := by
 unfold World.cell? at h
 cases e : w.heap[a.block]? with
 | none => simp [e] at h
 | some o => exact (Array.getElem?_eq_some_iff.1 e).1
theorem list_of {α : Type} (d : α) : ∀ (n : Nat) {R : Nat → α → Prop}, (∀ i, i < n → ∃ x, R i x) → ∃ l : List α, l.length = n ∧ ∀ i, i < n → R i (l.getD i d) := by
 intro n
 induction n with
 | zero => intro R _; exact ⟨[], rfl, fun i hi => absurd hi (by omega)⟩
 | succ n ih =>
  intro R h
  obtain ⟨l, hl, hr⟩ := ih (fun i hi => h i (by omega))
  obtain ⟨x, hx⟩ := h n (by omega)
  refine ⟨l ++ [x], by simp [hl], fun i hi => ?_⟩
  rcases Nat.lt_or_ge i n with h1 | h1
  ·have : (l ++ [x]).getD i d = l.getD i d := by simp [List.getD, List.getElem?_append_left (show i < l.length by omega)]
   rw [this]; exact hr i h1
  ·have e : i = n := by omega
   subst e
   have : (l ++ [x]).getD i d = x := by rw [← hl]; simp [List.getD]
   rw [this]; exact hx
theorem SlAt.congr {w : World} {v : Value} {n sz : Nat} {c d : Nat → Nat → Value} (h : SlAt w v n sz c) (e : ∀ i j, i < n → j < sz → c i j = d i j) : SlAt w v n sz d := by
 obtain ⟨ao, cap, rfl, h1, h2, h3, h4⟩ := h
 refine ⟨ao, cap, rfl, h1, h2, fun h0 => ?_, h4⟩
 obtain ⟨b, off, e1, hlt, hc⟩ := h3 h0
 exact ⟨b, off, e1, hlt, fun i j hi hj => by rw [hc i j hi hj, e i j hi hj]⟩
theorem slAt_of_trod {t e : TypeId} {sz fuel : Nat} {v : Value} {x : DataW H × List MemPlace} (ht : P.underlying t = some (.slice e)) (hc : P.cellsOf e = sz) (hsz : 0 < sz)
  (h : DataW.trod enc P w base spare held fuel t [v] = some x) :
  ∃ (n : Nat) (css : Nat → List Value), SlAt w v n sz (fun i j => (css i).getD j undef) ∧ ∀ i, i < n → (css i).length = sz ∧ ∃ m y, DataW.trod enc P w base spare held m e (css i) = some y := by
 rcases DataW.trod_slice ht h with ⟨h0, _⟩ | ⟨a, len, cap, elems, rest, m, _, h0, _, hb, hl, hm, hlen, hel, _, _⟩
 ·obtain rfl : v = .slice none 0 0 := by simpa using h0
  exact ⟨0, fun _ => [], ⟨none, 0, rfl, by simp, by simp, fun h => absurd h (by omega), fun _ => rfl⟩, fun i hi => absurd hi (by omega)⟩
 ·obtain rfl : v = .slice (some a) len cap := by simpa using h0
  have each : ∀ i, i < len → ∃ cs : List Value, w.cells? base (a.add (i * sz)) sz = some cs ∧ ∃ y, DataW.trod enc P w base spare held m e cs = some y := by
   intro i hi
   have h1 := hel i hi
   rw [hc] at h1
   have h2 : elems[i]? = some elems[i] := by simp
   rw [h2, Option.bind_eq_some_iff] at h1
   obtain ⟨cs, h3, h4⟩ := h1
   exact ⟨cs, h3, _, h4⟩
  obtain ⟨css, hcl, hcs⟩ := list_of ([] : List Value) len each
  have hcell : ∀ i j, i < len → j < sz → w.cell? ((a.add (i * sz)).add j) = some ((css.getD i []).getD j undef) := by
   intro i j hi hj
   obtain ⟨_, h2, h3⟩ := World.cells?_some (hcs i hi).1
   rw [h3 j hj]
   generalize css.getD i [] = c at h2 ⊢
   rw [List.getElem?_eq_getElem (by omega)]
   simp [List.getD, List.getElem?_eq_getElem (show j < c.length by omega)]
  refine ⟨len, fun i => css.getD i [], ⟨some a, cap, rfl, hl, hm, fun hp => ?_, fun h => by cases h⟩, fun i hi => ⟨(World.cells?_some (hcs i hi).1).2.1, m, (hcs i hi).2⟩⟩
  obtain ⟨b, off, spot⟩ := a
  have hspot : spot = none := by simpa [Addr.add] using World.cell?_spot (hcell 0 0 hp hsz)
  subst hspot
  refine ⟨b, off, rfl, by simpa [Addr.add] using cell_lt (hcell 0 0 hp hsz), fun i j hi hj => ?_⟩
  have := hcell i j hi hj
  rw [add_plain', add_plain'] at this
  exact this
end
end Go.Proofs.YtlapeoboekchpaaGreatDoor
set_option linter.unusedVariables false
set_option linter.unusedSimpArgs false
namespace Go.Proofs.YtlapeoboekchpaaGreatDoor.Ev
open Go.RowKit
inductive CK where
 | int (k : IntKind)
 | bool
 | str
 | sl (e : TypeId)
def findF (P : Program) (go : TypeId → Nat → Option CK) (j : Nat) : List Field → Option CK
 | [] => none
 | f :: l => bif Nat.ble f.offset j && Nat.blt j (f.offset + P.cellsOf f.type) then go f.type (j - f.offset) else findF P go j l
def kindAt (P : Program) : Nat → TypeId → Nat → Option CK
 | 0, _, _ => none
 | k + 1, t, j => match P.underlying t with
  | some (.int ik) => bif Nat.beq j 0 then some (.int ik) else none
  | some .bool => bif Nat.beq j 0 then some .bool else none
  | some .string => bif Nat.beq j 0 then some .str else none
  | some (.slice e) => bif Nat.beq j 0 then some (.sl e) else none
  | some (.array n e) => bif Nat.blt j (n * P.cellsOf e) then kindAt P k e (j % P.cellsOf e) else none
  | some (.struct fs) => findF P (kindAt P k) j fs.toList
  | _ => none
def kindB (P : Program) : Nat → TypeId → Bool
 | 0, _ => false
 | d + 1, t => (List.range (P.cellsOf t)).all fun j => match kindAt P 20 t j with
  | some (.sl e) => Nat.blt 0 (P.cellsOf e) && kindB P d e
  | some _ => true
  | none => false
def okK (P : Program) : Nat → CK → CV → Prop
 | _, .int ik, c => ∃ n, c = .v (.int ik n) ∧ (Lit.int ik n).wf = true
 | _, .bool, c => ∃ b, c = .v (.bool b)
 | _, .str, c => ∃ s, c = .v (.string s) ∧ s.size ≤ maxLen
 | 0, .sl e, c => False
 | d + 1, .sl e, c => ∃ n cc, c = .sl (P.cellsOf e) n cc ∧ n ≤ maxLen ∧ ∀ i j, i < n → j < P.cellsOf e → ∃ κ, kindAt P 20 e j = some κ ∧ okK P d κ (cc i j)
section
variable {H : Type} {enc : TypeId × Value → H} {P : Program} {w : World} {base : Nat} {spare : Nat → Bool} {held : Bool}
def leaf (H : Type) (enc : TypeId × Value → H) (P : Program) (w : World) (base : Nat) (spare : Nat → Bool) (held : Bool) : CK → Value → Prop
 | .int ik, u => ∃ n, u = .int ik n ∧ (Lit.int ik n).wf = true
 | .bool, u => ∃ b, u = .bool b
 | .str, u => ∃ s : ByteArray, u = .string s ∧ s.size ≤ maxLen
 | .sl e, u => ∃ t m y, P.underlying t = some (.slice e) ∧ DataW.trod enc P w base spare held m t [u] = some y
theorem leaf_of : ∀ (k : Nat) (t : TypeId) (fuel : Nat) (cs : List Value) (x : DataW H × List MemPlace) (j : Nat) (κ : CK), kindAt P k t j = some κ → DataW.trod enc P w base spare held fuel t cs = some x → ∃ u, cs[j]? = some u ∧ leaf H enc P w base spare held κ u := by
 intro k
 induction k with
 | zero => intro t fuel cs x j κ h; cases h
 | succ k ih =>
  intro t fuel cs x j κ hk h
  unfold kindAt at hk
  have zero : ∀ {κ' : CK}, (bif Nat.beq j 0 then some κ' else none) = some κ → j = 0 ∧ κ' = κ := by
   intro κ' e
   cases hb : Nat.beq j 0 with
   | false => rw [hb] at e; cases e
   | true => rw [hb] at e; cases e; exact ⟨Nat.eq_of_beq_eq_true hb, rfl⟩
  split at hk
  ·rename_i ik ht
   obtain ⟨rfl, rfl⟩ := zero hk
   obtain ⟨n, rfl, _, h2⟩ := DataW.trod_int ht h
   exact ⟨_, rfl, n, rfl, h2⟩
  ·rename_i ht
   obtain ⟨rfl, rfl⟩ := zero hk
   obtain ⟨b, rfl, _⟩ := DataW.trod_bool ht h
   exact ⟨_, rfl, b, rfl⟩
  ·rename_i ht
   obtain ⟨rfl, rfl⟩ := zero hk
   obtain ⟨s, rfl, _, h2⟩ := DataW.trod_string ht h
   exact ⟨_, rfl, s, rfl, h2⟩
  ·rename_i e ht
   obtain ⟨rfl, rfl⟩ := zero hk
   rcases DataW.trod_slice ht h with ⟨rfl, _⟩ | ⟨a, len, cap, elems, rest, m, _, rfl, _⟩
   ·exact ⟨_, rfl, t, fuel, x, ht, h⟩
   ·exact ⟨_, rfl, t, fuel, x, ht, h⟩
  ·rename_i n e ht
   cases hb : Nat.blt j (n * P.cellsOf e) with
   | false => rw [hb] at hk; cases hk
   | true =>
    rw [hb] at hk
    simp only [cond_true] at hk
    have hj : j < n * P.cellsOf e := Nat.le_of_ble_eq_true hb
    have hpos : 0 < P.cellsOf e := by
     rcases Nat.eq_zero_or_pos (P.cellsOf e) with q | q
     ·rw [q, Nat.mul_zero] at hj; omega
     ·exact q
    obtain ⟨xs, m, _, _, hl, hxs, hf⟩ := DataW.trod_array ht h
    have hi : j / P.cellsOf e < n := Nat.div_lt_of_lt_mul (by rwa [Nat.mul_comm])
    have h5 := hf _ hi
    rw [show xs[j / P.cellsOf e]? = some xs[j / P.cellsOf e] from List.getElem?_eq_getElem (by omega)] at h5
    obtain ⟨u, h6, h7⟩ := ih e _ _ _ _ _ hk h5
    refine ⟨u, ?_, h7⟩
    rw [List.getElem?_take, if_pos (Nat.mod_lt _ hpos), List.getElem?_drop] at h6
    rwa [Nat.div_add_mod' j (P.cellsOf e)] at h6
  ·rename_i fs ht
   obtain ⟨xs, m, _, _, hl, hxs, hf⟩ := DataW.trod_struct ht h
   have find : ∀ l : List Field, (∀ f ∈ l, ∃ i : Nat, fs[i]? = some f) → findF P (kindAt P k) j l = some κ → ∃ (f : Field) (i : Nat), fs[i]? = some f ∧ f.offset ≤ j ∧ j < f.offset + P.cellsOf f.type ∧ kindAt P k f.type (j - f.offset) = some κ := by
    intro l
    induction l with
    | nil => intro _ h; cases h
    | cons f l ihl =>
     intro hm h
     unfold findF at h
     cases hb : (Nat.ble f.offset j && Nat.blt j (f.offset + P.cellsOf f.type)) with
     | false => rw [hb] at h; exact ihl (fun g hg => hm g (by simp [hg])) h
     | true =>
      rw [hb] at h
      simp only [Bool.and_eq_true] at hb
      obtain ⟨i, hi⟩ := hm f (by simp)
      exact ⟨f, i, hi, Nat.le_of_ble_eq_true hb.1, Nat.le_of_ble_eq_true hb.2, h⟩
   obtain ⟨f, i, hi, h1, h2, h3⟩ := find fs.toList (fun f hf => by
    obtain ⟨i, hi, e⟩ := List.getElem_of_mem hf
    exact ⟨i, by rw [← e]; simp at hi ⊢⟩) hk
   have h5 := hf i f hi
   have hlt : i < fs.size := by
    rcases Nat.lt_or_ge i fs.size with q | q
    ·exact q
    ·rw [Array.getElem?_eq_none q] at hi; cases hi
   rw [show xs[i]? = some xs[i] from List.getElem?_eq_getElem (by omega)] at h5
   obtain ⟨u, h6, h7⟩ := ih _ _ _ _ _ _ h3 h5
   refine ⟨u, ?_, h7⟩
   rw [List.getElem?_take, if_pos (by omega), List.getElem?_drop] at h6
   rwa [show f.offset + (j - f.offset) = j by omega] at h6
  ·cases hk
theorem open_cell : ∀ (d : Nat) (t : TypeId) (fuel : Nat) (cs : List Value) (x : DataW H × List MemPlace), kindB P d t = true → DataW.trod enc P w base spare held fuel t cs = some x → ∀ j, j < P.cellsOf t → ∃ κ c u, kindAt P 20 t j = some κ ∧ cs[j]? = some u ∧ RelF w (fun _ => True) c u ∧ okK P d κ c := by
 intro d
 induction d with
 | zero => intro t fuel cs x h; cases h
 | succ d ih =>
  intro t fuel cs x hB h j hj
  have hB' := hB
  unfold kindB at hB
  have h1 := List.all_eq_true.1 hB j (List.mem_range.2 hj)
  cases hk : kindAt P 20 t j with
  | none => rw [hk] at h1; cases h1
  | some κ =>
   rw [hk] at h1
   obtain ⟨u, h2, h3⟩ := leaf_of 20 t fuel cs x j κ hk h
   cases κ with
   | int ik =>
    obtain ⟨n, rfl, hw⟩ := h3
    exact ⟨_, .v (.int ik n), _, rfl, h2, ⟨rfl, rfl⟩, by simp only [okK]; exact ⟨n, rfl, hw⟩⟩
   | bool =>
    obtain ⟨b, rfl⟩ := h3
    exact ⟨_, .v (.bool b), _, rfl, h2, ⟨rfl, rfl⟩, by simp only [okK]; exact ⟨b, rfl⟩⟩
   | str =>
    obtain ⟨s, rfl, hs⟩ := h3
    exact ⟨_, .v (.string s), _, rfl, h2, ⟨rfl, rfl⟩, by simp only [okK]; exact ⟨s, rfl, hs⟩⟩
   | sl e =>
    simp only [Bool.and_eq_true] at h1
    have hpos : 0 < P.cellsOf e := Nat.le_of_ble_eq_true h1.1
    obtain ⟨t', m, y, ht, hy⟩ := h3
    obtain ⟨n, css, ⟨ao, cap, rfl, g1, g2, g3, g4⟩, hel⟩ := slAt_of_trod ht rfl hpos hy
    have each : ∀ i j, i < n → j < P.cellsOf e → ∃ c : CV, ∃ κ u, kindAt P 20 e j = some κ ∧ (css i)[j]? = some u ∧ RelF w (fun _ => True) c u ∧ okK P d κ c := by
     intro i j hi hj
     obtain ⟨_, m', y', h6⟩ := hel i hi
     obtain ⟨κ, c, u, q⟩ := ih e m' (css i) y' h1.2 h6 j hj
     exact ⟨c, κ, u, q⟩
    classical
    let cc : Nat → Nat → CV := fun i j => if h : i < n ∧ j < P.cellsOf e then Classical.choose (each i j h.1 h.2) else .v (.bool false)
    have hcc : ∀ i j, i < n → j < P.cellsOf e → ∃ κ u, kindAt P 20 e j = some κ ∧ (css i)[j]? = some u ∧ RelF w (fun _ => True) (cc i j) u ∧ okK P d κ (cc i j) := by
     intro i j hi hj
     have : cc i j = Classical.choose (each i j hi hj) := dif_pos ⟨hi, hj⟩
     rw [this]
     exact Classical.choose_spec (each i j hi hj)
    refine ⟨_, .sl (P.cellsOf e) n cc, _, rfl, h2, ⟨ao, cap, rfl, g1, g2, g4, fun h0 => ?_⟩, by
     simp only [okK]
     exact ⟨n, cc, rfl, Nat.le_trans g1 g2, fun i j hi hj => by obtain ⟨κ, u, q1, _, _, q4⟩ := hcc i j hi hj; exact ⟨κ, q1, q4⟩⟩⟩
    obtain ⟨b, off, e1, hlt, hc⟩ := g3 h0
    refine ⟨b, off, e1, hlt, trivial, fun i j hi hj => ?_⟩
    obtain ⟨κ, u, q1, q2, q3, _⟩ := hcc i j hi hj
    refine ⟨u, ?_, q3⟩
    rw [hc i j hi hj]
    simp [List.getD, q2]
theorem open_cells {d : Nat} {t : TypeId} {fuel : Nat} {cs : List Value} {x : DataW H × List MemPlace} (hB : kindB P d t = true) (hl : cs.length = P.cellsOf t) (h : DataW.trod enc P w base spare held fuel t cs = some x) :
  ∃ l : List CV, l.length = P.cellsOf t ∧ All2 (RelF w (fun _ => True)) l cs ∧ ∀ j, j < P.cellsOf t → ∃ κ, kindAt P 20 t j = some κ ∧ okK P d κ (l.getD j (.v (.bool false))) := by
 have each := open_cell d t fuel cs x hB h
 obtain ⟨l, h1, h2⟩ := list_of (CV.v (.bool false)) (P.cellsOf t) (R := fun j c => ∃ κ u, kindAt P 20 t j = some κ ∧ cs[j]? = some u ∧ RelF w (fun _ => True) c u ∧ okK P d κ c) (fun j hj => by obtain ⟨κ, c, u, q⟩ := each j hj; exact ⟨c, κ, u, q⟩)
 refine ⟨l, h1, All2.of_get (by omega) fun i a b ha hb => ?_, fun j hj => ?_⟩
 ·have hi : i < P.cellsOf t := by
   rcases Nat.lt_or_ge i l.length with q | q
   ·omega
   ·rw [List.getElem?_eq_none q] at ha; cases ha
  obtain ⟨κ, u, _, q2, q3, _⟩ := h2 i hi
  rw [hb] at q2
  cases q2
  rw [show l.getD i (.v (.bool false)) = a by simp [List.getD, ha]] at q3
  exact q3
 ·obtain ⟨κ, u, q1, _, _, q4⟩ := h2 j hj
  exact ⟨κ, q1, q4⟩
theorem open_agg {d : Nat} {t : TypeId} {cs : Array Value} {y : DataW H} {ps : List MemPlace} (hB : kindB P d t = true) (hl : cs.size = P.cellsOf t) (h : DataW.Trod enc P w base spare held t (.agg cs) y ps) :
  ∃ l : List CV, l.length = P.cellsOf t ∧ All2 (RelF w (fun _ => True)) l cs.toList ∧ ∀ j, j < P.cellsOf t → ∃ κ, kindAt P 20 t j = some κ ∧ okK P d κ (l.getD j (.v (.bool false))) := by
 obtain ⟨fuel, hf⟩ := h
 exact open_cells hB (by simpa using hl) (by simpa [Value.cells] using hf)
end
theorem open_i64 {P : Program} {d : Nat} {t : TypeId} {j : Nat} {c : CV} (hk : kindAt P 20 t j = some (.int .i64)) (h : ∃ κ, kindAt P 20 t j = some κ ∧ okK P d κ c) : ∃ n : Int, c = .v (.int .i64 n) ∧ -9223372036854775808 ≤ n ∧ n ≤ 9223372036854775807 := by
 obtain ⟨κ, h1, h2⟩ := h
 rw [hk] at h1
 cases h1
 have h3 : ∃ n, c = .v (.int .i64 n) ∧ (Lit.int .i64 n).wf = true := by cases d <;> exact h2
 obtain ⟨n, e, hw⟩ := h3
 have := bounds_i64 hw
 exact ⟨n, e, this.1, this.2⟩
theorem open_st {P : Program} {d : Nat} {t : TypeId} {j : Nat} {c : CV} (hk : kindAt P 20 t j = some .str) (h : ∃ κ, kindAt P 20 t j = some κ ∧ okK P d κ c) : ∃ s : ByteArray, c = .v (.string s) ∧ s.size ≤ maxLen := by
 obtain ⟨κ, h1, h2⟩ := h
 rw [hk] at h1
 cases h1
 cases d <;> exact h2
theorem open_sl {P : Program} {d : Nat} {t e : TypeId} {j : Nat} {c : CV} (hk : kindAt P 20 t j = some (.sl e)) (h : ∃ κ, kindAt P 20 t j = some κ ∧ okK P (d + 1) κ c) : ∃ n cc, c = .sl (P.cellsOf e) n cc ∧ n ≤ maxLen ∧ ∀ i j, i < n → j < P.cellsOf e → ∃ κ, kindAt P 20 e j = some κ ∧ okK P d κ (cc i j) := by
 obtain ⟨κ, h1, h2⟩ := h
 rw [hk] at h1
 cases h1
 exact h2
def allI (P : Program) (e : TypeId) : Bool := (List.range (P.cellsOf e)).all fun j => match kindAt P 20 e j with
 | some (.int .i64) => true
 | _ => false
theorem nums_of {P : Program} {d : Nat} {e : TypeId} {n : Nat} {cc : Nat → Nat → CV} (hk : allI P e = true) (h : ∀ i j, i < n → j < P.cellsOf e → ∃ κ, kindAt P 20 e j = some κ ∧ okK P d κ (cc i j)) : numsP (P.cellsOf e) n cc := by
 intro i j hi hj
 have h1 := List.all_eq_true.1 hk j (List.mem_range.2 hj)
 split at h1
 ·rename_i hq
  obtain ⟨m, e1, _⟩ := open_i64 hq (h i j hi hj)
  rw [e1]; rfl
 ·cases h1
end Go.Proofs.YtlapeoboekchpaaGreatDoor.Ev
set_option linter.unusedVariables false
namespace Go.Proofs.YtlapeoboekchpaaGreatDoor
open Go.RowKit Ev
theorem txP_of {P : Program} {d : Nat} {e : TypeId} {n : Nat} {c : Nat → Nat → CV} (hk : kindAt P 20 e 0 = some .str) (hz : P.cellsOf e = 1) (f : ∀ i j, i < n → j < P.cellsOf e → ∃ κ, kindAt P 20 e j = some κ ∧ okK P d κ (c i j)) : txP n c := by
 intro i hi
 obtain ⟨s, hs, _⟩ := open_st (by rw [hk]) (f i 0 hi (by omega))
 rw [hs]; rfl
end Go.Proofs.YtlapeoboekchpaaGreatDoor
namespace Go.Proofs
open Go.Shelf
def Tryz.lays156_ren : Go.Shelf.Ren := ⟨fun | 156 => 48 | 165 => 86 | 166 => 87 | 169 => 88 | 240 => 114 | 241 => 115 | 276 => 144 | 277 => 145 | n => n, fun | 31 => 24 | 9 => 9 | 3 => 3 | 4 => 4 | 0 => 0 | 20 => 20 | 72 => 157 | 76 => 161 | 70 => 154 | 37 => 155 | 75 => 160 | 127 => 186 | 164 => 207 | 5 => 5 | 80 => 163 | n => n, fun | n => n⟩
theorem Tryz.lays156 : Go.Proofs.Lays.n156 Tryz.prog Tryz.lays156_ren := {
 mixed := by kernel_rfl
 f156 := Tryz.func48.trans (congrArg some (by kernel_rfl))
 f165 := Tryz.func86.trans (congrArg some (by kernel_rfl))
 f166 := Tryz.func87.trans (congrArg some (by kernel_rfl))
 f169 := Tryz.func88.trans (congrArg some (by kernel_rfl))
 f240 := Tryz.func114.trans (congrArg some (by kernel_rfl))
 f241 := Tryz.func115.trans (congrArg some (by kernel_rfl))
 f276 := Tryz.func144.trans (congrArg some (by kernel_rfl))
 f277 := Tryz.func145.trans (congrArg some (by kernel_rfl))
 t0 := Tryz.underlying0
 a0 := Tryz.isAgg0
 z0 := Tryz.sizeOf0
 v0 := Tryz.zeroValue0
 t3 := Tryz.underlying3
 a3 := Tryz.isAgg3
 z3 := Tryz.sizeOf3
 v3 := Tryz.zeroValue3
 t4 := Tryz.underlying4
 a4 := Tryz.isAgg4
 z4 := Tryz.sizeOf4
 v4 := Tryz.zeroValue4
 t9 := Tryz.underlying9
 a9 := Tryz.isAgg9
 z9 := Tryz.sizeOf9
 v9 := Tryz.zeroValue9
 t20 := Tryz.underlying20
 a20 := Tryz.isAgg20
 z20 := Tryz.sizeOf20
 v20 := Tryz.zeroValue20
 t31 := Tryz.underlying24
 a31 := Tryz.isAgg24
 z31 := Tryz.sizeOf24
 v31 := Tryz.zeroValue24
 t37 := Tryz.underlying155
 a37 := Tryz.isAgg155
 z37 := Tryz.sizeOf155
 v37 := Tryz.zeroValue155
 t70 := Tryz.underlying154
 a70 := Tryz.isAgg154
 z70 := Tryz.sizeOf154
 v70 := Tryz.zeroValue154
 t72 := Tryz.underlying157
 a72 := Tryz.isAgg157
 z72 := Tryz.sizeOf157
 v72 := Tryz.zeroValue157
 t75 := Tryz.underlying160
 a75 := Tryz.isAgg160
 z75 := Tryz.sizeOf160
 v75 := Tryz.zeroValue160
 t76 := Tryz.underlying161
 a76 := Tryz.isAgg161
 z76 := Tryz.sizeOf161
 v76 := Tryz.zeroValue161
 t127 := Tryz.underlying186
 a127 := Tryz.isAgg186
 z127 := Tryz.sizeOf186
 v127 := Tryz.zeroValue186
 t164 := Tryz.underlying207
 a164 := Tryz.isAgg207
 z164 := Tryz.sizeOf207
 v164 := Tryz.zeroValue207 }
theorem Tryz.Builder_Extra_156 : Builder.Extra Tryz.prog Tryz.lays156_ren := {
 sizeBuilder := by kernel_rfl
 liesBuilder := by kernel_rfl
 t5 := Tryz.underlying5
 a5 := Tryz.isAgg5
 z5 := Tryz.sizeOf5
 v5 := Tryz.zeroValue5
 infoByte := by kernel_rfl
 cellsByte := by kernel_rfl
 sizeByte := by kernel_rfl
 neB5 := by decide }
open Go.RowKit in
theorem Tryz.strings_Join_none (a : Option Addr) (c : Nat) (sep : ByteArray) (w : World) :
  Calls Tryz.prog 48 #[.slice a 0 c, .string sep] w fun e w' => e = .returned (.string ⟨#[]⟩) ∧ w' = w := Any.strings_Join_none Tryz.lays156 Tryz.Builder_Extra_156 a c sep w
open Go.RowKit in
theorem Tryz.strings_Join (bk o c : Nat) (xs : List ByteArray) (sep : ByteArray) (w : World) (hcells : ∀ (j : Nat) x, xs[j]? = some x → w.cell? ⟨bk, o + j, none⟩ = some (.string x)) (hbk : bk < w.heap.size) (hN : xs.length ≤ 140737488355328) (hcap : xs.length ≤ c) (hlen : (Lib.join (xs.map (·.data.toList)) sep.data.toList).length ≤ 140737488355328) :
  Calls Tryz.prog 48 #[.slice (some ⟨bk, o, none⟩) xs.length c, .string sep] w fun e w' => e = .returned (.string ⟨(Lib.join (xs.map (·.data.toList)) sep.data.toList).toArray⟩) ∧ Below w.heap.size w w' := Any.strings_Join Tryz.lays156 Tryz.Builder_Extra_156 bk o c xs sep w hcells hbk hN hcap hlen
def Tryz.laysM171_ren : Go.Shelf.Ren := ⟨fun | 171 => 85 | 243 => 113 | 246 => 143 | 283 => 167 | 284 => 168 | 285 => 169 | 286 => 170 | 129 => 180 | 317 => 179 | 318 => 181 | 319 => 182 | 320 => 183 | 337 => 186 | 338 => 187 | n => n, fun | 3 => 3 | 9 => 9 | 2 => 2 | 4 => 4 | 171 => 230 | 0 => 0 | 53 => 225 | 37 => 155 | 5 => 5 | 173 => 233 | 212 => 243 | 51 => 222 | 20 => 20 | 213 => 244 | 46 => 191 | 232 => 255 | 233 => 256 | n => n, fun | 17 => 3 | 18 => 6 | 19 => 7 | n => n⟩
theorem Tryz.laysM171 : Go.Proofs.LaysM.n171 Tryz.prog Tryz.laysM171_ren := {
 mixed := by kernel_rfl
 f129 := Tryz.func180.trans (congrArg some (by kernel_rfl))
 f171 := Tryz.func85.trans (congrArg some (by kernel_rfl))
 f243 := Tryz.func113.trans (congrArg some (by kernel_rfl))
 f246 := Tryz.func143.trans (congrArg some (by kernel_rfl))
 f283 := Tryz.func167.trans (congrArg some (by kernel_rfl))
 f284 := Tryz.func168.trans (congrArg some (by kernel_rfl))
 f285 := Tryz.func169.trans (congrArg some (by kernel_rfl))
 f286 := Tryz.func170.trans (congrArg some (by kernel_rfl))
 f317 := Tryz.func179.trans (congrArg some (by kernel_rfl))
 f318 := Tryz.func181.trans (congrArg some (by kernel_rfl))
 f319 := Tryz.func182.trans (congrArg some (by kernel_rfl))
 f320 := Tryz.func183.trans (congrArg some (by kernel_rfl))
 f337 := Tryz.func186.trans (congrArg some (by kernel_rfl))
 f338 := Tryz.func187.trans (congrArg some (by kernel_rfl))
 t0 := Tryz.underlying0
 a0 := Tryz.isAgg0
 z0 := Tryz.sizeOf0
 v0 := Tryz.zeroValue0
 t2 := Tryz.underlying2
 a2 := Tryz.isAgg2
 z2 := Tryz.sizeOf2
 v2 := Tryz.zeroValue2
 t3 := Tryz.underlying3
 a3 := Tryz.isAgg3
 z3 := Tryz.sizeOf3
 v3 := Tryz.zeroValue3
 t4 := Tryz.underlying4
 a4 := Tryz.isAgg4
 z4 := Tryz.sizeOf4
 v4 := Tryz.zeroValue4
 t5 := Tryz.underlying5
 a5 := Tryz.isAgg5
 z5 := Tryz.sizeOf5
 v5 := Tryz.zeroValue5
 t9 := Tryz.underlying9
 a9 := Tryz.isAgg9
 z9 := Tryz.sizeOf9
 v9 := Tryz.zeroValue9
 t20 := Tryz.underlying20
 a20 := Tryz.isAgg20
 z20 := Tryz.sizeOf20
 v20 := Tryz.zeroValue20
 t37 := Tryz.underlying155
 a37 := Tryz.isAgg155
 z37 := Tryz.sizeOf155
 v37 := Tryz.zeroValue155
 t46 := Tryz.underlying191
 a46 := Tryz.isAgg191
 z46 := Tryz.sizeOf191
 v46 := Tryz.zeroValue191
 t51 := Tryz.underlying222
 a51 := Tryz.isAgg222
 z51 := Tryz.sizeOf222
 v51 := Tryz.zeroValue222
 t53 := Tryz.underlying225
 a53 := Tryz.isAgg225
 z53 := Tryz.sizeOf225
 v53 := Tryz.zeroValue225
 t171 := Tryz.underlying230
 a171 := Tryz.isAgg230
 z171 := Tryz.sizeOf230
 v171 := Tryz.zeroValue230
 t173 := Tryz.underlying233
 a173 := Tryz.isAgg233
 z173 := Tryz.sizeOf233
 v173 := Tryz.zeroValue233
 t212 := Tryz.underlying243
 a212 := Tryz.isAgg243
 z212 := Tryz.sizeOf243
 v212 := Tryz.zeroValue243
 t213 := Tryz.underlying244
 a213 := Tryz.isAgg244
 z213 := Tryz.sizeOf244
 t232 := Tryz.underlying255
 a232 := Tryz.isAgg255
 z232 := Tryz.sizeOf255
 v232 := Tryz.zeroValue255
 t233 := Tryz.underlying256
 a233 := Tryz.isAgg256
 z233 := Tryz.sizeOf256
 v233 := Tryz.zeroValue256
 g17 := by kernel_rfl
 g18 := by kernel_rfl
 g19 := by kernel_rfl
 i0 := by kernel_rfl
 i2 := by kernel_rfl
 i3 := by kernel_rfl
 i4 := by kernel_rfl
 i5 := by kernel_rfl
 i9 := by kernel_rfl
 i20 := by kernel_rfl
 i37 := by kernel_rfl
 i46 := by kernel_rfl
 i51 := by kernel_rfl
 i53 := by kernel_rfl
 i171 := by kernel_rfl
 i173 := by kernel_rfl
 i212 := by kernel_rfl
 i232 := by kernel_rfl
 i233 := by kernel_rfl
 m17 := by kernel_rfl
 m18 := by kernel_rfl
 m19 := by kernel_rfl }
open Go.RowKit Go.Sort Go.Lib in
theorem Tryz.strconv_Itoa (n : Int) (h0 : -9223372036854775808 ≤ n) (h1 : n ≤ 9223372036854775807) (w : World) (htab : Lib.TabIs Tryz.prog w "internal/strconv.uint64pow10" .u64 Lib.pow10Tab) :
  Calls Tryz.prog 85 #[.int .i64 n] w fun e w' => e = .returned (.string ⟨(Lib.itoa n).toArray⟩) ∧ ∃ k os, w' = grow (w.drewN k) os := Any.strconv_Itoa Tryz.laysM171 n h0 h1 w htab
def Tryz.laysC172_ren : Go.Shelf.Ren := ⟨fun | 172 => 90 | 244 => 117 | 245 => 118 | 247 => 148 | 279 => 149 | 280 => 150 | 281 => 151 | 282 => 152 | 287 => 172 | 316 => 173 | 171 => 85 | 205 => 174 | 321 => 184 | 322 => 185 | 243 => 113 | 246 => 143 | 283 => 167 | 284 => 168 | 285 => 169 | 286 => 170 | 129 => 180 | 317 => 179 | 318 => 181 | 319 => 182 | 320 => 183 | 337 => 186 | 338 => 187 | n => n, fun | 9 => 9 | 3 => 3 | 75 => 160 | 76 => 161 | 4 => 4 | 5 => 5 | 167 => 212 | 37 => 155 | 0 => 0 | 85 => 213 | 2 => 2 | 168 => 215 | 53 => 225 | 175 => 235 | 46 => 191 | 210 => 239 | 127 => 186 | 145 => 253 | 143 => 251 | 21 => 21 | 171 => 230 | 173 => 233 | 212 => 243 | 51 => 222 | 20 => 20 | 213 => 244 | 232 => 255 | 233 => 256 | 80 => 163 | n => n, fun | 15 => 1 | 16 => 2 | 17 => 3 | 18 => 6 | 19 => 7 | n => n⟩
theorem Tryz.laysC172 : Go.Proofs.LaysC.n172 Tryz.prog Tryz.laysC172_ren := {
 mixed := by kernel_rfl
 f129 := Tryz.func180.trans (congrArg some (by kernel_rfl))
 f171 := Tryz.func85.trans (congrArg some (by kernel_rfl))
 f172 := Tryz.func90.trans (congrArg some (by kernel_rfl))
 f205 := Tryz.func174.trans (congrArg some (by kernel_rfl))
 f243 := Tryz.func113.trans (congrArg some (by kernel_rfl))
 f244 := Tryz.func117.trans (congrArg some (by kernel_rfl))
 f245 := Tryz.func118.trans (congrArg some (by kernel_rfl))
 f246 := Tryz.func143.trans (congrArg some (by kernel_rfl))
 f247 := Tryz.func148.trans (congrArg some (by kernel_rfl))
 f279 := Tryz.func149.trans (congrArg some (by kernel_rfl))
 f280 := Tryz.func150.trans (congrArg some (by kernel_rfl))
 f281 := Tryz.func151.trans (congrArg some (by kernel_rfl))
 f282 := Tryz.func152.trans (congrArg some (by kernel_rfl))
 f283 := Tryz.func167.trans (congrArg some (by kernel_rfl))
 f284 := Tryz.func168.trans (congrArg some (by kernel_rfl))
 f285 := Tryz.func169.trans (congrArg some (by kernel_rfl))
 f286 := Tryz.func170.trans (congrArg some (by kernel_rfl))
 f287 := Tryz.func172.trans (congrArg some (by kernel_rfl))
 f316 := Tryz.func173.trans (congrArg some (by kernel_rfl))
 f317 := Tryz.func179.trans (congrArg some (by kernel_rfl))
 f318 := Tryz.func181.trans (congrArg some (by kernel_rfl))
 f319 := Tryz.func182.trans (congrArg some (by kernel_rfl))
 f320 := Tryz.func183.trans (congrArg some (by kernel_rfl))
 f321 := Tryz.func184.trans (congrArg some (by kernel_rfl))
 f322 := Tryz.func185.trans (congrArg some (by kernel_rfl))
 f337 := Tryz.func186.trans (congrArg some (by kernel_rfl))
 f338 := Tryz.func187.trans (congrArg some (by kernel_rfl))
 t0 := Tryz.underlying0
 a0 := Tryz.isAgg0
 z0 := Tryz.sizeOf0
 v0 := Tryz.zeroValue0
 t2 := Tryz.underlying2
 a2 := Tryz.isAgg2
 z2 := Tryz.sizeOf2
 v2 := Tryz.zeroValue2
 t3 := Tryz.underlying3
 a3 := Tryz.isAgg3
 z3 := Tryz.sizeOf3
 v3 := Tryz.zeroValue3
 t4 := Tryz.underlying4
 a4 := Tryz.isAgg4
 z4 := Tryz.sizeOf4
 v4 := Tryz.zeroValue4
 t5 := Tryz.underlying5
 a5 := Tryz.isAgg5
 z5 := Tryz.sizeOf5
 v5 := Tryz.zeroValue5
 t9 := Tryz.underlying9
 a9 := Tryz.isAgg9
 z9 := Tryz.sizeOf9
 v9 := Tryz.zeroValue9
 t20 := Tryz.underlying20
 a20 := Tryz.isAgg20
 z20 := Tryz.sizeOf20
 v20 := Tryz.zeroValue20
 t21 := Tryz.underlying21
 a21 := Tryz.isAgg21
 z21 := Tryz.sizeOf21
 v21 := Tryz.zeroValue21
 t37 := Tryz.underlying155
 a37 := Tryz.isAgg155
 z37 := Tryz.sizeOf155
 v37 := Tryz.zeroValue155
 t46 := Tryz.underlying191
 a46 := Tryz.isAgg191
 z46 := Tryz.sizeOf191
 v46 := Tryz.zeroValue191
 t51 := Tryz.underlying222
 a51 := Tryz.isAgg222
 z51 := Tryz.sizeOf222
 v51 := Tryz.zeroValue222
 t53 := Tryz.underlying225
 a53 := Tryz.isAgg225
 z53 := Tryz.sizeOf225
 v53 := Tryz.zeroValue225
 t75 := Tryz.underlying160
 a75 := Tryz.isAgg160
 z75 := Tryz.sizeOf160
 v75 := Tryz.zeroValue160
 t76 := Tryz.underlying161
 a76 := Tryz.isAgg161
 z76 := Tryz.sizeOf161
 v76 := Tryz.zeroValue161
 t85 := Tryz.underlying213
 a85 := Tryz.isAgg213
 z85 := Tryz.sizeOf213
 v85 := Tryz.zeroValue213
 t127 := Tryz.underlying186
 a127 := Tryz.isAgg186
 z127 := Tryz.sizeOf186
 v127 := Tryz.zeroValue186
 t143 := Tryz.underlying251
 a143 := Tryz.isAgg251
 z143 := Tryz.sizeOf251
 v143 := Tryz.zeroValue251
 t145 := Tryz.underlying253
 a145 := Tryz.isAgg253
 z145 := Tryz.sizeOf253
 v145 := Tryz.zeroValue253
 t167 := Tryz.underlying212
 a167 := Tryz.isAgg212
 z167 := Tryz.sizeOf212
 v167 := Tryz.zeroValue212
 t168 := Tryz.underlying215
 a168 := Tryz.isAgg215
 z168 := Tryz.sizeOf215
 v168 := Tryz.zeroValue215
 t171 := Tryz.underlying230
 a171 := Tryz.isAgg230
 z171 := Tryz.sizeOf230
 v171 := Tryz.zeroValue230
 t173 := Tryz.underlying233
 a173 := Tryz.isAgg233
 z173 := Tryz.sizeOf233
 v173 := Tryz.zeroValue233
 t175 := Tryz.underlying235
 a175 := Tryz.isAgg235
 z175 := Tryz.sizeOf235
 v175 := Tryz.zeroValue235
 t210 := Tryz.underlying239
 a210 := Tryz.isAgg239
 z210 := Tryz.sizeOf239
 v210 := Tryz.zeroValue239
 t212 := Tryz.underlying243
 a212 := Tryz.isAgg243
 z212 := Tryz.sizeOf243
 v212 := Tryz.zeroValue243
 t213 := Tryz.underlying244
 a213 := Tryz.isAgg244
 z213 := Tryz.sizeOf244
 t232 := Tryz.underlying255
 a232 := Tryz.isAgg255
 z232 := Tryz.sizeOf255
 v232 := Tryz.zeroValue255
 t233 := Tryz.underlying256
 a233 := Tryz.isAgg256
 z233 := Tryz.sizeOf256
 v233 := Tryz.zeroValue256
 g15 := by kernel_rfl
 g16 := by kernel_rfl
 g17 := by kernel_rfl
 g18 := by kernel_rfl
 g19 := by kernel_rfl
 t80 := Tryz.underlying163
 a80 := Tryz.isAgg163
 z80 := Tryz.sizeOf163
 v80 := Tryz.zeroValue163
 i0 := by kernel_rfl
 i2 := by kernel_rfl
 i3 := by kernel_rfl
 i4 := by kernel_rfl
 i5 := by kernel_rfl
 i9 := by kernel_rfl
 i20 := by kernel_rfl
 i21 := by kernel_rfl
 i37 := by kernel_rfl
 i46 := by kernel_rfl
 i51 := by kernel_rfl
 i53 := by kernel_rfl
 i75 := by kernel_rfl
 i76 := by kernel_rfl
 i80 := by kernel_rfl
 i85 := by kernel_rfl
 i127 := by kernel_rfl
 i143 := by kernel_rfl
 i145 := by kernel_rfl
 i167 := by kernel_rfl
 i168 := by kernel_rfl
 i171 := by kernel_rfl
 i173 := by kernel_rfl
 i175 := by kernel_rfl
 i210 := by kernel_rfl
 i212 := by kernel_rfl
 i232 := by kernel_rfl
 i233 := by kernel_rfl
 m15 := by kernel_rfl
 m16 := by kernel_rfl
 m17 := by kernel_rfl
 m18 := by kernel_rfl
 m19 := by kernel_rfl
 c0 := by kernel_rfl
 c2 := by kernel_rfl
 c3 := by kernel_rfl
 c4 := by kernel_rfl
 c5 := by kernel_rfl
 c9 := by kernel_rfl
 c20 := by kernel_rfl
 c21 := by kernel_rfl
 c37 := by kernel_rfl
 c46 := by kernel_rfl
 c51 := by kernel_rfl
 c53 := by kernel_rfl
 c75 := by kernel_rfl
 c76 := by kernel_rfl
 c80 := by kernel_rfl
 c85 := by kernel_rfl
 c127 := by kernel_rfl
 c143 := by kernel_rfl
 c145 := by kernel_rfl
 c167 := by kernel_rfl
 c168 := by kernel_rfl
 c171 := by kernel_rfl
 c173 := by kernel_rfl
 c175 := by kernel_rfl
 c210 := by kernel_rfl
 c212 := by kernel_rfl
 c213 := by kernel_rfl
 c232 := by kernel_rfl
 c233 := by kernel_rfl }
open Go.RowKit in
theorem Tryz.strconv_Atoi_ok (s : ByteArray) (hmax : s.size ≤ 9223372036854775806) (v : Int) (h : Lib.atoiAll s.data.toList = .ok v) (w : World) :
  Calls Tryz.prog 90 #[.string s] w fun e w' => e = .returned (.tuple #[.int .i64 v, .nilIface]) ∧ (w' = w ∨ ∃ t, w' = Lib.bytesWorld w 5 t) := Any.strconv_Atoi_ok Tryz.laysC172 s hmax v h w
open Go.RowKit in
theorem Tryz.strconv_Atoi_syntax (s : ByteArray) (hlim : s.size ≤ 281474976710656) (h : Lib.atoiAll s.data.toList = Lib.atoiAll []) (ev : Value) (w : World) (hv : w.cell? ⟨1, 0, none⟩ = some ev) (hev : ev = .nilIface ∨ ∃ te pe, ev = .iface te pe) :
  Calls Tryz.prog 90 #[.string s] w fun e w' => ∃ N, e = .returned (.tuple #[.int .i64 (0), .iface 215 (.pointer (some ⟨N, 0, none⟩))]) ∧ w.heap.size ≤ N ∧ w'.heap[N]? = some (.cells #[.string ⟨#[65, 116, 111, 105]⟩, .string s, ev] 239 (0, 0)) ∧ Below w.heap.size w w' := Any.strconv_Atoi_syntax Tryz.laysC172 s hlim h ev w hv hev
open Go.RowKit in
theorem Tryz.strconv_Atoi_range (s : ByteArray) (hlim : s.size ≤ 281474976710656) (h : Lib.atoiAll s.data.toList = .range) (ev : Value) (w : World) (hv : w.cell? ⟨2, 0, none⟩ = some ev) (hev : ev = .nilIface ∨ ∃ te pe, ev = .iface te pe) :
  Calls Tryz.prog 90 #[.string s] w fun e w' => ∃ N, e = .returned (.tuple #[.int .i64 (Lib.atoiSat s.data.toList), .iface 215 (.pointer (some ⟨N, 0, none⟩))]) ∧ w.heap.size ≤ N ∧ w'.heap[N]? = some (.cells #[.string ⟨#[65, 116, 111, 105]⟩, .string s, ev] 239 (0, 0)) ∧ Below w.heap.size w w' := Any.strconv_Atoi_range Tryz.laysC172 s hlim h ev w hv hev
def Tryz.lays143_ren : Go.Shelf.Ren := ⟨fun | 143 => 123 | 219 => 120 | 217 => 154 | 225 => 155 | 224 => 156 | 267 => 157 | 266 => 175 | 314 => 176 | n => n, fun | 9 => 9 | 3 => 3 | 4 => 4 | 5 => 5 | 46 => 191 | 146 => 223 | 51 => 222 | n => n, fun | 1 => 0 | n => n⟩
theorem Tryz.lays143 : Go.Proofs.Lays.n143 Tryz.prog Tryz.lays143_ren := {
 mixed := by kernel_rfl
 f143 := Tryz.func123.trans (congrArg some (by kernel_rfl))
 f217 := Tryz.func154.trans (congrArg some (by kernel_rfl))
 f219 := Tryz.func120.trans (congrArg some (by kernel_rfl))
 f224 := Tryz.func156.trans (congrArg some (by kernel_rfl))
 f225 := Tryz.func155.trans (congrArg some (by kernel_rfl))
 f266 := Tryz.func175.trans (congrArg some (by kernel_rfl))
 f267 := Tryz.func157.trans (congrArg some (by kernel_rfl))
 f314 := Tryz.func176.trans (congrArg some (by kernel_rfl))
 t3 := Tryz.underlying3
 a3 := Tryz.isAgg3
 z3 := Tryz.sizeOf3
 v3 := Tryz.zeroValue3
 t4 := Tryz.underlying4
 a4 := Tryz.isAgg4
 z4 := Tryz.sizeOf4
 v4 := Tryz.zeroValue4
 t5 := Tryz.underlying5
 a5 := Tryz.isAgg5
 z5 := Tryz.sizeOf5
 v5 := Tryz.zeroValue5
 t9 := Tryz.underlying9
 a9 := Tryz.isAgg9
 z9 := Tryz.sizeOf9
 v9 := Tryz.zeroValue9
 t46 := Tryz.underlying191
 a46 := Tryz.isAgg191
 z46 := Tryz.sizeOf191
 v46 := Tryz.zeroValue191
 t51 := Tryz.underlying222
 a51 := Tryz.isAgg222
 z51 := Tryz.sizeOf222
 v51 := Tryz.zeroValue222
 t146 := Tryz.underlying223
 a146 := Tryz.isAgg223
 z146 := Tryz.sizeOf223
 v146 := Tryz.zeroValue223
 g1 := by kernel_rfl }
open Go.RowKit Go.Lib in
theorem Tryz.strings_Index (s sub : ByteArray) (m : Int) (w : World) (hs : s.size < 4294967281) (hm : w.cell? ⟨0, 0, none⟩ = some (.int .i64 m)) :
  Calls Tryz.prog 123 #[.string s, .string sub] w fun e w' => e = .returned (.int .i64 (Lib.index s.data.toList sub.data.toList)) ∧ w' = w := Any.strings_Index Tryz.lays143 s sub m w hs hm
def Tryz.lays145_ren : Go.Shelf.Ren := ⟨fun | 145 => 51 | 220 => 93 | 219 => 120 | 217 => 154 | 225 => 155 | 224 => 156 | 267 => 157 | 266 => 175 | 314 => 176 | n => n, fun | 9 => 9 | 4 => 4 | 59 => 114 | 3 => 3 | 5 => 5 | 46 => 191 | 146 => 223 | 51 => 222 | n => n, fun | 1 => 0 | n => n⟩
theorem Tryz.lays145 : Go.Proofs.Lays.n145 Tryz.prog Tryz.lays145_ren := {
 mixed := by kernel_rfl
 f145 := Tryz.func51.trans (congrArg some (by kernel_rfl))
 f217 := Tryz.func154.trans (congrArg some (by kernel_rfl))
 f219 := Tryz.func120.trans (congrArg some (by kernel_rfl))
 f220 := Tryz.func93.trans (congrArg some (by kernel_rfl))
 f224 := Tryz.func156.trans (congrArg some (by kernel_rfl))
 f225 := Tryz.func155.trans (congrArg some (by kernel_rfl))
 f266 := Tryz.func175.trans (congrArg some (by kernel_rfl))
 f267 := Tryz.func157.trans (congrArg some (by kernel_rfl))
 f314 := Tryz.func176.trans (congrArg some (by kernel_rfl))
 t3 := Tryz.underlying3
 a3 := Tryz.isAgg3
 z3 := Tryz.sizeOf3
 v3 := Tryz.zeroValue3
 t4 := Tryz.underlying4
 a4 := Tryz.isAgg4
 z4 := Tryz.sizeOf4
 v4 := Tryz.zeroValue4
 t5 := Tryz.underlying5
 a5 := Tryz.isAgg5
 z5 := Tryz.sizeOf5
 v5 := Tryz.zeroValue5
 t9 := Tryz.underlying9
 a9 := Tryz.isAgg9
 z9 := Tryz.sizeOf9
 v9 := Tryz.zeroValue9
 t46 := Tryz.underlying191
 a46 := Tryz.isAgg191
 z46 := Tryz.sizeOf191
 v46 := Tryz.zeroValue191
 t51 := Tryz.underlying222
 a51 := Tryz.isAgg222
 z51 := Tryz.sizeOf222
 v51 := Tryz.zeroValue222
 t59 := Tryz.underlying114
 a59 := Tryz.isAgg114
 z59 := Tryz.sizeOf114
 v59 := Tryz.zeroValue114
 t146 := Tryz.underlying223
 a146 := Tryz.isAgg223
 z146 := Tryz.sizeOf223
 v146 := Tryz.zeroValue223
 g1 := by kernel_rfl }
open Go.RowKit Go.Lib in
theorem Tryz.strings_Cut (s sep : ByteArray) (m : Int) (w : World) (hs : s.size < 4294967281) (hm : w.cell? ⟨0, 0, none⟩ = some (.int .i64 m)) :
  Calls Tryz.prog 51 #[.string s, .string sep] w fun e w' => e = .returned (.tuple #[.string ⟨(Lib.cut s.data.toList sep.data.toList).1.toArray⟩, .string ⟨(Lib.cut s.data.toList sep.data.toList).2.1.toArray⟩, .bool (Lib.cut s.data.toList sep.data.toList).2.2]) ∧ ∃ n, w' = w.drewN n := Any.strings_Cut Tryz.lays145 s sep m w hs hm
def Tryz.lays101_ren : Go.Shelf.Ren := ⟨fun | 101 => 91 | 208 => 119 | 206 => 153 | n => n, fun | 9 => 9 | 4 => 4 | 3 => 3 | n => n, fun | n => n⟩
theorem Tryz.lays101 : Go.Proofs.Lays.n101 Tryz.prog Tryz.lays101_ren := {
 mixed := by kernel_rfl
 f101 := Tryz.func91.trans (congrArg some (by kernel_rfl))
 f206 := Tryz.func153.trans (congrArg some (by kernel_rfl))
 f208 := Tryz.func119.trans (congrArg some (by kernel_rfl))
 t3 := Tryz.underlying3
 a3 := Tryz.isAgg3
 z3 := Tryz.sizeOf3
 v3 := Tryz.zeroValue3
 t4 := Tryz.underlying4
 a4 := Tryz.isAgg4
 z4 := Tryz.sizeOf4
 v4 := Tryz.zeroValue4
 t9 := Tryz.underlying9
 a9 := Tryz.isAgg9
 z9 := Tryz.sizeOf9
 v9 := Tryz.zeroValue9 }
open Go.RowKit Go.Lib in
theorem Tryz.strings_TrimPrefix (s p : ByteArray) (w : World) :
  Calls Tryz.prog 91 #[.string s, .string p] w fun e w' => e = .returned (.string ⟨(Lib.trimPrefix s.data.toList p.data.toList).toArray⟩) ∧ w' = w := Any.strings_TrimPrefix Tryz.lays101 s p w
def Tryz.lays146_ren : Go.Shelf.Ren := ⟨fun | 146 => 52 | 221 => 94 | 268 => 121 | 138 => 122 | 143 => 123 | 195 => 158 | 197 => 147 | 218 => 159 | 219 => 120 | 260 => 171 | 217 => 154 | 225 => 155 | 224 => 156 | 267 => 157 | 266 => 175 | 314 => 176 | n => n, fun | 9 => 9 | 31 => 24 | 3 => 3 | 4 => 4 | 0 => 0 | 105 => 210 | 21 => 21 | 5 => 5 | 46 => 191 | 119 => 246 | 139 => 249 | 138 => 248 | 146 => 223 | 51 => 222 | n => n, fun | 1 => 0 | 3 => 4 | 4 => 5 | n => n⟩
theorem Tryz.lays146 : Go.Proofs.Lays.n146 Tryz.prog Tryz.lays146_ren := {
 mixed := by kernel_rfl
 f138 := Tryz.func122.trans (congrArg some (by kernel_rfl))
 f143 := Tryz.func123.trans (congrArg some (by kernel_rfl))
 f146 := Tryz.func52.trans (congrArg some (by kernel_rfl))
 f195 := Tryz.func158.trans (congrArg some (by kernel_rfl))
 f197 := Tryz.func147.trans (congrArg some (by kernel_rfl))
 f217 := Tryz.func154.trans (congrArg some (by kernel_rfl))
 f218 := Tryz.func159.trans (congrArg some (by kernel_rfl))
 f219 := Tryz.func120.trans (congrArg some (by kernel_rfl))
 f221 := Tryz.func94.trans (congrArg some (by kernel_rfl))
 f224 := Tryz.func156.trans (congrArg some (by kernel_rfl))
 f225 := Tryz.func155.trans (congrArg some (by kernel_rfl))
 f260 := Tryz.func171.trans (congrArg some (by kernel_rfl))
 f266 := Tryz.func175.trans (congrArg some (by kernel_rfl))
 f267 := Tryz.func157.trans (congrArg some (by kernel_rfl))
 f268 := Tryz.func121.trans (congrArg some (by kernel_rfl))
 f314 := Tryz.func176.trans (congrArg some (by kernel_rfl))
 t0 := Tryz.underlying0
 a0 := Tryz.isAgg0
 z0 := Tryz.sizeOf0
 v0 := Tryz.zeroValue0
 t3 := Tryz.underlying3
 a3 := Tryz.isAgg3
 z3 := Tryz.sizeOf3
 v3 := Tryz.zeroValue3
 t4 := Tryz.underlying4
 a4 := Tryz.isAgg4
 z4 := Tryz.sizeOf4
 v4 := Tryz.zeroValue4
 t5 := Tryz.underlying5
 a5 := Tryz.isAgg5
 z5 := Tryz.sizeOf5
 v5 := Tryz.zeroValue5
 t9 := Tryz.underlying9
 a9 := Tryz.isAgg9
 z9 := Tryz.sizeOf9
 v9 := Tryz.zeroValue9
 t21 := Tryz.underlying21
 a21 := Tryz.isAgg21
 z21 := Tryz.sizeOf21
 v21 := Tryz.zeroValue21
 t31 := Tryz.underlying24
 a31 := Tryz.isAgg24
 z31 := Tryz.sizeOf24
 v31 := Tryz.zeroValue24
 t46 := Tryz.underlying191
 a46 := Tryz.isAgg191
 z46 := Tryz.sizeOf191
 v46 := Tryz.zeroValue191
 t51 := Tryz.underlying222
 a51 := Tryz.isAgg222
 z51 := Tryz.sizeOf222
 v51 := Tryz.zeroValue222
 t105 := Tryz.underlying210
 a105 := Tryz.isAgg210
 z105 := Tryz.sizeOf210
 v105 := Tryz.zeroValue210
 t119 := Tryz.underlying246
 a119 := Tryz.isAgg246
 z119 := Tryz.sizeOf246
 t138 := Tryz.underlying248
 a138 := Tryz.isAgg248
 z138 := Tryz.sizeOf248
 v138 := Tryz.zeroValue248
 t139 := Tryz.underlying249
 a139 := Tryz.isAgg249
 z139 := Tryz.sizeOf249
 v139 := Tryz.zeroValue249
 t146 := Tryz.underlying223
 a146 := Tryz.isAgg223
 z146 := Tryz.sizeOf223
 v146 := Tryz.zeroValue223
 g1 := by kernel_rfl
 g3 := by kernel_rfl
 g4 := by kernel_rfl }
open Go.RowKit Go.Lib in
theorem Tryz.strings_Split (s sep : ByteArray) (m : Int) (w : World) (hs : s.size < 4294967281) (hm : w.cell? ⟨0, 0, none⟩ = some (.int .i64 m)) (h1 : 1 ≤ sep.size) :
  Calls Tryz.prog 52 #[.string s, .string sep] w fun e w' =>
   e = .returned (.slice (some ⟨w.heap.size, 0, none⟩) (Lib.countB s sep + 1) (Lib.countB s sep + 1)) ∧ w' = w.alloc (.cells ((Lib.splitB sep 0 (Lib.countB s sep) s).map Value.string).toArray 9) := Any.strings_Split Tryz.lays146 (by kernel_rfl) s sep m w hs hm h1
end Go.Proofs
set_option linter.unusedVariables false
namespace Go.Proofs.YtlapeoboekchpaaGreatDoor
theorem change_and_shaped {H : Type} {enc : TypeId × Value → H} {a : Assume} {C : Checked} {os : Os} {f : FuncId} {fn : Func} {s : ChangeSpec} {conds : List PathCond} {apart fresh handsOn again : Bool} {X : World → Array Value → Prop}
  (hX : ∀ (w w' : World) (args : Array Value), w.heap = w'.heap → X w args → X w' args)
  (own : ownKnob C.prog.godebug = none) (started : os.Started) (noInit : C.prog.inits.idxOf? f = none) (hfn : C.prog.funcs[f]? = some fn)
  (witness : ∃ (w : World) (tape : Tape) (i : Input), w.os = os ∧ (w.forCall tape i).Shaped C.prog ∧ i.vars = [] ∧ Input.okWide C.prog (w.forCall tape i) .any w.heap.size f i ∧
   ((s.pre enc C.prog fn conds apart (w.forCall tape i).memory i.args ∧ X (w.forCall tape i).memory i.args) ∧ sizedMet enc C.prog fn (OpenSpec.ofChange s) apart (w.forCall tape i).memory i.args) ∧ a.holds C.prog (lone (Frame.enter C.prog f i.args .normal) [] (w.forCall tape i)))
  (contract : ∀ (W : World) (base : Nat) (args : Array Value) (ds gs : List (DataW H)) (before : List MemPlace),
   (∀ (j : Nat) t v, fn.params[j]? = some t → args[j]? = some v → Value.okWide C.prog W .any base t v) →
   DataW.Whole enc C.prog fn.params.toList s.vars apart W args.toList ds gs before →
   conds.all (PathCond.test C.prog ⟨fn.params.toList, ds, s.plain.varTypes C.prog, gs⟩) = true →
   (DataW.weightsEach C.prog (fn.params.toList ++ s.plain.varTypes C.prog) (ds ++ gs)).all (· ≤ reachBytes) = true → (W.ShapedOpen C.prog ∧ X W args) →
   a.holds C.prog (lone (Frame.enter C.prog f args .normal) [] W) →
   Calls C.prog f args W fun e W' => ∃ v, e = .returned v ∧ s.post enc C.prog fn apart fresh handsOn again W args v W') :
  ReturnsInHanded a C os f .any (fun w args => (s.pre enc C.prog fn conds apart w args ∧ X w args) ∧ sizedMet enc C.prog fn (OpenSpec.ofChange s) apart w args) (s.post enc C.prog fn apart fresh handsOn again) := by
 refine returnsInHanded_of_calls own started noInit witness ?_
 intro w tape i _ hsh _ hok hpre hholds
 obtain ⟨_, _, _, fn', hfn', _, _, _, _, hval⟩ := hok
 have e : fn' = fn := Option.some.inj (hfn'.symm.trans hfn)
 subst e
 obtain ⟨⟨⟨ds, gs, before, hw, hc⟩, hx⟩, hz⟩ := hpre
 have hw' := DataW.Whole.of_heap (w' := w.forCall tape i) (by rfl) hw
 refine (contract (w.forCall tape i) w.heap.size i.args ds gs before hval hw' hc (hz.weights hw) ⟨hsh, hX _ _ _ (by rfl) hx⟩ hholds).mono fun e W' ⟨v, he, hp⟩ => ?_
 subst he
 exact ChangeSpec.post_blind hp
open Go.ChangeShapes Go.WideShapes Go.ChangeAt Go.RowKit Ev
def laidL : List (String × DataW Unit) := [("math/bits.deBruijn32tab", Rows.laid_math_bits_deBruijn32tab), ("math/bits.deBruijn64tab", Rows.laid_math_bits_deBruijn64tab), ("internal/strconv.uint64pow10", Rows.laid_internal_strconv_uint64pow10), ("unicode/utf8.acceptRanges", Rows.laid_unicode_utf8_acceptRanges), ("strconv.ErrRange", Rows.laid_strconv_ErrRange), ("strconv.ErrSyntax", Rows.laid_strconv_ErrSyntax), ("unicode/utf8.first", Rows.laid_unicode_utf8_first)]
theorem laid_met (os : Os) (args : Array Value) : laidMetH Tryz.prog laidL ((World.laidAll Tryz.prog os laidL).forCall (fun _ _ => 0) ⟨#[], args, []⟩).memory := by
 rw [MakeChecks.laidMetH_plain _ _ _ (by kernel_rfl)]
 exact laidMet_laidAll _ (by kernel_rfl) (by kernel_rfl)
theorem lone_of {W : World} {n : String} {d : DataW Unit} (h : laidMetH Tryz.prog laidL W) (hf : laidL.filter (fun x => x.1 == n) = [(n, d)]) (hp : d.handleName?.isNone = true) :
  ∃ g t cs fuel p, Tryz.prog.globalNamed n = some g ∧ (Tryz.prog.globals[g]?).map (·.type) = some t ∧ W.var? Tryz.prog n = some cs ∧ DataW.trod (fun _ => ()) Tryz.prog W 0 (fun _ => true) false fuel t cs.toList = some (d, p) := by
 have h1 := h.filter (fun x => x.1 == n)
 rw [hf, MakeChecks.laidMetH_plain _ _ _ (by simp [hp])] at h1
 obtain ⟨ps, ⟨g1, t1, cs1, f1, p1, q1, hg1, ht1, hv1, hd1, _, _⟩, _, _⟩ := h1
 exact ⟨g1, t1, cs1, f1, p1, hg1, ht1, hv1, hd1⟩
set_option maxRecDepth 100000 in
theorem table_of {W : World} {n : String} {d : DataW Unit} {g : Nat} {t e : TypeId} {k : IntKind} {l : List Int} (h : laidMetH Tryz.prog laidL W) (hf : laidL.filter (fun x => x.1 == n) = [(n, d)]) (hp : d.handleName?.isNone = true)
  (hg : Tryz.prog.globalNamed n = some g) (ht : (Tryz.prog.globals[g]?).map (·.type) = some t) (hu : Tryz.prog.underlying t = some (.array l.length e)) (he : Tryz.prog.underlying e = some (.int k)) (c1 : Tryz.prog.cellsOf e = 1) (cn : Tryz.prog.cellsOf t = l.length)
  (hl : d = .agg (l.map fun n => DataW.lit (Lit.int k n))) : W.var? Tryz.prog n = some (l.map (Value.int k)).toArray := by
 obtain ⟨g1, t1, cs1, f1, p1, hg1, ht1, hv1, hd1⟩ := lone_of h hf hp
 obtain rfl := Option.some.inj (hg.symm.trans hg1)
 obtain rfl := Option.some.inj (ht.symm.trans ht1)
 obtain ⟨xs, m1, rfl, hx1, hlen, hn3, hel⟩ := DataW.trod_array hu hd1
 simp only [Prod.mk.injEq] at hx1
 have h2 := hl.symm.trans hx1.1
 injection h2 with h2
 rw [hv1]
 congr 1
 apply Array.ext'
 apply List.ext_getElem?
 intro i
 by_cases hi : i < l.length
 ·have h0 := hel i hi
  have hix : i < xs.length := by omega
  rw [List.getElem?_eq_getElem hix] at h0
  obtain ⟨v, e1, e2, _⟩ := DataW.trod_int he h0
  have h3 := congrArg (fun l => l[i]?) h2
  simp only [List.getElem?_map, List.getElem?_eq_getElem hix, List.getElem?_eq_getElem hi, Option.map_some, e2] at h3
  simp only [Option.some.injEq, DataW.lit.injEq, Lit.int.injEq, true_and] at h3
  rw [c1, Nat.mul_one] at e1
  have e3 := congrArg (fun l => l[0]?) e1
  simp only [List.getElem?_take, List.getElem?_drop, Nat.add_zero] at e3
  simp only [List.getElem?_map, List.getElem?_eq_getElem hi, Option.map_some, h3]
  simpa using e3
 ·rw [List.getElem?_eq_none (by omega), List.getElem?_eq_none (by simp; omega)]
set_option maxRecDepth 100000 in
theorem err_of {W : World} {n : String} {d x : DataW Unit} {nm : String} {g : Nat} {t : TypeId} {ms : Array (String × TypeId)} (h : laidMetH Tryz.prog laidL W) (hf : laidL.filter (fun x => x.1 == n) = [(n, d)]) (hp : d.handleName?.isNone = true)
  (hg : Tryz.prog.globalNamed n = some g) (ht : (Tryz.prog.globals[g]?).map (·.type) = some t) (hu : Tryz.prog.underlying t = some (.interface ms)) (hl : d = .iface nm x) : ∃ u v, W.cell? ⟨g, 0, none⟩ = some (.iface u v) := by
 obtain ⟨g1, t1, cs1, f1, p1, hg1, ht1, hv1, hd1⟩ := lone_of h hf hp
 obtain rfl := Option.some.inj (hg.symm.trans hg1)
 obtain rfl := Option.some.inj (ht.symm.trans ht1)
 subst hl
 rw [World.var?_cell hg hv1 0]
 cases f1 with
 | zero => simp [DataW.trod] at hd1
 | succ m =>
  unfold DataW.trod at hd1
  rw [hu] at hd1
  obtain ⟨l⟩ := cs1
  rcases l with _ | ⟨v, _ | ⟨v2, r⟩⟩
  ·simp at hd1
  ·cases v
   case iface u v => exact ⟨u, v, by simp⟩
   all_goals exfalso
   all_goals simp at hd1
  ·exfalso; simp at hd1
set_option maxRecDepth 100000 in
theorem gd_of {W : World} (hs : W.ShapedOpen Tryz.prog) (h : laidMetH Tryz.prog laidL W) : Gd W := by
 have a := table_of (k := .u64) (t := 243) (e := 225) (g := 3) (l := [1, 10, 100, 1000, 10000, 100000, 1000000, 10000000, 100000000, 1000000000, 10000000000, 100000000000, 1000000000000, 10000000000000, 100000000000000, 1000000000000000, 10000000000000000, 100000000000000000, 1000000000000000000, 10000000000000000000]) h (n := "internal/strconv.uint64pow10") rfl rfl (by kernel_rfl) (by kernel_rfl) (by kernel_rfl) (by kernel_rfl) (by kernel_rfl) (by kernel_rfl) rfl
 have b := table_of (k := .u8) (t := 256) (e := 5) (g := 7) (l := tab64) h (n := "math/bits.deBruijn64tab") rfl rfl (by kernel_rfl) (by kernel_rfl) (by kernel_rfl) (by kernel_rfl) (by kernel_rfl) (by kernel_rfl) rfl
 have c := err_of (g := 2) (t := 160) h (n := "strconv.ErrRange") rfl rfl (by kernel_rfl) (by kernel_rfl) Tryz.underlying160 rfl
 have d := err_of (g := 1) (t := 160) h (n := "strconv.ErrSyntax") rfl rfl (by kernel_rfl) (by kernel_rfl) Tryz.underlying160 rfl
 have e : ∃ m, W.cell? ⟨0, 0, none⟩ = some (.int .i64 m) := cell_of_shapedOpen_int (t := 3) (zero := #[.int .i64 0]) hs (Nat.le_of_ble_eq_true (by kernel_rfl)) (by kernel_rfl) rfl (by kernel_rfl) (by kernel_rfl) Tryz.underlying3
 refine ⟨fun i hi => ?_, ⟨?_, e, d, c⟩⟩
 ·have hg : Tryz.prog.globalNamed "math/bits.deBruijn64tab" = some 7 := by kernel_rfl
  rw [World.var?_cell hg b i]
  have hi : i < tab64.length := hi
  simp [List.getD, hi]
 ·have hg : Tryz.prog.globalNamed "internal/strconv.uint64pow10" = some 3 := by kernel_rfl
  unfold World.var? at a
  rw [hg] at a
  exact a
end Go.Proofs.YtlapeoboekchpaaGreatDoor
set_option linter.unusedVariables false
set_option linter.unusedSimpArgs false
namespace Go.Proofs.YtlapeoboekchpaaGreatDoor
open Go.Lib
theorem decFrom_append : ∀ (l m : List UInt8) (a : Nat), decFrom a (l ++ m) = (decFrom a l).bind fun n => decFrom n m
 | [], m, a => rfl
 | b :: l, m, a => by
  simp only [List.cons_append, decFrom]
  cases digitVal b with
  | none => rfl
  | some d => exact decFrom_append l m _
theorem digitVal_of {d : Nat} (h : d < 10) : digitVal (UInt8.ofNat (48 + d)) = some d := by
 unfold digitVal
 have e : (UInt8.ofNat (48 + d)).toNat = 48 + d := by rw [UInt8.toNat_ofNat']; omega
 rw [e, if_pos (by omega)]
 congr 1
 omega
theorem digitVal_back {b : UInt8} {d : Nat} (h : digitVal b = some d) : d < 10 ∧ b = UInt8.ofNat (48 + d) ∧ b.toNat = 48 + d := by
 unfold digitVal at h
 split at h
 ·rename_i hb
  cases h
  refine ⟨by omega, ?_, by omega⟩
  apply UInt8.toNat_inj.1
  rw [UInt8.toNat_ofNat']; omega
 ·cases h
theorem dec_small {u : Nat} (h : u < 10) : decDigits u = [UInt8.ofNat (48 + u)] := by rw [decDigits, dif_pos h]
theorem dec_big {u : Nat} (h : ¬ u < 10) : decDigits u = decDigits (u / 10) ++ [UInt8.ofNat (48 + u % 10)] := by rw [decDigits, dif_neg h]
theorem dec_ne (u : Nat) : decDigits u ≠ [] := by
 by_cases h : u < 10
 ·rw [dec_small h]; simp
 ·rw [dec_big h]; simp
theorem dec_val (u : Nat) : decFrom 0 (decDigits u) = some u := by
 induction u using Nat.strongRecOn with
 | _ u ih =>
  by_cases h : u < 10
  ·rw [dec_small h]
   simp only [decFrom, digitVal_of h]
   congr 1
   omega
  ·rw [dec_big h, decFrom_append, ih (u / 10) (by omega)]
   simp only [Option.bind_some, decFrom, digitVal_of (show u % 10 < 10 by omega)]
   congr 1
   omega
theorem dec_dig (u : Nat) : ∀ b ∈ decDigits u, 48 ≤ b.toNat ∧ b.toNat ≤ 57 := by
 induction u using Nat.strongRecOn with
 | _ u ih =>
  intro b hb
  by_cases h : u < 10
  ·rw [dec_small h] at hb
   obtain rfl := List.mem_singleton.1 hb
   rw [UInt8.toNat_ofNat']; omega
  ·rw [dec_big h] at hb
   rcases List.mem_append.1 hb with hb | hb
   ·exact ih (u / 10) (by omega) b hb
   ·obtain rfl := List.mem_singleton.1 hb
    rw [UInt8.toNat_ofNat']; omega
theorem dec_head {u : Nat} (h : 1 ≤ u) : ∀ b, (decDigits u).head? = some b → b.toNat ≠ 48 := by
 induction u using Nat.strongRecOn with
 | _ u ih =>
  intro b hb
  by_cases h10 : u < 10
  ·rw [dec_small h10] at hb
   simp only [List.head?_cons, Option.some.injEq] at hb
   subst hb
   rw [UInt8.toNat_ofNat']; omega
  ·rw [dec_big h10] at hb
   have hne := dec_ne (u / 10)
   obtain ⟨x, r, e⟩ := List.exists_cons_of_ne_nil hne
   rw [e] at hb
   simp only [List.cons_append, List.head?_cons, Option.some.injEq] at hb
   subst hb
   exact ih (u / 10) (by omega) (by omega) x (by rw [e]; rfl)
theorem dec_canon : ∀ (k : Nat) (r : List UInt8) (m : Nat), r.length = k → r ≠ [] → decFrom 0 r = some m → (r.length = 1 ∨ ∀ b, r.head? = some b → b.toNat ≠ 48) → decDigits m = r := by
 intro k
 induction k with
 | zero => intro r m hk hr; exact absurd (List.eq_nil_of_length_eq_zero hk) hr
 | succ k ih =>
  intro r m hk hr hd hc
  obtain ⟨r', b, rfl⟩ : ∃ r' b, r = r' ++ [b] := ⟨r.dropLast, r.getLast hr, (List.dropLast_concat_getLast hr).symm⟩
  rw [decFrom_append] at hd
  cases h1 : decFrom 0 r' with
  | none => rw [h1] at hd; cases hd
  | some m' =>
   rw [h1] at hd
   simp only [Option.bind_some, decFrom] at hd
   cases h2 : digitVal b with
   | none => rw [h2] at hd; cases hd
   | some d =>
    rw [h2] at hd
    simp only [Option.some.injEq] at hd
    obtain ⟨hd10, hb, _⟩ := digitVal_back h2
    by_cases h0 : r' = []
    ·subst h0
     have : m' = 0 := by simp only [decFrom, Option.some.injEq] at h1; exact h1.symm
     subst this
     rw [← hd, Nat.zero_mul, Nat.zero_add, dec_small hd10, hb]
     rfl
    ·have hl : 1 ≤ r'.length := by cases r' with
      | nil => exact absurd rfl h0
      | cons _ _ => simp
     have hc : ∀ b, r'.head? = some b → b.toNat ≠ 48 := by
      rcases hc with hc | hc
      ·rw [List.length_append, List.length_singleton] at hc; omega
      ·intro x hx
       refine hc x ?_
       cases r' with
       | nil => cases hx
       | cons y r'' => exact hx
     have hi := ih r' m' (by simpa using hk) h0 h1 (Or.inr hc)
     have hm : 1 ≤ m' := by
      rcases Nat.eq_zero_or_pos m' with e | e
      ·exfalso
       rw [e, dec_small (u := 0) (by omega)] at hi
       exact hc (UInt8.ofNat (48 + 0)) (by rw [← hi]; rfl) (by decide)
      ·exact e
     rw [← hd, dec_big (u := m' * 10 + d) (by omega), show (m' * 10 + d) / 10 = m' by omega, show (m' * 10 + d) % 10 = d by omega, hi, hb]
theorem decFrom_lt : ∀ (r : List UInt8) (a m : Nat), decFrom a r = some m → m < (a + 1) * 10 ^ r.length
 | [], a, m, h => by simp only [decFrom, Option.some.injEq] at h; subst h; simp
 | b :: r, a, m, h => by
  simp only [decFrom] at h
  cases hd : digitVal b with
  | none => rw [hd] at h; cases h
  | some d =>
   rw [hd] at h
   have h2 := decFrom_lt r _ _ h
   have h3 := (digitVal_back hd).1
   rw [List.length_cons, Nat.pow_succ, Nat.mul_comm (10 ^ r.length) 10, ← Nat.mul_assoc]
   refine Nat.lt_of_lt_of_le h2 (Nat.mul_le_mul_right _ ?_)
   omega
def numR (l : List UInt8) (dg : Nat) : Option Int :=
 if l.head? = some 45 then (if l.drop 1 = [] ∨ (l.drop 1).length > dg ∨ (l.drop 1).head? = some 48 then none else (decFrom 0 (l.drop 1)).map fun m : Nat => -(m : Int))
 else (if l = [] ∨ l.length > dg ∨ (l.head? = some 48 ∧ 1 < l.length) then none else (decFrom 0 l).map fun m : Nat => (m : Int))
def numG (l : List UInt8) (dg : Nat) : Option Int := match atoiAll l with
 | .ok v => if itoa v = l ∧ (if l.head? = some 45 then l.drop 1 else l).length ≤ dg then some v else none
 | _ => none
theorem itoa_neg {n : Int} (h : n < 0) : itoa n = 45 :: decDigits n.natAbs := if_pos h
theorem itoa_pos {n : Int} (h : 0 ≤ n) : itoa n = decDigits n.toNat := if_neg (by omega)
theorem dec_head45 (u : Nat) : (decDigits u).head? ≠ some 45 := by
 intro h
 have : (45 : UInt8) ∈ decDigits u := List.mem_of_head? h
 have := dec_dig u 45 this
 have e : (45 : UInt8).toNat = 45 := by decide
 omega
theorem dec_len48 {u : Nat} (h : (decDigits u).head? = some 48) : decDigits u = [48] := by
 rcases Nat.eq_zero_or_pos u with e | e
 ·subst e; rw [dec_small (by omega)]; rfl
 ·exact absurd (by decide) (dec_head e 48 h)
theorem numR_itoa {v : Int} {dg : Nat} (h : (if (itoa v).head? = some 45 then (itoa v).drop 1 else itoa v).length ≤ dg) : numR (itoa v) dg = some v := by
 unfold numR
 by_cases hv : v < 0
 ·rw [itoa_neg hv] at h ⊢
  simp only [List.head?_cons, List.drop_succ_cons, List.drop_zero, if_true] at h ⊢
  rw [if_neg, dec_val]
  ·simp only [Option.map_some, Option.some.injEq]; omega
  ·rintro (c | c | c)
   ·exact dec_ne _ c
   ·omega
   ·exact dec_head (show 1 ≤ v.natAbs by omega) 48 c (by decide)
 ·have hv : 0 ≤ v := by omega
  rw [itoa_pos hv] at h ⊢
  rw [if_neg (dec_head45 _)] at h ⊢
  rw [if_neg, dec_val]
  ·simp only [Option.map_some, Option.some.injEq]; omega
  ·rintro (c | c | ⟨c, d⟩)
   ·exact dec_ne _ c
   ·omega
   ·rw [dec_len48 c] at d; simp at d
theorem numR_some {l : List UInt8} {dg : Nat} {v : Int} (h : numR l dg = some v) : itoa v = l ∧ (if l.head? = some 45 then l.drop 1 else l).length ≤ dg ∧ ∃ m, decFrom 0 (if l.head? = some 45 then l.drop 1 else l) = some m ∧ (if l.head? = some 45 then l.drop 1 else l) ≠ [] ∧ v = (if l.head? = some 45 then -(m : Int) else m) := by
 unfold numR at h
 split at h
 ·rename_i hh
  split at h
  ·cases h
  ·rename_i hc
   simp only [not_or] at hc
   obtain ⟨c1, c2, c3⟩ := hc
   simp only [Option.map_eq_some_iff] at h
   obtain ⟨m, h1, rfl⟩ := h
   have hcan := dec_canon _ _ m rfl c1 h1 (Or.inr fun b hb e => c3 (by rw [hb]; exact congrArg some (UInt8.toNat_inj.1 (by rw [e]; decide))))
   have hm : 1 ≤ m := by
    rcases Nat.eq_zero_or_pos m with e | e
    ·exfalso
     rw [e, dec_small (u := 0) (by omega)] at hcan
     exact c3 (by rw [← hcan]; rfl)
    ·exact e
   obtain ⟨r, rfl⟩ : ∃ r, l = 45 :: r := by
    cases l with
    | nil => cases hh
    | cons b r => simp only [List.head?_cons, Option.some.injEq] at hh; exact ⟨r, by rw [hh]⟩
   simp only [List.drop_succ_cons, List.drop_zero, List.head?_cons, if_true] at *
   refine ⟨?_, by omega, m, h1, c1, rfl⟩
   rw [itoa_neg (by omega), show (-(m : Int)).natAbs = m by omega, hcan]
 ·rename_i hh
  split at h
  ·cases h
  ·rename_i hc
   simp only [not_or] at hc
   obtain ⟨c1, c2, c3⟩ := hc
   simp only [Option.map_eq_some_iff] at h
   obtain ⟨m, h1, rfl⟩ := h
   have hcan := dec_canon _ _ m rfl c1 h1 (by
    by_cases e1 : l.length = 1
    ·exact Or.inl e1
    ·refine Or.inr fun b hb e => c3 ⟨by rw [hb]; exact congrArg some (UInt8.toNat_inj.1 (by rw [e]; decide)), ?_⟩
     cases l with
     | nil => exact absurd rfl c1
     | cons x r => simp only [List.length_cons] at e1 ⊢; omega)
   simp only [if_neg hh]
   exact ⟨by rw [itoa_pos (by omega), Int.toNat_natCast, hcan], by omega, m, h1, c1, rfl⟩
theorem atoi_of {l : List UInt8} {m : Nat} (h1 : decFrom 0 (if l.head? = some 45 then l.drop 1 else l) = some m) (h2 : (if l.head? = some 45 then l.drop 1 else l) ≠ []) (h43 : l.head? ≠ some 43) : atoi l = some (if l.head? = some 45 then -(m : Int) else m) := by
 cases l with
 | nil => simp at h2
 | cons b r =>
  simp only [List.head?_cons, Option.some.injEq, List.drop_succ_cons, List.drop_zero] at *
  rw [show atoi (b :: r) = if (b == 45) = true then (decNat r).map (fun m : Nat => -(m : Int)) else if (b == 43) = true then (decNat r).map (fun m : Nat => (m : Int)) else (decNat (b :: r)).map (fun m : Nat => (m : Int)) from rfl]
  by_cases e : b = 45
  ·rw [if_pos e] at h1 h2 ⊢
   rw [if_pos (by rw [e]; rfl)]
   unfold decNat
   rw [if_neg (by simpa using h2), h1]
   rfl
  ·rw [if_neg e] at h1 h2 ⊢
   rw [if_neg (by simpa using e), if_neg (by simpa using h43)]
   unfold decNat
   rw [if_neg (by simp), h1]
   rfl
theorem numG_eq {l : List UInt8} {dg : Nat} (hd : dg ≤ 17) : numG l dg = numR l dg := by
 cases h : numR l dg with
 | some v =>
  obtain ⟨a1, a2, m, a3, a4, a5⟩ := numR_some h
  have hl : l.length ≤ 18 := by
   by_cases e : l.head? = some 45
   ·rw [if_pos e] at a2
    simp at a2; omega
   ·rw [if_neg e] at a2
    omega
  have h43 : l.head? ≠ some 43 := by
   intro e
   have e2 : l.head? ≠ some 45 := by rw [e]; decide
   rw [if_neg e2] at a3 a4
   cases l with
   | nil => cases e
   | cons b r =>
    simp only [List.head?_cons, Option.some.injEq] at e
    subst e
    simp only [decFrom, show digitVal 43 = none from by decide] at a3
    cases a3
  have e1 := atoi_of a3 a4 h43
  unfold numG
  rw [atoiAll_short l hl, e1, ← a5]
  show (if itoa v = l ∧ _ then some v else none) = some v
  rw [if_pos ⟨a1, a2⟩]
 | none =>
  unfold numG
  cases h2 : atoiAll l with
  | ok v =>
   by_cases c : itoa v = l ∧ (if l.head? = some 45 then l.drop 1 else l).length ≤ dg
   ·obtain ⟨c1, c2⟩ := c
    rw [← c1] at c2
    have := numR_itoa c2
    rw [c1, h] at this
    cases this
   ·show (if _ then some v else none) = none
    rw [if_neg c]
  | range => rfl
  | _ => rfl
def hasC (c : UInt8) (l : List UInt8) : Bool := l.contains c
def befC (c : UInt8) (l : List UInt8) : List UInt8 := l.takeWhile (· != c)
def aftC (c : UInt8) (l : List UInt8) : List UInt8 := (l.dropWhile (· != c)).drop 1
def pcs (c : UInt8) : List UInt8 → List (List UInt8)
 | [] => [[]]
 | b :: l => if b = c then [] :: pcs c l else match pcs c l with
  | h :: t => (b :: h) :: t
  | [] => [[b]]
theorem pcs_ne (c : UInt8) : ∀ l, pcs c l ≠ []
 | [] => by simp [pcs]
 | b :: l => by
  unfold pcs
  split
  ·simp
  ·split <;> simp
theorem pcs_eq (c : UInt8) : ∀ l, pcs c l = if hasC c l = true then befC c l :: pcs c (aftC c l) else [l]
 | [] => rfl
 | b :: l => by
  rw [show pcs c (b :: l) = if b = c then [] :: pcs c l else match pcs c l with
   | h :: t => (b :: h) :: t
   | [] => [[b]] from rfl]
  by_cases h : b = c
  ·subst h
   rw [if_pos rfl, if_pos (by simp [hasC])]
   simp [befC, aftC]
  ·rw [if_neg h, pcs_eq c l]
   have hb : (b != c) = true := by simpa using h
   have e1 : hasC c (b :: l) = hasC c l := by
    unfold hasC
    rw [List.contains_cons, show (c == b) = false from by simpa using fun e => h e.symm, Bool.false_or]
   rw [e1]
   by_cases h2 : hasC c l = true
   ·rw [if_pos h2, if_pos h2]
    have e2 : befC c (b :: l) = b :: befC c l := by simp [befC, hb]
    have e3 : aftC c (b :: l) = aftC c l := by simp [aftC, hb]
    rw [e2, e3]
   ·rw [if_neg h2, if_neg h2]
theorem bef_aft {c : UInt8} {l : List UInt8} (h : hasC c l = true) : l = befC c l ++ c :: aftC c l := by
 induction l with
 | nil => simp [hasC] at h
 | cons b l ih =>
  by_cases e : b = c
  ·subst e; simp [befC, aftC]
  ·have hb : (b != c) = true := by simpa using e
   have h2 : hasC c l = true := by
    unfold hasC at h ⊢
    rw [List.contains_cons, show (c == b) = false from by simpa using fun x => e x.symm, Bool.false_or] at h
    exact h
   have := ih h2
   simp only [befC, aftC, List.takeWhile_cons, List.dropWhile_cons, hb, if_true] at this ⊢
   rw [List.cons_append]
   congr 1
theorem aft_len {c : UInt8} {l : List UInt8} (h : hasC c l = true) : (aftC c l).length < l.length := by
 have := congrArg List.length (bef_aft h)
 rw [List.length_append, List.length_cons] at this
 omega
theorem pcs_len (c : UInt8) : ∀ l, (pcs c l).length = l.count c + 1
 | [] => rfl
 | b :: l => by
  have := pcs_len c l
  unfold pcs
  by_cases h : b = c
  ·subst h
   rw [if_pos rfl, List.length_cons, this, List.count_cons_self]
  ·rw [if_neg h, List.count_cons_of_ne h]
   split
   ·rename_i x t e; rw [e] at this; simpa using this
   ·rename_i e; exact absurd e (pcs_ne c l)
theorem pcs_part {c : UInt8} {l : List UInt8} {p : List UInt8} (h : p ∈ pcs c l) : p.length ≤ l.length := by
 have key : ∀ l, ∀ p ∈ pcs c l, p.length ≤ l.length := by
  intro l
  induction l with
  | nil => intro p h; simp [pcs] at h; subst h; simp
  | cons b l ih =>
   intro p h
   unfold pcs at h
   by_cases e : b = c
   ·rw [if_pos e] at h
    rcases List.mem_cons.1 h with rfl | h
    ·simp
    ·have := ih p h; simp; omega
   ·rw [if_neg e] at h
    split at h
    ·rename_i x t ex
     rcases List.mem_cons.1 h with rfl | h
     ·have := ih x (by rw [ex]; simp); simp; omega
     ·have := ih p (by rw [ex]; simp [h]); simp; omega
    ·rename_i ex; exact absurd ex (pcs_ne c l)
 exact key l p h
def jnC (c : UInt8) : List (List UInt8) → List UInt8
 | [] => []
 | [p] => p
 | p :: q :: r => p ++ c :: jnC c (q :: r)
theorem jn_join (c : UInt8) : ∀ ps, join ps [c] = jnC c ps
 | [] => rfl
 | [p] => by rw [join_one]; rfl
 | p :: q :: r => by
  have ih := jn_join c (q :: r)
  rw [join_cons] at ih ⊢
  unfold jnC
  rw [← ih]
  simp [joinTail]
theorem pcs_app {c : UInt8} : ∀ {p : List UInt8} (l : List UInt8), hasC c p = false → pcs c (p ++ c :: l) = p :: pcs c l
 | [], l, _ => by rw [List.nil_append, pcs, if_pos rfl]
 | b :: p, l, h => by
  unfold hasC at h
  rw [List.contains_cons, Bool.or_eq_false_iff] at h
  have hb : ¬ b = c := fun e => by have := h.1; rw [e] at this; simp at this
  rw [List.cons_append, pcs, if_neg hb, pcs_app l h.2]
theorem pcs_one {c : UInt8} {p : List UInt8} (h : hasC c p = false) : pcs c p = [p] := by
 rw [pcs_eq, if_neg (by rw [h]; simp)]
theorem pcs_jn {c : UInt8} : ∀ {ps : List (List UInt8)}, ps ≠ [] → (∀ p ∈ ps, hasC c p = false) → pcs c (jnC c ps) = ps
 | [], h, _ => absurd rfl h
 | [p], _, h => pcs_one (h p (by simp))
 | p :: q :: r, _, h => by
  unfold jnC
  rw [pcs_app _ (h p (by simp)), pcs_jn (by simp) fun x hx => h x (List.mem_cons_of_mem _ hx)]
theorem idx_has (c : UInt8) : ∀ l, (index l [c] = -1 ∧ hasC c l = false) ∨ (hasC c l = true ∧ index l [c] = (befC c l).length) := by
 intro l
 rw [index_one]
 induction l with
 | nil => exact Or.inl ⟨rfl, rfl⟩
 | cons b l ih =>
  unfold indexByte
  by_cases e : b = c
  ·subst e
   right
   simp [hasC, befC]
  ·have hb : (b == c) = false := by simpa using e
   have hb2 : (b != c) = true := by simpa using e
   have e1 : hasC c (b :: l) = hasC c l := by
    unfold hasC
    rw [List.contains_cons, show (c == b) = false from by simpa using fun z => e z.symm, Bool.false_or]
   have e2 : befC c (b :: l) = b :: befC c l := by simp [befC, hb2]
   rw [hb, e1, e2]
   rcases ih with ⟨h1, h2⟩ | ⟨h1, h2⟩
   ·left; rw [h1]; exact ⟨rfl, h2⟩
   ·right
    rw [h2]
    have : (((befC c l).length : Int) == -1) = false := by rw [beq_eq_false_iff_ne]; omega
    refine ⟨h1, ?_⟩
    rw [this]
    simp
theorem cut_one (c : UInt8) (l : List UInt8) : cut l [c] = if hasC c l = true then (befC c l, aftC c l, true) else (l, [], false) := by
 unfold cut
 rcases idx_has c l with ⟨h1, h2⟩ | ⟨h1, h2⟩
 ·rw [h1, h2, if_neg (by omega), if_neg (by simp)]
 ·rw [h2, h1, if_pos (by omega), if_pos rfl]
  have e := bef_aft h1
  have e3 : l.take (befC c l).length = befC c l := by
   have h := congrArg (List.take (befC c l).length) e
   rwa [List.take_left] at h
  have e4 : l.drop ((befC c l).length + 1) = aftC c l := by
   have h := congrArg (List.drop ((befC c l).length + 1)) e
   rw [h, List.drop_append]
   simp
  rw [Int.toNat_natCast, List.length_singleton, e3, e4]
theorem trim_one (l : List UInt8) : trimPrefix l [45] = if l.head? = some 45 then l.drop 1 else l := by
 unfold trimPrefix hasPrefix
 cases l with
 | nil => rfl
 | cons b r =>
  simp only [List.head?_cons, Option.some.injEq]
  by_cases e : b = 45
  ·subst e; simp [List.isPrefixOf]
  ·rw [if_neg e, if_neg]
   simp [List.isPrefixOf]
   exact fun h => e h.symm
end Go.Proofs.YtlapeoboekchpaaGreatDoor
set_option linter.unusedVariables false
set_option linter.unusedSimpArgs false
namespace Go.Proofs.YtlapeoboekchpaaGreatDoor
open Go.RowKit Ev
def ofL (l : List UInt8) : ByteArray := ⟨l.toArray⟩
theorem ofL_data (l : List UInt8) : (ofL l).data.toList = l := rfl
theorem ofL_back (s : ByteArray) : ofL s.data.toList = s := by
 obtain ⟨⟨l⟩⟩ := s
 rfl
theorem ofL_size (l : List UInt8) : (ofL l).size = l.length := by
 show l.toArray.size = _
 simp
theorem ofL_inj {l m : List UInt8} (h : ofL l = ofL m) : l = m := by rw [← ofL_data l, h, ofL_data]
theorem size_data (s : ByteArray) : s.data.toList.length = s.size := Array.length_toList
def itoaB (n : Int) : ByteArray := ofL (Lib.itoa n)
def joinB (l : List ByteArray) (sep : ByteArray) : ByteArray := ofL (Lib.join (l.map (·.data.toList)) sep.data.toList)
def trimB (s p : ByteArray) : ByteArray := ofL (Lib.trimPrefix s.data.toList p.data.toList)
def cutA (s sep : ByteArray) : ByteArray := ofL (Lib.cut s.data.toList sep.data.toList).1
def cutZ (s sep : ByteArray) : ByteArray := ofL (Lib.cut s.data.toList sep.data.toList).2.1
def cutH (s sep : ByteArray) : Bool := (Lib.cut s.data.toList sep.data.toList).2.2
def splB (s sep : ByteArray) : List ByteArray := Lib.splitB sep 0 (Lib.countB s sep) s
def atoB (s : ByteArray) : Bool := match Lib.atoiAll s.data.toList with
 | .ok _ => true
 | _ => false
def atoV (s : ByteArray) : Int := match Lib.atoiAll s.data.toList with
 | .ok v => v
 | .range => Lib.atoiSat s.data.toList
 | _ => 0
theorem pow_is {W : World} (h : Gd W) : Lib.TabIs Tryz.prog W "internal/strconv.uint64pow10" .u64 Lib.pow10Tab := by
 unfold Lib.TabIs World.var?
 rw [show Tryz.prog.globalNamed "internal/strconv.uint64pow10" = some 3 from by kernel_rfl]
 exact h.2.pow
theorem below_grow (w : World) (os : Array Obj) : Below w.heap.size w (Go.Sort.grow w os) :=
 ⟨rfl, rfl, rfl, by simp, fun k hk => by simp [Go.Sort.grow, Array.getElem?_append_left hk]⟩
theorem below_dn (w : World) (n : Nat) : Below w.heap.size w (w.drewN n) := ⟨rfl, rfl, rfl, Nat.le_refl _, fun _ _ => rfl⟩
def con_Itoa : Con := fun args => match args with
 | [.t (.c (.v (.int .i64 n)))] => some (.t (.c (.v (.string (itoaB n)))), some (-9223372036854775808 ≤ n ∧ n ≤ 9223372036854775807), .no)
 | _ => none
theorem ok_Itoa : Ok Tryz.prog 85 con_Itoa := by
 refine Ok.oldGd (Enters.of (fn := Tryz.f85) (by kernel_rfl) (by kernel_rfl) (by kernel_rfl)) fun args r pre fresh h hp => ?_
 unfold con_Itoa at h
 split at h
 ·rename_i n
  cases h
  refine ⟨rfl, _, rfl, fun W N vs hG hv => ?_⟩
  obtain ⟨u0, ws0, rfl, g0, hv0⟩ := hv.cons_inv
  obtain rfl := hv0.nil_inv
  obtain rfl : u0 = .int .i64 n := g0.1
  refine (Tryz.strconv_Itoa n hp.1 hp.2 W (pow_is hG)).mono ?_
  rintro e w' ⟨rfl, k, os, rfl⟩
  exact ⟨rfl, (below_dn W k).trans ((below_grow (W.drewN k) os).mono (Nat.le_refl _))⟩
 ·cases h
def con_Trim : Con := fun args => match args with
 | [.t (.c (.v (.string s))), .t (.c (.v (.string p)))] => some (.t (.c (.v (.string (trimB s p)))), none, .no)
 | _ => none
theorem ok_Trim : Ok Tryz.prog 91 con_Trim := by
 refine Ok.oldGd (Enters.of (fn := Tryz.f91) (by kernel_rfl) (by kernel_rfl) (by kernel_rfl)) fun args r pre fresh h hp => ?_
 unfold con_Trim at h
 split at h
 ·rename_i s p
  cases h
  refine ⟨rfl, _, rfl, fun W N vs hG hv => ?_⟩
  obtain ⟨u0, ws0, rfl, g0, hv0⟩ := hv.cons_inv
  obtain ⟨u1, ws1, rfl, g1, hv1⟩ := hv0.cons_inv
  obtain rfl := hv1.nil_inv
  obtain rfl : u0 = .string s := g0.1
  obtain rfl : u1 = .string p := g1.1
  refine (Tryz.strings_TrimPrefix s p W).mono ?_
  rintro e w' ⟨rfl, rfl⟩
  exact ⟨rfl, Below.refl _ _⟩
 ·cases h
def con_Cut : Con := fun args => match args with
 | [.t (.c (.v (.string s))), .t (.c (.v (.string p)))] => some (.tu [.c (.v (.string (cutA s p))), .c (.v (.string (cutZ s p))), .c (.v (.bool (cutH s p)))], some (s.size ≤ 1000000000), .no)
 | _ => none
theorem ok_Cut : Ok Tryz.prog 51 con_Cut := by
 refine Ok.oldGd (Enters.of (fn := Tryz.f51) (by kernel_rfl) (by kernel_rfl) (by kernel_rfl)) fun args r pre fresh h hp => ?_
 unfold con_Cut at h
 split at h
 ·rename_i s p
  cases h
  refine ⟨rfl, _, rfl, fun W N vs hG hv => ?_⟩
  obtain ⟨u0, ws0, rfl, g0, hv0⟩ := hv.cons_inv
  obtain ⟨u1, ws1, rfl, g1, hv1⟩ := hv0.cons_inv
  obtain rfl := hv1.nil_inv
  obtain rfl : u0 = .string s := g0.1
  obtain rfl : u1 = .string p := g1.1
  obtain ⟨m, hm⟩ := hG.2.len
  have hp : s.size ≤ 1000000000 := hp
  refine (Tryz.strings_Cut s p m W (by omega) hm).mono ?_
  rintro e w' ⟨rfl, n, rfl⟩
  exact ⟨rfl, below_dn W n⟩
 ·cases h
def con_Atoi : Con := fun args => match args with
 | [.t (.c (.v (.string s)))] => some (.tu [.c (.v (.int .i64 (atoV s))), .c (.er (atoB s))], some (s.size ≤ 1000000000), .no)
 | _ => none
theorem ok_Atoi : Ok Tryz.prog 90 con_Atoi := by
 intro args r pre fresh h hp
 unfold con_Atoi at h
 split at h
 ·rename_i s
  cases h
  refine ⟨Enters.of (fn := Tryz.f90) (by kernel_rfl) (by kernel_rfl) (by kernel_rfl), fun W N vs hG hv => ?_⟩
  have hv : All2 (RelD (RelF W N)) [.t (.c (.v (.string s)))] vs := hv
  obtain ⟨u0, ws0, rfl, g0, hv0⟩ := hv.cons_inv
  obtain rfl := hv0.nil_inv
  obtain rfl : u0 = .string s := g0.1
  have hp : s.size ≤ 1000000000 := hp
  cases ha : Lib.atoiAll s.data.toList with
  | ok v =>
   refine (Tryz.strconv_Atoi_ok s (by omega) v ha W).mono ?_
   rintro e w' ⟨rfl, hw⟩
   have e1 : atoB s = true := by unfold atoB; rw [ha]
   have e2 : atoV s = v := by unfold atoV; rw [ha]
   refine ⟨_, rfl, ⟨[_, _], rfl, ⟨by rw [e2], rfl⟩, Or.inl ⟨e1, rfl⟩, trivial⟩, ?_⟩
   rcases hw with rfl | ⟨t, rfl⟩
   ·exact Below.refl _ _
   ·exact Go.Joins.below_bytesWorld _ _ _ _ (Nat.le_refl _)
  | range =>
   obtain ⟨t, p, hc⟩ := hG.2.rng
   refine (Tryz.strconv_Atoi_range s (by omega) ha _ W hc (Or.inr ⟨t, p, rfl⟩)).mono ?_
   rintro e w' ⟨n, rfl, _, _, hb⟩
   have e1 : atoB s = false := by unfold atoB; rw [ha]
   have e2 : atoV s = Lib.atoiSat s.data.toList := by unfold atoV; rw [ha]
   exact ⟨_, rfl, ⟨[_, _], rfl, ⟨by rw [e2], rfl⟩, Or.inr ⟨e1, _, _, rfl⟩, trivial⟩, hb⟩
  | _ =>
   obtain ⟨t, p, hc⟩ := hG.2.syn
   refine (Tryz.strconv_Atoi_syntax s (by omega) ha _ W hc (Or.inr ⟨t, p, rfl⟩)).mono ?_
   rintro e w' ⟨n, rfl, _, _, hb⟩
   have e1 : atoB s = false := by unfold atoB; rw [ha]
   have e2 : atoV s = 0 := by unfold atoV; rw [ha]
   exact ⟨_, rfl, ⟨[_, _], rfl, ⟨by rw [e2], rfl⟩, Or.inr ⟨e1, _, _, rfl⟩, trivial⟩, hb⟩
 ·cases h
def con_Join : Con := fun args => match args with
 | [.t (.c (.sl 1 n c)), .t (.c (.v (.string p)))] => some (.t (.c (.v (.string (joinB (txOf n c) p)))), some (txP n c ∧ (txOf n c).length ≤ 1000000 ∧ (joinB (txOf n c) p).size ≤ 1000000000), .no)
 | _ => none
theorem ok_Join : Ok Tryz.prog 48 con_Join := by
 refine Ok.oldGd (Enters.of (fn := Tryz.f48) (by kernel_rfl) (by kernel_rfl) (by kernel_rfl)) fun args r pre fresh h hp => ?_
 unfold con_Join at h
 split at h
 ·rename_i n c p
  cases h
  obtain ⟨hp1, hp2, hp3⟩ := hp
  refine ⟨rfl, _, rfl, fun W N vs hG hv => ?_⟩
  obtain ⟨u0, ws0, rfl, g0, hv0⟩ := hv.cons_inv
  obtain ⟨u1, ws1, rfl, g1, hv1⟩ := hv0.cons_inv
  obtain rfl := hv1.nil_inv
  obtain rfl : u1 = .string p := g1.1
  have g0 : RelF W N (.sl 1 n c) u0 := g0
  obtain ⟨ao, cap, rfl, hcap, hmx, hnil, hcells⟩ := g0
  rw [txOf_len] at hp2
  rcases Nat.eq_zero_or_pos n with rfl | hn
  ·refine (Tryz.strings_Join_none ao cap p W).mono ?_
   rintro e w' ⟨rfl, rfl⟩
   exact ⟨rfl, Below.refl _ _⟩
  ·obtain ⟨b, off, rfl, hb, hN, hc⟩ := hcells hn
   have hj : (Lib.join ((txOf n c).map (·.data.toList)) p.data.toList).length ≤ 140737488355328 := by
    unfold joinB at hp3
    rw [ofL_size] at hp3
    omega
   have hq := Tryz.strings_Join b off cap (txOf n c) p W (fun j x hx => by
    have hj : j < n := by have := (List.getElem?_eq_some_iff.1 hx).1; rwa [txOf_len] at this
    obtain ⟨y, y1, y2⟩ := hc j 0 hj (by omega)
    rw [hp1 j hj] at y2
    rw [show off + j = off + j * 1 + 0 by omega, y1, y2.1]
    have : (txOf n c)[j]? = some (cvStr (c j 0)) := by simp [txOf, hj]
    rw [this] at hx
    cases hx
    rfl) hb (by rw [txOf_len]; omega) (by rw [txOf_len]; exact hcap) hj
   rw [txOf_len] at hq
   refine hq.mono ?_
   rintro e w' ⟨rfl, hb⟩
   exact ⟨rfl, hb⟩
 ·cases h
def con_Split : Con := fun args => match args with
 | [.t (.c (.v (.string s))), .t (.c (.v (.string p)))] => some (.t (.c (.sl 1 (splB s p).length (txsC (splB s p)))), some (s.size ≤ 1000000000 ∧ 1 ≤ p.size ∧ (splB s p).length = Lib.countB s p + 1), .new)
 | _ => none
theorem ok_Split : Ok Tryz.prog 52 con_Split := by
 intro args r pre fresh h hp
 unfold con_Split at h
 split at h
 ·rename_i s p
  cases h
  obtain ⟨hp1, hp2, hp3⟩ := hp
  refine ⟨Enters.of (fn := Tryz.f52) (by kernel_rfl) (by kernel_rfl) (by kernel_rfl), fun W N vs hG hv => ?_⟩
  have hv : All2 (RelD (RelF W N)) [.t (.c (.v (.string s))), .t (.c (.v (.string p)))] vs := hv
  obtain ⟨u0, ws0, rfl, g0, hv0⟩ := hv.cons_inv
  obtain ⟨u1, ws1, rfl, g1, hv1⟩ := hv0.cons_inv
  obtain rfl := hv1.nil_inv
  obtain rfl : u0 = .string s := g0.1
  obtain rfl : u1 = .string p := g1.1
  obtain ⟨m, hm⟩ := hG.2.len
  refine (Tryz.strings_Split s p m W (by omega) hm hp2).mono ?_
  rintro e w' ⟨rfl, rfl⟩
  refine ⟨_, rfl, ?_, (Below.refl _ _).alloc (Nat.le_refl _) _⟩
  show RelF _ _ (.sl 1 (splB s p).length (txsC (splB s p))) _
  rw [hp3]
  refine ⟨_, _, rfl, Nat.le_refl _, ?_, (fun h => by cases h), fun _ => ⟨W.heap.size, 0, rfl, by simp, Or.inr (Nat.le_refl _), fun i j hi hj => ?_⟩⟩
  ·have : Lib.countB s p ≤ s.size + 1 := by have := Lib.count_le s.data.toList p.data.toList; rw [size_data] at this; exact this
   unfold maxLen; omega
  ·obtain rfl : j = 0 := by omega
   refine ⟨.string (txAt (splB s p) i), ?_, rfl, rfl⟩
   have hi' : i < (splB s p).length := by rw [hp3]; exact hi
   have hnew : (W.alloc (.cells ((splB s p).map Value.string).toArray 9)).heap[W.heap.size]? = some (.cells ((splB s p).map Value.string).toArray 9) := World.alloc_heap_new W _
   have e : (((splB s p).map Value.string).toArray)[0 + i * 1 + 0]? = some (.string (txAt (splB s p) i)) := by
    simp [txAt, List.getD, hi']
   show World.cell? (W.alloc (.cells ((splB s p).map Value.string).toArray 9)) _ = _
   simp only [World.cell?, hnew]
   exact e
 ·cases h
end Go.Proofs.YtlapeoboekchpaaGreatDoor