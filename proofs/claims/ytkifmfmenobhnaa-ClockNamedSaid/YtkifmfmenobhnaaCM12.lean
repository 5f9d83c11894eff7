/- Texts of this claim, together. -/
import Derived.Test.YtkifmfmenobhnaaCM11
import Derived.Test.YtkifmfmenobhnaaCM5
import Derived.ProofKit
import Derived.OpenShut
import Derived.ShutString
import Derived.ChangeOld
import Derived.Below
import Derived.Lib.SmallJoins
import Derived.Test.YtkifmfmenobhnaaCM8

set_option linter.unusedVariables false
set_option linter.unusedSimpArgs false
namespace Go.Proofs.Ytkifmfmenobhnaa
open Go.RowKit Ev
theorem k12t : ((12 : Int) == 12) = true := rfl
theorem lnkg_cell {l : List Lnk} {i j : Nat} (hi : i < l.length) (hj : j < 4) : genC (l.map lnkCv) i j = lnksC l i j := by
 unfold genC lnksC lnkAt
 simp only [List.getD_eq_getElem?_getD, List.getElem?_map, List.getElem?_eq_getElem hi, Option.map_some, Option.getD_some]
 rcases (by omega : j = 0 ∨ j = 1 ∨ j = 2 ∨ j = 3) with rfl | rfl | rfl | rfl <;> rfl
def mk_law01_ClockNamed_0 (cs : List ByteArray) (ls : List Lnk) (o : List Int) (wh : Int) (off : List Int) (v0_0 : List (List CV)) (v0_1 : Int) (v0_2 : Int) : DS := ⟨[none, some (.t (.c (.sl 1 o.length (intsC o)))), none, some (.t (.c (.p 3 0))), none, some (.t (.c (.p 5 0))), none, some (.t (.c (.v (.int .i64 v0_1)))), some (.t (.c (.p 8 0))), some (.t (.c (.v (.int .i64 v0_2)))), none, none, none, none, none, none, none, none, none, none, none, none, none, none, none, none, none, none, none, none, none, none, none, none, none, none, none, none, none, none, none, none, none, none, none, none, none, none, none, none, none, none, none, none, none, none, none, none, none, none, none, none, none, none, none, none, none, none, none, none, none, none, none, none, none, none, none, none, none, none, none, none, none, none, none, none, none, none, none, none, none, none, none, none, none, none, none, none, none, none, none, none, none, none, none, none, none, none, none, none, none, none, none, none, none, none, none, none, none, none, none, none, none, none, none, none, none, none, none, none, none, none, none, none, none, none, none, none, none, none, none, none, none, none, none, none, none, none, none, none, none, none, none, none, none, none, none, none, none, none, none, none, none, none, none, none, none, none, none, none, none, none, none, none, none, none, none, none, none, none, none, none, none, none, none, none, none, none, none, none, none, none, none, none, none, none, none, none, none, none, none, none, none, none, none, none, none, none, none, none, none, none, none, none, none, none, none, none, none, none, none, none, none, none, none, none, none, none, none, none], [some (.gen 125 4 v0_0), none, none, some (.box 55 [.sl 1 cs.length (txsC cs), .sl 4 ls.length (lnksC ls)]), none, some (.box 123 [.v (.int .i64 wh), .sl 1 off.length (intsC off)]), none, none, some (.box 55 [.sl 1 (((txOf cs.length (txsC cs)).map txCv).length) (genC ((txOf cs.length (txsC cs)).map txCv)), .os 0]), none, none, none, none, none, none, none, none, none, none, none, none, none, none, none, none, none, none, none, none, none, none, none, none, none, none, none, none, none, none, none, none, none, none, none, none, none, none, none, none, none, none, none, none, none, none, none, none, none, none, none, none, none, none, none, none, none, none, none, none, none, none, none, none, none, none, none, none, none, none, none, none, none, none, none, none, none, none, none, none, none, none, none, none, none, none, none, none, none, none, none, none, none, none, none, none, none, none, none, none, none, none, none, none, none, none, none, none, none, none, none, none, none, none, none, none, none, none, none, none, none, none, none, none, none, none, none, none, none, none, none, none, none, none, none, none, none, none, none, none, none, none, none, none, none, none, none, none, none, none, none, none, none, none, none, none, none, none, none, none, none, none, none, none, none, none, none, none, none, none, none, none, none, none, none, none, none, none, none, none, none, none, none, none, none, none, none, none, none, none, none, none, none, none, none, none, none, none, none, none, none, none, none, none, none, none, none, none, none, none, none, none, none, none, none, none, none, none, none, none, none]⟩
def mk_law01_ClockNamed_2 (cs : List ByteArray) (ls : List Lnk) (o : List Int) (wh : Int) (off : List Int) (v2_0 : List (List CV)) (v2_1 : List (List CV)) (v2_2 : ByteArray) (v2_3 : Int) (v2_4 : Int) (v2_5 : Int) : DS := ⟨[none, none, none, some (.t (.c (.p 3 0))), none, none, none, some (.t (.c (.v (.int .i64 v2_5)))), some (.t (.c (.p 8 0))), none, none, none, none, none, some (.t (.c (.v (.string v2_2)))), none, some (.t (.c (.p 16 0))), some (.t (.c (.v (.int .i64 v2_3)))), some (.t (.c (.v (.int .i64 v2_4)))), none, none, none, none, none, none, none, none, none, none, none, none, none, none, none, none, none, none, none, none, none, none, none, none, none, none, none, none, none, none, none, none, none, none, none, none, none, none, none, none, none, none, none, none, none, none, none, none, none, none, none, none, none, none, none, none, none, none, none, none, none, none, none, none, none, none, none, none, none, none, none, none, none, none, none, none, none, none, none, none, none, none, none, none, none, none, none, none, none, none, none, none, none, none, none, none, none, none, none, none, none, none, none, none, none, none, none, none, none, none, none, none, none, none, none, none, none, none, none, none, none, none, none, none, none, none, none, none, none, none, none, none, none, none, none, none, none, none, none, none, none, none, none, none, none, none, none, none, none, none, none, none, none, none, none, none, none, none, none, none, none, none, none, none, none, none, none, none, none, none, none, none, none, none, none, none, none, none, none, none, none, none, none, none, none, none, none, none, none, none, none, none, none, none, none, none, none, none, none, none, none, none, none, none, none, none, none, none, none, none, none], [some (.gen 125 4 v2_0), some (.gen 9 1 v2_1), none, some (.box 55 [.sl 1 cs.length (txsC cs), .sl 4 ls.length (lnksC ls)]), none, none, none, none, some (.box 55 [.sl 1 (((txOf cs.length (txsC cs)).map txCv).length) (genC ((txOf cs.length (txsC cs)).map txCv)), .os 0]), none, none, none, none, none, none, none, some (.box 55 [.os 1, .v (.slice none 0 0)]), none, none, none, none, none, none, none, none, none, none, none, none, none, none, none, none, none, none, none, none, none, none, none, none, none, none, none, none, none, none, none, none, none, none, none, none, none, none, none, none, none, none, none, none, none, none, none, none, none, none, none, none, none, none, none, none, none, none, none, none, none, none, none, none, none, none, none, none, none, none, none, none, none, none, none, none, none, none, none, none, none, none, none, none, none, none, none, none, none, none, none, none, none, none, none, none, none, none, none, none, none, none, none, none, none, none, none, none, none, none, none, none, none, none, none, none, none, none, none, none, none, none, none, none, none, none, none, none, none, none, none, none, none, none, none, none, none, none, none, none, none, none, none, none, none, none, none, none, none, none, none, none, none, none, none, none, none, none, none, none, none, none, none, none, none, none, none, none, none, none, none, none, none, none, none, none, none, none, none, none, none, none, none, none, none, none, none, none, none, none, none, none, none, none, none, none, none, none, none, none, none, none, none, none, none, none, none, none, none, none, none, none, none]⟩
def mk_law01_ClockNamed_4 (cs : List ByteArray) (ls : List Lnk) (o : List Int) (wh : Int) (off : List Int) (v4_0 : List (List CV)) (v4_1 : List (List CV)) (v4_2 : List (List CV)) (v4_3 : Int) (v4_4 : Int) : DS := ⟨[none, none, none, some (.t (.c (.p 3 0))), none, none, none, none, some (.t (.c (.p 8 0))), none, none, none, none, none, none, none, some (.t (.c (.p 16 0))), some (.t (.c (.v (.int .i64 v4_3)))), none, some (.t (.c (.v (.int .i64 v4_4)))), none, none, none, none, none, none, none, none, none, none, none, none, none, none, none, none, none, none, none, none, none, none, none, none, none, none, none, none, none, none, none, none, none, none, none, none, none, none, none, none, none, none, none, none, none, none, none, none, none, none, none, none, none, none, none, none, none, none, none, none, none, none, none, none, none, none, none, none, none, none, none, none, none, none, none, none, none, none, none, none, none, none, none, none, none, none, none, none, none, none, none, none, none, none, none, none, none, none, none, none, none, none, none, none, none, none, none, none, none, none, none, none, none, none, none, none, none, none, none, none, none, none, none, none, none, none, none, none, none, none, none, none, none, none, none, none, none, none, none, none, none, none, none, none, none, none, none, none, none, none, none, none, none, none, none, none, none, none, none, none, none, none, none, none, none, none, none, none, none, none, none, none, none, none, none, none, none, none, none, none, none, none, none, none, none, none, none, none, none, none, none, none, none, none, none, none, none, none, none, none, none, none, none, none, none, none, none, none, none, none], [some (.gen 125 4 v4_0), some (.gen 9 1 v4_1), some (.gen 125 4 v4_2), some (.box 55 [.sl 1 cs.length (txsC cs), .sl 4 ls.length (lnksC ls)]), none, none, none, none, some (.box 55 [.sl 1 (((txOf cs.length (txsC cs)).map txCv).length) (genC ((txOf cs.length (txsC cs)).map txCv)), .os 0]), none, none, none, none, none, none, none, some (.box 55 [.os 1, .os 2]), none, none, none, none, none, none, none, none, none, none, none, none, none, none, none, none, none, none, none, none, none, none, none, none, none, none, none, none, none, none, none, none, none, none, none, none, none, none, none, none, none, none, none, none, none, none, none, none, none, none, none, none, none, none, none, none, none, none, none, none, none, none, none, none, none, none, none, none, none, none, none, none, none, none, none, none, none, none, none, none, none, none, none, none, none, none, none, none, none, none, none, none, none, none, none, none, none, none, none, none, none, none, none, none, none, none, none, none, none, none, none, none, none, none, none, none, none, none, none, none, none, none, none, none, none, none, none, none, none, none, none, none, none, none, none, none, none, none, none, none, none, none, none, none, none, none, none, none, none, none, none, none, none, none, none, none, none, none, none, none, none, none, none, none, none, none, none, none, none, none, none, none, none, none, none, none, none, none, none, none, none, none, none, none, none, none, none, none, none, none, none, none, none, none, none, none, none, none, none, none, none, none, none, none, none, none, none, none, none, none, none, none, none]⟩
def vc_law01_ClockNamed (J : Inv) (cs : List ByteArray) (ls : List Lnk) (o : List Int) (wh : Int) (off : List Int) (post : DV → Prop) : Prop := (txP cs.length (txsC cs) ∧ numsP 4 ls.length (lnksC ls)) ∧ ((cond (!(fwL (txOf cs.length (txsC cs)) (listC ls.length mkLnk (lnksC ls)))) ((true = true) ∧ ((true = true) ∧ ((true = true) ∧ ((true = true) ∧ (True))))) ((txP cs.length (txsC cs) ∧ numsP 4 ls.length (lnksC ls) ∧ (∀ k, k < ((txOf cs.length (txsC cs))).length → (txAt (txOf cs.length (txsC cs)) k).size ≤ 1000000)) ∧ (cond ((ntE (txOf cs.length (txsC cs)) (listC ls.length mkLnk (lnksC ls))) != (0 : Int)) ((true = true) ∧ ((true = true) ∧ ((true = true) ∧ (True)))) (cond (decide (((ls.length : Nat) : Int) > (8 : Int))) ((true = true) ∧ ((true = true) ∧ (True))) (cond (((o.length : Nat) : Int) != ((cs.length : Nat) : Int)) ((true = true) ∧ (True)) (True)))))) ∧ (lt ((bif (!(fwL (txOf cs.length (txsC cs)) (listC ls.length mkLnk (lnksC ls)))) then true else (bif ((ntE (txOf cs.length (txsC cs)) (listC ls.length mkLnk (lnksC ls))) != (0 : Int)) then true else (bif decide (((ls.length : Nat) : Int) > (8 : Int)) then true else (bif (((o.length : Nat) : Int) != ((cs.length : Nat) : Int)) then true else decide (((cs.length : Nat) : Int) < (2 : Int))))))) fun x1 => cond x1 (post (.t (.c (.v (.bool true))))) (lt (IntKind.i64.wrap (((cs.length : Nat) : Int) - (1 : Int))) fun x2 => (0 < x2 ∧ x2 ≤ 4000000000000000000) ∧ (lt (IntKind.i64.wrap ((1 : Int) + (wh % x2))) fun x3 => (txP cs.length (txsC cs) ∧ numsP 4 ls.length (lnksC ls) ∧ (txOf cs.length (txsC cs)).length ≤ 1000 ∧ (listC ls.length mkLnk (lnksC ls)).length ≤ 1000) ∧ (∃ n, J 0 (n :: []) (mk_law01_ClockNamed_0 cs ls o wh off ((listC ls.length mkLnk (lnksC ls)).map lnkCv) x3 0))))))
def ann_law01_ClockNamed : Ann := ⟨fun r => lookA r [(13, ([[], [], [1], [0, 1, 2], [0, 1, 2, 3], [], [], [6], [5, 6, 7], [5, 6, 7, 8], [0, 1, 2, 3, 4, 5, 6, 7, 8, 9], [0, 1, 2, 3, 4, 5, 6, 7, 8, 9, 10]], [[], [], [], [], [], [], [], [], [], [], [], []])), (15, ([[], [], [1], [], [], [4], [4, 5], [3, 4, 5, 6], [1, 2, 3, 4, 5, 6, 7], [1, 2, 3, 4, 5, 6, 7, 8], [1, 2, 3, 4, 5, 6, 7, 8, 9], [0, 1, 2, 3, 4, 5, 6, 7, 8, 9, 10], [0, 1, 2, 3, 4, 5, 6, 7, 8, 9, 10, 11]], [[127], [127], [127], [127], [127], [127], [127], [127], [127], [127], [], [], []])), (36, ([[], [0], [], [2], [], [2, 3, 4], [2, 3, 4, 5], [2, 3, 4, 5, 6], [0, 1, 2, 3, 4, 5, 6, 7], [0, 1, 2, 3, 4, 5, 6, 7, 8], [0, 1, 2, 3, 4, 5, 6, 7, 8, 9]], [[220], [220], [220], [220], [220], [220], [220], [], [], [], []]))], fun b => lookA b [(0, (none, some ⟨[1, 3, 5, 7, 8, 9], [3, 5, 8], []⟩)), (2, (none, some ⟨[3, 7, 8, 14, 16, 17, 18], [3, 8, 16], []⟩)), (4, (none, some ⟨[3, 8, 16, 17, 19], [3, 8, 16], []⟩))], fun b => (lookA b [(0, [(8, 1, 0, .gen 125 4 [])]), (2, [(8, 1, 0, .gen 125 4 []), (16, 0, 1, .gen 9 1 [])]), (4, [(8, 1, 0, .gen 125 4 []), (16, 0, 1, .gen 9 1 []), (16, 1, 2, .gen 125 4 [])])]).getD [], I1, false, fun r => lookA r [(3, (4, [51])), (11, (8, [95])), (14, (5, [116])), (21, (3, [160])), (30, (3, [187])), (35, (9, [212]))], fun r => lookA r [(15, [11]), (29, [17])]⟩
theorem ev_law01_ClockNamed (J : Inv) (cs : List ByteArray) (ls : List Lnk) (o : List Int) (wh : Int) (off : List Int) (post : DV → Prop) : evFn Try.prog tab Sl0121 ann_law01_ClockNamed J Try.f14 [.t (.a [.sl 1 cs.length (txsC cs), .sl 4 ls.length (lnksC ls)]), .t (.c (.sl 1 o.length (intsC o))), .t (.a [.v (.int .i64 wh), .sl 1 off.length (intsC off)])] post = vc_law01_ClockNamed J cs ls o wh off post := by kernel_rfl
theorem fit_law01_ClockNamed : okFn ann_law01_ClockNamed Try.f14 = true := by kernel_rfl
def rd_law01_ClockNamed_0 (J : Inv) (cs : List ByteArray) (ls : List Lnk) (o : List Int) (wh : Int) (off : List Int) (v0_0 : List (List CV)) (v0_1 : Int) (v0_2 : Int) (nn0 : Nat) (post : DV → Prop) : Prop := cond (decide (v0_2 < ((ls.length : Nat) : Int))) ((0 ≤ v0_2 ∧ v0_2 < ((ls.length : Nat) : Int)) ∧ ((0 ≤ ((lnkAt ls v0_2.toNat).frm) ∧ ((lnkAt ls v0_2.toNat).frm) < ((o.length : Nat) : Int)) ∧ ((cond (!(inB (o.getD (((lnkAt ls v0_2.toNat).frm).toNat) 0) (-1000000 : Int) (1000000 : Int))) ((true = true) ∧ ((true = true) ∧ (True))) ((0 ≤ ((lnkAt ls v0_2.toNat).to) ∧ ((lnkAt ls v0_2.toNat).to) < ((o.length : Nat) : Int)) ∧ (cond (!(inB (o.getD (((lnkAt ls v0_2.toNat).to).toNat) 0) (-1000000 : Int) (1000000 : Int))) ((true = true) ∧ (True)) (True)))) ∧ (lt ((bif (!(inB (o.getD (((lnkAt ls v0_2.toNat).frm).toNat) 0) (-1000000 : Int) (1000000 : Int))) then true else (bif (!(inB (o.getD (((lnkAt ls v0_2.toNat).to).toNat) 0) (-1000000 : Int) (1000000 : Int))) then true else (((off.length : Nat) : Int) == (0 : Int))))) fun x1 => cond x1 (post (.t (.c (.v (.bool true))))) ((0 ≤ ((lnkAt ls v0_2.toNat).to) ∧ ((lnkAt ls v0_2.toNat).to) < ((o.length : Nat) : Int)) ∧ ((0 ≤ ((lnkAt ls v0_2.toNat).frm) ∧ ((lnkAt ls v0_2.toNat).frm) < ((o.length : Nat) : Int)) ∧ (lt (IntKind.i64.wrap ((o.getD (((lnkAt ls v0_2.toNat).to).toNat) 0) - (o.getD (((lnkAt ls v0_2.toNat).frm).toNat) 0))) fun x2 => (cond (((lnkAt ls v0_2.toNat).frm) == v0_1) ((true = true) ∧ (True)) (True)) ∧ (lt ((bif (((lnkAt ls v0_2.toNat).frm) == v0_1) then true else (((lnkAt ls v0_2.toNat).to) == v0_1))) fun x3 => (cond x3 (lt (Int.tmod v0_2 ((off.length : Nat) : Int)) fun x6 => (IntKind.i64 = IntKind.i64 ∧ ((off.length : Nat) : Int) ≠ 0) ∧ ((0 ≤ x6 ∧ x6 < ((off.length : Nat) : Int)) ∧ ((0 < (100 : Int) ∧ (100 : Int) ≤ 4000000000000000000) ∧ (lt (IntKind.i64.wrap (x2 + ((off.getD x6.toNat 0) % (100 : Int)))) fun x7 => True)))) (True)) ∧ (lt ((bif x3 then (IntKind.i64.wrap (x2 + ((off.getD ((Int.tmod v0_2 ((off.length : Nat) : Int)).toNat) 0) % (100 : Int)))) else x2)) fun x8 => lt (IntKind.i64.wrap (x8 - (1 : Int))) fun x9 => lt (IntKind.i64.wrap (x8 + (1 : Int))) fun x10 => (0 ≤ v0_2 ∧ v0_2 < ((v0_0.length : Nat) : Int)) ∧ (((v0_2).toNat < v0_0.length) ∧ (lt (IntKind.i64.wrap (v0_2 + (1 : Int))) fun x11 => J 0 (nn0 :: []) (mk_law01_ClockNamed_0 cs ls o wh off (v0_0.set (v0_2).toNat (put (v0_0.getD (v0_2).toNat []) 2 [.v (.int .i64 x9), .v (.int .i64 x10)])) v0_1 x11)))))))))))) ((txP (((txOf cs.length (txsC cs)).map txCv).length) (genC ((txOf cs.length (txsC cs)).map txCv)) ∧ numsP 4 v0_0.length (genC v0_0) ∧ (txOf (((txOf cs.length (txsC cs)).map txCv).length) (genC ((txOf cs.length (txsC cs)).map txCv))).length ≤ 1000 ∧ (listC v0_0.length mkLnk (genC v0_0)).length ≤ 1000) ∧ ((txP (((txOf (((txOf cs.length (txsC cs)).map txCv).length) (genC ((txOf cs.length (txsC cs)).map txCv))).map txCv).length) (genC ((txOf (((txOf cs.length (txsC cs)).map txCv).length) (genC ((txOf cs.length (txsC cs)).map txCv))).map txCv)) ∧ numsP 4 (((listC v0_0.length mkLnk (genC v0_0)).map lnkCv).length) (genC ((listC v0_0.length mkLnk (genC v0_0)).map lnkCv)) ∧ ∀ k, k < (txOf (((txOf (((txOf cs.length (txsC cs)).map txCv).length) (genC ((txOf cs.length (txsC cs)).map txCv))).map txCv).length) (genC ((txOf (((txOf cs.length (txsC cs)).map txCv).length) (genC ((txOf cs.length (txsC cs)).map txCv))).map txCv))).length → (txAt (txOf (((txOf (((txOf cs.length (txsC cs)).map txCv).length) (genC ((txOf cs.length (txsC cs)).map txCv))).map txCv).length) (genC ((txOf (((txOf cs.length (txsC cs)).map txCv).length) (genC ((txOf cs.length (txsC cs)).map txCv))).map txCv))) k).size ≤ 1000000) ∧ ((txP (((txOf cs.length (txsC cs)).map txCv).length) (genC ((txOf cs.length (txsC cs)).map txCv)) ∧ numsP 4 v0_0.length (genC v0_0) ∧ (txOf (((txOf cs.length (txsC cs)).map txCv).length) (genC ((txOf cs.length (txsC cs)).map txCv))).length ≤ 1000 ∧ (listC v0_0.length mkLnk (genC v0_0)).length ≤ 1000) ∧ ((txP (((txOf (((txOf cs.length (txsC cs)).map txCv).length) (genC ((txOf cs.length (txsC cs)).map txCv))).map txCv).length) (genC ((txOf (((txOf cs.length (txsC cs)).map txCv).length) (genC ((txOf cs.length (txsC cs)).map txCv))).map txCv)) ∧ numsP 4 (((listC v0_0.length mkLnk (genC v0_0)).map lnkCv).length) (genC ((listC v0_0.length mkLnk (genC v0_0)).map lnkCv)) ∧ ∀ k, k < (txOf (((txOf (((txOf cs.length (txsC cs)).map txCv).length) (genC ((txOf cs.length (txsC cs)).map txCv))).map txCv).length) (genC ((txOf (((txOf cs.length (txsC cs)).map txCv).length) (genC ((txOf cs.length (txsC cs)).map txCv))).map txCv))).length → (txAt (txOf (((txOf (((txOf cs.length (txsC cs)).map txCv).length) (genC ((txOf cs.length (txsC cs)).map txCv))).map txCv).length) (genC ((txOf (((txOf cs.length (txsC cs)).map txCv).length) (genC ((txOf cs.length (txsC cs)).map txCv))).map txCv))) k).size ≤ 1000000) ∧ (cond ((cnE (txOf (((txOf (((txOf cs.length (txsC cs)).map txCv).length) (genC ((txOf cs.length (txsC cs)).map txCv))).map txCv).length) (genC ((txOf (((txOf cs.length (txsC cs)).map txCv).length) (genC ((txOf cs.length (txsC cs)).map txCv))).map txCv))) (listC (((listC v0_0.length mkLnk (genC v0_0)).map lnkCv).length) mkLnk (genC ((listC v0_0.length mkLnk (genC v0_0)).map lnkCv)))) == (12 : Int)) (post (.t (.c (.v (.bool ((nmdE (txOf (((txOf (((txOf cs.length (txsC cs)).map txCv).length) (genC ((txOf cs.length (txsC cs)).map txCv))).map txCv).length) (genC ((txOf (((txOf cs.length (txsC cs)).map txCv).length) (genC ((txOf cs.length (txsC cs)).map txCv))).map txCv))) (listC (((listC v0_0.length mkLnk (genC v0_0)).map lnkCv).length) mkLnk (genC ((listC v0_0.length mkLnk (genC v0_0)).map lnkCv)))) == (12 : Int))))))) ((cond ((cnE (txOf (((txOf (((txOf cs.length (txsC cs)).map txCv).length) (genC ((txOf cs.length (txsC cs)).map txCv))).map txCv).length) (genC ((txOf (((txOf cs.length (txsC cs)).map txCv).length) (genC ((txOf cs.length (txsC cs)).map txCv))).map txCv))) (listC (((listC v0_0.length mkLnk (genC v0_0)).map lnkCv).length) mkLnk (genC ((listC v0_0.length mkLnk (genC v0_0)).map lnkCv)))) != (0 : Int)) ((true = true) ∧ (True)) (True)) ∧ (lt ((bif ((cnE (txOf (((txOf (((txOf cs.length (txsC cs)).map txCv).length) (genC ((txOf cs.length (txsC cs)).map txCv))).map txCv).length) (genC ((txOf (((txOf cs.length (txsC cs)).map txCv).length) (genC ((txOf cs.length (txsC cs)).map txCv))).map txCv))) (listC (((listC v0_0.length mkLnk (genC v0_0)).map lnkCv).length) mkLnk (genC ((listC v0_0.length mkLnk (genC v0_0)).map lnkCv)))) != (0 : Int)) then true else ((nmdE (txOf (((txOf (((txOf cs.length (txsC cs)).map txCv).length) (genC ((txOf cs.length (txsC cs)).map txCv))).map txCv).length) (genC ((txOf (((txOf cs.length (txsC cs)).map txCv).length) (genC ((txOf cs.length (txsC cs)).map txCv))).map txCv))) (listC (((listC v0_0.length mkLnk (genC v0_0)).map lnkCv).length) mkLnk (genC ((listC v0_0.length mkLnk (genC v0_0)).map lnkCv)))) != (0 : Int)))) fun x12 => cond x12 (post (.t (.c (.v (.bool false))))) ((roomP 16 (([] : List (List CV)).length + ((List.range cs.length).map fun i => fwd ((txsC cs) i) 0 1).length)) ∧ (∃ n, J 2 (n :: []) (mk_law01_ClockNamed_2 cs ls o wh off v0_0 (([] : List (List CV)) ++ ((List.range cs.length).map fun i => fwd ((txsC cs) i) 0 1)) (nmdT (txOf (((txOf (((txOf cs.length (txsC cs)).map txCv).length) (genC ((txOf cs.length (txsC cs)).map txCv))).map txCv).length) (genC ((txOf (((txOf cs.length (txsC cs)).map txCv).length) (genC ((txOf cs.length (txsC cs)).map txCv))).map txCv))) (listC (((listC v0_0.length mkLnk (genC v0_0)).map lnkCv).length) mkLnk (genC ((listC v0_0.length mkLnk (genC v0_0)).map lnkCv)))) (-1) 1 v0_1))))))))))
theorem er_law01_ClockNamed_0 (J : Inv) (cs : List ByteArray) (ls : List Lnk) (o : List Int) (wh : Int) (off : List Int) (v0_0 : List (List CV)) (v0_1 : Int) (v0_2 : Int) (nn0 : Nat) (post : DV → Prop) : round Try.prog tab Sl0121 ann_law01_ClockNamed J Try.f14 post 0 (nn0 :: []) (mk_law01_ClockNamed_0 cs ls o wh off v0_0 v0_1 v0_2) = rd_law01_ClockNamed_0 J cs ls o wh off v0_0 v0_1 v0_2 nn0 post := by kernel_rfl
def rd_law01_ClockNamed_2 (J : Inv) (cs : List ByteArray) (ls : List Lnk) (o : List Int) (wh : Int) (off : List Int) (v2_0 : List (List CV)) (v2_1 : List (List CV)) (v2_2 : ByteArray) (v2_3 : Int) (v2_4 : Int) (v2_5 : Int) (nn2 : Nat) (post : DV → Prop) : Prop := cond (decide (v2_4 < ((cs.length : Nat) : Int))) ((0 ≤ v2_4 ∧ v2_4 < ((cs.length : Nat) : Int)) ∧ ((cond (((txAt cs v2_4.toNat) : ByteArray).toList == (v2_2 : ByteArray).toList) (True) (True)) ∧ (lt ((bif (((txAt cs v2_4.toNat) : ByteArray).toList == (v2_2 : ByteArray).toList) then v2_4 else v2_3)) fun x1 => lt (IntKind.i64.wrap (v2_4 + (1 : Int))) fun x2 => J 2 (nn2 :: []) (mk_law01_ClockNamed_2 cs ls o wh off v2_0 v2_1 v2_2 x1 x2 v2_5)))) ((cond (decide (v2_3 < (1 : Int))) ((true = true) ∧ (True)) (True)) ∧ (lt ((bif decide (v2_3 < (1 : Int)) then true else decide (v2_3 > v2_5))) fun x3 => cond x3 (post (.t (.c (.v (.bool false))))) (∃ n, J 4 (n :: []) (mk_law01_ClockNamed_4 cs ls o wh off v2_0 v2_1 ([]) v2_3 0))))
theorem er_law01_ClockNamed_2 (J : Inv) (cs : List ByteArray) (ls : List Lnk) (o : List Int) (wh : Int) (off : List Int) (v2_0 : List (List CV)) (v2_1 : List (List CV)) (v2_2 : ByteArray) (v2_3 : Int) (v2_4 : Int) (v2_5 : Int) (nn2 : Nat) (post : DV → Prop) : round Try.prog tab Sl0121 ann_law01_ClockNamed J Try.f14 post 1 (nn2 :: []) (mk_law01_ClockNamed_2 cs ls o wh off v2_0 v2_1 v2_2 v2_3 v2_4 v2_5) = rd_law01_ClockNamed_2 J cs ls o wh off v2_0 v2_1 v2_2 v2_3 v2_4 v2_5 nn2 post := by kernel_rfl
def rd_law01_ClockNamed_4 (J : Inv) (cs : List ByteArray) (ls : List Lnk) (o : List Int) (wh : Int) (off : List Int) (v4_0 : List (List CV)) (v4_1 : List (List CV)) (v4_2 : List (List CV)) (v4_3 : Int) (v4_4 : Int) (nn4 : Nat) (post : DV → Prop) : Prop := cond (decide (v4_4 < ((ls.length : Nat) : Int))) ((0 ≤ v4_4 ∧ v4_4 < ((ls.length : Nat) : Int)) ∧ ((cond (((lnkAt ls v4_4.toNat).frm) != v4_3) ((0 ≤ v4_4 ∧ v4_4 < ((ls.length : Nat) : Int)) ∧ (True)) ((false = false) ∧ (True))) ∧ (lt ((bif (((lnkAt ls v4_4.toNat).frm) != v4_3) then (((lnkAt ls v4_4.toNat).to) != v4_3) else false)) fun x1 => cond x1 ((0 ≤ v4_4 ∧ v4_4 < ((v4_0.length : Nat) : Int)) ∧ (((v4_4).toNat < v4_0.length ∧ (((genC v4_0 (v4_4).toNat 0) = .v (.int .i64 (cvInt (genC v4_0 (v4_4).toNat 0)))) ∧ (((genC v4_0 (v4_4).toNat 1) = .v (.int .i64 (cvInt (genC v4_0 (v4_4).toNat 1)))) ∧ (((genC v4_0 (v4_4).toNat 2) = .v (.int .i64 (cvInt (genC v4_0 (v4_4).toNat 2)))) ∧ (((genC v4_0 (v4_4).toNat 3) = .v (.int .i64 (cvInt (genC v4_0 (v4_4).toNat 3)))) ∧ (True)))))) ∧ ((roomP 32 (v4_2.length + ([[.v (.int .i64 (cvInt (genC v4_0 (v4_4).toNat 0))), .v (.int .i64 (cvInt (genC v4_0 (v4_4).toNat 1))), .v (.int .i64 (cvInt (genC v4_0 (v4_4).toNat 2))), .v (.int .i64 (cvInt (genC v4_0 (v4_4).toNat 3)))]] : List (List CV)).length)) ∧ (lt (IntKind.i64.wrap (v4_4 + (1 : Int))) fun x2 => J 4 (nn4 :: []) (mk_law01_ClockNamed_4 cs ls o wh off v4_0 v4_1 (v4_2 ++ ([[.v (.int .i64 (cvInt (genC v4_0 (v4_4).toNat 0))), .v (.int .i64 (cvInt (genC v4_0 (v4_4).toNat 1))), .v (.int .i64 (cvInt (genC v4_0 (v4_4).toNat 2))), .v (.int .i64 (cvInt (genC v4_0 (v4_4).toNat 3)))]] : List (List CV))) v4_3 x2))))) (lt (IntKind.i64.wrap (v4_4 + (1 : Int))) fun x3 => J 4 (nn4 :: []) (mk_law01_ClockNamed_4 cs ls o wh off v4_0 v4_1 v4_2 v4_3 x3))))) ((txP v4_1.length (genC v4_1) ∧ numsP 4 v4_2.length (genC v4_2) ∧ ∀ k, k < (txOf v4_1.length (genC v4_1)).length → (txAt (txOf v4_1.length (genC v4_1)) k).size ≤ 1000000) ∧ (post (.t (.c (.v (.bool ((cnE (txOf v4_1.length (genC v4_1)) (listC v4_2.length mkLnk (genC v4_2))) == (12 : Int))))))))
theorem er_law01_ClockNamed_4 (J : Inv) (cs : List ByteArray) (ls : List Lnk) (o : List Int) (wh : Int) (off : List Int) (v4_0 : List (List CV)) (v4_1 : List (List CV)) (v4_2 : List (List CV)) (v4_3 : Int) (v4_4 : Int) (nn4 : Nat) (post : DV → Prop) : round Try.prog tab Sl0121 ann_law01_ClockNamed J Try.f14 post 2 (nn4 :: []) (mk_law01_ClockNamed_4 cs ls o wh off v4_0 v4_1 v4_2 v4_3 v4_4) = rd_law01_ClockNamed_4 J cs ls o wh off v4_0 v4_1 v4_2 v4_3 v4_4 nn4 post := by kernel_rfl
theorem lp_law01_ClockNamed (J : Inv) (post : DV → Prop) : AllG J (loopsFn Try.prog tab Sl0121 ann_law01_ClockNamed J Try.f14 post) = (((∀ F s, ¬ J 0 (0 :: F) s) ∧ ∀ n F s, J 0 ((n + 1) :: F) s → round Try.prog tab Sl0121 ann_law01_ClockNamed J Try.f14 post 0 (n :: F) s) ∧ ((∀ F s, ¬ J 2 (0 :: F) s) ∧ ∀ n F s, J 2 ((n + 1) :: F) s → round Try.prog tab Sl0121 ann_law01_ClockNamed J Try.f14 post 1 (n :: F) s) ∧ ((∀ F s, ¬ J 4 (0 :: F) s) ∧ ∀ n F s, J 4 ((n + 1) :: F) s → round Try.prog tab Sl0121 ann_law01_ClockNamed J Try.f14 post 2 (n :: F) s) ∧ True) := by kernel_rfl
def J_law01_ClockNamed (cs : List ByteArray) (ls : List Lnk) (o : List Int) (wh : Int) (off : List Int) : Inv := fun b F s => match b, F with
 | 0, [nn0] => ∃ (v0_0 : List (List CV)) (v0_1 : Int) (v0_2 : Int), s = mk_law01_ClockNamed_0 cs ls o wh off v0_0 v0_1 v0_2 ∧ ((fwL cs ls = true ∧ ntE cs ls = 0 ∧ ls.length ≤ 8 ∧ o.length = cs.length ∧ 2 ≤ cs.length) ∧ v0_1 = 1 + wh % ((cs.length : Int) - 1) ∧ 0 ≤ v0_2 ∧ v0_2 ≤ ls.length ∧ (nn0 : Int) + v0_2 = ls.length + 1 ∧ v0_0 = (lieK ls o off v0_1 v0_2.toNat).map lnkCv ∧ (∀ j : Nat, (j : Int) < v0_2 → oB ls o j))
 | 2, [nn2] => ∃ (v2_0 : List (List CV)) (v2_1 : List (List CV)) (v2_2 : ByteArray) (v2_3 : Int) (v2_4 : Int) (v2_5 : Int), s = mk_law01_ClockNamed_2 cs ls o wh off v2_0 v2_1 v2_2 v2_3 v2_4 v2_5 ∧ ((fwL cs ls = true ∧ ntE cs ls = 0 ∧ ls.length ≤ 8 ∧ o.length = cs.length ∧ 2 ≤ cs.length) ∧ v2_5 = 1 + wh % ((cs.length : Int) - 1) ∧ v2_0 = (lieLs ls o off v2_5).map lnkCv ∧ v2_1 = cs.map txCv ∧ (∀ j, j < ls.length → oB ls o j) ∧ 1 ≤ v2_4 ∧ v2_4 ≤ cs.length ∧ (nn2 : Int) + v2_4 = cs.length + 1 ∧ ∃ q : Nat, 1 ≤ q ∧ (q : Int) ≤ v2_5 ∧ v2_2 = txAt cs q ∧ bdB (selL (lieLs ls o off v2_5) (woI (lieLs ls o off v2_5) q)) cs.length = true ∧ v2_3 = if (q : Int) < v2_4 then (q : Int) else -1)
 | 4, [nn4] => ∃ (v4_0 : List (List CV)) (v4_1 : List (List CV)) (v4_2 : List (List CV)) (v4_3 : Int) (v4_4 : Int), s = mk_law01_ClockNamed_4 cs ls o wh off v4_0 v4_1 v4_2 v4_3 v4_4 ∧ ((fwL cs ls = true ∧ ntE cs ls = 0 ∧ ls.length ≤ 8 ∧ o.length = cs.length ∧ 2 ≤ cs.length) ∧ v4_1 = cs.map txCv ∧ (∀ j, j < ls.length → oB ls o j) ∧ 1 ≤ v4_3 ∧ 0 ≤ v4_4 ∧ v4_4 ≤ ls.length ∧ (nn4 : Int) + v4_4 = ls.length + 1 ∧ ∃ w : Int, v4_0 = (lieLs ls o off w).map lnkCv ∧ bdB (selL (lieLs ls o off w) (woI (lieLs ls o off w) v4_3)) cs.length = true ∧ v4_2 = (selL (lieLs ls o off w) (woK (lieLs ls o off w) v4_3 v4_4.toNat)).map lnkCv)
 | _, _ => False
set_option maxHeartbeats 8000000 in
set_option maxRecDepth 100000 in
theorem rnd_law01_ClockNamed_0 (cs : List ByteArray) (ls : List Lnk) (o : List Int) (wh : Int) (off : List Int) (v0_0 : List (List CV)) (v0_1 : Int) (v0_2 : Int) (nn0 : Nat) (hi : (fwL cs ls = true ∧ ntE cs ls = 0 ∧ ls.length ≤ 8 ∧ o.length = cs.length ∧ 2 ≤ cs.length) ∧ v0_1 = 1 + wh % ((cs.length : Int) - 1) ∧ 0 ≤ v0_2 ∧ v0_2 ≤ ls.length ∧ ((nn0 + 1) : Int) + v0_2 = ls.length + 1 ∧ v0_0 = (lieK ls o off v0_1 v0_2.toNat).map lnkCv ∧ (∀ j : Nat, (j : Int) < v0_2 → oB ls o j)) : rd_law01_ClockNamed_0 (J_law01_ClockNamed cs ls o wh off) cs ls o wh off v0_0 v0_1 v0_2 nn0 (fun r => LeD r (.t (.c (.v (.bool true))))) := by
 obtain ⟨⟨q1, q2, q3, q4, q5⟩, i0, i1, i2, i3, i4, i5⟩ := hi
 obtain ⟨k, rfl⟩ : ∃ k : Nat, v0_2 = k := ⟨v0_2.toNat, by omega⟩
 have hk : (k : Int).toNat = k := rfl
 rw [hk] at i4
 obtain ⟨z1, z2, z3⟩ := ntE_bd q2
 rw [Int.toNat_natCast] at z3
 have hn : cs.length ≤ 6 := by omega
 obtain ⟨f1, f2, f3⟩ := fwL_ok q1
 have hs : ∀ k, k < cs.length → (txAt cs k).size ≤ 1000000 := fun k hk => by have := f3 k hk; omega
 have n1 := txP_txs cs
 have n2 := numsP_lnks ls
 have n3 := txP_txg cs
 have hm := Int.emod_nonneg wh (show ((cs.length : Int) - 1) ≠ 0 by omega)
 have hm2 := Int.emod_lt_of_pos wh (show 0 < ((cs.length : Int) - 1) by omega)
 unfold rd_law01_ClockNamed_0
 simp only [ints_listC, lpps_listC, pngs_listC, rgs_listC, txs_of, lnks_listC, lnkg_listC, txg_of]
 rw [hk]
 refine cond_i (fun h => ?_) (fun h => ?_)
 ·have hlt : k < ls.length := by have := of_decide_eq_true h; omega
  obtain ⟨⟨a1, a2⟩, ⟨a3, a4⟩, a5, a6, a7, a8⟩ := z3 k hlt
  refine ⟨by omega, by omega, ⟨cond_i (fun _ => ⟨trivial, trivial, trivial⟩) (fun _ => ⟨by omega, cond_i (fun _ => ⟨trivial, trivial⟩) (fun _ => trivial)⟩), lt_i fun x1 h1 => cond_i (fun _ => LeD.refl _) (fun g1 => ?_)⟩⟩
  subst h1
  cases c1 : inB (o.getD (lnkAt ls k).frm.toNat 0) (-1000000) 1000000 with
  | false => rw [c1] at g1; cases g1
  | true =>
  cases c2 : inB (o.getD (lnkAt ls k).to.toNat 0) (-1000000) 1000000 with
  | false => rw [c1, c2] at g1; cases g1
  | true =>
  rw [c1, c2] at g1
  have c3 : ((off.length : Int) == 0) = false := g1
  have c3 : off.length ≠ 0 := by simpa using c3
  unfold inB at c1 c2
  rw [Bool.and_eq_true] at c1 c2
  have d1 := of_decide_eq_true c1.1
  have d2 := of_decide_eq_true c1.2
  have d3 := of_decide_eq_true c2.1
  have d4 := of_decide_eq_true c2.2
  have hob : oB ls o k := ⟨⟨d1, d2⟩, d3, d4⟩
  have tm := tmodN k off.length
  have tl : k % off.length < off.length := Nat.mod_lt _ (by omega)
  have e1 := Int.emod_nonneg (off.getD (k % off.length) 0) (show (100 : Int) ≠ 0 by omega)
  have e2 := Int.emod_lt_of_pos (off.getD (k % off.length) 0) (show (0 : Int) < 100 by omega)
  refine ⟨by omega, by omega, lt_i fun x2 h2 => ⟨cond_i (fun _ => ⟨trivial, trivial⟩) (fun _ => trivial), lt_i fun x3 h3 => ⟨cond_i (fun _ => lt_i fun x6 h6 => ⟨⟨by trivial, by omega⟩, by rw [← h6, tm]; omega, by omega, lt_i fun _ _ => trivial⟩) (fun _ => trivial), lt_i fun x8 h8 => lt_i fun x9 h9 => lt_i fun x10 h10 => ⟨?_, ?_, lt_i fun x11 h11 => ?_⟩⟩⟩⟩
  ·rw [i4, List.length_map, lieK_len (by omega)]; omega
  ·rw [i4, List.length_map, lieK_len (by omega)]; omega
  ·rw [wi (by omega)] at h2 h11
   rw [tm, Int.toNat_natCast] at h8
   have h8' : x8 = lieD ls o off v0_1 k := by
    unfold lieD
    rw [← h8, ← h3, ← h2]
    cases ((lnkAt ls k).frm == v0_1) with
    | true =>
     simp only [_root_.cond_true, Bool.true_or, if_true]
     exact wi (by omega)
    | false =>
     cases ((lnkAt ls k).to == v0_1) with
     | true =>
      simp only [_root_.cond_true, _root_.cond_false, Bool.or_true, if_true]
      exact wi (by omega)
     | false => simp
   have hr := lieD_rg (off := off) (w := v0_1) hob
   rw [h8', wi (by omega)] at h9 h10
   subst h11
   refine ⟨_, _, _, rfl, ⟨q1, q2, q3, q4, q5⟩, i0, by omega, by omega, by omega, ?_, fun j hj => ?_⟩
   ·rw [i4, lieK_set hlt h9.symm h10.symm, show ((k : Int) + 1).toNat = k + 1 by omega]
   ·rcases (by omega : (j : Int) < k ∨ j = k) with c | rfl
    ·exact i5 j c
    ·exact hob
 ·have h := of_decide_eq_false h
  obtain rfl : k = ls.length := by omega
  rw [lieK_all] at i4
  subst i4
  obtain ⟨w, hw⟩ : ∃ w : Nat, v0_1 = w := ⟨v0_1.toNat, by omega⟩
  subst hw
  have hob : ∀ j, j < ls.length → oB ls o j := fun j hj => i5 j (by omega)
  have ll := lie_len ls o off w
  have ok1 := lie_ok (off := off) (w := w) z3 hob
  have hz1 : ntE cs (lieLs ls o off w) = 0 := ntE_of q2 (by omega) ok1
  have n4 := numsP_lnkg (lieLs ls o off w)
  simp only [ints_listC, lpps_listC, pngs_listC, rgs_listC, txs_of, lnks_listC, lnkg_listC, txg_of]
  refine ⟨⟨n3, n4, by omega, by omega⟩, ⟨n3, n4, hs⟩, ⟨n3, n4, by omega, by omega⟩, ⟨n3, n4, hs⟩, ?_⟩
  rcases lie_named hz1 (w := w) (by omega) (by omega) (lie_free hn z3 hob) with ⟨b1, b2⟩ | ⟨b1, b2, p, p1, p2, p3, p4⟩
  ·simp only [b1, b2, n00, beq_self_eq_true, bne_self_eq_false, Bool.not_true, Bool.not_false, _root_.cond_true, _root_.cond_false, decide_true, eq_self_iff_true, List.length_nil, lt_v, q2a, q2b, q12a, q12b, q13a, q13b, wr00, nums_ints, nums_ints, t12_0, t0_0, k0_12, k12_12, k12_0, k12t, beq_self_eq_true]
   (repeat' with_reducible first | assumption | trivial | (refine And.intro ?_ ?_))
   all_goals first | omega | exact LeD.refl _ | exact leB rfl | exact numsP_ints _
  ·simp only [b1, b2, n00, beq_self_eq_true, bne_self_eq_false, Bool.not_true, Bool.not_false, _root_.cond_true, _root_.cond_false, decide_true, eq_self_iff_true, List.length_nil, lt_v, q2a, q2b, q12a, q12b, q13a, q13b, wr00, nums_ints, nums_ints, t12_0, t0_0, k0_12, k12_12, k12_0, k12t, beq_self_eq_true]
   have hJ : ∃ n, J_law01_ClockNamed cs ls o wh off 2 (n :: []) (mk_law01_ClockNamed_2 cs ls o wh off ((lieLs ls o off w).map lnkCv) ([] ++ ((List.range cs.length).map fun i => fwd ((txsC cs) i) 0 1)) (nmdT cs (lieLs ls o off w)) (-1) 1 w) :=
    ⟨cs.length, _, _, _, _, _, _, rfl, ⟨q1, q2, q3, q4, q5⟩, i0, rfl, by rw [txs_fwd]; rfl, hob, by omega, by omega, by omega, p, p1, by omega, p3, p4, by rw [if_neg (by omega)]⟩
   (repeat' with_reducible first | assumption | trivial | (refine And.intro ?_ ?_))
   all_goals first | exact hJ | (unfold roomP maxLen; simp; omega)
theorem zero_law01_ClockNamed_0 (cs : List ByteArray) (ls : List Lnk) (o : List Int) (wh : Int) (off : List Int) (v0_0 : List (List CV)) (v0_1 : Int) (v0_2 : Int)  (hi : (fwL cs ls = true ∧ ntE cs ls = 0 ∧ ls.length ≤ 8 ∧ o.length = cs.length ∧ 2 ≤ cs.length) ∧ v0_1 = 1 + wh % ((cs.length : Int) - 1) ∧ 0 ≤ v0_2 ∧ v0_2 ≤ ls.length ∧ (0 : Int) + v0_2 = ls.length + 1 ∧ v0_0 = (lieK ls o off v0_1 v0_2.toNat).map lnkCv ∧ (∀ j : Nat, (j : Int) < v0_2 → oB ls o j)) : False := by
 omega
set_option maxHeartbeats 8000000 in
set_option maxRecDepth 100000 in
theorem rnd_law01_ClockNamed_2 (cs : List ByteArray) (ls : List Lnk) (o : List Int) (wh : Int) (off : List Int) (v2_0 : List (List CV)) (v2_1 : List (List CV)) (v2_2 : ByteArray) (v2_3 : Int) (v2_4 : Int) (v2_5 : Int) (nn2 : Nat) (hi : (fwL cs ls = true ∧ ntE cs ls = 0 ∧ ls.length ≤ 8 ∧ o.length = cs.length ∧ 2 ≤ cs.length) ∧ v2_5 = 1 + wh % ((cs.length : Int) - 1) ∧ v2_0 = (lieLs ls o off v2_5).map lnkCv ∧ v2_1 = cs.map txCv ∧ (∀ j, j < ls.length → oB ls o j) ∧ 1 ≤ v2_4 ∧ v2_4 ≤ cs.length ∧ ((nn2 + 1) : Int) + v2_4 = cs.length + 1 ∧ ∃ q : Nat, 1 ≤ q ∧ (q : Int) ≤ v2_5 ∧ v2_2 = txAt cs q ∧ bdB (selL (lieLs ls o off v2_5) (woI (lieLs ls o off v2_5) q)) cs.length = true ∧ v2_3 = if (q : Int) < v2_4 then (q : Int) else -1) : rd_law01_ClockNamed_2 (J_law01_ClockNamed cs ls o wh off) cs ls o wh off v2_0 v2_1 v2_2 v2_3 v2_4 v2_5 nn2 (fun r => LeD r (.t (.c (.v (.bool true))))) := by
 obtain ⟨⟨q1, q2, q3, q4, q5⟩, i0, i1, i2, i3, i4, i5, i6, p, p1, p2, p3, p4, p5⟩ := hi
 obtain ⟨k, rfl⟩ : ∃ k : Nat, v2_4 = k := ⟨v2_4.toNat, by omega⟩
 have hk : (k : Int).toNat = k := rfl
 obtain ⟨z1, z2, z3⟩ := ntE_bd q2
 rw [Int.toNat_natCast] at z3
 have hn : cs.length ≤ 6 := by omega
 obtain ⟨f1, f2, f3⟩ := fwL_ok q1
 have hs : ∀ k, k < cs.length → (txAt cs k).size ≤ 1000000 := fun k hk => by have := f3 k hk; omega
 have n1 := txP_txs cs
 have n2 := numsP_lnks ls
 have n3 := txP_txg cs
 have hm2 := Int.emod_lt_of_pos wh (show 0 < ((cs.length : Int) - 1) by omega)
 unfold rd_law01_ClockNamed_2
 simp only [ints_listC, lpps_listC, pngs_listC, rgs_listC, txs_of, lnks_listC, lnkg_listC, txg_of]
 rw [hk]
 refine cond_i (fun h => ?_) (fun h => ?_)
 ·have hlt : k < cs.length := by have := of_decide_eq_true h; omega
  refine ⟨by omega, cond_i (fun _ => trivial) (fun _ => trivial), lt_i fun x1 h1 => lt_i fun x2 h2 => ?_⟩
  rw [wi (by omega)] at h2
  subst h2
  refine ⟨_, _, _, _, _, _, rfl, ⟨q1, q2, q3, q4, q5⟩, i0, i1, i2, i3, by omega, by omega, by omega, p, p1, p2, p3, p4, ?_⟩
  rw [← h1, p3, ← beq_toListBytes]
  by_cases e : k = p
  ·subst e
   rw [show (txAt cs k == txAt cs k) = true from beq_self_eq_true _, if_pos (by omega)]
   rfl
  ·have : (txAt cs k == txAt cs p) = false := beq_eq_false_iff_ne.2 fun c => e (names_apart q2 hlt (by omega) c)
   rw [this, p5]
   by_cases c : (p : Int) < k
   ·rw [if_pos c, if_pos (by omega)]; rfl
   ·rw [if_neg c, if_neg (by omega)]; rfl
 ·have h := of_decide_eq_false h
  obtain rfl : k = cs.length := by omega
  rw [if_pos (by omega)] at p5
  subst p5
  have hJ : ∃ n, J_law01_ClockNamed cs ls o wh off 4 (n :: []) (mk_law01_ClockNamed_4 cs ls o wh off v2_0 v2_1 [] p 0) := ⟨ls.length + 1, _, _, _, _, _, rfl, ⟨q1, q2, q3, q4, q5⟩, i2, i3, by omega, by omega, by omega, by omega, v2_5, i1, p4, rfl⟩
  simp only [decide_eq_false (show ¬ (p : Int) < 1 by omega), decide_eq_false (show ¬ (p : Int) > v2_5 by omega), n00, beq_self_eq_true, bne_self_eq_false, Bool.not_true, Bool.not_false, _root_.cond_true, _root_.cond_false, decide_true, eq_self_iff_true, List.length_nil, lt_v, q2a, q2b, q12a, q12b, q13a, q13b, wr00, nums_ints, nums_ints, t12_0, t0_0, k0_12, k12_12, k12_0, k12t, beq_self_eq_true]
  first | exact hJ | exact ⟨trivial, hJ⟩
theorem zero_law01_ClockNamed_2 (cs : List ByteArray) (ls : List Lnk) (o : List Int) (wh : Int) (off : List Int) (v2_0 : List (List CV)) (v2_1 : List (List CV)) (v2_2 : ByteArray) (v2_3 : Int) (v2_4 : Int) (v2_5 : Int)  (hi : (fwL cs ls = true ∧ ntE cs ls = 0 ∧ ls.length ≤ 8 ∧ o.length = cs.length ∧ 2 ≤ cs.length) ∧ v2_5 = 1 + wh % ((cs.length : Int) - 1) ∧ v2_0 = (lieLs ls o off v2_5).map lnkCv ∧ v2_1 = cs.map txCv ∧ (∀ j, j < ls.length → oB ls o j) ∧ 1 ≤ v2_4 ∧ v2_4 ≤ cs.length ∧ (0 : Int) + v2_4 = cs.length + 1 ∧ ∃ q : Nat, 1 ≤ q ∧ (q : Int) ≤ v2_5 ∧ v2_2 = txAt cs q ∧ bdB (selL (lieLs ls o off v2_5) (woI (lieLs ls o off v2_5) q)) cs.length = true ∧ v2_3 = if (q : Int) < v2_4 then (q : Int) else -1) : False := by
 omega
set_option maxHeartbeats 8000000 in
set_option maxRecDepth 100000 in
theorem rnd_law01_ClockNamed_4 (cs : List ByteArray) (ls : List Lnk) (o : List Int) (wh : Int) (off : List Int) (v4_0 : List (List CV)) (v4_1 : List (List CV)) (v4_2 : List (List CV)) (v4_3 : Int) (v4_4 : Int) (nn4 : Nat) (hi : (fwL cs ls = true ∧ ntE cs ls = 0 ∧ ls.length ≤ 8 ∧ o.length = cs.length ∧ 2 ≤ cs.length) ∧ v4_1 = cs.map txCv ∧ (∀ j, j < ls.length → oB ls o j) ∧ 1 ≤ v4_3 ∧ 0 ≤ v4_4 ∧ v4_4 ≤ ls.length ∧ ((nn4 + 1) : Int) + v4_4 = ls.length + 1 ∧ ∃ w : Int, v4_0 = (lieLs ls o off w).map lnkCv ∧ bdB (selL (lieLs ls o off w) (woI (lieLs ls o off w) v4_3)) cs.length = true ∧ v4_2 = (selL (lieLs ls o off w) (woK (lieLs ls o off w) v4_3 v4_4.toNat)).map lnkCv) : rd_law01_ClockNamed_4 (J_law01_ClockNamed cs ls o wh off) cs ls o wh off v4_0 v4_1 v4_2 v4_3 v4_4 nn4 (fun r => LeD r (.t (.c (.v (.bool true))))) := by
 obtain ⟨⟨q1, q2, q3, q4, q5⟩, i0, i1, i2, i3, i4, i5, w, p1, p2, p3⟩ := hi
 obtain ⟨k, rfl⟩ : ∃ k : Nat, v4_4 = k := ⟨v4_4.toNat, by omega⟩
 have hk : (k : Int).toNat = k := rfl
 rw [hk] at p3
 obtain ⟨z1, z2, z3⟩ := ntE_bd q2
 rw [Int.toNat_natCast] at z3
 have hn : cs.length ≤ 6 := by omega
 obtain ⟨f1, f2, f3⟩ := fwL_ok q1
 have hs : ∀ k, k < cs.length → (txAt cs k).size ≤ 1000000 := fun k hk => by have := f3 k hk; omega
 have n1 := txP_txs cs
 have n2 := numsP_lnks ls
 have n3 := txP_txg cs
 have ll := lie_len ls o off w
 have ok1 := lie_ok (off := off) (w := w) z3 i1
 have hl := woK_len (lieLs ls o off w) v4_3 k
 unfold rd_law01_ClockNamed_4
 simp only [ints_listC, lpps_listC, pngs_listC, rgs_listC, txs_of, lnks_listC, lnkg_listC, txg_of]
 rw [hk]
 subst p1
 refine cond_i (fun h => ?_) (fun h => ?_)
 ·have hlt : k < ls.length := by have := of_decide_eq_true h; omega
  refine ⟨by omega, cond_i (fun _ => ⟨by omega, trivial⟩) (fun _ => ⟨by trivial, trivial⟩), lt_i fun x1 h1 => ?_⟩
  have e1 : x1 = ((lnkAt (lieLs ls o off w) k).frm != v4_3 && (lnkAt (lieLs ls o off w) k).to != v4_3) := by
   rw [← h1, lie_at hlt]
   show _ = ((lnkAt ls k).frm != v4_3 && (lnkAt ls k).to != v4_3)
   cases ((lnkAt ls k).frm != v4_3) <;> rfl
  subst e1
  have gc : ∀ j, j < 4 → genC ((lieLs ls o off w).map lnkCv) k j = lnksC (lieLs ls o off w) k j := fun j hj => lnkg_cell (by omega) hj
  refine cond_i (fun g => ?_) (fun g => lt_i fun x hx => ?_)
  ·refine ⟨by rw [List.length_map]; omega, ⟨by rw [List.length_map]; omega, ?_⟩, ?_, lt_i fun x hx => ?_⟩
   ·rw [gc 0 (by omega), gc 1 (by omega), gc 2 (by omega), gc 3 (by omega)]
    exact ⟨rfl, rfl, rfl, rfl, trivial⟩
   ·unfold roomP maxLen; rw [p3]; simp [selL]; omega
   ·rw [wi (by omega)] at hx
    subst hx
    refine ⟨_, _, _, _, _, rfl, ⟨q1, q2, q3, q4, q5⟩, i0, i1, i2, by omega, by omega, by omega, w, rfl, p2, ?_⟩
    rw [gc 0 (by omega), gc 1 (by omega), gc 2 (by omega), gc 3 (by omega), p3, show ((k : Int) + 1).toNat = k + 1 by omega, woK_succ, if_pos g, selL, selL, List.map_append, List.map_append]
    rfl
  ·rw [wi (by omega)] at hx
   subst hx
   refine ⟨_, _, _, _, _, rfl, ⟨q1, q2, q3, q4, q5⟩, i0, i1, i2, by omega, by omega, by omega, w, rfl, p2, ?_⟩
   rw [p3, show ((k : Int) + 1).toNat = k + 1 by omega, woK_succ, if_neg (by rw [g]; simp), List.append_nil]
 ·have h := of_decide_eq_false h
  obtain rfl : k = ls.length := by omega
  have e0 : woK (lieLs ls o off w) v4_3 ls.length = woI (lieLs ls o off w) v4_3 := by unfold woI; rw [ll]
  rw [e0] at p3
  subst p3 i0
  have n4 := numsP_lnkg (selL (lieLs ls o off w) (woI (lieLs ls o off w) v4_3))
  have ok2 := sel_ok ok1 (wo_ok (lieLs ls o off w) v4_3)
  have hz2 : ntE cs (selL (lieLs ls o off w) (woI (lieLs ls o off w) v4_3)) = 0 := ntE_of q2 (by rw [sel_len, ← e0]; omega) ok2
  simp only [ints_listC, lpps_listC, pngs_listC, rgs_listC, txs_of, lnks_listC, lnkg_listC, txg_of, cn_free hz2 p2]
  exact ⟨⟨n3, n4, hs⟩, LeD.refl _⟩
theorem zero_law01_ClockNamed_4 (cs : List ByteArray) (ls : List Lnk) (o : List Int) (wh : Int) (off : List Int) (v4_0 : List (List CV)) (v4_1 : List (List CV)) (v4_2 : List (List CV)) (v4_3 : Int) (v4_4 : Int)  (hi : (fwL cs ls = true ∧ ntE cs ls = 0 ∧ ls.length ≤ 8 ∧ o.length = cs.length ∧ 2 ≤ cs.length) ∧ v4_1 = cs.map txCv ∧ (∀ j, j < ls.length → oB ls o j) ∧ 1 ≤ v4_3 ∧ 0 ≤ v4_4 ∧ v4_4 ≤ ls.length ∧ (0 : Int) + v4_4 = ls.length + 1 ∧ ∃ w : Int, v4_0 = (lieLs ls o off w).map lnkCv ∧ bdB (selL (lieLs ls o off w) (woI (lieLs ls o off w) v4_3)) cs.length = true ∧ v4_2 = (selL (lieLs ls o off w) (woK (lieLs ls o off w) v4_3 v4_4.toNat)).map lnkCv) : False := by
 omega
set_option maxHeartbeats 8000000 in
set_option maxRecDepth 100000 in
theorem spec_law01_ClockNamed (cs : List ByteArray) (ls : List Lnk) (o : List Int) (wh : Int) (off : List Int) : vc_law01_ClockNamed (J_law01_ClockNamed cs ls o wh off) cs ls o wh off (fun r => LeD r (.t (.c (.v (.bool true))))) := by
 unfold vc_law01_ClockNamed
 simp only [ints_listC, lpps_listC, pngs_listC, rgs_listC, txs_of, lnks_listC, lnkg_listC, txg_of]
 have n1 := txP_txs cs
 have n2 := numsP_lnks ls
 cases hf : fwL cs ls with
 | false =>
  simp only [n00, beq_self_eq_true, bne_self_eq_false, Bool.not_true, Bool.not_false, _root_.cond_true, _root_.cond_false, decide_true, eq_self_iff_true, List.length_nil, lt_v, q2a, q2b, q12a, q12b, q13a, q13b, wr00, nums_ints, nums_ints, t12_0, t0_0, k0_12, k12_12, k12_0, k12t, beq_self_eq_true]
  (repeat' with_reducible first | assumption | trivial | (refine And.intro ?_ ?_))
  all_goals first | omega | exact LeD.refl _ | exact leB rfl | exact numsP_ints _
 | true =>
 obtain ⟨f1, f2, f3⟩ := fwL_ok hf
 have hs : ∀ k, k < cs.length → (txAt cs k).size ≤ 1000000 := fun k hk => by have := f3 k hk; omega
 by_cases hz : ntE cs ls = 0
 case neg =>
  simp only [show (ntE cs ls != 0) = true from by simpa using hz, n00, beq_self_eq_true, bne_self_eq_false, Bool.not_true, Bool.not_false, _root_.cond_true, _root_.cond_false, decide_true, eq_self_iff_true, List.length_nil, lt_v, q2a, q2b, q12a, q12b, q13a, q13b, wr00, nums_ints, nums_ints, t12_0, t0_0, k0_12, k12_12, k12_0, k12t, beq_self_eq_true]
  (repeat' with_reducible first | assumption | trivial | (refine And.intro ?_ ?_))
  all_goals first | omega | exact LeD.refl _ | exact leB rfl | exact numsP_ints _
 have nz : (ntE cs ls != 0) = false := by simpa using hz
 by_cases h8 : ls.length ≤ 8
 case neg =>
  simp only [nz, decide_eq_true (show ((ls.length : Nat) : Int) > 8 by omega), n00, beq_self_eq_true, bne_self_eq_false, Bool.not_true, Bool.not_false, _root_.cond_true, _root_.cond_false, decide_true, eq_self_iff_true, List.length_nil, lt_v, q2a, q2b, q12a, q12b, q13a, q13b, wr00, nums_ints, nums_ints, t12_0, t0_0, k0_12, k12_12, k12_0, k12t, beq_self_eq_true]
  (repeat' with_reducible first | assumption | trivial | (refine And.intro ?_ ?_))
  all_goals first | omega | exact LeD.refl _ | exact leB rfl | exact numsP_ints _
 have d8 := decide_eq_false (show ¬ ((ls.length : Nat) : Int) > 8 by omega)
 by_cases ho : o.length = cs.length
 case neg =>
  simp only [nz, d8, show (((o.length : Nat) : Int) != ((cs.length : Nat) : Int)) = true from by simp; omega, n00, beq_self_eq_true, bne_self_eq_false, Bool.not_true, Bool.not_false, _root_.cond_true, _root_.cond_false, decide_true, eq_self_iff_true, List.length_nil, lt_v, q2a, q2b, q12a, q12b, q13a, q13b, wr00, nums_ints, nums_ints, t12_0, t0_0, k0_12, k12_12, k12_0, k12t, beq_self_eq_true]
  (repeat' with_reducible first | assumption | trivial | (refine And.intro ?_ ?_))
  all_goals first | omega | exact LeD.refl _ | exact leB rfl | exact numsP_ints _
 have d9 : (((o.length : Nat) : Int) != ((cs.length : Nat) : Int)) = false := by simp; omega
 by_cases h2 : 2 ≤ cs.length
 case neg =>
  simp only [nz, d8, d9, decide_eq_true (show ((cs.length : Nat) : Int) < 2 by omega), n00, beq_self_eq_true, bne_self_eq_false, Bool.not_true, Bool.not_false, _root_.cond_true, _root_.cond_false, decide_true, eq_self_iff_true, List.length_nil, lt_v, q2a, q2b, q12a, q12b, q13a, q13b, wr00, nums_ints, nums_ints, t12_0, t0_0, k0_12, k12_12, k12_0, k12t, beq_self_eq_true]
  (repeat' with_reducible first | assumption | trivial | (refine And.intro ?_ ?_))
  all_goals first | omega | exact LeD.refl _ | exact leB rfl | exact numsP_ints _
 simp only [nz, d8, d9, decide_eq_false (show ¬ ((cs.length : Nat) : Int) < 2 by omega), n00, beq_self_eq_true, bne_self_eq_false, Bool.not_true, Bool.not_false, _root_.cond_true, _root_.cond_false, decide_true, eq_self_iff_true, List.length_nil, lt_v, q2a, q2b, q12a, q12b, q13a, q13b, wr00, nums_ints, nums_ints, t12_0, t0_0, k0_12, k12_12, k12_0, k12t, beq_self_eq_true]
 have hm := Int.emod_nonneg wh (show ((cs.length : Int) - 1) ≠ 0 by omega)
 have hm2 := Int.emod_lt_of_pos wh (show 0 < ((cs.length : Int) - 1) by omega)
 rw [wi (show -9000000000000000000 ≤ ((cs.length : Nat) : Int) - 1 ∧ ((cs.length : Nat) : Int) - 1 ≤ 9000000000000000000 by omega), wi (by omega)]
 have hJ : ∃ n, J_law01_ClockNamed cs ls o wh off 0 (n :: []) (mk_law01_ClockNamed_0 cs ls o wh off (ls.map lnkCv) (1 + wh % ((cs.length : Int) - 1)) 0) := ⟨ls.length + 1, _, _, _, rfl, ⟨hf, hz, h8, ho, h2⟩, rfl, by omega, by omega, by omega, by unfold lieK; simp, fun j hj => by omega⟩
 (repeat' with_reducible first | assumption | trivial | (refine And.intro ?_ ?_))
 all_goals first | exact hJ | omega
theorem all_law01_ClockNamed (cs : List ByteArray) (ls : List Lnk) (o : List Int) (wh : Int) (off : List Int) : AllG (J_law01_ClockNamed cs ls o wh off) (loopsFn Try.prog tab Sl0121 ann_law01_ClockNamed (J_law01_ClockNamed cs ls o wh off) Try.f14 (fun r => LeD r (.t (.c (.v (.bool true)))))) := by
 rw [lp_law01_ClockNamed]
 refine ⟨⟨?_, ?_⟩, ⟨?_, ?_⟩, ⟨?_, ?_⟩, trivial⟩
 ·intro F s h
  obtain _ | ⟨g, F⟩ := F
  case cons => exact h.elim
  obtain ⟨w0, w1, w2, rfl, hi⟩ := h
  exact zero_law01_ClockNamed_0 cs ls o wh off w0 w1 w2 hi
 ·intro n F s h
  obtain _ | ⟨g, F⟩ := F
  case cons => exact h.elim
  obtain ⟨w0, w1, w2, rfl, hi⟩ := h
  rw [er_law01_ClockNamed_0]
  exact rnd_law01_ClockNamed_0 cs ls o wh off _ _ _ _ hi
 ·intro F s h
  obtain _ | ⟨g, F⟩ := F
  case cons => exact h.elim
  obtain ⟨w0, w1, w2, w3, w4, w5, rfl, hi⟩ := h
  exact zero_law01_ClockNamed_2 cs ls o wh off w0 w1 w2 w3 w4 w5 hi
 ·intro n F s h
  obtain _ | ⟨g, F⟩ := F
  case cons => exact h.elim
  obtain ⟨w0, w1, w2, w3, w4, w5, rfl, hi⟩ := h
  rw [er_law01_ClockNamed_2]
  exact rnd_law01_ClockNamed_2 cs ls o wh off _ _ _ _ _ _ _ hi
 ·intro F s h
  obtain _ | ⟨g, F⟩ := F
  case cons => exact h.elim
  obtain ⟨w0, w1, w2, w3, w4, rfl, hi⟩ := h
  exact zero_law01_ClockNamed_4 cs ls o wh off w0 w1 w2 w3 w4 hi
 ·intro n F s h
  obtain _ | ⟨g, F⟩ := F
  case cons => exact h.elim
  obtain ⟨w0, w1, w2, w3, w4, rfl, hi⟩ := h
  rw [er_law01_ClockNamed_4]
  exact rnd_law01_ClockNamed_4 cs ls o wh off _ _ _ _ _ _ hi
theorem law_law01_ClockNamed (cs : List ByteArray) (ls : List Lnk) (o : List Int) (wh : Int) (off : List Int) (W : World) (N : Nat → Prop) (vs : List Value) (h : All2 (RelD (RelF W N)) [.t (.a [.sl 1 cs.length (txsC cs), .sl 4 ls.length (lnksC ls)]), .t (.c (.sl 1 o.length (intsC o))), .t (.a [.v (.int .i64 wh), .sl 1 off.length (intsC off)])] vs) : Calls Try.prog 14 vs.toArray W fun e w' => e = .returned (.bool true) ∧ Below W.heap.size W w' :=
 law_end (fn_sound mixed tabOK VSl0121 (ann := ann_law01_ClockNamed) VI1 (fn := Try.f14) (J := J_law01_ClockNamed cs ls o wh off) (by kernel_rfl) fit_law01_ClockNamed (args := [.t (.a [.sl 1 cs.length (txsC cs), .sl 4 ls.length (lnksC ls)]), .t (.c (.sl 1 o.length (intsC o))), .t (.a [.v (.int .i64 wh), .sl 1 off.length (intsC off)])]) (post := (fun r => LeD r (.t (.c (.v (.bool true)))))) (by rw [ev_law01_ClockNamed]; exact spec_law01_ClockNamed cs ls o wh off) (all_law01_ClockNamed cs ls o wh off) (Nat.le_of_ble_eq_true (by kernel_rfl)) W N vs trivial h)
end Go.Proofs.Ytkifmfmenobhnaa
set_option linter.unusedVariables false
set_option linter.unusedSimpArgs false
namespace Go.Proofs.Ytkifmfmenobhnaa
open Go.RowKit
section
variable {H : Type} {enc : TypeId × Value → H} {P : Program} {w : World} {base : Nat} {spare : Nat → Bool} {held : Bool}
theorem cell_lt {w : World} {a : Addr} {v : Value} (h : w.cell? a = some v) : a.block < w.heap.size := by
 unfold World.cell? at h
 cases e : w.heap[a.block]? with
 | none => simp [e] at h
 | some o => exact (Array.getElem?_eq_some_iff.1 e).1
theorem list_of {α : Type} (d : α) : ∀ (n : Nat) {R : Nat → α → Prop}, (∀ i, i < n → ∃ x, R i x) → ∃ l : List α, l.length = n ∧ ∀ i, i < n → R i (l.getD i d) := by
 intro n
 induction n with
 | zero => intro R _; exact ⟨[], rfl, fun i hi => absurd hi (by omega)⟩
 | succ n ih =>
  intro R h
  obtain ⟨l, hl, hr⟩ := ih (fun i hi => h i (by omega))
  obtain ⟨x, hx⟩ := h n (by omega)
  refine ⟨l ++ [x], by simp [hl], fun i hi => ?_⟩
  rcases Nat.lt_or_ge i n with h1 | h1
  ·have : (l ++ [x]).getD i d = l.getD i d := by simp [List.getD, List.getElem?_append_left (show i < l.length by omega)]
   rw [this]; exact hr i h1
  ·have e : i = n := by omega
   subst e
   have : (l ++ [x]).getD i d = x := by rw [← hl]; simp [List.getD]
   rw [this]; exact hx
theorem SlAt.congr {w : World} {v : Value} {n sz : Nat} {c d : Nat → Nat → Value} (h : SlAt w v n sz c) (e : ∀ i j, i < n → j < sz → c i j = d i j) : SlAt w v n sz d := by
 obtain ⟨ao, cap, rfl, h1, h2, h3, h4⟩ := h
 refine ⟨ao, cap, rfl, h1, h2, fun h0 => ?_, h4⟩
 obtain ⟨b, off, e1, hlt, hc⟩ := h3 h0
 exact ⟨b, off, e1, hlt, fun i j hi hj => by rw [hc i j hi hj, e i j hi hj]⟩
theorem slAt_of_trod {t e : TypeId} {sz fuel : Nat} {v : Value} {x : DataW H × List MemPlace} (ht : P.underlying t = some (.slice e)) (hc : P.cellsOf e = sz) (hsz : 0 < sz)
  (h : DataW.trod enc P w base spare held fuel t [v] = some x) :
  ∃ (n : Nat) (css : Nat → List Value), SlAt w v n sz (fun i j => (css i).getD j undef) ∧ ∀ i, i < n → (css i).length = sz ∧ ∃ m y, DataW.trod enc P w base spare held m e (css i) = some y := by
 rcases DataW.trod_slice ht h with ⟨h0, _⟩ | ⟨a, len, cap, elems, rest, m, _, h0, _, hb, hl, hm, hlen, hel, _, _⟩
 ·obtain rfl : v = .slice none 0 0 := by simpa using h0
  exact ⟨0, fun _ => [], ⟨none, 0, rfl, by simp, by simp, fun h => absurd h (by omega), fun _ => rfl⟩, fun i hi => absurd hi (by omega)⟩
 ·obtain rfl : v = .slice (some a) len cap := by simpa using h0
  have each : ∀ i, i < len → ∃ cs : List Value, w.cells? base (a.add (i * sz)) sz = some cs ∧ ∃ y, DataW.trod enc P w base spare held m e cs = some y := by
   intro i hi
   have h1 := hel i hi
   rw [hc] at h1
   have h2 : elems[i]? = some elems[i] := by simp
   rw [h2, Option.bind_eq_some_iff] at h1
   obtain ⟨cs, h3, h4⟩ := h1
   exact ⟨cs, h3, _, h4⟩
  obtain ⟨css, hcl, hcs⟩ := list_of ([] : List Value) len each
  have hcell : ∀ i j, i < len → j < sz → w.cell? ((a.add (i * sz)).add j) = some ((css.getD i []).getD j undef) := by
   intro i j hi hj
   obtain ⟨_, h2, h3⟩ := World.cells?_some (hcs i hi).1
   rw [h3 j hj]
   generalize css.getD i [] = c at h2 ⊢
   rw [List.getElem?_eq_getElem (by omega)]
   simp [List.getD, List.getElem?_eq_getElem (show j < c.length by omega)]
  refine ⟨len, fun i => css.getD i [], ⟨some a, cap, rfl, hl, hm, fun hp => ?_, fun h => by cases h⟩, fun i hi => ⟨(World.cells?_some (hcs i hi).1).2.1, m, (hcs i hi).2⟩⟩
  obtain ⟨b, off, spot⟩ := a
  have hspot : spot = none := by simpa [Addr.add] using World.cell?_spot (hcell 0 0 hp hsz)
  subst hspot
  refine ⟨b, off, rfl, by simpa [Addr.add] using cell_lt (hcell 0 0 hp hsz), fun i j hi hj => ?_⟩
  have := hcell i j hi hj
  rw [add_plain', add_plain'] at this
  exact this
end
end Go.Proofs.Ytkifmfmenobhnaa
set_option linter.unusedVariables false
set_option linter.unusedSimpArgs false
namespace Go.Proofs.Ytkifmfmenobhnaa.Ev
open Go.RowKit
inductive CK where
 | int (k : IntKind)
 | bool
 | str
 | sl (e : TypeId)
def findF (P : Program) (go : TypeId → Nat → Option CK) (j : Nat) : List Field → Option CK
 | [] => none
 | f :: l => bif Nat.ble f.offset j && Nat.blt j (f.offset + P.cellsOf f.type) then go f.type (j - f.offset) else findF P go j l
def kindAt (P : Program) : Nat → TypeId → Nat → Option CK
 | 0, _, _ => none
 | k + 1, t, j => match P.underlying t with
  | some (.int ik) => bif Nat.beq j 0 then some (.int ik) else none
  | some .bool => bif Nat.beq j 0 then some .bool else none
  | some .string => bif Nat.beq j 0 then some .str else none
  | some (.slice e) => bif Nat.beq j 0 then some (.sl e) else none
  | some (.array n e) => bif Nat.blt j (n * P.cellsOf e) then kindAt P k e (j % P.cellsOf e) else none
  | some (.struct fs) => findF P (kindAt P k) j fs.toList
  | _ => none
def kindB (P : Program) : Nat → TypeId → Bool
 | 0, _ => false
 | d + 1, t => (List.range (P.cellsOf t)).all fun j => match kindAt P 20 t j with
  | some (.sl e) => Nat.blt 0 (P.cellsOf e) && kindB P d e
  | some _ => true
  | none => false
def okK (P : Program) : Nat → CK → CV → Prop
 | _, .int ik, c => ∃ n, c = .v (.int ik n) ∧ (Lit.int ik n).wf = true
 | _, .bool, c => ∃ b, c = .v (.bool b)
 | _, .str, c => ∃ s, c = .v (.string s) ∧ s.size ≤ maxLen
 | 0, .sl e, c => False
 | d + 1, .sl e, c => ∃ n cc, c = .sl (P.cellsOf e) n cc ∧ n ≤ maxLen ∧ ∀ i j, i < n → j < P.cellsOf e → ∃ κ, kindAt P 20 e j = some κ ∧ okK P d κ (cc i j)
section
variable {H : Type} {enc : TypeId × Value → H} {P : Program} {w : World} {base : Nat} {spare : Nat → Bool} {held : Bool}
def leaf (H : Type) (enc : TypeId × Value → H) (P : Program) (w : World) (base : Nat) (spare : Nat → Bool) (held : Bool) : CK → Value → Prop
 | .int ik, u => ∃ n, u = .int ik n ∧ (Lit.int ik n).wf = true
 | .bool, u => ∃ b, u = .bool b
 | .str, u => ∃ s : ByteArray, u = .string s ∧ s.size ≤ maxLen
 | .sl e, u => ∃ t m y, P.underlying t = some (.slice e) ∧ DataW.trod enc P w base spare held m t [u] = some y
theorem leaf_of : ∀ (k : Nat) (t : TypeId) (fuel : Nat) (cs : List Value) (x : DataW H × List MemPlace) (j : Nat) (κ : CK), kindAt P k t j = some κ → DataW.trod enc P w base spare held fuel t cs = some x → ∃ u, cs[j]? = some u ∧ leaf H enc P w base spare held κ u := by
 intro k
 induction k with
 | zero => intro t fuel cs x j κ h; cases h
 | succ k ih =>
  intro t fuel cs x j κ hk h
  unfold kindAt at hk
  have zero : ∀ {κ' : CK}, (bif Nat.beq j 0 then some κ' else none) = some κ → j = 0 ∧ κ' = κ := by
   intro κ' e
   cases hb : Nat.beq j 0 with
   | false => rw [hb] at e; cases e
   | true => rw [hb] at e; cases e; exact ⟨Nat.eq_of_beq_eq_true hb, rfl⟩
  split at hk
  ·rename_i ik ht
   obtain ⟨rfl, rfl⟩ := zero hk
   obtain ⟨n, rfl, _, h2⟩ := DataW.trod_int ht h
   exact ⟨_, rfl, n, rfl, h2⟩
  ·rename_i ht
   obtain ⟨rfl, rfl⟩ := zero hk
   obtain ⟨b, rfl, _⟩ := DataW.trod_bool ht h
   exact ⟨_, rfl, b, rfl⟩
  ·rename_i ht
   obtain ⟨rfl, rfl⟩ := zero hk
   obtain ⟨s, rfl, _, h2⟩ := DataW.trod_string ht h
   exact ⟨_, rfl, s, rfl, h2⟩
  ·rename_i e ht
   obtain ⟨rfl, rfl⟩ := zero hk
   rcases DataW.trod_slice ht h with ⟨rfl, _⟩ | ⟨a, len, cap, elems, rest, m, _, rfl, _⟩
   ·exact ⟨_, rfl, t, fuel, x, ht, h⟩
   ·exact ⟨_, rfl, t, fuel, x, ht, h⟩
  ·rename_i n e ht
   cases hb : Nat.blt j (n * P.cellsOf e) with
   | false => rw [hb] at hk; cases hk
   | true =>
    rw [hb] at hk
    simp only [cond_true] at hk
    have hj : j < n * P.cellsOf e := Nat.le_of_ble_eq_true hb
    have hpos : 0 < P.cellsOf e := by
     rcases Nat.eq_zero_or_pos (P.cellsOf e) with q | q
     ·rw [q, Nat.mul_zero] at hj; omega
     ·exact q
    obtain ⟨xs, m, _, _, hl, hxs, hf⟩ := DataW.trod_array ht h
    have hi : j / P.cellsOf e < n := Nat.div_lt_of_lt_mul (by rwa [Nat.mul_comm])
    have h5 := hf _ hi
    rw [show xs[j / P.cellsOf e]? = some xs[j / P.cellsOf e] from List.getElem?_eq_getElem (by omega)] at h5
    obtain ⟨u, h6, h7⟩ := ih e _ _ _ _ _ hk h5
    refine ⟨u, ?_, h7⟩
    rw [List.getElem?_take, if_pos (Nat.mod_lt _ hpos), List.getElem?_drop] at h6
    rwa [Nat.div_add_mod' j (P.cellsOf e)] at h6
  ·rename_i fs ht
   obtain ⟨xs, m, _, _, hl, hxs, hf⟩ := DataW.trod_struct ht h
   have find : ∀ l : List Field, (∀ f ∈ l, ∃ i : Nat, fs[i]? = some f) → findF P (kindAt P k) j l = some κ → ∃ (f : Field) (i : Nat), fs[i]? = some f ∧ f.offset ≤ j ∧ j < f.offset + P.cellsOf f.type ∧ kindAt P k f.type (j - f.offset) = some κ := by
    intro l
    induction l with
    | nil => intro _ h; cases h
    | cons f l ihl =>
     intro hm h
     unfold findF at h
     cases hb : (Nat.ble f.offset j && Nat.blt j (f.offset + P.cellsOf f.type)) with
     | false => rw [hb] at h; exact ihl (fun g hg => hm g (by simp [hg])) h
     | true =>
      rw [hb] at h
      simp only [Bool.and_eq_true] at hb
      obtain ⟨i, hi⟩ := hm f (by simp)
      exact ⟨f, i, hi, Nat.le_of_ble_eq_true hb.1, Nat.le_of_ble_eq_true hb.2, h⟩
   obtain ⟨f, i, hi, h1, h2, h3⟩ := find fs.toList (fun f hf => by
    obtain ⟨i, hi, e⟩ := List.getElem_of_mem hf
    exact ⟨i, by rw [← e]; simp at hi ⊢⟩) hk
   have h5 := hf i f hi
   have hlt : i < fs.size := by
    rcases Nat.lt_or_ge i fs.size with q | q
    ·exact q
    ·rw [Array.getElem?_eq_none q] at hi; cases hi
   rw [show xs[i]? = some xs[i] from List.getElem?_eq_getElem (by omega)] at h5
   obtain ⟨u, h6, h7⟩ := ih _ _ _ _ _ _ h3 h5
   refine ⟨u, ?_, h7⟩
   rw [List.getElem?_take, if_pos (by omega), List.getElem?_drop] at h6
   rwa [show f.offset + (j - f.offset) = j by omega] at h6
  ·cases hk
theorem open_cell : ∀ (d : Nat) (t : TypeId) (fuel : Nat) (cs : List Value) (x : DataW H × List MemPlace), kindB P d t = true → DataW.trod enc P w base spare held fuel t cs = some x → ∀ j, j < P.cellsOf t → ∃ κ c u, kindAt P 20 t j = some κ ∧ cs[j]? = some u ∧ RelF w (fun _ => True) c u ∧ okK P d κ c := by
 intro d
 induction d with
 | zero => intro t fuel cs x h; cases h
 | succ d ih =>
  intro t fuel cs x hB h j hj
  have hB' := hB
  unfold kindB at hB
  have h1 := List.all_eq_true.1 hB j (List.mem_range.2 hj)
  cases hk : kindAt P 20 t j with
  | none => rw [hk] at h1; cases h1
  | some κ =>
   rw [hk] at h1
   obtain ⟨u, h2, h3⟩ := leaf_of 20 t fuel cs x j κ hk h
   cases κ with
   | int ik =>
    obtain ⟨n, rfl, hw⟩ := h3
    exact ⟨_, .v (.int ik n), _, rfl, h2, ⟨rfl, rfl⟩, by simp only [okK]; exact ⟨n, rfl, hw⟩⟩
   | bool =>
    obtain ⟨b, rfl⟩ := h3
    exact ⟨_, .v (.bool b), _, rfl, h2, ⟨rfl, rfl⟩, by simp only [okK]; exact ⟨b, rfl⟩⟩
   | str =>
    obtain ⟨s, rfl, hs⟩ := h3
    exact ⟨_, .v (.string s), _, rfl, h2, ⟨rfl, rfl⟩, by simp only [okK]; exact ⟨s, rfl, hs⟩⟩
   | sl e =>
    simp only [Bool.and_eq_true] at h1
    have hpos : 0 < P.cellsOf e := Nat.le_of_ble_eq_true h1.1
    obtain ⟨t', m, y, ht, hy⟩ := h3
    obtain ⟨n, css, ⟨ao, cap, rfl, g1, g2, g3, g4⟩, hel⟩ := slAt_of_trod ht rfl hpos hy
    have each : ∀ i j, i < n → j < P.cellsOf e → ∃ c : CV, ∃ κ u, kindAt P 20 e j = some κ ∧ (css i)[j]? = some u ∧ RelF w (fun _ => True) c u ∧ okK P d κ c := by
     intro i j hi hj
     obtain ⟨_, m', y', h6⟩ := hel i hi
     obtain ⟨κ, c, u, q⟩ := ih e m' (css i) y' h1.2 h6 j hj
     exact ⟨c, κ, u, q⟩
    classical
    let cc : Nat → Nat → CV := fun i j => if h : i < n ∧ j < P.cellsOf e then Classical.choose (each i j h.1 h.2) else .v (.bool false)
    have hcc : ∀ i j, i < n → j < P.cellsOf e → ∃ κ u, kindAt P 20 e j = some κ ∧ (css i)[j]? = some u ∧ RelF w (fun _ => True) (cc i j) u ∧ okK P d κ (cc i j) := by
     intro i j hi hj
     have : cc i j = Classical.choose (each i j hi hj) := dif_pos ⟨hi, hj⟩
     rw [this]
     exact Classical.choose_spec (each i j hi hj)
    refine ⟨_, .sl (P.cellsOf e) n cc, _, rfl, h2, ⟨ao, cap, rfl, g1, g2, g4, fun h0 => ?_⟩, by
     simp only [okK]
     exact ⟨n, cc, rfl, Nat.le_trans g1 g2, fun i j hi hj => by obtain ⟨κ, u, q1, _, _, q4⟩ := hcc i j hi hj; exact ⟨κ, q1, q4⟩⟩⟩
    obtain ⟨b, off, e1, hlt, hc⟩ := g3 h0
    refine ⟨b, off, e1, hlt, trivial, fun i j hi hj => ?_⟩
    obtain ⟨κ, u, q1, q2, q3, _⟩ := hcc i j hi hj
    refine ⟨u, ?_, q3⟩
    rw [hc i j hi hj]
    simp [List.getD, q2]
theorem open_cells {d : Nat} {t : TypeId} {fuel : Nat} {cs : List Value} {x : DataW H × List MemPlace} (hB : kindB P d t = true) (hl : cs.length = P.cellsOf t) (h : DataW.trod enc P w base spare held fuel t cs = some x) :
  ∃ l : List CV, l.length = P.cellsOf t ∧ All2 (RelF w (fun _ => True)) l cs ∧ ∀ j, j < P.cellsOf t → ∃ κ, kindAt P 20 t j = some κ ∧ okK P d κ (l.getD j (.v (.bool false))) := by
 have each := open_cell d t fuel cs x hB h
 obtain ⟨l, h1, h2⟩ := list_of (CV.v (.bool false)) (P.cellsOf t) (R := fun j c => ∃ κ u, kindAt P 20 t j = some κ ∧ cs[j]? = some u ∧ RelF w (fun _ => True) c u ∧ okK P d κ c) (fun j hj => by obtain ⟨κ, c, u, q⟩ := each j hj; exact ⟨c, κ, u, q⟩)
 refine ⟨l, h1, All2.of_get (by omega) fun i a b ha hb => ?_, fun j hj => ?_⟩
 ·have hi : i < P.cellsOf t := by
   rcases Nat.lt_or_ge i l.length with q | q
   ·omega
   ·rw [List.getElem?_eq_none q] at ha; cases ha
  obtain ⟨κ, u, _, q2, q3, _⟩ := h2 i hi
  rw [hb] at q2
  cases q2
  rw [show l.getD i (.v (.bool false)) = a by simp [List.getD, ha]] at q3
  exact q3
 ·obtain ⟨κ, u, q1, _, _, q4⟩ := h2 j hj
  exact ⟨κ, q1, q4⟩
theorem open_agg {d : Nat} {t : TypeId} {cs : Array Value} {y : DataW H} {ps : List MemPlace} (hB : kindB P d t = true) (hl : cs.size = P.cellsOf t) (h : DataW.Trod enc P w base spare held t (.agg cs) y ps) :
  ∃ l : List CV, l.length = P.cellsOf t ∧ All2 (RelF w (fun _ => True)) l cs.toList ∧ ∀ j, j < P.cellsOf t → ∃ κ, kindAt P 20 t j = some κ ∧ okK P d κ (l.getD j (.v (.bool false))) := by
 obtain ⟨fuel, hf⟩ := h
 exact open_cells hB (by simpa using hl) (by simpa [Value.cells] using hf)
end
theorem open_i64 {P : Program} {d : Nat} {t : TypeId} {j : Nat} {c : CV} (hk : kindAt P 20 t j = some (.int .i64)) (h : ∃ κ, kindAt P 20 t j = some κ ∧ okK P d κ c) : ∃ n : Int, c = .v (.int .i64 n) ∧ -9223372036854775808 ≤ n ∧ n ≤ 9223372036854775807 := by
 obtain ⟨κ, h1, h2⟩ := h
 rw [hk] at h1
 cases h1
 have h3 : ∃ n, c = .v (.int .i64 n) ∧ (Lit.int .i64 n).wf = true := by cases d <;> exact h2
 obtain ⟨n, e, hw⟩ := h3
 have := bounds_i64 hw
 exact ⟨n, e, this.1, this.2⟩
theorem open_st {P : Program} {d : Nat} {t : TypeId} {j : Nat} {c : CV} (hk : kindAt P 20 t j = some .str) (h : ∃ κ, kindAt P 20 t j = some κ ∧ okK P d κ c) : ∃ s : ByteArray, c = .v (.string s) ∧ s.size ≤ maxLen := by
 obtain ⟨κ, h1, h2⟩ := h
 rw [hk] at h1
 cases h1
 cases d <;> exact h2
theorem open_sl {P : Program} {d : Nat} {t e : TypeId} {j : Nat} {c : CV} (hk : kindAt P 20 t j = some (.sl e)) (h : ∃ κ, kindAt P 20 t j = some κ ∧ okK P (d + 1) κ c) : ∃ n cc, c = .sl (P.cellsOf e) n cc ∧ n ≤ maxLen ∧ ∀ i j, i < n → j < P.cellsOf e → ∃ κ, kindAt P 20 e j = some κ ∧ okK P d κ (cc i j) := by
 obtain ⟨κ, h1, h2⟩ := h
 rw [hk] at h1
 cases h1
 exact h2
def allI (P : Program) (e : TypeId) : Bool := (List.range (P.cellsOf e)).all fun j => match kindAt P 20 e j with
 | some (.int .i64) => true
 | _ => false
theorem nums_of {P : Program} {d : Nat} {e : TypeId} {n : Nat} {cc : Nat → Nat → CV} (hk : allI P e = true) (h : ∀ i j, i < n → j < P.cellsOf e → ∃ κ, kindAt P 20 e j = some κ ∧ okK P d κ (cc i j)) : numsP (P.cellsOf e) n cc := by
 intro i j hi hj
 have h1 := List.all_eq_true.1 hk j (List.mem_range.2 hj)
 split at h1
 ·rename_i hq
  obtain ⟨m, e1, _⟩ := open_i64 hq (h i j hi hj)
  rw [e1]; rfl
 ·cases h1
end Go.Proofs.Ytkifmfmenobhnaa.Ev
set_option linter.unusedVariables false
namespace Go.Proofs.Ytkifmfmenobhnaa
open Go.RowKit Ev
theorem txP_of {P : Program} {d : Nat} {e : TypeId} {n : Nat} {c : Nat → Nat → CV} (hk : kindAt P 20 e 0 = some .str) (hz : P.cellsOf e = 1) (f : ∀ i j, i < n → j < P.cellsOf e → ∃ κ, kindAt P 20 e j = some κ ∧ okK P d κ (c i j)) : txP n c := by
 intro i hi
 obtain ⟨s, hs, _⟩ := open_st (by rw [hk]) (f i 0 hi (by omega))
 rw [hs]; rfl
end Go.Proofs.Ytkifmfmenobhnaa