/- Texts of this claim, together. -/
import Derived.Test.YtkifmfmenobhnaaCQ8
import Derived.Test.YtkifmfmenobhnaaCQ9

set_option linter.unusedVariables false
set_option linter.unusedSimpArgs false
namespace Go.Proofs.Ytkifmfmenobhnaa
open Go.RowKit Ev
def lnksC (l : List Lnk) : Nat → Nat → CV := fun i j => match j with
 | 0 => .v (.int .i64 (lnkAt l i).frm)
 | 1 => .v (.int .i64 (lnkAt l i).to)
 | 2 => .v (.int .i64 (lnkAt l i).lo)
 | _ => .v (.int .i64 (lnkAt l i).hi)
def mkLnk (g : Nat → Int) : Lnk := ⟨g 0, g 1, g 2, g 3⟩
def lnkCv (x : Lnk) : List CV := [.v (.int .i64 x.frm), .v (.int .i64 x.to), .v (.int .i64 x.lo), .v (.int .i64 x.hi)]
theorem lnkAt_C {n : Nat} {c : Nat → Nat → CV} {i : Nat} (hi : i < n) : lnkAt (listC n mkLnk c) i = mkLnk fun j => cvInt (c i j) := listC_get hi
theorem leL_Lnk {n : Nat} {c : Nat → Nat → CV} (hp : numsP 4 n c) : LeD (.t (.c (.sl 4 n c))) (.t (.c (.sl 4 (listC n mkLnk c).length (lnksC (listC n mkLnk c))))) := by
 refine leL hp fun i j hi hj => ?_
 unfold lnksC
 rw [lnkAt_C hi]
 rcases (by omega : j = 0 ∨ j = 1 ∨ j = 2 ∨ j = 3) with rfl | rfl | rfl | rfl <;> rfl
theorem numsP_lnks (l : List Lnk) : numsP 4 l.length (lnksC l) := by
 intro i j hi hj
 rcases (by omega : j = 0 ∨ j = 1 ∨ j = 2 ∨ j = 3) with rfl | rfl | rfl | rfl <;> rfl
theorem lnks_listC (l : List Lnk) : listC l.length mkLnk (lnksC l) = l := listC_id ⟨0, 0, 0, 0⟩ fun i hi => rfl
theorem plain_Lnk (l : List Lnk) (i j : Nat) : ∃ y, lnksC l i j = .v y := by unfold lnksC; split <;> exact ⟨_, rfl⟩
theorem le_lnks (l : List Lnk) : LeD (.t (.c (.sl 4 (l.map lnkCv).length (genC (l.map lnkCv))))) (.t (.c (.sl 4 l.length (lnksC l)))) := by
 rw [List.length_map]
 refine leSl fun i j hi hj => ?_
 unfold genC lnksC lnkAt
 simp only [List.getD_eq_getElem?_getD, List.getElem?_map, List.getElem?_eq_getElem hi, Option.map_some, Option.getD_some]
 rcases (by omega : j = 0 ∨ j = 1 ∨ j = 2 ∨ j = 3) with rfl | rfl | rfl | rfl <;> rfl
theorem lnk_ext {a b : Lnk} : a = b ↔ a.frm = b.frm ∧ a.to = b.to ∧ a.lo = b.lo ∧ a.hi = b.hi := by
 obtain ⟨_, _, _, _⟩ := a
 obtain ⟨_, _, _, _⟩ := b
 simp [and_assoc]
instance : DecidableEq Lnk := fun a b => decidable_of_iff _ lnk_ext.symm
def ntH (cs : List ByteArray) (ls : List Lnk) : Int := firstNZ [unl (decide ((cs.length : Int) > 0)) 10, unl (decide ((cs.length : Int) ≤ 6) && decide ((ls.length : Int) ≤ 12)) 8]
def nmE (cs : List ByteArray) (i : Nat) : Int := firstNZ [unl (nameB (txAt cs i)) 4, unl (!(cs.take i).contains (txAt cs i)) 5]
def lkE (n : Nat) (x : Lnk) : Int := firstNZ [unl (inB x.frm 0 ((n : Int) - 1) && inB x.to 0 ((n : Int) - 1)) 6, unl (x.frm != x.to) 15, unl (inB x.lo (-1000000000) 1000000000 && inB x.hi (-1000000000) 1000000000) 2, unl (decide (x.lo ≤ x.hi)) 9]
def ntE (cs : List ByteArray) (ls : List Lnk) : Int := if ntH cs ls ≠ 0 then ntH cs ls else if scan (nmE cs) cs.length ≠ 0 then scan (nmE cs) cs.length else scan (fun i => lkE cs.length (lnkAt ls i)) ls.length
def ntI (cs : List ByteArray) (ls : List Lnk) : Int := if ntH cs ls ≠ 0 then 0 else if scan (nmE cs) cs.length ≠ 0 then scanI (nmE cs) cs.length else scanI (fun i => lkE cs.length (lnkAt ls i)) ls.length
theorem ntH_ok {cs : List ByteArray} {ls : List Lnk} (h : ntH cs ls = 0) : (0 < cs.length ∧ cs.length ≤ 6) ∧ ls.length ≤ 12 := by
 obtain ⟨h1, h2⟩ := fn2 (show firstNZ [_, _] = 0 from h)
 rw [unl_0 (by decide)] at h1 h2
 rw [Bool.and_eq_true, decide_eq_true_eq, decide_eq_true_eq] at h2
 have h1 := of_decide_eq_true h1
 omega
def con_clock_isName : Con := fun args => match args with
 | [.t (.c (.v (.string nm)))] => some (.t (.c (.v (.bool (nameB nm)))), some ((nm).size ≤ 1000000), false)
 | _ => none
theorem ok_clock_isName : Ok Try.prog 88 con_clock_isName := by
 refine Ok.oldG (Enters.of (fn := Try.f88) (by kernel_rfl) (by kernel_rfl) (by kernel_rfl)) fun args r pre fresh h hp => ?_
 unfold con_clock_isName at h
 split at h
 ·rename_i nm
  cases h
  refine ⟨rfl, _, rfl, fun W N vs hv => ?_⟩
  have hp := hp
  obtain ⟨u0, ws0, k0, g0, hv0⟩ := hv.cons_inv
  subst k0
  have e0 := plain_arg rfl g0
  subst e0
  have ev := hv0.nil_inv
  subst ev
  exact walk_isName W nm hp
 ·cases h
def Sn76 : Sum := addS Se75 88 con_clock_isName
theorem VSn76 : Valid Try.prog Sn76 := Valid.add VSe75 ok_clock_isName
def Sn77 : Sum := Sn76
theorem VSn77 : Valid Try.prog Sn77 := VSn76
def con_slices_Contains_string_string : Con := fun args => match args with
 | [.t (.c (.sl 1 n_cs c_cs)), .t (.c (.v (.string nm)))] => some (.t (.c (.v (.bool (((txOf n_cs c_cs)).contains nm)))), some (txP n_cs c_cs ∧ ((txOf n_cs c_cs)).length ≤ 1000000), false)
 | _ => none
theorem ok_slices_Contains_string_string : Ok Try.prog 89 con_slices_Contains_string_string := by
 refine Ok.oldG (Enters.of (fn := Try.f89) (by kernel_rfl) (by kernel_rfl) (by kernel_rfl)) fun args r pre fresh h hp => ?_
 unfold con_slices_Contains_string_string at h
 split at h
 ·rename_i n_cs c_cs nm
  cases h
  refine ⟨rfl, _, rfl, fun W N vs hv => ?_⟩
  obtain ⟨hp0, hp⟩ := hp
  obtain ⟨v_cs, ws0, k0, g0, hv0⟩ := hv.cons_inv
  subst k0
  have h_cs := at_str hp0 g0
  obtain ⟨u1, ws1, k1, g1, hv1⟩ := hv0.cons_inv
  subst k1
  have e1 := plain_arg rfl g1
  subst e1
  have ev := hv1.nil_inv
  subst ev
  generalize txOf n_cs c_cs = cs at *
  exact by
   obtain ⟨ao, cap, rfl, hc⟩ := h_cs
   have h := walk_ContainsT W cs nm ao cap cs.length (Nat.le_refl _) hp hc
   rw [List.take_length] at h
   exact h
 ·cases h
def Sn78 : Sum := addS Sn77 89 con_slices_Contains_string_string
theorem VSn78 : Valid Try.prog Sn78 := Valid.add VSn77 ok_slices_Contains_string_string
def Sn79 : Sum := Sn78
theorem VSn79 : Valid Try.prog Sn79 := VSn78
def vc_clock_CheckNet_1 (k : Int) (cs : List ByteArray) (ls : List Lnk) (post : DV → Prop) : Prop := lt (IntKind.i64.wrap (((cs.length : Nat) : Int) - (1 : Int))) fun x1 => post (.t (.c (.v (.bool (inB k (0 : Int) x1)))))
def ann_clock_CheckNet_1 : Ann := ⟨fun _ => none, fun _ => none, fun _ => [], noIt, false, fun _ => none, fun _ => none⟩
theorem ev_clock_CheckNet_1 (J : Inv) (k : Int) (cs : List ByteArray) (ls : List Lnk) (post : DV → Prop) : evFn Try.prog tab Sn79 ann_clock_CheckNet_1 J Try.f90 [.t (.c (.v (.int .i64 k))), .t (.c (.px 2 0 (boxC [.sl 1 cs.length (txsC cs), .sl 4 ls.length (lnksC ls)])))] post = vc_clock_CheckNet_1 k cs ls post := by kernel_rfl
theorem fit_clock_CheckNet_1 : okFn ann_clock_CheckNet_1 Try.f90 = true := by kernel_rfl
theorem lp_clock_CheckNet_1 (J : Inv) (post : DV → Prop) : AllG J (loopsFn Try.prog tab Sn79 ann_clock_CheckNet_1 J Try.f90 post) = (True) := by kernel_rfl
theorem spec_clock_CheckNet_1 (k : Int) (cs : List ByteArray) (ls : List Lnk) (hp : (cs).length ≤ 1000000) : vc_clock_CheckNet_1 k cs ls (fun r => LeD r (.t (.c (.v (.bool (inB k 0 (((cs).length : Int) - 1))))))) := by
 unfold vc_clock_CheckNet_1
 refine lt_i fun x hx => leB ?_
 rw [wi (by omega)] at hx
 rw [← hx]
def con_clock_CheckNet_1 : Con := fun args => match args with
 | [.t (.c (.v (.int .i64 k))), .t (.c (.px 2 0 c_q))] => some (.t (.c (.v (.bool (inB k 0 ((((txOf (cvLen (c_q 0)) (cvCells (c_q 0)))).length : Int) - 1))))), some (intsB [] c_q = true ∧ slP 1 (c_q 0) ∧ txP (cvLen (c_q 0)) (cvCells (c_q 0)) ∧ slP 4 (c_q 1) ∧ numsP 4 (cvLen (c_q 1)) (cvCells (c_q 1)) ∧ ((txOf (cvLen (c_q 0)) (cvCells (c_q 0)))).length ≤ 1000000), false)
 | _ => none
theorem ok_clock_CheckNet_1 : Ok Try.prog 90 con_clock_CheckNet_1 := by
 refine Ok.fn (ann := ann_clock_CheckNet_1) mixed tabOK VSn79 ValidIt.no (fn := Try.f90) (by kernel_rfl) (by kernel_rfl) fit_clock_CheckNet_1 fun args r pre fresh h hp => ?_
 unfold con_clock_CheckNet_1 at h
 split at h
 ·rename_i k c_q
  cases h
  obtain ⟨hp0, hp1, hp2, hp3, hp4, hp⟩ := hp
  refine ⟨rfl, fun _ _ _ => False, [.t (.c (.v (.int .i64 k))), .t (.c (.px 2 0 (boxC [.sl 1 ((txOf (cvLen (c_q 0)) (cvCells (c_q 0))).length) (txsC (txOf (cvLen (c_q 0)) (cvCells (c_q 0)))), .sl 4 ((listC (cvLen (c_q 1)) mkLnk (cvCells (c_q 1))).length) (lnksC (listC (cvLen (c_q 1)) mkLnk (cvCells (c_q 1))))])))], ?_, Nat.le_of_ble_eq_true (by kernel_rfl), ?_, ?_⟩
  ·exact (LeA_cons (LeD.refl _) (LeA_cons (leT_c (leC_p (LeCs.cons (leC_s hp1 (leL_str hp2)) (LeCs.cons (leC_s hp3 (leL_Lnk hp4)) LeCs.nil)))) LeA_nil))
  ·rw [ev_clock_CheckNet_1]; exact spec_clock_CheckNet_1 k (txOf (cvLen (c_q 0)) (cvCells (c_q 0))) (listC (cvLen (c_q 1)) mkLnk (cvCells (c_q 1))) hp
  ·rw [lp_clock_CheckNet_1]; trivial
 ·cases h
def Sn80 : Sum := addS Sn79 90 con_clock_CheckNet_1
theorem VSn80 : Valid Try.prog Sn80 := Valid.add VSn79 ok_clock_CheckNet_1
def vc_clock_CheckNet_2 (k : Int) (post : DV → Prop) : Prop := post (.t (.c (.v (.bool (inB k (-1000000000 : Int) (1000000000 : Int))))))
def ann_clock_CheckNet_2 : Ann := ⟨fun _ => none, fun _ => none, fun _ => [], noIt, false, fun _ => none, fun _ => none⟩
theorem ev_clock_CheckNet_2 (J : Inv) (k : Int) (post : DV → Prop) : evFn Try.prog tab Sn80 ann_clock_CheckNet_2 J Try.f91 [.t (.c (.v (.int .i64 k)))] post = vc_clock_CheckNet_2 k post := by kernel_rfl
theorem fit_clock_CheckNet_2 : okFn ann_clock_CheckNet_2 Try.f91 = true := by kernel_rfl
theorem lp_clock_CheckNet_2 (J : Inv) (post : DV → Prop) : AllG J (loopsFn Try.prog tab Sn80 ann_clock_CheckNet_2 J Try.f91 post) = (True) := by kernel_rfl
theorem spec_clock_CheckNet_2 (k : Int) : vc_clock_CheckNet_2 k (fun r => LeD r (.t (.c (.v (.bool (inB k (-1000000000) 1000000000)))))) := by
 exact LeD.refl _
def con_clock_CheckNet_2 : Con := fun args => match args with
 | [.t (.c (.v (.int .i64 k)))] => some (.t (.c (.v (.bool (inB k (-1000000000) 1000000000)))), none, false)
 | _ => none
theorem ok_clock_CheckNet_2 : Ok Try.prog 91 con_clock_CheckNet_2 := by
 refine Ok.fn (ann := ann_clock_CheckNet_2) mixed tabOK VSn80 ValidIt.no (fn := Try.f91) (by kernel_rfl) (by kernel_rfl) fit_clock_CheckNet_2 fun args r pre fresh h hp => ?_
 unfold con_clock_CheckNet_2 at h
 split at h
 ·rename_i k
  cases h
  refine ⟨rfl, fun _ _ _ => False, _, LeA.refl _, Nat.le_of_ble_eq_true (by kernel_rfl), ?_, ?_⟩
  ·rw [ev_clock_CheckNet_2]; exact spec_clock_CheckNet_2 k
  ·rw [lp_clock_CheckNet_2]; trivial
 ·cases h
def Sn81 : Sum := addS Sn80 91 con_clock_CheckNet_2
theorem VSn81 : Valid Try.prog Sn81 := Valid.add VSn80 ok_clock_CheckNet_2
def Sn82 : Sum := Sn81
theorem VSn82 : Valid Try.prog Sn82 := VSn81
def mk_clock_CheckNet_0 (cs : List ByteArray) (ls : List Lnk) (v0_0 : Int) : DS := ⟨[none, some (.t (.c (.p 1 0))), none, none, none, none, none, none, none, none, none, none, none, none, none, none, none, none, none, none, none, none, none, none, none, none, none, none, none, none, none, none, none, none, none, some (.t (.c (.sl 1 cs.length (txsC cs)))), some (.t (.c (.v (.int .i64 ((cs.length : Nat) : Int))))), some (.t (.c (.v (.int .i64 v0_0)))), none, none, none, none, none, none, none, none, none, none, none, none, none, none, none, none, none, none, none, none, none, none, none, none, none, none, none, none, none, none, none, none, none, none, none, none, none, none, none, none, none, none, none, none, none, none, none, none, none, none, none, none, none, none, none, none, none, none, none, none, none, none, none, none, none, none, none, none, none, none, none, none, none, none, none, none], [none, some (.box 55 [.sl 1 cs.length (txsC cs), .sl 4 ls.length (lnksC ls)]), none, none, none, none, none, none, none, none, none, none, none, none, none, none, none, none, none, none, none, none, none, none, none, none, none, none, none, none, none, none, none, none, none, none, none, none, none, none, none, none, none, none, none, none, none, none, none, none, none, none, none, none, none, none, none, none, none, none, none, none, none, none, none, none, none, none, none, none, none, none, none, none, none, none, none, none, none, none, none, none, none, none, none, none, none, none, none, none, none, none, none, none, none, none, none, none, none, none, none, none, none, none, none, none, none, none, none, none, none, none, none, none]⟩
def mk_clock_CheckNet_2 (cs : List ByteArray) (ls : List Lnk) (v2_0 : Int) : DS := ⟨[none, none, none, none, none, none, none, none, some (.t (.fn 90 [.p 1 0])), some (.t (.fn 91 [])), none, none, none, none, none, none, none, none, none, none, none, none, none, none, none, none, none, none, none, none, none, none, none, none, none, none, none, none, none, none, none, none, none, none, none, none, none, none, none, none, none, none, none, none, none, none, none, none, none, none, none, none, some (.t (.c (.sl 4 ls.length (lnksC ls)))), some (.t (.c (.v (.int .i64 ((ls.length : Nat) : Int))))), some (.t (.c (.v (.int .i64 v2_0)))), none, none, none, none, none, none, none, none, none, none, none, none, none, none, none, none, none, none, none, none, none, none, none, none, none, none, none, none, none, none, none, none, none, none, none, none, none, none, none, none, none, none, none, none, none, none, none, none, none], [none, some (.box 55 [.sl 1 cs.length (txsC cs), .sl 4 ls.length (lnksC ls)]), none, none, none, none, none, none, none, none, none, none, none, none, none, none, none, none, none, none, none, none, none, none, none, none, none, none, none, none, none, none, none, none, none, none, none, none, none, none, none, none, none, none, none, none, none, none, none, none, none, none, none, none, none, none, none, none, none, none, none, none, none, none, none, none, none, none, none, none, none, none, none, none, none, none, none, none, none, none, none, none, none, none, none, none, none, none, none, none, none, none, none, none, none, none, none, none, none, none, none, none, none, none, none, none, none, none, none, none, none, none, none, none]⟩
def vc_clock_CheckNet (J : Inv) (cs : List ByteArray) (ls : List Lnk) (post : DV → Prop) : Prop := cond (decide (((cs.length : Nat) : Int) ≤ (6 : Int))) ((numsP 1 2 (genC [[.v (.int .i64 (unl (decide (((cs.length : Nat) : Int) > (0 : Int))) (10 : Int)))], [.v (.int .i64 (unl (decide (((ls.length : Nat) : Int) ≤ (12 : Int))) (8 : Int)))]]) ∧ (([(unl (decide (((cs.length : Nat) : Int) > (0 : Int))) (10 : Int)), (unl (decide (((ls.length : Nat) : Int) ≤ (12 : Int))) (8 : Int))] : List Int)).length ≤ 100) ∧ (cond ((firstNZ ([(unl (decide (((cs.length : Nat) : Int) > (0 : Int))) (10 : Int)), (unl (decide (((ls.length : Nat) : Int) ≤ (12 : Int))) (8 : Int))] : List Int)) != (0 : Int)) (post (.tu [.c (.v (.int .i64 0)), .c (.v (.int .i64 (firstNZ ([(unl (decide (((cs.length : Nat) : Int) > (0 : Int))) (10 : Int)), (unl (decide (((ls.length : Nat) : Int) ≤ (12 : Int))) (8 : Int))] : List Int))))])) (∃ n, J 0 (n :: []) (mk_clock_CheckNet_0 cs ls 0)))) ((false = false) ∧ ((numsP 1 2 (genC [[.v (.int .i64 (unl (decide (((cs.length : Nat) : Int) > (0 : Int))) (10 : Int)))], [.v (.int .i64 (unl false (8 : Int)))]]) ∧ (([(unl (decide (((cs.length : Nat) : Int) > (0 : Int))) (10 : Int)), (unl false (8 : Int))] : List Int)).length ≤ 100) ∧ (cond ((firstNZ ([(unl (decide (((cs.length : Nat) : Int) > (0 : Int))) (10 : Int)), (unl false (8 : Int))] : List Int)) != (0 : Int)) (post (.tu [.c (.v (.int .i64 0)), .c (.v (.int .i64 (firstNZ ([(unl (decide (((cs.length : Nat) : Int) > (0 : Int))) (10 : Int)), (unl false (8 : Int))] : List Int))))])) (∃ n, J 0 (n :: []) (mk_clock_CheckNet_0 cs ls 0)))))
def ann_clock_CheckNet : Ann := ⟨fun r => lookA r [(1, ([[], [0], [0, 1], [0, 1, 2], [0, 1, 2, 3], [], [5], [5, 6], [5, 6, 7], [0, 1, 2, 3, 4, 5, 6, 7, 8], [0, 1, 2, 3, 4, 5, 6, 7, 8, 9], [0, 1, 2, 3, 4, 5, 6, 7, 8, 9, 10], [0, 1, 2, 3, 4, 5, 6, 7, 8, 9, 10, 11], [0, 1, 2, 3, 4, 5, 6, 7, 8, 9, 10, 11, 12], [0, 1, 2, 3, 4, 5, 6, 7, 8, 9, 10, 11, 12, 13], [0, 1, 2, 3, 4, 5, 6, 7, 8, 9, 10, 11, 12, 13, 14], [0, 1, 2, 3, 4, 5, 6, 7, 8, 9, 10, 11, 12, 13, 14, 15], [0, 1, 2, 3, 4, 5, 6, 7, 8, 9, 10, 11, 12, 13, 14, 15, 16], [0, 1, 2, 3, 4, 5, 6, 7, 8, 9, 10, 11, 12, 13, 14, 15, 16, 17]], [[17, 28, 29, 30], [17, 28, 29, 30], [17, 28, 29, 30], [17, 28, 29, 30], [28, 29, 30], [17, 28, 29, 30], [17, 28, 29, 30], [17, 28, 29, 30], [17, 28, 29, 30], [28, 29, 30], [28, 29, 30], [28, 29, 30], [28, 29, 30], [28, 29, 30], [28, 29, 30], [29, 30], [30], [], []])), (7, ([[], [0], [0, 1], [], [3], [], [3, 4, 5], [], [0, 1, 2, 3, 4, 5, 6, 7], [0, 1, 2, 3, 4, 5, 6, 7, 8], [0, 1, 2, 3, 4, 5, 6, 7, 8, 9], [0, 1, 2, 3, 4, 5, 6, 7, 8, 9, 10], [0, 1, 2, 3, 4, 5, 6, 7, 8, 9, 10, 11], [0, 1, 2, 3, 4, 5, 6, 7, 8, 9, 10, 11, 12]], [[43, 44, 50, 52, 53, 54], [44, 50, 52, 53, 54], [50, 52, 53, 54], [43, 44, 50, 52, 53, 54], [43, 44, 50, 52, 53, 54], [43, 44, 50, 52, 53, 54], [43, 44, 50, 52, 53, 54], [43, 44, 50, 52, 53, 54], [52, 53, 54], [52, 53, 54], [53, 54], [54], [], []])), (16, ([[], [], [1], [0, 1, 2], [0, 1, 2, 3], [0, 1, 2, 3, 4], [0, 1, 2, 3, 4], [0, 1, 2, 3, 4, 6], [0, 1, 2, 3, 4, 5, 6, 7], [0, 1, 2, 3, 4, 5, 6, 7, 8], [0, 1, 2, 3, 4, 5, 6, 7, 8, 9], [], [11], [], [13], [11, 12, 13, 14], [0, 1, 2, 3, 4, 5, 6, 7, 8, 9, 10, 11, 12, 13, 14, 15], [], [], [18], [18, 19], [0, 1, 2, 3, 4, 5, 6, 7, 8, 9, 10, 11, 12, 13, 14, 15, 16, 17, 18, 19, 20], [0, 1, 2, 3, 4, 5, 6, 7, 8, 9, 10, 11, 12, 13, 14, 15, 16, 17, 18, 19, 20, 21], [0, 1, 2, 3, 4, 5, 6, 7, 8, 9, 10, 11, 12, 13, 14, 15, 16, 17, 18, 19, 20, 21, 22], [0, 1, 2, 3, 4, 5, 6, 7, 8, 9, 10, 11, 12, 13, 14, 15, 16, 17, 18, 19, 20, 21, 22], [0, 1, 2, 3, 4, 5, 6, 7, 8, 9, 10, 11, 12, 13, 14, 15, 16, 17, 18, 19, 20, 21, 22, 24], [0, 1, 2, 3, 4, 5, 6, 7, 8, 9, 10, 11, 12, 13, 14, 15, 16, 17, 18, 19, 20, 21, 22, 24, 25], [0, 1, 2, 3, 4, 5, 6, 7, 8, 9, 10, 11, 12, 13, 14, 15, 16, 17, 18, 19, 20, 21, 22, 23, 24, 25, 26], [0, 1, 2, 3, 4, 5, 6, 7, 8, 9, 10, 11, 12, 13, 14, 15, 16, 17, 18, 19, 20, 21, 22, 23, 24, 25, 26, 27], [0, 1, 2, 3, 4, 5, 6, 7, 8, 9, 10, 11, 12, 13, 14, 15, 16, 17, 18, 19, 20, 21, 22, 23, 24, 25, 26, 27, 28], [], [30], [30, 31], [], [33], [33, 34], [30, 31, 32, 33, 34, 35], [0, 1, 2, 3, 4, 5, 6, 7, 8, 9, 10, 11, 12, 13, 14, 15, 16, 17, 18, 19, 20, 21, 22, 23, 24, 25, 26, 27, 28, 29, 30, 31, 32, 33, 34, 35, 36], [0, 1, 2, 3, 4, 5, 6, 7, 8, 9, 10, 11, 12, 13, 14, 15, 16, 17, 18, 19, 20, 21, 22, 23, 24, 25, 26, 27, 28, 29, 30, 31, 32, 33, 34, 35, 36, 37], [0, 1, 2, 3, 4, 5, 6, 7, 8, 9, 10, 11, 12, 13, 14, 15, 16, 17, 18, 19, 20, 21, 22, 23, 24, 25, 26, 27, 28, 29, 30, 31, 32, 33, 34, 35, 36, 37, 38], [0, 1, 2, 3, 4, 5, 6, 7, 8, 9, 10, 11, 12, 13, 14, 15, 16, 17, 18, 19, 20, 21, 22, 23, 24, 25, 26, 27, 28, 29, 30, 31, 32, 33, 34, 35, 36, 37, 38, 39]], [[72, 77, 79, 85, 90, 96, 98, 106, 107, 108], [72, 77, 79, 85, 90, 96, 98, 106, 107, 108], [72, 77, 79, 85, 90, 96, 98, 106, 107, 108], [77, 79, 85, 90, 96, 98, 106, 107, 108], [77, 79, 85, 90, 96, 98, 106, 107, 108], [77, 79, 85, 90, 96, 98, 106, 107, 108], [77, 79, 85, 90, 96, 98, 106, 107, 108], [77, 79, 85, 90, 96, 98, 106, 107, 108], [79, 85, 90, 96, 98, 106, 107, 108], [79, 85, 90, 96, 98, 106, 107, 108], [85, 90, 96, 98, 106, 107, 108], [72, 77, 79, 85, 90, 96, 98, 106, 107, 108], [72, 77, 79, 85, 90, 96, 98, 106, 107, 108], [72, 77, 79, 85, 90, 96, 98, 106, 107, 108], [72, 77, 79, 85, 90, 96, 98, 106, 107, 108], [72, 77, 79, 85, 90, 96, 98, 106, 107, 108], [90, 96, 98, 106, 107, 108], [72, 77, 79, 85, 90, 96, 98, 106, 107, 108], [72, 77, 79, 85, 90, 96, 98, 106, 107, 108], [72, 77, 79, 85, 90, 96, 98, 106, 107, 108], [72, 77, 79, 85, 90, 96, 98, 106, 107, 108], [96, 98, 106, 107, 108], [96, 98, 106, 107, 108], [96, 98, 106, 107, 108], [96, 98, 106, 107, 108], [96, 98, 106, 107, 108], [96, 98, 106, 107, 108], [98, 106, 107, 108], [98, 106, 107, 108], [106, 107, 108], [72, 77, 79, 85, 90, 96, 98, 106, 107, 108], [72, 77, 79, 85, 90, 96, 98, 106, 107, 108], [72, 77, 79, 85, 90, 96, 98, 106, 107, 108], [72, 77, 79, 85, 90, 96, 98, 106, 107, 108], [72, 77, 79, 85, 90, 96, 98, 106, 107, 108], [72, 77, 79, 85, 90, 96, 98, 106, 107, 108], [72, 77, 79, 85, 90, 96, 98, 106, 107, 108], [107, 108], [108], [], []]))], fun b => lookA b [(0, (none, some ⟨[1, 35, 36, 37], [1], []⟩)), (2, (none, some ⟨[8, 9, 62, 63, 64], [1], []⟩))], fun _ => [], noIt, false, fun _ => none, fun _ => none⟩
theorem ev_clock_CheckNet (J : Inv) (cs : List ByteArray) (ls : List Lnk) (post : DV → Prop) : evFn Try.prog tab Sn82 ann_clock_CheckNet J Try.f37 [.t (.a [.sl 1 cs.length (txsC cs), .sl 4 ls.length (lnksC ls)])] post = vc_clock_CheckNet J cs ls post := by kernel_rfl
theorem fit_clock_CheckNet : okFn ann_clock_CheckNet Try.f37 = true := by kernel_rfl
def rd_clock_CheckNet_0 (J : Inv) (cs : List ByteArray) (ls : List Lnk) (v0_0 : Int) (nn0 : Nat) (post : DV → Prop) : Prop := cond (decide (v0_0 < ((cs.length : Nat) : Int))) ((0 ≤ v0_0 ∧ v0_0 < ((cs.length : Nat) : Int)) ∧ ((((txAt cs v0_0.toNat)).size ≤ 1000000) ∧ ((0 ≤ (0 : Int) ∧ (0 : Int) ≤ v0_0 ∧ v0_0 ≤ ((cs.length : Nat) : Int)) ∧ ((txP ((v0_0 - (0 : Int)).toNat) (fun i j => (txsC cs) (((0 : Int)).toNat + i) j) ∧ ((txOf ((v0_0 - (0 : Int)).toNat) (fun i j => (txsC cs) (((0 : Int)).toNat + i) j))).length ≤ 1000000) ∧ ((numsP 1 2 (genC [[.v (.int .i64 (unl (nameB (txAt cs v0_0.toNat)) (4 : Int)))], [.v (.int .i64 (unl (!(((txOf ((v0_0 - (0 : Int)).toNat) (fun i j => (txsC cs) (((0 : Int)).toNat + i) j))).contains (txAt cs v0_0.toNat))) (5 : Int)))]]) ∧ (([(unl (nameB (txAt cs v0_0.toNat)) (4 : Int)), (unl (!(((txOf ((v0_0 - (0 : Int)).toNat) (fun i j => (txsC cs) (((0 : Int)).toNat + i) j))).contains (txAt cs v0_0.toNat))) (5 : Int))] : List Int)).length ≤ 100) ∧ (cond ((firstNZ ([(unl (nameB (txAt cs v0_0.toNat)) (4 : Int)), (unl (!(((txOf ((v0_0 - (0 : Int)).toNat) (fun i j => (txsC cs) (((0 : Int)).toNat + i) j))).contains (txAt cs v0_0.toNat))) (5 : Int))] : List Int)) != (0 : Int)) (post (.tu [.c (.v (.int .i64 v0_0)), .c (.v (.int .i64 (firstNZ ([(unl (nameB (txAt cs v0_0.toNat)) (4 : Int)), (unl (!(((txOf ((v0_0 - (0 : Int)).toNat) (fun i j => (txsC cs) (((0 : Int)).toNat + i) j))).contains (txAt cs v0_0.toNat))) (5 : Int))] : List Int))))])) (lt (IntKind.i64.wrap (v0_0 + (1 : Int))) fun x1 => J 0 (nn0 :: []) (mk_clock_CheckNet_0 cs ls x1)))))))) (∃ n, J 2 (n :: []) (mk_clock_CheckNet_2 cs ls 0))
theorem er_clock_CheckNet_0 (J : Inv) (cs : List ByteArray) (ls : List Lnk) (v0_0 : Int) (nn0 : Nat) (post : DV → Prop) : round Try.prog tab Sn82 ann_clock_CheckNet J Try.f37 post 0 (nn0 :: []) (mk_clock_CheckNet_0 cs ls v0_0) = rd_clock_CheckNet_0 J cs ls v0_0 nn0 post := by kernel_rfl
def rd_clock_CheckNet_2 (J : Inv) (cs : List ByteArray) (ls : List Lnk) (v2_0 : Int) (nn2 : Nat) (post : DV → Prop) : Prop := cond (decide (v2_0 < ((ls.length : Nat) : Int))) ((0 ≤ v2_0 ∧ v2_0 < ((ls.length : Nat) : Int)) ∧ ((intsB [] (boxC [.sl 1 cs.length (txsC cs), .sl 4 ls.length (lnksC ls)]) = true ∧ slP 1 ((boxC [.sl 1 cs.length (txsC cs), .sl 4 ls.length (lnksC ls)]) 0) ∧ txP cs.length (txsC cs) ∧ slP 4 ((boxC [.sl 1 cs.length (txsC cs), .sl 4 ls.length (lnksC ls)]) 1) ∧ numsP 4 ls.length (lnksC ls) ∧ ((txOf cs.length (txsC cs))).length ≤ 1000000) ∧ (cond (inB ((lnkAt ls v2_0.toNat).frm) 0 ((((txOf cs.length (txsC cs))).length : Int) - 1)) ((intsB [] (boxC [.sl 1 cs.length (txsC cs), .sl 4 ls.length (lnksC ls)]) = true ∧ slP 1 ((boxC [.sl 1 cs.length (txsC cs), .sl 4 ls.length (lnksC ls)]) 0) ∧ txP cs.length (txsC cs) ∧ slP 4 ((boxC [.sl 1 cs.length (txsC cs), .sl 4 ls.length (lnksC ls)]) 1) ∧ numsP 4 ls.length (lnksC ls) ∧ ((txOf cs.length (txsC cs))).length ≤ 1000000) ∧ (cond (inB ((lnkAt ls v2_0.toNat).lo) (-1000000000) 1000000000) ((numsP 1 4 (genC [[.v (.int .i64 (unl (inB ((lnkAt ls v2_0.toNat).to) 0 ((((txOf cs.length (txsC cs))).length : Int) - 1)) (6 : Int)))], [.v (.int .i64 (unl (((lnkAt ls v2_0.toNat).frm) != ((lnkAt ls v2_0.toNat).to)) (15 : Int)))], [.v (.int .i64 (unl (inB ((lnkAt ls v2_0.toNat).hi) (-1000000000) 1000000000) (2 : Int)))], [.v (.int .i64 (unl (decide (((lnkAt ls v2_0.toNat).lo) ≤ ((lnkAt ls v2_0.toNat).hi))) (9 : Int)))]]) ∧ (([(unl (inB ((lnkAt ls v2_0.toNat).to) 0 ((((txOf cs.length (txsC cs))).length : Int) - 1)) (6 : Int)), (unl (((lnkAt ls v2_0.toNat).frm) != ((lnkAt ls v2_0.toNat).to)) (15 : Int)), (unl (inB ((lnkAt ls v2_0.toNat).hi) (-1000000000) 1000000000) (2 : Int)), (unl (decide (((lnkAt ls v2_0.toNat).lo) ≤ ((lnkAt ls v2_0.toNat).hi))) (9 : Int))] : List Int)).length ≤ 100) ∧ (cond ((firstNZ ([(unl (inB ((lnkAt ls v2_0.toNat).to) 0 ((((txOf cs.length (txsC cs))).length : Int) - 1)) (6 : Int)), (unl (((lnkAt ls v2_0.toNat).frm) != ((lnkAt ls v2_0.toNat).to)) (15 : Int)), (unl (inB ((lnkAt ls v2_0.toNat).hi) (-1000000000) 1000000000) (2 : Int)), (unl (decide (((lnkAt ls v2_0.toNat).lo) ≤ ((lnkAt ls v2_0.toNat).hi))) (9 : Int))] : List Int)) != (0 : Int)) (post (.tu [.c (.v (.int .i64 v2_0)), .c (.v (.int .i64 (firstNZ ([(unl (inB ((lnkAt ls v2_0.toNat).to) 0 ((((txOf cs.length (txsC cs))).length : Int) - 1)) (6 : Int)), (unl (((lnkAt ls v2_0.toNat).frm) != ((lnkAt ls v2_0.toNat).to)) (15 : Int)), (unl (inB ((lnkAt ls v2_0.toNat).hi) (-1000000000) 1000000000) (2 : Int)), (unl (decide (((lnkAt ls v2_0.toNat).lo) ≤ ((lnkAt ls v2_0.toNat).hi))) (9 : Int))] : List Int))))])) (lt (IntKind.i64.wrap (v2_0 + (1 : Int))) fun x1 => J 2 (nn2 :: []) (mk_clock_CheckNet_2 cs ls x1)))) ((false = false) ∧ ((numsP 1 4 (genC [[.v (.int .i64 (unl (inB ((lnkAt ls v2_0.toNat).to) 0 ((((txOf cs.length (txsC cs))).length : Int) - 1)) (6 : Int)))], [.v (.int .i64 (unl (((lnkAt ls v2_0.toNat).frm) != ((lnkAt ls v2_0.toNat).to)) (15 : Int)))], [.v (.int .i64 (unl false (2 : Int)))], [.v (.int .i64 (unl (decide (((lnkAt ls v2_0.toNat).lo) ≤ ((lnkAt ls v2_0.toNat).hi))) (9 : Int)))]]) ∧ (([(unl (inB ((lnkAt ls v2_0.toNat).to) 0 ((((txOf cs.length (txsC cs))).length : Int) - 1)) (6 : Int)), (unl (((lnkAt ls v2_0.toNat).frm) != ((lnkAt ls v2_0.toNat).to)) (15 : Int)), (unl false (2 : Int)), (unl (decide (((lnkAt ls v2_0.toNat).lo) ≤ ((lnkAt ls v2_0.toNat).hi))) (9 : Int))] : List Int)).length ≤ 100) ∧ (cond ((firstNZ ([(unl (inB ((lnkAt ls v2_0.toNat).to) 0 ((((txOf cs.length (txsC cs))).length : Int) - 1)) (6 : Int)), (unl (((lnkAt ls v2_0.toNat).frm) != ((lnkAt ls v2_0.toNat).to)) (15 : Int)), (unl false (2 : Int)), (unl (decide (((lnkAt ls v2_0.toNat).lo) ≤ ((lnkAt ls v2_0.toNat).hi))) (9 : Int))] : List Int)) != (0 : Int)) (post (.tu [.c (.v (.int .i64 v2_0)), .c (.v (.int .i64 (firstNZ ([(unl (inB ((lnkAt ls v2_0.toNat).to) 0 ((((txOf cs.length (txsC cs))).length : Int) - 1)) (6 : Int)), (unl (((lnkAt ls v2_0.toNat).frm) != ((lnkAt ls v2_0.toNat).to)) (15 : Int)), (unl false (2 : Int)), (unl (decide (((lnkAt ls v2_0.toNat).lo) ≤ ((lnkAt ls v2_0.toNat).hi))) (9 : Int))] : List Int))))])) (lt (IntKind.i64.wrap (v2_0 + (1 : Int))) fun x2 => J 2 (nn2 :: []) (mk_clock_CheckNet_2 cs ls x2))))))) ((false = false) ∧ (cond (inB ((lnkAt ls v2_0.toNat).lo) (-1000000000) 1000000000) ((numsP 1 4 (genC [[.v (.int .i64 (unl false (6 : Int)))], [.v (.int .i64 (unl (((lnkAt ls v2_0.toNat).frm) != ((lnkAt ls v2_0.toNat).to)) (15 : Int)))], [.v (.int .i64 (unl (inB ((lnkAt ls v2_0.toNat).hi) (-1000000000) 1000000000) (2 : Int)))], [.v (.int .i64 (unl (decide (((lnkAt ls v2_0.toNat).lo) ≤ ((lnkAt ls v2_0.toNat).hi))) (9 : Int)))]]) ∧ (([(unl false (6 : Int)), (unl (((lnkAt ls v2_0.toNat).frm) != ((lnkAt ls v2_0.toNat).to)) (15 : Int)), (unl (inB ((lnkAt ls v2_0.toNat).hi) (-1000000000) 1000000000) (2 : Int)), (unl (decide (((lnkAt ls v2_0.toNat).lo) ≤ ((lnkAt ls v2_0.toNat).hi))) (9 : Int))] : List Int)).length ≤ 100) ∧ (cond ((firstNZ ([(unl false (6 : Int)), (unl (((lnkAt ls v2_0.toNat).frm) != ((lnkAt ls v2_0.toNat).to)) (15 : Int)), (unl (inB ((lnkAt ls v2_0.toNat).hi) (-1000000000) 1000000000) (2 : Int)), (unl (decide (((lnkAt ls v2_0.toNat).lo) ≤ ((lnkAt ls v2_0.toNat).hi))) (9 : Int))] : List Int)) != (0 : Int)) (post (.tu [.c (.v (.int .i64 v2_0)), .c (.v (.int .i64 (firstNZ ([(unl false (6 : Int)), (unl (((lnkAt ls v2_0.toNat).frm) != ((lnkAt ls v2_0.toNat).to)) (15 : Int)), (unl (inB ((lnkAt ls v2_0.toNat).hi) (-1000000000) 1000000000) (2 : Int)), (unl (decide (((lnkAt ls v2_0.toNat).lo) ≤ ((lnkAt ls v2_0.toNat).hi))) (9 : Int))] : List Int))))])) (lt (IntKind.i64.wrap (v2_0 + (1 : Int))) fun x3 => J 2 (nn2 :: []) (mk_clock_CheckNet_2 cs ls x3)))) ((false = false) ∧ ((numsP 1 4 (genC [[.v (.int .i64 (unl false (6 : Int)))], [.v (.int .i64 (unl (((lnkAt ls v2_0.toNat).frm) != ((lnkAt ls v2_0.toNat).to)) (15 : Int)))], [.v (.int .i64 (unl false (2 : Int)))], [.v (.int .i64 (unl (decide (((lnkAt ls v2_0.toNat).lo) ≤ ((lnkAt ls v2_0.toNat).hi))) (9 : Int)))]]) ∧ (([(unl false (6 : Int)), (unl (((lnkAt ls v2_0.toNat).frm) != ((lnkAt ls v2_0.toNat).to)) (15 : Int)), (unl false (2 : Int)), (unl (decide (((lnkAt ls v2_0.toNat).lo) ≤ ((lnkAt ls v2_0.toNat).hi))) (9 : Int))] : List Int)).length ≤ 100) ∧ (cond ((firstNZ ([(unl false (6 : Int)), (unl (((lnkAt ls v2_0.toNat).frm) != ((lnkAt ls v2_0.toNat).to)) (15 : Int)), (unl false (2 : Int)), (unl (decide (((lnkAt ls v2_0.toNat).lo) ≤ ((lnkAt ls v2_0.toNat).hi))) (9 : Int))] : List Int)) != (0 : Int)) (post (.tu [.c (.v (.int .i64 v2_0)), .c (.v (.int .i64 (firstNZ ([(unl false (6 : Int)), (unl (((lnkAt ls v2_0.toNat).frm) != ((lnkAt ls v2_0.toNat).to)) (15 : Int)), (unl false (2 : Int)), (unl (decide (((lnkAt ls v2_0.toNat).lo) ≤ ((lnkAt ls v2_0.toNat).hi))) (9 : Int))] : List Int))))])) (lt (IntKind.i64.wrap (v2_0 + (1 : Int))) fun x4 => J 2 (nn2 :: []) (mk_clock_CheckNet_2 cs ls x4)))))))))) (post (.tu [.c (.v (.int .i64 0)), .c (.v (.int .i64 0))]))
theorem er_clock_CheckNet_2 (J : Inv) (cs : List ByteArray) (ls : List Lnk) (v2_0 : Int) (nn2 : Nat) (post : DV → Prop) : round Try.prog tab Sn82 ann_clock_CheckNet J Try.f37 post 1 (nn2 :: []) (mk_clock_CheckNet_2 cs ls v2_0) = rd_clock_CheckNet_2 J cs ls v2_0 nn2 post := by kernel_rfl
theorem lp_clock_CheckNet (J : Inv) (post : DV → Prop) : AllG J (loopsFn Try.prog tab Sn82 ann_clock_CheckNet J Try.f37 post) = (((∀ F s, ¬ J 0 (0 :: F) s) ∧ ∀ n F s, J 0 ((n + 1) :: F) s → round Try.prog tab Sn82 ann_clock_CheckNet J Try.f37 post 0 (n :: F) s) ∧ ((∀ F s, ¬ J 2 (0 :: F) s) ∧ ∀ n F s, J 2 ((n + 1) :: F) s → round Try.prog tab Sn82 ann_clock_CheckNet J Try.f37 post 1 (n :: F) s) ∧ True) := by kernel_rfl
def J_clock_CheckNet (cs : List ByteArray) (ls : List Lnk) : Inv := fun b F s => match b, F with
 | 0, [nn0] => ∃ (v0_0 : Int), s = mk_clock_CheckNet_0 cs ls v0_0 ∧ ((ntH cs ls = 0 ∧ (∀ k, k < cs.length → (txAt cs k).size ≤ 1000000)) ∧ 0 ≤ v0_0 ∧ v0_0 ≤ cs.length ∧ (nn0 : Int) + v0_0 = cs.length + 1 ∧ ∀ j : Nat, (j : Int) < v0_0 → nmE cs j = 0)
 | 2, [nn2] => ∃ (v2_0 : Int), s = mk_clock_CheckNet_2 cs ls v2_0 ∧ ((ntH cs ls = 0 ∧ scan (nmE cs) cs.length = 0) ∧ 0 ≤ v2_0 ∧ v2_0 ≤ ls.length ∧ (nn2 : Int) + v2_0 = ls.length + 1 ∧ ∀ j : Nat, (j : Int) < v2_0 → lkE cs.length (lnkAt ls j) = 0)
 | _, _ => False
theorem rnd_clock_CheckNet_0 (cs : List ByteArray) (ls : List Lnk) (v0_0 : Int) (nn0 : Nat) (hp : (∀ k, k < (cs).length → (txAt cs k).size ≤ 1000000)) (hi : (ntH cs ls = 0 ∧ (∀ k, k < cs.length → (txAt cs k).size ≤ 1000000)) ∧ 0 ≤ v0_0 ∧ v0_0 ≤ cs.length ∧ ((nn0 + 1) : Int) + v0_0 = cs.length + 1 ∧ ∀ j : Nat, (j : Int) < v0_0 → nmE cs j = 0) : rd_clock_CheckNet_0 (J_clock_CheckNet cs ls) cs ls v0_0 nn0 (fun r => LeD r (.tu [.c (.v (.int .i64 (ntI cs ls))), .c (.v (.int .i64 (ntE cs ls)))])) := by
 obtain ⟨⟨q, hs⟩, i1, i2, i3, i4⟩ := hi
 obtain ⟨k, rfl⟩ : ∃ k : Nat, v0_0 = k := ⟨v0_0.toNat, by omega⟩
 have hk : (k : Int).toNat = k := rfl
 have z := ntH_ok q
 unfold rd_clock_CheckNet_0
 rw [hk]
 refine cond_i (fun h => ?_) (fun h => ?_)
 ·have hlt : k < cs.length := by have := of_decide_eq_true h; omega
  have et : txOf ((k : Int) - 0).toNat (fun i j => (txsC cs) (((0 : Int)).toNat + i) j) = cs.take k := by
   have := txs_part cs (lo := 0) (n := k) (by omega)
   rw [show ((k : Int) - 0).toNat = k by omega]
   simpa using this
  rw [et]
  refine ⟨by omega, hs k hlt, by omega, ⟨txP_part cs _ _, by rw [List.length_take]; omega⟩, ⟨numsP_gen [_, _], Nat.le_of_ble_eq_true rfl⟩, cond_i (fun g => ?_) (fun g => lt_i fun x hx => ?_)⟩
  ·have g : nmE cs k ≠ 0 := by unfold nmE; simpa using g
   have e1 := scan_at (f := nmE cs) (fun j hj => i4 j (by omega)) hlt g
   have e2 := scanI_at (f := nmE cs) (fun j hj => i4 j (by omega)) hlt g
   have e3 : scan (nmE cs) cs.length ≠ 0 := by rw [e1]; exact g
   refine le2 ?_ ?_
   ·unfold ntI; rw [if_neg (by rw [q]; simp), if_pos e3, e2]
   ·unfold ntE; rw [if_neg (by rw [q]; simp), if_pos e3, e1]; rfl
  ·have g : nmE cs k = 0 := by unfold nmE; simpa using g
   rw [wi (by omega)] at hx
   subst hx
   exact ⟨_, rfl, ⟨q, hs⟩, by omega, by omega, by omega, fun j hj => by
    by_cases c : j = k
    ·rw [c]; exact g
    ·exact i4 j (by omega)⟩
 ·have h := of_decide_eq_false h
  exact ⟨ls.length + 1, 0, rfl, ⟨q, scan_end fun j hj => i4 j (by omega)⟩, by omega, by omega, by omega, fun j hj => by omega⟩
theorem zero_clock_CheckNet_0 (cs : List ByteArray) (ls : List Lnk) (v0_0 : Int)  (hi : (ntH cs ls = 0 ∧ (∀ k, k < cs.length → (txAt cs k).size ≤ 1000000)) ∧ 0 ≤ v0_0 ∧ v0_0 ≤ cs.length ∧ (0 : Int) + v0_0 = cs.length + 1 ∧ ∀ j : Nat, (j : Int) < v0_0 → nmE cs j = 0) : False := by
 omega
theorem rnd_clock_CheckNet_2 (cs : List ByteArray) (ls : List Lnk) (v2_0 : Int) (nn2 : Nat) (hp : (∀ k, k < (cs).length → (txAt cs k).size ≤ 1000000)) (hi : (ntH cs ls = 0 ∧ scan (nmE cs) cs.length = 0) ∧ 0 ≤ v2_0 ∧ v2_0 ≤ ls.length ∧ ((nn2 + 1) : Int) + v2_0 = ls.length + 1 ∧ ∀ j : Nat, (j : Int) < v2_0 → lkE cs.length (lnkAt ls j) = 0) : rd_clock_CheckNet_2 (J_clock_CheckNet cs ls) cs ls v2_0 nn2 (fun r => LeD r (.tu [.c (.v (.int .i64 (ntI cs ls))), .c (.v (.int .i64 (ntE cs ls)))])) := by
 obtain ⟨⟨q, q2⟩, i1, i2, i3, i4⟩ := hi
 obtain ⟨k, rfl⟩ : ∃ k : Nat, v2_0 = k := ⟨v2_0.toNat, by omega⟩
 have hk : (k : Int).toNat = k := rfl
 have z := ntH_ok q
 unfold rd_clock_CheckNet_2
 simp only [txs_of, hk]
 refine cond_i (fun h => ?_) (fun h => ?_)
 ·have hlt : k < ls.length := by have := of_decide_eq_true h; omega
  have fin : ∀ e9 : Int, e9 = lkE cs.length (lnkAt ls k) → cond (e9 != 0) (LeD (.tu [.c (.v (.int .i64 k)), .c (.v (.int .i64 e9))]) (.tu [.c (.v (.int .i64 (ntI cs ls))), .c (.v (.int .i64 (ntE cs ls)))])) (lt (IntKind.i64.wrap ((k : Int) + 1)) fun x2 => J_clock_CheckNet cs ls 2 (nn2 :: []) (mk_clock_CheckNet_2 cs ls x2)) := by
   intro e9 he
   refine cond_i (fun g => ?_) (fun g => lt_i fun x hx => ?_)
   ·have g : lkE cs.length (lnkAt ls k) ≠ 0 := by rw [← he]; simpa using g
    have e1 := scan_at (f := fun i => lkE cs.length (lnkAt ls i)) (fun j hj => i4 j (by omega)) hlt g
    have e2 := scanI_at (f := fun i => lkE cs.length (lnkAt ls i)) (fun j hj => i4 j (by omega)) hlt g
    refine le2 ?_ ?_
    ·unfold ntI; rw [if_neg (by rw [q]; simp), if_neg (by rw [q2]; simp), e2]
    ·unfold ntE; rw [if_neg (by rw [q]; simp), if_neg (by rw [q2]; simp), e1, he]
   ·have g : lkE cs.length (lnkAt ls k) = 0 := by rw [← he]; simpa using g
    rw [wi (by omega)] at hx
    subst hx
    exact ⟨_, rfl, ⟨q, q2⟩, by omega, by omega, by omega, fun j hj => by
     by_cases c : j = k
     ·rw [c]; exact g
     ·exact i4 j (by omega)⟩
  have P1 : intsB [] (boxC [.sl 1 cs.length (txsC cs), .sl 4 ls.length (lnksC ls)]) = true ∧ slP 1 ((boxC [.sl 1 cs.length (txsC cs), .sl 4 ls.length (lnksC ls)]) 0) ∧ txP cs.length (txsC cs) ∧ slP 4 ((boxC [.sl 1 cs.length (txsC cs), .sl 4 ls.length (lnksC ls)]) 1) ∧ numsP 4 ls.length (lnksC ls) ∧ cs.length ≤ 1000000 := ⟨rfl, rfl, txP_txs cs, rfl, numsP_lnks ls, by omega⟩
  refine ⟨by omega, P1, cond_i (fun a1 => ⟨P1, cond_i (fun a2 => ⟨⟨numsP_gen [_, _, _, _], Nat.le_of_ble_eq_true rfl⟩, fin _ ?_⟩) (fun a2 => ⟨by trivial, ⟨numsP_gen [_, _, _, _], Nat.le_of_ble_eq_true rfl⟩, fin _ ?_⟩)⟩) (fun a1 => ⟨by trivial, cond_i (fun a2 => ⟨⟨numsP_gen [_, _, _, _], Nat.le_of_ble_eq_true rfl⟩, fin _ ?_⟩) (fun a2 => ⟨by trivial, ⟨numsP_gen [_, _, _, _], Nat.le_of_ble_eq_true rfl⟩, fin _ ?_⟩)⟩)⟩
  all_goals
   unfold lkE
   rw [a1, a2]
   rfl
 ·have h := of_decide_eq_false h
  have e1 := scan_end (f := fun i => lkE cs.length (lnkAt ls i)) (n := ls.length) fun j hj => i4 j (by omega)
  have e2 := scanI_end (f := fun i => lkE cs.length (lnkAt ls i)) (n := ls.length) fun j hj => i4 j (by omega)
  refine le2 ?_ ?_
  ·unfold ntI; rw [if_neg (by rw [q]; simp), if_neg (by rw [q2]; simp), e2]
  ·unfold ntE; rw [if_neg (by rw [q]; simp), if_neg (by rw [q2]; simp), e1]
theorem zero_clock_CheckNet_2 (cs : List ByteArray) (ls : List Lnk) (v2_0 : Int)  (hi : (ntH cs ls = 0 ∧ scan (nmE cs) cs.length = 0) ∧ 0 ≤ v2_0 ∧ v2_0 ≤ ls.length ∧ (0 : Int) + v2_0 = ls.length + 1 ∧ ∀ j : Nat, (j : Int) < v2_0 → lkE cs.length (lnkAt ls j) = 0) : False := by
 omega
theorem spec_clock_CheckNet (cs : List ByteArray) (ls : List Lnk) (hp : (∀ k, k < (cs).length → (txAt cs k).size ≤ 1000000)) : vc_clock_CheckNet (J_clock_CheckNet cs ls) cs ls (fun r => LeD r (.tu [.c (.v (.int .i64 (ntI cs ls))), .c (.v (.int .i64 (ntE cs ls)))])) := by
 unfold vc_clock_CheckNet
 have tail : cond (ntH cs ls != 0) (LeD (.tu [.c (.v (.int .i64 0)), .c (.v (.int .i64 (ntH cs ls)))]) (.tu [.c (.v (.int .i64 (ntI cs ls))), .c (.v (.int .i64 (ntE cs ls)))])) (∃ n, J_clock_CheckNet cs ls 0 (n :: []) (mk_clock_CheckNet_0 cs ls 0)) := by
  refine cond_i (fun g => ?_) (fun g => ?_)
  ·have g : ntH cs ls ≠ 0 := by simpa using g
   exact le2 (if_pos g).symm (if_pos g).symm
  ·have g : ntH cs ls = 0 := by simpa using g
   exact ⟨cs.length + 1, 0, rfl, ⟨g, hp⟩, by omega, by omega, by omega, fun j hj => by omega⟩
 refine cond_i (fun h => ⟨⟨numsP_gen [_, _], Nat.le_of_ble_eq_true rfl⟩, ?_⟩) (fun h => ⟨rfl, ⟨numsP_gen [_, _], Nat.le_of_ble_eq_true rfl⟩, ?_⟩)
 ·have e : ntH cs ls = firstNZ [unl (decide ((cs.length : Int) > 0)) 10, unl (decide ((ls.length : Int) ≤ 12)) 8] := by unfold ntH; rw [h]; rfl
  rw [← e]
  exact tail
 ·have e : ntH cs ls = firstNZ [unl (decide ((cs.length : Int) > 0)) 10, unl false 8] := by unfold ntH; rw [h]; rfl
  rw [← e]
  exact tail
theorem all_clock_CheckNet (cs : List ByteArray) (ls : List Lnk) (hp : (∀ k, k < (cs).length → (txAt cs k).size ≤ 1000000)) : AllG (J_clock_CheckNet cs ls) (loopsFn Try.prog tab Sn82 ann_clock_CheckNet (J_clock_CheckNet cs ls) Try.f37 (fun r => LeD r (.tu [.c (.v (.int .i64 (ntI cs ls))), .c (.v (.int .i64 (ntE cs ls)))]))) := by
 rw [lp_clock_CheckNet]
 refine ⟨⟨?_, ?_⟩, ⟨?_, ?_⟩, trivial⟩
 ·intro F s h
  obtain _ | ⟨g, F⟩ := F
  case cons => exact h.elim
  obtain ⟨w0, rfl, hi⟩ := h
  exact zero_clock_CheckNet_0 cs ls w0 hi
 ·intro n F s h
  obtain _ | ⟨g, F⟩ := F
  case cons => exact h.elim
  obtain ⟨w0, rfl, hi⟩ := h
  rw [er_clock_CheckNet_0]
  exact rnd_clock_CheckNet_0 cs ls _ _ hp hi
 ·intro F s h
  obtain _ | ⟨g, F⟩ := F
  case cons => exact h.elim
  obtain ⟨w0, rfl, hi⟩ := h
  exact zero_clock_CheckNet_2 cs ls w0 hi
 ·intro n F s h
  obtain _ | ⟨g, F⟩ := F
  case cons => exact h.elim
  obtain ⟨w0, rfl, hi⟩ := h
  rw [er_clock_CheckNet_2]
  exact rnd_clock_CheckNet_2 cs ls _ _ hp hi
def con_clock_CheckNet : Con := fun args => match args with
 | [.t (.a [.sl 1 n_cs c_cs, .sl 4 n_ls c_ls])] => some (.tu [.c (.v (.int .i64 (ntI (txOf n_cs c_cs) (listC n_ls mkLnk c_ls)))), .c (.v (.int .i64 (ntE (txOf n_cs c_cs) (listC n_ls mkLnk c_ls))))], some (txP n_cs c_cs ∧ numsP 4 n_ls c_ls ∧ (∀ k, k < ((txOf n_cs c_cs)).length → (txAt (txOf n_cs c_cs) k).size ≤ 1000000)), false)
 | _ => none
theorem ok_clock_CheckNet : Ok Try.prog 37 con_clock_CheckNet := by
 refine Ok.fn (ann := ann_clock_CheckNet) mixed tabOK VSn82 ValidIt.no (fn := Try.f37) (by kernel_rfl) (by kernel_rfl) fit_clock_CheckNet fun args r pre fresh h hp => ?_
 unfold con_clock_CheckNet at h
 split at h
 ·rename_i n_cs c_cs n_ls c_ls
  cases h
  obtain ⟨hp0, hp1, hp⟩ := hp
  refine ⟨rfl, J_clock_CheckNet (txOf n_cs c_cs) (listC n_ls mkLnk c_ls), [.t (.a [.sl 1 ((txOf n_cs c_cs).length) (txsC (txOf n_cs c_cs)), .sl 4 ((listC n_ls mkLnk c_ls).length) (lnksC (listC n_ls mkLnk c_ls))])], ?_, Nat.le_of_ble_eq_true (by kernel_rfl), ?_, ?_⟩
  ·exact (LeA_cons (leT_a (LeCs.cons ((leL_str hp0)) (LeCs.cons ((leL_Lnk hp1)) LeCs.nil))) LeA_nil)
  ·rw [ev_clock_CheckNet]; exact spec_clock_CheckNet (txOf n_cs c_cs) (listC n_ls mkLnk c_ls) hp
  ·exact all_clock_CheckNet (txOf n_cs c_cs) (listC n_ls mkLnk c_ls) hp
 ·cases h
def Sn83 : Sum := addS Sn82 37 con_clock_CheckNet
theorem VSn83 : Valid Try.prog Sn83 := Valid.add VSn82 ok_clock_CheckNet
def vc_clock_netErr (cs : List ByteArray) (ls : List Lnk) (post : DV → Prop) : Prop := (txP cs.length (txsC cs) ∧ numsP 4 ls.length (lnksC ls) ∧ (∀ k, k < ((txOf cs.length (txsC cs))).length → (txAt (txOf cs.length (txsC cs)) k).size ≤ 1000000)) ∧ (post (.t (.c (.v (.int .i64 (ntE (txOf cs.length (txsC cs)) (listC ls.length mkLnk (lnksC ls))))))))
def ann_clock_netErr : Ann := ⟨fun _ => none, fun _ => none, fun _ => [], noIt, false, fun _ => none, fun _ => none⟩
theorem ev_clock_netErr (J : Inv) (cs : List ByteArray) (ls : List Lnk) (post : DV → Prop) : evFn Try.prog tab Sn83 ann_clock_netErr J Try.f92 [.t (.a [.sl 1 cs.length (txsC cs), .sl 4 ls.length (lnksC ls)])] post = vc_clock_netErr cs ls post := by kernel_rfl
theorem fit_clock_netErr : okFn ann_clock_netErr Try.f92 = true := by kernel_rfl
theorem lp_clock_netErr (J : Inv) (post : DV → Prop) : AllG J (loopsFn Try.prog tab Sn83 ann_clock_netErr J Try.f92 post) = (True) := by kernel_rfl
theorem spec_clock_netErr (cs : List ByteArray) (ls : List Lnk) (hp : (∀ k, k < (cs).length → (txAt cs k).size ≤ 1000000)) : vc_clock_netErr cs ls (fun r => LeD r (.t (.c (.v (.int .i64 (ntE cs ls)))))) := by
 unfold vc_clock_netErr
 simp only [txs_of, lnks_listC]
 exact ⟨⟨txP_txs cs, numsP_lnks ls, hp⟩, LeD.refl _⟩
def con_clock_netErr : Con := fun args => match args with
 | [.t (.a [.sl 1 n_cs c_cs, .sl 4 n_ls c_ls])] => some (.t (.c (.v (.int .i64 (ntE (txOf n_cs c_cs) (listC n_ls mkLnk c_ls))))), some (txP n_cs c_cs ∧ numsP 4 n_ls c_ls ∧ (∀ k, k < ((txOf n_cs c_cs)).length → (txAt (txOf n_cs c_cs) k).size ≤ 1000000)), false)
 | _ => none
theorem ok_clock_netErr : Ok Try.prog 92 con_clock_netErr := by
 refine Ok.fn (ann := ann_clock_netErr) mixed tabOK VSn83 ValidIt.no (fn := Try.f92) (by kernel_rfl) (by kernel_rfl) fit_clock_netErr fun args r pre fresh h hp => ?_
 unfold con_clock_netErr at h
 split at h
 ·rename_i n_cs c_cs n_ls c_ls
  cases h
  obtain ⟨hp0, hp1, hp⟩ := hp
  refine ⟨rfl, fun _ _ _ => False, [.t (.a [.sl 1 ((txOf n_cs c_cs).length) (txsC (txOf n_cs c_cs)), .sl 4 ((listC n_ls mkLnk c_ls).length) (lnksC (listC n_ls mkLnk c_ls))])], ?_, Nat.le_of_ble_eq_true (by kernel_rfl), ?_, ?_⟩
  ·exact (LeA_cons (leT_a (LeCs.cons ((leL_str hp0)) (LeCs.cons ((leL_Lnk hp1)) LeCs.nil))) LeA_nil)
  ·rw [ev_clock_netErr]; exact spec_clock_netErr (txOf n_cs c_cs) (listC n_ls mkLnk c_ls) hp
  ·rw [lp_clock_netErr]; trivial
 ·cases h
def Sn84 : Sum := addS Sn83 92 con_clock_netErr
theorem VSn84 : Valid Try.prog Sn84 := Valid.add VSn83 ok_clock_netErr
def Sn85 : Sum := Sn84
theorem VSn85 : Valid Try.prog Sn85 := VSn84
def Sn86 : Sum := Sn85
theorem VSn86 : Valid Try.prog Sn86 := VSn85
end Go.Proofs.Ytkifmfmenobhnaa
set_option linter.unusedVariables false
set_option linter.unusedSimpArgs false
namespace Go.Proofs.Ytkifmfmenobhnaa
open Go.RowKit Ev
def con_eras : ItC := fun l => match l with
 | [.px 1 0 c_x] => some ⟨(listC (cvLen (c_x 0)) mkLpp (cvCells (c_x 0))).length + 1, 2, erY (listC (cvLen (c_x 0)) mkLpp (cvCells (c_x 0))), some (slP 2 (c_x 0) ∧ numsP 2 (cvLen (c_x 0)) (cvCells (c_x 0)) ∧ lpsOk (listC (cvLen (c_x 0)) mkLpp (cvCells (c_x 0)))), false, some 130⟩
 | _ => none
theorem ok_eras : OkIt Try.prog 125 con_eras := by
 intro l R h hp
 unfold con_eras at h
 split at h
 ·rename_i c_x
  cases h
  obtain ⟨hq0, hr0, hp⟩ := hp
  refine ⟨Enters.of (fn := Try.f125) (by kernel_rfl) (by kernel_rfl) (by kernel_rfl), fun i _ => ⟨rfl, rfl⟩, fun w N vs hv => ?_⟩
  have hz : LeCs (fwd c_x 0 1) [.sl 2 (listC (cvLen (c_x 0)) mkLpp (cvCells (c_x 0))).length (lppsC (listC (cvLen (c_x 0)) mkLpp (cvCells (c_x 0))))] := LeCs.cons (leC_s hq0 (leL_Lp hr0)) LeCs.nil
  exact seq_eras w N vs _ hp (leC_cons (leC_p hz) (LeC.refl []) w N vs hv)
 ·cases h
def I1 : It := addI noIt 125 con_eras
theorem VI1 : ValidIt Try.prog I1 := ValidIt.add ValidIt.no ok_eras
end Go.Proofs.Ytkifmfmenobhnaa
set_option linter.unusedVariables false
set_option linter.unusedSimpArgs false
namespace Go.Proofs.Ytkifmfmenobhnaa
open Go.RowKit Ev
theorem lps_ok {l : List Lp} (h : lpE l = 0) : lpsOk l := ⟨(lpE_ok h).1, fun k hk => ⟨((lpE_ok h).2 k hk).1, ((lpE_ok h).2 k hk).2.1⟩⟩
theorem lp_mono {l : List Lp} (h : lpE l = 0) {i : Nat} : ∀ j, i < j → j < l.length → (lppAt l i).tick < (lppAt l j).tick := by
 intro j
 induction j with
 | zero => intro hj; omega
 | succ j ih =>
  intro hij hj
  have a := ((lpE_ok h).2 (j + 1) hj).2.2 (by omega)
  rw [show j + 1 - 1 = j by omega] at a
  rcases (by omega : i = j ∨ i < j) with rfl | c
  ·exact a
  ·have := ih c (by omega); omega
theorem lppAt_get {l : List Lp} {i : Nat} (h : i < l.length) : lppAt l i = l[i] := by simp [lppAt, List.getD, h]
theorem lp_sorted {l : List Lp} (h : lpE l = 0) : l.Pairwise (fun a b => a.tick < b.tick) := by
 rw [List.pairwise_iff_getElem]
 intro i j hi hj hij
 have := lp_mono h j hij hj
 rwa [lppAt_get hi, lppAt_get hj] at this
theorem era_iff {l : List Lp} (h : lpE l = 0) {t : Int} (ht : 0 ≤ t ∧ t ≤ 1000000000000) {i : Nat} (hi : i ≤ l.length) : erB l t i = true ↔ lpAt l i t := by
 rw [lpAt_iff (lp_sorted h) hi]
 unfold erB erF erT
 rw [inB_true]
 constructor
 ·rintro ⟨a, b⟩
  refine ⟨fun k x e hx => ?_, fun x hx => ?_⟩
  ·subst e
   obtain ⟨hk, rfl⟩ := List.getElem?_eq_some_iff.1 hx
   rw [if_neg (by omega), show k + 1 - 1 = k by omega, lppAt_get hk] at a
   exact a
  ·obtain ⟨hk, rfl⟩ := List.getElem?_eq_some_iff.1 hx
   rw [if_pos hk, lppAt_get hk] at b
   omega
 ·rintro ⟨a, b⟩
  constructor
  ·rcases Nat.eq_zero_or_pos i with c | c
   ·rw [if_pos c]; omega
   ·rw [if_neg (by omega)]
    have hk : i - 1 < l.length := by omega
    have := a (i - 1) l[i - 1] (by omega) (List.getElem?_eq_getElem hk)
    rwa [lppAt_get hk]
  ·by_cases c : i < l.length
   ·rw [if_pos c]
    have := b l[i] (List.getElem?_eq_getElem c)
    rw [lppAt_get c]; omega
   ·rw [if_neg c]; omega
theorem era_ex {l : List Lp} (h : lpE l = 0) {t : Int} (ht : 0 ≤ t ∧ t ≤ 1000000000000) : ∃ k, k ≤ l.length ∧ erB l t k = true := by
 obtain ⟨i, hi, a⟩ := lpAt_ex l (lp_sorted h) t
 exact ⟨i, hi, (era_iff h ht hi).2 a⟩
theorem era_lab {l : List Lp} (h : lpE l = 0) {t : Int} (ht : 0 ≤ t ∧ t ≤ 1000000000000) {i : Nat} (hi : i ≤ l.length) (e : erB l t i = true) : labelI l t = t + erS l i := label_at ((era_iff h ht hi).1 e)
theorem tfK_succ (l : List Lp) (n : Int) (k : Nat) : tfK l n (k + 1) = tfK l n k ++ (if erB l (n - erS l k) k = true then [n - erS l k] else []) := by
 unfold tfK
 rw [List.range_succ, List.filter_append, List.map_append]
 congr 1
 rw [List.filter_cons]
 cases erB l (n - erS l k) k <;> rfl
theorem tfK_len (l : List Lp) (n : Int) (k : Nat) : (tfK l n k).length ≤ k := by
 unfold tfK
 rw [List.length_map]
 have := List.length_filter_le (fun i => erB l (n - erS l i) i) (List.range k)
 rwa [List.length_range] at this
theorem erB_ref {l : List Lp} (h : lpE l = 0) {k : Nat} (hk : k ≤ l.length) (x : Int) : (bif tkB x then (bif ((k : Int) == (0 : Int)) then (bif ((k : Int) == ((l.length : Nat) : Int)) then true else decide (x < ((lppAt l k).tick))) else (bif decide (((lppAt l (k - 1)).tick) ≤ x) then (bif ((k : Int) == ((l.length : Nat) : Int)) then true else decide (x < ((lppAt l k).tick))) else false)) else false) = erB l x k := by
 have z := (lpE_ok h).2
 have e1 : ((k : Int) == (0 : Int)) = decide (k = 0) := by rw [Bool.eq_iff_iff]; simp
 have e2 : ((k : Int) == ((l.length : Nat) : Int)) = decide (k = l.length) := by rw [Bool.eq_iff_iff]; simp [Int.ofNat_inj]
 rw [e1, e2, Bool.eq_iff_iff]
 unfold erB erF erT
 rw [inB_true]
 by_cases c : k = 0
 ·by_cases d : k = l.length
  ·rw [if_pos c, if_neg (by omega)]
   simp only [decide_eq_true c, decide_eq_true d, cond_true]
   cases e : tkB x
   ·have : ¬ (0 ≤ x ∧ x ≤ 1000000000000) := fun q => by rw [tkB_iff.2 q] at e; cases e
    simp; omega
   ·have := tkB_iff.1 e
    simp; omega
  ·have b := z k (by omega)
   rw [if_pos c, if_pos (by omega)]
   simp only [decide_eq_true c, decide_eq_false d, cond_true, cond_false]
   cases e : tkB x
   ·have : ¬ (0 ≤ x ∧ x ≤ 1000000000000) := fun q => by rw [tkB_iff.2 q] at e; cases e
    simp; omega
   ·have := tkB_iff.1 e
    simp; omega
 ·have b1 := z (k - 1) (by omega)
  by_cases d : k = l.length
  ·rw [if_neg c, if_neg (by omega)]
   simp only [decide_eq_false c, decide_eq_true d, cond_true, cond_false]
   cases e : tkB x
   ·have : ¬ (0 ≤ x ∧ x ≤ 1000000000000) := fun q => by rw [tkB_iff.2 q] at e; cases e
    simp; omega
   ·have := tkB_iff.1 e
    cases e3 : decide ((lppAt l (k - 1)).tick ≤ x)
    ·have := of_decide_eq_false e3; simp; omega
    ·have := of_decide_eq_true e3; simp; omega
  ·have b := z k (by omega)
   rw [if_neg c, if_pos (by omega)]
   simp only [decide_eq_false c, decide_eq_false d, cond_true, cond_false]
   cases e : tkB x
   ·have : ¬ (0 ≤ x ∧ x ≤ 1000000000000) := fun q => by rw [tkB_iff.2 q] at e; cases e
    simp; omega
   ·have := tkB_iff.1 e
    cases e3 : decide ((lppAt l (k - 1)).tick ≤ x)
    ·have := of_decide_eq_false e3; simp; omega
    ·have := of_decide_eq_true e3; simp; omega
def vc_clock_eras (l : List Lp) (post : DV → Prop) : Prop := post (.t (.fn 125 [.px 1 0 (boxC [.sl 2 l.length (lppsC l)])]))
def ann_clock_eras : Ann := ⟨fun _ => none, fun _ => none, fun _ => [], I1, false, fun _ => none, fun _ => none⟩
theorem ev_clock_eras (J : Inv) (l : List Lp) (post : DV → Prop) : evFn Try.prog tab Sn86 ann_clock_eras J Try.f86 [.t (.c (.sl 2 l.length (lppsC l)))] post = vc_clock_eras l post := by kernel_rfl
theorem fit_clock_eras : okFn ann_clock_eras Try.f86 = true := by kernel_rfl
theorem lp_clock_eras (J : Inv) (post : DV → Prop) : AllG J (loopsFn Try.prog tab Sn86 ann_clock_eras J Try.f86 post) = (True) := by kernel_rfl
theorem spec_clock_eras (l : List Lp) : vc_clock_eras l (fun r => LeD r (.t (.fn 125 [.px 1 0 (boxC [.sl 2 l.length (lppsC l)])]))) := by
 exact LeD.refl _
def con_clock_eras : Con := fun args => match args with
 | [.t (.c (.sl 2 n_l c_l))] => some (.t (.fn 125 [.px 1 0 (boxC [.sl 2 ((listC n_l mkLpp c_l).length) (lppsC (listC n_l mkLpp c_l))])]), some (numsP 2 n_l c_l), false)
 | _ => none
theorem ok_clock_eras : Ok Try.prog 86 con_clock_eras := by
 refine Ok.fn (ann := ann_clock_eras) mixed tabOK VSn86 VI1 (fn := Try.f86) (by kernel_rfl) (by kernel_rfl) fit_clock_eras fun args r pre fresh h hp => ?_
 unfold con_clock_eras at h
 split at h
 ·rename_i n_l c_l
  cases h
  have hp0 := hp
  refine ⟨rfl, fun _ _ _ => False, [.t (.c (.sl 2 ((listC n_l mkLpp c_l).length) (lppsC (listC n_l mkLpp c_l))))], ?_, Nat.le_of_ble_eq_true (by kernel_rfl), ?_, ?_⟩
  ·exact (LeA_cons (leT_c ((leL_Lp hp0))) LeA_nil)
  ·rw [ev_clock_eras]; exact spec_clock_eras (listC n_l mkLpp c_l)
  ·rw [lp_clock_eras]; trivial
 ·cases h
def St87 : Sum := addS Sn86 86 con_clock_eras
theorem VSt87 : Valid Try.prog St87 := Valid.add VSn86 ok_clock_eras
def mk_clock_LabelAt_0 (l : List Lp) (tk : Int)  : DS := ⟨[none, none, none, some (.t (.c (.p 3 0))), some (.t (.c (.p 4 0))), some (.t (.c (.p 5 0))), none, none, none, none, none, none, none, none, none, none, none, none, none, none, some (.t (.fn 125 [.px 1 0 (boxC [.sl 2 ((listC l.length mkLpp (lppsC l)).length) (lppsC (listC l.length mkLpp (lppsC l)))])])), none, none, none, none, none, none, none, none, none, none, none], [none, none, none, some (.box 3 [.v (.int .i64 tk)]), some (.box 3 [.v (.int .i64 0)]), some (.box 27 [.v (.int .i64 0)]), none, none, none, none, none, none, none, none, none, none, none, none, none, none, none, none, none, none, none, none, none, none, none, none, none, none]⟩
def vc_clock_LabelAt (J : Inv) (l : List Lp) (tk : Int) (post : DV → Prop) : Prop := (numsP 2 l.length (lppsC l)) ∧ ((numsP 1 2 (genC [[.v (.int .i64 (lpE (listC l.length mkLpp (lppsC l))))], [.v (.int .i64 (unl (tkB tk) (2 : Int)))]]) ∧ (([(lpE (listC l.length mkLpp (lppsC l))), (unl (tkB tk) (2 : Int))] : List Int)).length ≤ 100) ∧ (cond ((firstNZ ([(lpE (listC l.length mkLpp (lppsC l))), (unl (tkB tk) (2 : Int))] : List Int)) != (0 : Int)) (post (.tu [.c (.v (.int .i64 0)), .c (.v (.int .i64 (firstNZ ([(lpE (listC l.length mkLpp (lppsC l))), (unl (tkB tk) (2 : Int))] : List Int))))])) ((numsP 2 l.length (lppsC l)) ∧ ((slP 2 ((boxC [.sl 2 ((listC l.length mkLpp (lppsC l)).length) (lppsC (listC l.length mkLpp (lppsC l)))]) 0) ∧ numsP 2 ((listC l.length mkLpp (lppsC l)).length) (lppsC (listC l.length mkLpp (lppsC l))) ∧ lpsOk (listC ((listC l.length mkLpp (lppsC l)).length) mkLpp (lppsC (listC l.length mkLpp (lppsC l))))) ∧ (J 0 [0] (mk_clock_LabelAt_0 l tk))))))
def ann_clock_LabelAt : Ann := ⟨fun r => lookA r [(1, ([[], [0], [], [0, 1, 2], [0, 1, 2, 3], [0, 1, 2, 3, 4], [0, 1, 2, 3, 4, 5], [0, 1, 2, 3, 4, 5, 6]], [[10, 12, 13, 14, 15], [12, 13, 14, 15], [10, 12, 13, 14, 15], [13, 14, 15], [14, 15], [15], [], []]))], fun b => lookA b [(0, (none, some ⟨[3, 4, 5, 20], [3, 4, 5], []⟩))], fun _ => [], I1, false, fun _ => none, fun _ => none⟩
theorem ev_clock_LabelAt (J : Inv) (l : List Lp) (tk : Int) (post : DV → Prop) : evFn Try.prog tab St87 ann_clock_LabelAt J Try.f18 [.t (.c (.sl 2 l.length (lppsC l))), .t (.c (.v (.int .i64 tk)))] post = vc_clock_LabelAt J l tk post := by kernel_rfl
theorem fit_clock_LabelAt : okFn ann_clock_LabelAt Try.f18 = true := by kernel_rfl
def rd_clock_LabelAt_0 (J : Inv) (l : List Lp) (tk : Int)  (nn0 : Nat) (post : DV → Prop) : Prop := (nn0 = ((listC ((listC l.length mkLpp (lppsC l)).length) mkLpp (lppsC (listC l.length mkLpp (lppsC l)))).length + 1) → post (.tu [.c (.v (.int .i64 0)), .c (.v (.int .i64 0))])) ∧ (nn0 < ((listC ((listC l.length mkLpp (lppsC l)).length) mkLpp (lppsC (listC l.length mkLpp (lppsC l)))).length + 1) → cond (inB tk (erF (listC ((listC l.length mkLpp (lppsC l)).length) mkLpp (lppsC (listC l.length mkLpp (lppsC l)))) nn0) (erT (listC ((listC l.length mkLpp (lppsC l)).length) mkLpp (lppsC (listC l.length mkLpp (lppsC l)))) nn0)) (lt (IntKind.i64.wrap (tk + (erS (listC ((listC l.length mkLpp (lppsC l)).length) mkLpp (lppsC (listC l.length mkLpp (lppsC l)))) nn0))) fun x1 => post (.tu [.c (.v (.int .i64 x1)), .c (.v (.int .i64 0))])) (((some (.t (.fn 125 [.px 1 0 (boxC [.sl 2 ((listC l.length mkLpp (lppsC l)).length) (lppsC (listC l.length mkLpp (lppsC l)))])])) : Option DV) = some (.t (.fn 125 [.px 1 0 (boxC [.sl 2 ((listC l.length mkLpp (lppsC l)).length) (lppsC (listC l.length mkLpp (lppsC l)))])]))) ∧ J 0 [nn0 + 1] (mk_clock_LabelAt_0 l tk)))
theorem er_clock_LabelAt_0 (J : Inv) (l : List Lp) (tk : Int)  (nn0 : Nat) (post : DV → Prop) : round Try.prog tab St87 ann_clock_LabelAt J Try.f18 post 0 (nn0 :: []) (mk_clock_LabelAt_0 l tk ) = rd_clock_LabelAt_0 J l tk  nn0 post := by kernel_rfl
theorem lp_clock_LabelAt (J : Inv) (post : DV → Prop) : AllG J (loopsFn Try.prog tab St87 ann_clock_LabelAt J Try.f18 post) = ((∀ i s, J 0 [i] s → round Try.prog tab St87 ann_clock_LabelAt J Try.f18 post 0 [i] s) ∧ True) := by kernel_rfl
def J_clock_LabelAt (l : List Lp) (tk : Int) : Inv := fun b F s => match b, F with
 | 0, [nn0] => s = mk_clock_LabelAt_0 l tk  ∧ (laE l tk = 0 ∧ nn0 ≤ l.length + 1 ∧ ∀ j, j < nn0 → erB l tk j = false)
 | _, _ => False
theorem rnd_clock_LabelAt_0 (l : List Lp) (tk : Int)  (nn0 : Nat) (hi : laE l tk = 0 ∧ nn0 ≤ l.length + 1 ∧ ∀ j, j < nn0 → erB l tk j = false) : rd_clock_LabelAt_0 (J_clock_LabelAt l tk) l tk  nn0 (fun r => LeD r (.tu [.c (.v (.int .i64 (laV l tk))), .c (.v (.int .i64 (laE l tk)))])) := by
 obtain ⟨q, i1, i2⟩ := hi
 obtain ⟨q1, q2⟩ := fn2 (show firstNZ [_, _] = 0 from q)
 rw [unl_0 (by decide)] at q2
 have t := tkB_iff.1 q2
 unfold rd_clock_LabelAt_0
 simp only [lpps_listC]
 refine ⟨fun h => ?_, fun h => cond_i (fun e => lt_i fun x1 h1 => ?_) (fun e => ⟨by trivial, rfl, q, by omega, fun j hj => ?_⟩)⟩
 ·obtain ⟨k, hk, e⟩ := era_ex q1 t
  rw [i2 k (by omega)] at e
  cases e
 ·have r := erS_rg (lps_ok q1) nn0 (by omega)
  have b := (lpE_ok q1).1
  rw [wi (by omega)] at h1
  rw [show laV l tk = labelI l tk from if_pos q, q, era_lab q1 t (by omega) e, h1]
  exact LeD.refl _
 ·rcases (by omega : j < nn0 ∨ j = nn0) with c | rfl
  ·exact i2 j c
  ·exact e
theorem spec_clock_LabelAt (l : List Lp) (tk : Int) : vc_clock_LabelAt (J_clock_LabelAt l tk) l tk (fun r => LeD r (.tu [.c (.v (.int .i64 (laV l tk))), .c (.v (.int .i64 (laE l tk)))])) := by
 unfold vc_clock_LabelAt
 simp only [lpps_listC]
 refine ⟨numsP_lpps l, ⟨numsP_gen [_, _], Nat.le_of_ble_eq_true rfl⟩, cond_i (fun h => ?_) (fun h => ?_)⟩
 ·have h : laE l tk ≠ 0 := by unfold laE; simpa using h
  rw [show laV l tk = 0 from if_neg h]
  exact LeD.refl _
 ·have h : laE l tk = 0 := by unfold laE; simpa using h
  exact ⟨numsP_lpps l, ⟨rfl, numsP_lpps l, lps_ok (fn2 (show firstNZ [_, _] = 0 from h)).1⟩, rfl, h, Nat.zero_le _, fun j hj => absurd hj (Nat.not_lt_zero _)⟩
theorem all_clock_LabelAt (l : List Lp) (tk : Int) : AllG (J_clock_LabelAt l tk) (loopsFn Try.prog tab St87 ann_clock_LabelAt (J_clock_LabelAt l tk) Try.f18 (fun r => LeD r (.tu [.c (.v (.int .i64 (laV l tk))), .c (.v (.int .i64 (laE l tk)))]))) := by
 rw [lp_clock_LabelAt]
 refine ⟨?_, trivial⟩
 ·intro i s h
  obtain ⟨rfl, hi⟩ := h
  rw [er_clock_LabelAt_0]
  exact rnd_clock_LabelAt_0 l tk  _ hi
def con_clock_LabelAt : Con := fun args => match args with
 | [.t (.c (.sl 2 n_l c_l)), .t (.c (.v (.int .i64 tk)))] => some (.tu [.c (.v (.int .i64 (laV (listC n_l mkLpp c_l) tk))), .c (.v (.int .i64 (laE (listC n_l mkLpp c_l) tk)))], some (numsP 2 n_l c_l), false)
 | _ => none
theorem ok_clock_LabelAt : Ok Try.prog 18 con_clock_LabelAt := by
 refine Ok.fn (ann := ann_clock_LabelAt) mixed tabOK VSt87 VI1 (fn := Try.f18) (by kernel_rfl) (by kernel_rfl) fit_clock_LabelAt fun args r pre fresh h hp => ?_
 unfold con_clock_LabelAt at h
 split at h
 ·rename_i n_l c_l tk
  cases h
  have hp0 := hp
  refine ⟨rfl, J_clock_LabelAt (listC n_l mkLpp c_l) tk, [.t (.c (.sl 2 ((listC n_l mkLpp c_l).length) (lppsC (listC n_l mkLpp c_l)))), .t (.c (.v (.int .i64 tk)))], ?_, Nat.le_of_ble_eq_true (by kernel_rfl), ?_, ?_⟩
  ·exact (LeA_cons (leT_c ((leL_Lp hp0))) (LeA_cons (LeD.refl _) LeA_nil))
  ·rw [ev_clock_LabelAt]; exact spec_clock_LabelAt (listC n_l mkLpp c_l) tk
  ·exact all_clock_LabelAt (listC n_l mkLpp c_l) tk
 ·cases h
def St88 : Sum := addS St87 18 con_clock_LabelAt
theorem VSt88 : Valid Try.prog St88 := Valid.add VSt87 ok_clock_LabelAt
def mk_clock_TicksFor_0 (l : List Lp) (n : Int) (v0_0 : List Int) : DS := ⟨[none, none, none, some (.t (.c (.p 3 0))), none, none, none, some (.t (.c (.p 7 0))), none, none, none, none, none, none, none, none, none, none, none, none, none, some (.t (.fn 125 [.px 1 0 (boxC [.sl 2 ((listC l.length mkLpp (lppsC l)).length) (lppsC (listC l.length mkLpp (lppsC l)))])])), none, none, none, none, none, none, none, none, none, none, none, none, none, none, none, none, none], [some (.num 3 .i64 v0_0), none, none, some (.box 3 [.v (.int .i64 n)]), none, none, none, some (.box 22 [.os 0]), none, none, none, none, none, none, none, none, none, none, none, none, none, none, none, none, none, none, none, none, none, none, none, none, none, none, none, none, none, none, none]⟩
def vc_clock_TicksFor (J : Inv) (l : List Lp) (n : Int) (post : DV → Prop) : Prop := (numsP 2 l.length (lppsC l)) ∧ ((numsP 1 2 (genC [[.v (.int .i64 (lpE (listC l.length mkLpp (lppsC l))))], [.v (.int .i64 (unl (inB n (-2000000000000 : Int) (2000000000000 : Int)) (2 : Int)))]]) ∧ (([(lpE (listC l.length mkLpp (lppsC l))), (unl (inB n (-2000000000000 : Int) (2000000000000 : Int)) (2 : Int))] : List Int)).length ≤ 100) ∧ (cond ((firstNZ ([(lpE (listC l.length mkLpp (lppsC l))), (unl (inB n (-2000000000000 : Int) (2000000000000 : Int)) (2 : Int))] : List Int)) != (0 : Int)) (post (.tu [.c (.v (.slice none 0 0)), .c (.v (.int .i64 (firstNZ ([(lpE (listC l.length mkLpp (lppsC l))), (unl (inB n (-2000000000000 : Int) (2000000000000 : Int)) (2 : Int))] : List Int))))])) ((numsP 2 l.length (lppsC l)) ∧ ((slP 2 ((boxC [.sl 2 ((listC l.length mkLpp (lppsC l)).length) (lppsC (listC l.length mkLpp (lppsC l)))]) 0) ∧ numsP 2 ((listC l.length mkLpp (lppsC l)).length) (lppsC (listC l.length mkLpp (lppsC l))) ∧ lpsOk (listC ((listC l.length mkLpp (lppsC l)).length) mkLpp (lppsC (listC l.length mkLpp (lppsC l))))) ∧ (J 0 [0] (mk_clock_TicksFor_0 l n ([])))))))
def ann_clock_TicksFor : Ann := ⟨fun r => lookA r [(1, ([[], [0], [], [0, 1, 2], [0, 1, 2, 3], [0, 1, 2, 3, 4], [0, 1, 2, 3, 4, 5], [0, 1, 2, 3, 4, 5, 6]], [[11, 13, 14, 15, 16], [13, 14, 15, 16], [11, 13, 14, 15, 16], [14, 15, 16], [15, 16], [16], [], []]))], fun b => lookA b [(0, (none, some ⟨[3, 7, 21], [3, 7], []⟩))], fun b => (lookA b [(0, [(7, 0, 0, .num 3 .i64 ([]))])]).getD [], I1, true, fun _ => none, fun _ => none⟩
theorem ev_clock_TicksFor (J : Inv) (l : List Lp) (n : Int) (post : DV → Prop) : evFn Try.prog tab St88 ann_clock_TicksFor J Try.f20 [.t (.c (.sl 2 l.length (lppsC l))), .t (.c (.v (.int .i64 n)))] post = vc_clock_TicksFor J l n post := by kernel_rfl
theorem fit_clock_TicksFor : okFn ann_clock_TicksFor Try.f20 = true := by kernel_rfl
def rd_clock_TicksFor_0 (J : Inv) (l : List Lp) (n : Int) (v0_0 : List Int) (nn0 : Nat) (post : DV → Prop) : Prop := (nn0 = ((listC ((listC l.length mkLpp (lppsC l)).length) mkLpp (lppsC (listC l.length mkLpp (lppsC l)))).length + 1) → post (.tu [.c (.sl 1 v0_0.length (numsC .i64 v0_0)), .c (.v (.int .i64 0))])) ∧ (nn0 < ((listC ((listC l.length mkLpp (lppsC l)).length) mkLpp (lppsC (listC l.length mkLpp (lppsC l)))).length + 1) → lt (IntKind.i64.wrap (n - (erS (listC ((listC l.length mkLpp (lppsC l)).length) mkLpp (lppsC (listC l.length mkLpp (lppsC l)))) nn0))) fun x1 => cond (inB x1 (erF (listC ((listC l.length mkLpp (lppsC l)).length) mkLpp (lppsC (listC l.length mkLpp (lppsC l)))) nn0) (erT (listC ((listC l.length mkLpp (lppsC l)).length) mkLpp (lppsC (listC l.length mkLpp (lppsC l)))) nn0)) (lt (IntKind.i64.wrap (n - (erS (listC ((listC l.length mkLpp (lppsC l)).length) mkLpp (lppsC (listC l.length mkLpp (lppsC l)))) nn0))) fun x2 => ((IntKind.i64 = IntKind.i64 ∧ True) ∧ roomP 8 (v0_0.length + ([x2] : List Int).length)) ∧ (((some (.t (.fn 125 [.px 1 0 (boxC [.sl 2 ((listC l.length mkLpp (lppsC l)).length) (lppsC (listC l.length mkLpp (lppsC l)))])])) : Option DV) = some (.t (.fn 125 [.px 1 0 (boxC [.sl 2 ((listC l.length mkLpp (lppsC l)).length) (lppsC (listC l.length mkLpp (lppsC l)))])]))) ∧ J 0 [nn0 + 1] (mk_clock_TicksFor_0 l n (v0_0 ++ ([x2]))))) (((some (.t (.fn 125 [.px 1 0 (boxC [.sl 2 ((listC l.length mkLpp (lppsC l)).length) (lppsC (listC l.length mkLpp (lppsC l)))])])) : Option DV) = some (.t (.fn 125 [.px 1 0 (boxC [.sl 2 ((listC l.length mkLpp (lppsC l)).length) (lppsC (listC l.length mkLpp (lppsC l)))])]))) ∧ J 0 [nn0 + 1] (mk_clock_TicksFor_0 l n v0_0)))
theorem er_clock_TicksFor_0 (J : Inv) (l : List Lp) (n : Int) (v0_0 : List Int) (nn0 : Nat) (post : DV → Prop) : round Try.prog tab St88 ann_clock_TicksFor J Try.f20 post 0 (nn0 :: []) (mk_clock_TicksFor_0 l n v0_0) = rd_clock_TicksFor_0 J l n v0_0 nn0 post := by kernel_rfl
theorem lp_clock_TicksFor (J : Inv) (post : DV → Prop) : AllG J (loopsFn Try.prog tab St88 ann_clock_TicksFor J Try.f20 post) = ((∀ i s, J 0 [i] s → round Try.prog tab St88 ann_clock_TicksFor J Try.f20 post 0 [i] s) ∧ True) := by kernel_rfl
def J_clock_TicksFor (l : List Lp) (n : Int) : Inv := fun b F s => match b, F with
 | 0, [nn0] => ∃ (v0_0 : List Int), s = mk_clock_TicksFor_0 l n v0_0 ∧ (tfE l n = 0 ∧ nn0 ≤ l.length + 1 ∧ v0_0 = tfK l n nn0)
 | _, _ => False
theorem rnd_clock_TicksFor_0 (l : List Lp) (n : Int) (v0_0 : List Int) (nn0 : Nat) (hi : tfE l n = 0 ∧ nn0 ≤ l.length + 1 ∧ v0_0 = tfK l n nn0) : rd_clock_TicksFor_0 (J_clock_TicksFor l n) l n v0_0 nn0 (fun r => LeD r (.tu [.c (.sl 1 ((tfV l n).length) (intsC (tfV l n))), .c (.v (.int .i64 (tfE l n)))])) := by
 obtain ⟨q, i1, i2⟩ := hi
 obtain ⟨q1, q2⟩ := fn2 (show firstNZ [_, _] = 0 from q)
 rw [unl_0 (by decide), inB_true] at q2
 unfold rd_clock_TicksFor_0
 simp only [lpps_listC]
 refine ⟨fun h => ?_, fun h => lt_i fun x1 h1 => cond_i (fun e => lt_i fun x2 h2 => ⟨⟨by trivial, ?_⟩, by trivial, _, rfl, q, by omega, ?_⟩) (fun e => ⟨by trivial, _, rfl, q, by omega, ?_⟩)⟩
 ·rw [show tfV l n = tfK l n (l.length + 1) from if_pos q, q, i2, h]
  exact LeD.refl _
 all_goals
  have r := erS_rg (lps_ok q1) nn0 (by omega)
  have b := (lpE_ok q1).1
  rw [wi (by omega)] at h1
  subst h1
 ·have hl := tfK_len l n nn0
  unfold roomP maxLen; rw [i2]; simp; omega
 ·rw [wi (by omega)] at h2
  rw [tfK_succ, if_pos (show erB l (n - erS l nn0) nn0 = true from e), i2, h2]
 ·rw [tfK_succ, if_neg (by rw [show erB l (n - erS l nn0) nn0 = false from e]; simp), i2, List.append_nil]
theorem spec_clock_TicksFor (l : List Lp) (n : Int) : vc_clock_TicksFor (J_clock_TicksFor l n) l n (fun r => LeD r (.tu [.c (.sl 1 ((tfV l n).length) (intsC (tfV l n))), .c (.v (.int .i64 (tfE l n)))])) := by
 unfold vc_clock_TicksFor
 simp only [lpps_listC]
 refine ⟨numsP_lpps l, ⟨numsP_gen [_, _], Nat.le_of_ble_eq_true rfl⟩, cond_i (fun h => ?_) (fun h => ?_)⟩
 ·have h : tfE l n ≠ 0 := by unfold tfE; simpa using h
  rw [show tfV l n = [] from if_neg h]
  exact le_tu le_nil (LeD.refl _)
 ·have h : tfE l n = 0 := by unfold tfE; simpa using h
  exact ⟨numsP_lpps l, ⟨rfl, numsP_lpps l, lps_ok (fn2 (show firstNZ [_, _] = 0 from h)).1⟩, _, rfl, h, Nat.zero_le _, rfl⟩
theorem all_clock_TicksFor (l : List Lp) (n : Int) : AllG (J_clock_TicksFor l n) (loopsFn Try.prog tab St88 ann_clock_TicksFor (J_clock_TicksFor l n) Try.f20 (fun r => LeD r (.tu [.c (.sl 1 ((tfV l n).length) (intsC (tfV l n))), .c (.v (.int .i64 (tfE l n)))]))) := by
 rw [lp_clock_TicksFor]
 refine ⟨?_, trivial⟩
 ·intro i s h
  obtain ⟨w0, rfl, hi⟩ := h
  rw [er_clock_TicksFor_0]
  exact rnd_clock_TicksFor_0 l n _ _ hi
def con_clock_TicksFor : Con := fun args => match args with
 | [.t (.c (.sl 2 n_l c_l)), .t (.c (.v (.int .i64 n)))] => some (.tu [.c (.sl 1 ((tfV (listC n_l mkLpp c_l) n).length) (intsC (tfV (listC n_l mkLpp c_l) n))), .c (.v (.int .i64 (tfE (listC n_l mkLpp c_l) n)))], some (numsP 2 n_l c_l), true)
 | _ => none
theorem ok_clock_TicksFor : Ok Try.prog 20 con_clock_TicksFor := by
 refine Ok.fnFr (ann := ann_clock_TicksFor) mixed tabOK VSt88 VI1 rfl (fn := Try.f20) (by kernel_rfl) (by kernel_rfl) fit_clock_TicksFor fun args r pre fresh h hp => ?_
 unfold con_clock_TicksFor at h
 split at h
 ·rename_i n_l c_l n
  cases h
  have hp0 := hp
  refine ⟨rfl, (by intro x hx; simp only [List.mem_cons, List.not_mem_nil, or_false] at hx; rcases hx with rfl | rfl; exact (fun i j _ hj => plain_int _ i j); exact trivial), J_clock_TicksFor (listC n_l mkLpp c_l) n, [.t (.c (.sl 2 ((listC n_l mkLpp c_l).length) (lppsC (listC n_l mkLpp c_l)))), .t (.c (.v (.int .i64 n)))], ?_, Nat.le_of_ble_eq_true (by kernel_rfl), ?_, ?_⟩
  ·exact (LeA_cons (leT_c ((leL_Lp hp0))) (LeA_cons (LeD.refl _) LeA_nil))
  ·rw [ev_clock_TicksFor]; exact spec_clock_TicksFor (listC n_l mkLpp c_l) n
  ·exact all_clock_TicksFor (listC n_l mkLpp c_l) n
 ·cases h
def St89 : Sum := addS St88 20 con_clock_TicksFor
theorem VSt89 : Valid Try.prog St89 := Valid.add VSt88 ok_clock_TicksFor
def mk_ref01_Ticks_0 (l : List Lp) (lb : Int) (v0_0 : List Int) (v0_1 : Int) (v0_2 : Int) : DS := ⟨[some (.t (.c (.sl 2 l.length (lppsC l)))), some (.t (.c (.v (.int .i64 lb)))), none, none, none, some (.t (.c (.os 5))), some (.t (.c (.v (.int .i64 v0_1)))), some (.t (.c (.v (.int .i64 v0_2)))), none, none, none, none, none, none, none, none, none, none, none, none, none, none, none, none, none, none, none, none, none, none, none, none, none, none, none, none, none, none, none, none, none, none, none, none, none, none, none, none, none, none, none, none, none, none, none, none, none, none, none, none, none, none, none, none], [none, none, none, none, none, some (.num 3 .i64 v0_0), none, none, none, none, none, none, none, none, none, none, none, none, none, none, none, none, none, none, none, none, none, none, none, none, none, none, none, none, none, none, none, none, none, none, none, none, none, none, none, none, none, none, none, none, none, none, none, none, none, none, none, none, none, none, none, none, none, none]⟩
def vc_ref01_Ticks (J : Inv) (l : List Lp) (lb : Int) (post : DV → Prop) : Prop := ∃ n, J 0 (n :: []) (mk_ref01_Ticks_0 l lb ([]) 0 0)
def ann_ref01_Ticks : Ann := ⟨fun _ => none, fun b => lookA b [(0, (none, some ⟨[0, 1, 6, 7], [], [(5, .num 3 .i64 ([]))]⟩))], fun _ => [], I1, false, fun r => lookA r [(9, (3, [58]))], fun r => lookA r [(7, [6])]⟩
theorem ev_ref01_Ticks (J : Inv) (l : List Lp) (lb : Int) (post : DV → Prop) : evFn Try.prog tab St89 ann_ref01_Ticks J Try.f28 [.t (.c (.sl 2 l.length (lppsC l))), .t (.c (.v (.int .i64 lb)))] post = vc_ref01_Ticks J l lb post := by kernel_rfl
theorem fit_ref01_Ticks : okFn ann_ref01_Ticks Try.f28 = true := by kernel_rfl
def rd_ref01_Ticks_0 (J : Inv) (l : List Lp) (lb : Int) (v0_0 : List Int) (v0_1 : Int) (v0_2 : Int) (nn0 : Nat) (post : DV → Prop) : Prop := cond (decide (v0_2 ≤ ((l.length : Nat) : Int))) ((cond (decide (v0_2 > (0 : Int))) (lt (IntKind.i64.wrap (v0_2 - (1 : Int))) fun x3 => (0 ≤ x3 ∧ x3 < ((l.length : Nat) : Int)) ∧ (lt (IntKind.i64.wrap (v0_1 + ((lppAt l x3.toNat).step))) fun x4 => True)) (True)) ∧ (lt ((bif decide (v0_2 > (0 : Int)) then (IntKind.i64.wrap (v0_1 + ((lppAt l ((IntKind.i64.wrap (v0_2 - (1 : Int))).toNat)).step))) else v0_1)) fun x5 => lt (IntKind.i64.wrap (lb - x5)) fun x6 => (cond (tkB x6) (cond (v0_2 == (0 : Int)) ((true = true) ∧ (cond (v0_2 == ((l.length : Nat) : Int)) ((true = true) ∧ (True)) ((0 ≤ v0_2 ∧ v0_2 < ((l.length : Nat) : Int)) ∧ (True)))) (lt (IntKind.i64.wrap (v0_2 - (1 : Int))) fun x8 => (0 ≤ x8 ∧ x8 < ((l.length : Nat) : Int)) ∧ (cond (decide (((lppAt l x8.toNat).tick) ≤ x6)) (cond (v0_2 == ((l.length : Nat) : Int)) ((true = true) ∧ (True)) ((0 ≤ v0_2 ∧ v0_2 < ((l.length : Nat) : Int)) ∧ (True))) ((false = false) ∧ (True))))) ((false = false) ∧ ((false = false) ∧ (True)))) ∧ (lt ((bif tkB x6 then (bif (v0_2 == (0 : Int)) then (bif (v0_2 == ((l.length : Nat) : Int)) then true else decide (x6 < ((lppAt l v0_2.toNat).tick))) else (bif decide (((lppAt l ((IntKind.i64.wrap (v0_2 - (1 : Int))).toNat)).tick) ≤ x6) then (bif (v0_2 == ((l.length : Nat) : Int)) then true else decide (x6 < ((lppAt l v0_2.toNat).tick))) else false)) else false)) fun x9 => cond x9 (((IntKind.i64 = IntKind.i64 ∧ True) ∧ roomP 8 (v0_0.length + ([x6] : List Int).length)) ∧ (lt (IntKind.i64.wrap (v0_2 + (1 : Int))) fun x10 => J 0 (nn0 :: []) (mk_ref01_Ticks_0 l lb (v0_0 ++ ([x6])) x5 x10))) (lt (IntKind.i64.wrap (v0_2 + (1 : Int))) fun x11 => J 0 (nn0 :: []) (mk_ref01_Ticks_0 l lb v0_0 x5 x11))))) (post (.t (.c (.sl 1 v0_0.length (numsC .i64 v0_0)))))
theorem er_ref01_Ticks_0 (J : Inv) (l : List Lp) (lb : Int) (v0_0 : List Int) (v0_1 : Int) (v0_2 : Int) (nn0 : Nat) (post : DV → Prop) : round Try.prog tab St89 ann_ref01_Ticks J Try.f28 post 0 (nn0 :: []) (mk_ref01_Ticks_0 l lb v0_0 v0_1 v0_2) = rd_ref01_Ticks_0 J l lb v0_0 v0_1 v0_2 nn0 post := by kernel_rfl
theorem lp_ref01_Ticks (J : Inv) (post : DV → Prop) : AllG J (loopsFn Try.prog tab St89 ann_ref01_Ticks J Try.f28 post) = (((∀ F s, ¬ J 0 (0 :: F) s) ∧ ∀ n F s, J 0 ((n + 1) :: F) s → round Try.prog tab St89 ann_ref01_Ticks J Try.f28 post 0 (n :: F) s) ∧ True) := by kernel_rfl
def J_ref01_Ticks (l : List Lp) (lb : Int) : Inv := fun b F s => match b, F with
 | 0, [nn0] => ∃ (v0_0 : List Int) (v0_1 : Int) (v0_2 : Int), s = mk_ref01_Ticks_0 l lb v0_0 v0_1 v0_2 ∧ (tfE l lb = 0 ∧ 0 ≤ v0_2 ∧ v0_2 ≤ l.length + 1 ∧ (nn0 : Int) + v0_2 = l.length + 2 ∧ v0_1 = erS l (v0_2.toNat - 1) ∧ v0_0 = tfK l lb v0_2.toNat)
 | _, _ => False
theorem rnd_ref01_Ticks_0 (l : List Lp) (lb : Int) (v0_0 : List Int) (v0_1 : Int) (v0_2 : Int) (nn0 : Nat) (hp : tfE l lb = 0) (hi : tfE l lb = 0 ∧ 0 ≤ v0_2 ∧ v0_2 ≤ l.length + 1 ∧ ((nn0 + 1) : Int) + v0_2 = l.length + 2 ∧ v0_1 = erS l (v0_2.toNat - 1) ∧ v0_0 = tfK l lb v0_2.toNat) : rd_ref01_Ticks_0 (J_ref01_Ticks l lb) l lb v0_0 v0_1 v0_2 nn0 (fun r => LeD r (.t (.c (.sl 1 ((tfV l lb).length) (intsC (tfV l lb)))))) := by
 obtain ⟨q, i1, i2, i3, i4, i5⟩ := hi
 obtain ⟨k, rfl⟩ : ∃ k : Nat, v0_2 = k := ⟨v0_2.toNat, by omega⟩
 have hk : (k : Int).toNat = k := rfl
 rw [hk] at i4 i5
 obtain ⟨q1, q2⟩ := fn2 (show firstNZ [_, _] = 0 from q)
 rw [unl_0 (by decide), inB_true] at q2
 have b := (lpE_ok q1).1
 have z2 := (lpE_ok q1).2
 unfold rd_ref01_Ticks_0
 rw [hk]
 refine cond_i (fun h => ?_) (fun h => ?_)
 ·have hlt : k < l.length + 1 := by have := of_decide_eq_true h; omega
  have r := erS_rg (lps_ok q1) k (by omega)
  have r1 := erS_rg (lps_ok q1) (k - 1) (by omega)
  have hw : (IntKind.i64.wrap ((k : Int) - 1)) = (k : Int) - 1 := wi (by omega)
  have hwn : ((k : Int) - 1).toNat = k - 1 := by omega
  have hS : 0 < k → erS l k = erS l (k - 1) + (lppAt l (k - 1)).step := fun c => by
   have := erS_succ (l := l) (k := k - 1) (by omega)
   rwa [show k - 1 + 1 = k by omega] at this
  have e5 : (bif decide ((k : Int) > 0) then IntKind.i64.wrap (v0_1 + (lppAt l (IntKind.i64.wrap ((k : Int) - 1)).toNat).step) else v0_1) = erS l k := by
   rw [hw, hwn, i4]
   rcases Nat.eq_zero_or_pos k with c | c
   ·subst c; rfl
   ·rw [decide_eq_true (show (k : Int) > 0 by omega), ← hS c]
    exact wi (by omega)
  refine ⟨cond_i (fun g => lt_i fun x3 h3 => ?_) (fun _ => trivial), lt_i fun x5 h5 => lt_i fun x6 h6 => ?_⟩
  ·have g := of_decide_eq_true g
   rw [hw] at h3
   subst h3
   exact ⟨by omega, lt_i fun _ _ => trivial⟩
  rw [e5] at h5
  subst h5
  rw [wi (by omega)] at h6
  have e9 := erB_ref q1 (by omega : k ≤ l.length) x6
  rw [hw, hwn]
  refine ⟨?_, lt_i fun x9 h9 => ?_⟩
  ·refine cond_i (fun _ => cond_i (fun c => ⟨rfl, cond_i (fun _ => ⟨rfl, trivial⟩) (fun d => ⟨?_, trivial⟩)⟩) (fun c => lt_i fun x8 h8 => ⟨?_, cond_i (fun _ => cond_i (fun _ => ⟨rfl, trivial⟩) (fun d => ⟨?_, trivial⟩)) (fun _ => ⟨rfl, trivial⟩)⟩)) (fun _ => ⟨rfl, rfl, trivial⟩)
   ·simp at d; omega
   ·simp at c; omega
   ·simp at d; omega
  ·rw [e9] at h9
   subst h9
   refine cond_i (fun g => ⟨⟨by trivial, ?_⟩, lt_i fun x10 h10 => ?_⟩) (fun g => lt_i fun x11 h11 => ?_)
   ·have hl := tfK_len l lb k
    unfold roomP maxLen; rw [i5]; simp; omega
   ·rw [wi (by omega)] at h10
    subst h10
    refine ⟨_, _, _, rfl, q, by omega, by omega, by omega, ?_, ?_⟩
    ·rw [show ((k : Int) + 1).toNat - 1 = k by omega]
    ·rw [show ((k : Int) + 1).toNat = k + 1 by omega, tfK_succ, h6, if_pos g, i5]
   ·rw [wi (by omega)] at h11
    subst h11
    refine ⟨_, _, _, rfl, q, by omega, by omega, by omega, ?_, ?_⟩
    ·rw [show ((k : Int) + 1).toNat - 1 = k by omega]
    ·rw [show ((k : Int) + 1).toNat = k + 1 by omega, tfK_succ, h6, if_neg (by rw [g]; simp), i5, List.append_nil]
 ·have h := of_decide_eq_false h
  rw [show tfV l lb = tfK l lb (l.length + 1) from if_pos q, i5, show k = l.length + 1 by omega]
  exact LeD.refl _
theorem zero_ref01_Ticks_0 (l : List Lp) (lb : Int) (v0_0 : List Int) (v0_1 : Int) (v0_2 : Int)  (hi : tfE l lb = 0 ∧ 0 ≤ v0_2 ∧ v0_2 ≤ l.length + 1 ∧ (0 : Int) + v0_2 = l.length + 2 ∧ v0_1 = erS l (v0_2.toNat - 1) ∧ v0_0 = tfK l lb v0_2.toNat) : False := by
 omega
theorem spec_ref01_Ticks (l : List Lp) (lb : Int) (hp : tfE l lb = 0) : vc_ref01_Ticks (J_ref01_Ticks l lb) l lb (fun r => LeD r (.t (.c (.sl 1 ((tfV l lb).length) (intsC (tfV l lb)))))) := by
 unfold vc_ref01_Ticks
 exact ⟨l.length + 2, [], 0, 0, rfl, hp, by omega, by omega, by omega, rfl, rfl⟩
theorem all_ref01_Ticks (l : List Lp) (lb : Int) (hp : tfE l lb = 0) : AllG (J_ref01_Ticks l lb) (loopsFn Try.prog tab St89 ann_ref01_Ticks (J_ref01_Ticks l lb) Try.f28 (fun r => LeD r (.t (.c (.sl 1 ((tfV l lb).length) (intsC (tfV l lb))))))) := by
 rw [lp_ref01_Ticks]
 refine ⟨⟨?_, ?_⟩, trivial⟩
 ·intro F s h
  obtain _ | ⟨g, F⟩ := F
  case cons => exact h.elim
  obtain ⟨w0, w1, w2, rfl, hi⟩ := h
  exact zero_ref01_Ticks_0 l lb w0 w1 w2 hi
 ·intro n F s h
  obtain _ | ⟨g, F⟩ := F
  case cons => exact h.elim
  obtain ⟨w0, w1, w2, rfl, hi⟩ := h
  rw [er_ref01_Ticks_0]
  exact rnd_ref01_Ticks_0 l lb _ _ _ _ hp hi
def con_ref01_Ticks : Con := fun args => match args with
 | [.t (.c (.sl 2 n_l c_l)), .t (.c (.v (.int .i64 lb)))] => some (.t (.c (.sl 1 ((tfV (listC n_l mkLpp c_l) lb).length) (intsC (tfV (listC n_l mkLpp c_l) lb)))), some (numsP 2 n_l c_l ∧ tfE (listC n_l mkLpp c_l) lb = 0), false)
 | _ => none
theorem ok_ref01_Ticks : Ok Try.prog 28 con_ref01_Ticks := by
 refine Ok.fn (ann := ann_ref01_Ticks) mixed tabOK VSt89 VI1 (fn := Try.f28) (by kernel_rfl) (by kernel_rfl) fit_ref01_Ticks fun args r pre fresh h hp => ?_
 unfold con_ref01_Ticks at h
 split at h
 ·rename_i n_l c_l lb
  cases h
  obtain ⟨hp0, hp⟩ := hp
  refine ⟨rfl, J_ref01_Ticks (listC n_l mkLpp c_l) lb, [.t (.c (.sl 2 ((listC n_l mkLpp c_l).length) (lppsC (listC n_l mkLpp c_l)))), .t (.c (.v (.int .i64 lb)))], ?_, Nat.le_of_ble_eq_true (by kernel_rfl), ?_, ?_⟩
  ·exact (LeA_cons (leT_c ((leL_Lp hp0))) (LeA_cons (LeD.refl _) LeA_nil))
  ·rw [ev_ref01_Ticks]; exact spec_ref01_Ticks (listC n_l mkLpp c_l) lb hp
  ·exact all_ref01_Ticks (listC n_l mkLpp c_l) lb hp
 ·cases h
def St90 : Sum := addS St89 28 con_ref01_Ticks
theorem VSt90 : Valid Try.prog St90 := Valid.add VSt89 ok_ref01_Ticks
end Go.Proofs.Ytkifmfmenobhnaa
set_option linter.unusedVariables false
set_option linter.unusedSimpArgs false
namespace Go.Proofs.Ytkifmfmenobhnaa
open Go.RowKit Ev
def bdF (l : List Lnk) (n : Nat) : Nat → Nat → Int := kK (lnkM l l.length) n n
def bdB (l : List Lnk) (n : Nat) : Bool := (List.range n).all fun i => decide (0 ≤ bdF l n i i)
def bdN (l : List Lnk) (n : Nat) : Nat := if bdB l n = true then n else 0
def matC (n : Nat) (f : Nat → Nat → Int) : Nat → Nat → CV := fun i _ => .sl 1 n (fun j _ => .v (.int .i64 (f i j)))
def bdOk (n : Int) (l : List Lnk) : Prop := (1 ≤ n ∧ n ≤ 6) ∧ l.length ≤ 12 ∧ ∀ k, k < l.length → (lnkAt l k).ok n.toNat
theorem bdB_true {l : List Lnk} {n : Nat} : bdB l n = true ↔ ∀ i, i < n → 0 ≤ bdF l n i i := by
 unfold bdB; simp [List.all_eq_true]
theorem bdB_false {l : List Lnk} {n : Nat} (h : ∃ i, i < n ∧ bdF l n i i < 0) : bdB l n = false := by
 obtain ⟨i, hi, hn⟩ := h
 cases e : bdB l n
 ·rfl
 ·have := bdB_true.1 e i hi; omega
def con_bounds : Con := fun args => match args with
 | [.t (.c (.v (.int .i64 n))), .t (.c (.sl 4 n_ls c_ls))] => some (.tu [.c (.sl 1 (bdN (listC n_ls mkLnk c_ls) n.toNat) (matC n.toNat (bdF (listC n_ls mkLnk c_ls) n.toNat))), .c (.v (.bool (bdB (listC n_ls mkLnk c_ls) n.toNat)))], some (numsP 4 n_ls c_ls ∧ bdOk n (listC n_ls mkLnk c_ls)), Fre.no)
 | _ => none
theorem ok_bounds : Ok Try.prog 93 con_bounds := by
 intro args r pre fresh h hp
 unfold con_bounds at h
 split at h
 ·rename_i n n_ls c_ls
  cases h
  obtain ⟨hp0, hp⟩ := hp
  refine ⟨Enters.of (fn := Try.f93) (by kernel_rfl) (by kernel_rfl) (by kernel_rfl), fun W N vs hG hv => ?_⟩
  have hv : All2 (RelD (RelF W N)) [.t (.c (.v (.int .i64 n))), .t (.c (.sl 4 n_ls c_ls))] vs := hv
  obtain ⟨v0, us0, rfl, r0, hv0⟩ := hv.cons_inv
  obtain ⟨v1, us1, rfl, r1, hv1⟩ := hv0.cons_inv
  obtain rfl := hv1.nil_inv
  obtain ⟨rfl, _⟩ : v0 = .int .i64 n ∧ _ := r0
  have h1 : RelF W N (.sl 4 (listC n_ls mkLnk c_ls).length (lnksC (listC n_ls mkLnk c_ls))) v1 := leL_Lnk hp0 W N v1 r1
  generalize listC n_ls mkLnk c_ls = L at *
  obtain ⟨ao, cap, rfl, hcap, hmx, hnil, hcells⟩ := h1
  obtain ⟨⟨hn1, hn2⟩, hl, hok⟩ := hp
  obtain ⟨m, rfl⟩ : ∃ m : Nat, n = m := ⟨n.toNat, by omega⟩
  rw [Int.toNat_natCast] at *
  refine (walk_bounds W m (by omega) L ao cap hl (low_links (by omega) hok) hok ?_).mono ?_
  ·intro k hk
   obtain ⟨b, off, e1, e2, e3, e4⟩ := hcells (by omega)
   obtain ⟨x0, a0, b0⟩ := e4 k 0 hk (by omega)
   obtain ⟨x1, a1, b1⟩ := e4 k 1 hk (by omega)
   obtain ⟨x2, a2, b2⟩ := e4 k 2 hk (by omega)
   obtain ⟨x3, a3, b3⟩ := e4 k 3 hk (by omega)
   obtain ⟨rfl, _⟩ := b0
   obtain ⟨rfl, _⟩ := b1
   obtain ⟨rfl, _⟩ := b2
   obtain ⟨rfl, _⟩ := b3
   exact ⟨b, off, e1, e2, a0, a1, a2, a3⟩
  ·rintro e w' ⟨hb, ⟨hex, rfl⟩ | ⟨hall, rfl, hM⟩⟩
   ·refine ⟨_, rfl, ?_, hb⟩
    have e := bdB_false (l := L) (n := m) hex
    simp only [RetOk]
    unfold bdN
    rw [e]
    exact ⟨[_, _], rfl, ⟨none, 0, rfl, Nat.le_refl _, by unfold maxLen; omega, fun _ => rfl, fun h => absurd h (by simp)⟩, ⟨rfl, rfl⟩, trivial⟩
   ·refine ⟨_, rfl, ?_, hb⟩
    have e : bdB L m = true := bdB_true.2 hall
    simp only [RetOk]
    unfold bdN
    rw [e, if_pos rfl]
    refine ⟨[_, _], rfl, ⟨some ⟨W.heap.size, 0, none⟩, m, rfl, Nat.le_refl _, by unfold maxLen; omega, (fun h => by cases h), fun _ => ⟨W.heap.size, 0, rfl, hM.lt.1, Or.inr (Nat.le_refl _), fun i j hi hj => ⟨.slice (some ⟨W.heap.size + 2 + 2 * i, 0, none⟩) m m, ?_, ?_⟩⟩⟩, ⟨rfl, rfl⟩, trivial⟩
    ·rw [show 0 + i * 1 + j = i by omega]; exact hM.cell_top hi hi
    ·refine ⟨some ⟨W.heap.size + 2 + 2 * i, 0, none⟩, m, rfl, Nat.le_refl _, by unfold maxLen; omega, (fun h => by cases h), fun _ => ⟨_, 0, rfl, hM.lt.2 i hi, Or.inr (by omega), fun i' j' hi' hj' => ⟨_, ?_, rfl, rfl⟩⟩⟩
     rw [show 0 + i' * 1 + j' = i' by omega]
     exact hM.cell_row hi hi'
 ·cases h
end Go.Proofs.Ytkifmfmenobhnaa
set_option linter.unusedVariables false
set_option linter.unusedSimpArgs false
namespace Go.Proofs.Ytkifmfmenobhnaa
open Go.RowKit Ev
def txCv (s : ByteArray) : List CV := [.v (.string s)]
theorem leC_txs (l : List ByteArray) : LeC1 (.sl 1 (l.map txCv).length (genC (l.map txCv))) (.sl 1 l.length (txsC l)) := by
 rw [List.length_map]
 refine leSlC fun i j hi hj => ?_
 obtain rfl : j = 0 := by omega
 refine leC_k ?_
 simp [genC, txsC, txCv, txAt, List.getD, hi]
theorem leC_lnks (l : List Lnk) : LeC1 (.sl 4 (l.map lnkCv).length (genC (l.map lnkCv))) (.sl 4 l.length (lnksC l)) := fun w N v h => le_lnks l w N v h
theorem plain_str (l : List ByteArray) (i j : Nat) : ∃ y, txsC l i j = .v y := ⟨_, rfl⟩
theorem stepK_le (f : Nat → Nat → Int) (k i j x y : Nat) : stepK f k i j x y ≤ f x y := by
 unfold stepK
 split
 ·unfold updI
  split
  ·rename_i h; rw [h.1, h.2]; omega
  ·omega
 ·omega
theorem jK_le (f : Nat → Nat → Int) (k i : Nat) : ∀ j x y, jK f k i j x y ≤ f x y := by
 intro j
 induction j with
 | zero => intro x y; exact Int.le_refl _
 | succ j ih => intro x y; exact Int.le_trans (stepK_le _ k i j x y) (ih x y)
theorem iK_le (f : Nat → Nat → Int) (n k : Nat) : ∀ i x y, iK f n k i x y ≤ f x y := by
 intro i
 induction i with
 | zero => intro x y; exact Int.le_refl _
 | succ i ih => intro x y; exact Int.le_trans (jK_le _ k i n x y) (ih x y)
theorem kK_le (f : Nat → Nat → Int) (n : Nat) : ∀ k x y, kK f n k x y ≤ f x y := by
 intro k
 induction k with
 | zero => intro x y; exact Int.le_refl _
 | succ k ih => intro x y; exact Int.le_trans (iK_le _ n k n x y) (ih x y)
theorem lnkM_hi (l : List Lnk) : ∀ k, k ≤ l.length → ∀ x y, lnkM l k x y ≤ far := by
 intro k
 induction k with
 | zero => intro _ x y; show initM x y ≤ far; unfold initM far; split <;> decide
 | succ k ih =>
  intro hk x y
  have i := ih (by omega)
  rw [lnkM_succ hk]
  generalize lnkAt l k = z at *
  have F : ∀ x y, lnkF (lnkM l k) z x y ≤ far := by
   intro x y
   unfold lnkF updI
   have := i z.frm.toNat z.to.toNat
   have := i x y
   split <;> omega
  unfold lnkG updI
  have := F z.to.toNat z.frm.toNat
  have := F x y
  split <;> omega
theorem bdF_rg {n : Nat} {l : List Lnk} (h : bdOk n l) (x y : Nat) : -50000000000000 ≤ bdF l n x y ∧ bdF l n x y ≤ 1152921504606846976 := by
 obtain ⟨hn, hl, hok⟩ := h
 rw [Int.toNat_natCast] at hok
 have h1 := kK_low (by decide) (lnkM_low hok l.length (Nat.le_refl _)) n n x y
 have h2 := kK_le (lnkM l l.length) n n x y
 have h3 := lnkM_hi l l.length (Nat.le_refl _) x y
 unfold bdF
 unfold far at h3
 refine ⟨?_, by omega⟩
 rcases (by omega : n = 1 ∨ n = 2 ∨ n = 3 ∨ n = 4 ∨ n = 5 ∨ n = 6) with rfl | rfl | rfl | rfl | rfl | rfl <;> simp at h1 <;> omega
theorem ntE_ok {cs : List ByteArray} {ls : List Lnk} (h : ntE cs ls = 0) : ntH cs ls = 0 ∧ (∀ j, j < cs.length → nmE cs j = 0) ∧ ∀ j, j < ls.length → lkE cs.length (lnkAt ls j) = 0 := by
 unfold ntE at h
 split at h
 ·rename_i g; exact absurd h g
 ·rename_i g
  split at h
  ·rename_i g2; exact absurd h g2
  ·rename_i g2
   exact ⟨by omega, scan_zero (by omega), scan_zero h⟩
theorem fnz {a : Int} {l : List Int} (h : firstNZ (a :: l) = 0) : a = 0 ∧ firstNZ l = 0 := by
 by_cases e : a = 0
 ·subst e; exact ⟨rfl, by simpa [firstNZ] using h⟩
 ·simp [firstNZ, e] at h
theorem lkE_ok {n : Nat} {x : Lnk} (h : lkE n x = 0) : x.ok n := by
 obtain ⟨h1, h⟩ := fnz (show firstNZ (_ :: _) = 0 from h)
 obtain ⟨h2, h⟩ := fnz h
 obtain ⟨h3, h⟩ := fnz h
 obtain ⟨h4, _⟩ := fnz h
 rw [unl_0 (by decide)] at h1 h2 h3 h4
 rw [Bool.and_eq_true, inB_true, inB_true] at h1 h3
 have h4 := of_decide_eq_true h4
 have h2 : x.frm ≠ x.to := by simpa using h2
 exact ⟨by omega, by omega, h2, by omega, h4, by omega⟩
theorem ntE_bd {cs : List ByteArray} {ls : List Lnk} (h : ntE cs ls = 0) : bdOk cs.length ls := by
 obtain ⟨h1, h2, h3⟩ := ntE_ok h
 have h1 := ntH_ok h1
 refine ⟨by omega, h1.2, fun k hk => ?_⟩
 rw [Int.toNat_natCast]
 exact lkE_ok (h3 k hk)
def opnB (l : List Lnk) (n i : Nat) : Bool := (bdF l n 0 i == 1152921504606846976) || (bdF l n i 0 == 1152921504606846976)
def ofS (cs : List ByteArray) (ls : List Lnk) : Bool := (List.range cs.length).any (opnB ls cs.length)
def ofE (cs : List ByteArray) (ls : List Lnk) : Int := if ntE cs ls ≠ 0 then ntE cs ls else if bdB ls cs.length = true then (if ofS cs ls = true then 21 else 0) else 13
def ofK (ls : List Lnk) (n k : Nat) : List Rg := (List.range k).map fun i => ⟨-bdF ls n i 0, bdF ls n 0 i⟩
theorem ofK_succ (ls : List Lnk) (n k : Nat) : ofK ls n (k + 1) = ofK ls n k ++ [⟨-bdF ls n k 0, bdF ls n 0 k⟩] := by
 unfold ofK; rw [List.range_succ, List.map_append]; rfl
def ofV (cs : List ByteArray) (ls : List Lnk) : List Rg := if ofE cs ls = 0 then ofK ls cs.length cs.length else []
def exP : List Png := [⟨1000, 50, 250, 1300⟩, ⟨101000, 100050, 100250, 101304⟩]
def exC : List ByteArray := [⟨#[97]⟩, ⟨#[98]⟩, ⟨#[100]⟩]
def exL : List Lnk := [⟨0, 1, 5, 7⟩, ⟨1, 2, 1, 2⟩, ⟨0, 2, 7, 10⟩]
def Sw91 : Sum := addS St90 93 con_bounds
theorem VSw91 : Valid Try.prog Sw91 := Valid.add VSt90 ok_bounds
def Sw92 : Sum := Sw91
theorem VSw92 : Valid Try.prog Sw92 := VSw91
def mk_clock_OffsetsOf_0 (cs : List ByteArray) (ls : List Lnk) (v0_0 : List (List CV)) (v0_1 : Int) : DS := ⟨[none, none, none, none, none, some (.t (.c (.sl 1 (bdN (listC ls.length mkLnk (lnksC ls)) ((((cs.length : Nat) : Int)).toNat)) (matC ((((cs.length : Nat) : Int)).toNat) (bdF (listC ls.length mkLnk (lnksC ls)) ((((cs.length : Nat) : Int)).toNat)))))), none, some (.t (.c (.os 7))), none, none, none, none, none, none, none, none, none, none, none, none, none, none, none, none, none, none, none, some (.t (.c (.v (.int .i64 ((cs.length : Nat) : Int))))), some (.t (.c (.v (.int .i64 v0_1)))), none, none, none, none, none, none, none, none, none, none, none, none, none, none, none, none, none, none, none, none, none, none, none, none, none, none, none, none, none, none, none, none, none, none, none, none, none], [none, none, none, none, none, none, none, some (.gen 90 2 v0_0), none, none, none, none, none, none, none, none, none, none, none, none, none, none, none, none, none, none, none, none, none, none, none, none, none, none, none, none, none, none, none, none, none, none, none, none, none, none, none, none, none, none, none, none, none, none, none, none, none, none, none, none, none, none, none, none, none, none]⟩
def vc_clock_OffsetsOf (J : Inv) (cs : List ByteArray) (ls : List Lnk) (post : DV → Prop) : Prop := (txP cs.length (txsC cs) ∧ numsP 4 ls.length (lnksC ls) ∧ (∀ k, k < ((txOf cs.length (txsC cs))).length → (txAt (txOf cs.length (txsC cs)) k).size ≤ 1000000)) ∧ (cond ((ntE (txOf cs.length (txsC cs)) (listC ls.length mkLnk (lnksC ls))) != (0 : Int)) (post (.tu [.c (.v (.slice none 0 0)), .c (.v (.int .i64 (ntE (txOf cs.length (txsC cs)) (listC ls.length mkLnk (lnksC ls)))))])) ((numsP 4 ls.length (lnksC ls) ∧ bdOk ((cs.length : Nat) : Int) (listC ls.length mkLnk (lnksC ls))) ∧ (cond (!(bdB (listC ls.length mkLnk (lnksC ls)) ((((cs.length : Nat) : Int)).toNat))) (post (.tu [.c (.v (.slice none 0 0)), .c (.v (.int .i64 13))])) (∃ n, J 0 (n :: []) (mk_clock_OffsetsOf_0 cs ls ([]) 0)))))
def ann_clock_OffsetsOf : Ann := ⟨fun r => lookA r [(13, ([[], [], [], [1, 2], [1, 2, 3], [1, 2, 3, 4], [1, 2, 3, 4, 5], [1, 2, 3, 4, 5, 6], [], [8], [8, 9], [], [8, 9, 10, 11], [8, 9, 10, 11, 12], [1, 2, 3, 4, 5, 6, 7, 8, 9, 10, 11, 12, 13], [1, 2, 3, 4, 5, 6, 7, 8, 9, 10, 11, 12, 13, 14], [0, 1, 2, 3, 4, 5, 6, 7, 8, 9, 10, 11, 12, 13, 14, 15], [0, 1, 2, 3, 4, 5, 6, 7, 8, 9, 10, 11, 12, 13, 14, 15, 16]], [[62], [62], [62], [62], [62], [62], [62], [62], [62], [62], [62], [62], [62], [62], [62], [], [], []]))], fun b => lookA b [(0, (none, some ⟨[5, 27, 28], [], [(7, .gen 90 2 [])]⟩))], fun _ => [], I1, false, fun r => lookA r [(11, (8, [46]))], fun _ => none⟩
theorem ev_clock_OffsetsOf (J : Inv) (cs : List ByteArray) (ls : List Lnk) (post : DV → Prop) : evFn Try.prog tab Sw92 ann_clock_OffsetsOf J Try.f39 [.t (.a [.sl 1 cs.length (txsC cs), .sl 4 ls.length (lnksC ls)])] post = vc_clock_OffsetsOf J cs ls post := by kernel_rfl
theorem fit_clock_OffsetsOf : okFn ann_clock_OffsetsOf Try.f39 = true := by kernel_rfl
def rd_clock_OffsetsOf_0 (J : Inv) (cs : List ByteArray) (ls : List Lnk) (v0_0 : List (List CV)) (v0_1 : Int) (nn0 : Nat) (post : DV → Prop) : Prop := cond (decide (v0_1 < ((cs.length : Nat) : Int))) ((0 ≤ (0 : Int) ∧ (0 : Int) < (((bdN (listC ls.length mkLnk (lnksC ls)) ((((cs.length : Nat) : Int)).toNat)) : Nat) : Int)) ∧ ((0 ≤ v0_1 ∧ v0_1 < (((((cs.length : Nat) : Int)).toNat : Nat) : Int)) ∧ ((cond ((bdF (listC ls.length mkLnk (lnksC ls)) ((((cs.length : Nat) : Int)).toNat) 0 v0_1.toNat) == (1152921504606846976 : Int)) ((true = true) ∧ (True)) ((0 ≤ v0_1 ∧ v0_1 < (((bdN (listC ls.length mkLnk (lnksC ls)) ((((cs.length : Nat) : Int)).toNat)) : Nat) : Int)) ∧ ((0 ≤ (0 : Int) ∧ (0 : Int) < (((((cs.length : Nat) : Int)).toNat : Nat) : Int)) ∧ (True)))) ∧ (lt ((bif ((bdF (listC ls.length mkLnk (lnksC ls)) ((((cs.length : Nat) : Int)).toNat) 0 v0_1.toNat) == (1152921504606846976 : Int)) then true else ((bdF (listC ls.length mkLnk (lnksC ls)) ((((cs.length : Nat) : Int)).toNat) v0_1.toNat 0) == (1152921504606846976 : Int)))) fun x1 => cond x1 (post (.tu [.c (.v (.slice none 0 0)), .c (.v (.int .i64 21))])) ((0 ≤ v0_1 ∧ v0_1 < (((bdN (listC ls.length mkLnk (lnksC ls)) ((((cs.length : Nat) : Int)).toNat)) : Nat) : Int)) ∧ ((0 ≤ (0 : Int) ∧ (0 : Int) < (((((cs.length : Nat) : Int)).toNat : Nat) : Int)) ∧ (lt (IntKind.i64.wrap ((0 : Int) - (bdF (listC ls.length mkLnk (lnksC ls)) ((((cs.length : Nat) : Int)).toNat) v0_1.toNat 0))) fun x2 => (0 ≤ (0 : Int) ∧ (0 : Int) < (((bdN (listC ls.length mkLnk (lnksC ls)) ((((cs.length : Nat) : Int)).toNat)) : Nat) : Int)) ∧ ((0 ≤ v0_1 ∧ v0_1 < (((((cs.length : Nat) : Int)).toNat : Nat) : Int)) ∧ ((roomP 16 (v0_0.length + ([[.v (.int .i64 x2), .v (.int .i64 (bdF (listC ls.length mkLnk (lnksC ls)) ((((cs.length : Nat) : Int)).toNat) 0 v0_1.toNat))]] : List (List CV)).length)) ∧ (lt (IntKind.i64.wrap (v0_1 + (1 : Int))) fun x3 => J 0 (nn0 :: []) (mk_clock_OffsetsOf_0 cs ls (v0_0 ++ ([[.v (.int .i64 x2), .v (.int .i64 (bdF (listC ls.length mkLnk (lnksC ls)) ((((cs.length : Nat) : Int)).toNat) 0 v0_1.toNat))]] : List (List CV))) x3))))))))))) (post (.tu [.c (.sl 2 v0_0.length (genC v0_0)), .c (.v (.int .i64 0))]))
theorem er_clock_OffsetsOf_0 (J : Inv) (cs : List ByteArray) (ls : List Lnk) (v0_0 : List (List CV)) (v0_1 : Int) (nn0 : Nat) (post : DV → Prop) : round Try.prog tab Sw92 ann_clock_OffsetsOf J Try.f39 post 0 (nn0 :: []) (mk_clock_OffsetsOf_0 cs ls v0_0 v0_1) = rd_clock_OffsetsOf_0 J cs ls v0_0 v0_1 nn0 post := by kernel_rfl
theorem lp_clock_OffsetsOf (J : Inv) (post : DV → Prop) : AllG J (loopsFn Try.prog tab Sw92 ann_clock_OffsetsOf J Try.f39 post) = (((∀ F s, ¬ J 0 (0 :: F) s) ∧ ∀ n F s, J 0 ((n + 1) :: F) s → round Try.prog tab Sw92 ann_clock_OffsetsOf J Try.f39 post 0 (n :: F) s) ∧ True) := by kernel_rfl
def J_clock_OffsetsOf (cs : List ByteArray) (ls : List Lnk) : Inv := fun b F s => match b, F with
 | 0, [nn0] => ∃ (v0_0 : List (List CV)) (v0_1 : Int), s = mk_clock_OffsetsOf_0 cs ls v0_0 v0_1 ∧ ((ntE cs ls = 0 ∧ bdB ls cs.length = true) ∧ 0 ≤ v0_1 ∧ v0_1 ≤ cs.length ∧ (nn0 : Int) + v0_1 = cs.length + 1 ∧ v0_0 = (ofK ls cs.length v0_1.toNat).map rgCv ∧ ∀ j : Nat, (j : Int) < v0_1 → opnB ls cs.length j = false)
 | _, _ => False
theorem rnd_clock_OffsetsOf_0 (cs : List ByteArray) (ls : List Lnk) (v0_0 : List (List CV)) (v0_1 : Int) (nn0 : Nat) (hp : (∀ k, k < (cs).length → (txAt cs k).size ≤ 1000000)) (hi : (ntE cs ls = 0 ∧ bdB ls cs.length = true) ∧ 0 ≤ v0_1 ∧ v0_1 ≤ cs.length ∧ ((nn0 + 1) : Int) + v0_1 = cs.length + 1 ∧ v0_0 = (ofK ls cs.length v0_1.toNat).map rgCv ∧ ∀ j : Nat, (j : Int) < v0_1 → opnB ls cs.length j = false) : rd_clock_OffsetsOf_0 (J_clock_OffsetsOf cs ls) cs ls v0_0 v0_1 nn0 (fun r => LeD r (.tu [.c (.sl 2 ((ofV cs ls).length) (rgsC (ofV cs ls))), .c (.v (.int .i64 (ofE cs ls)))])) := by
 obtain ⟨q, i1, i2, i3, i4, i5⟩ := hi
 obtain ⟨k, rfl⟩ : ∃ k : Nat, v0_1 = k := ⟨v0_1.toNat, by omega⟩
 have hk : (k : Int).toNat = k := rfl
 rw [hk] at i4
 unfold rd_clock_OffsetsOf_0
 simp only [lnks_listC, Int.toNat_natCast]
 have eN : bdN ls cs.length = cs.length := if_pos q.2
 have z := ntE_bd q.1
 have zn := z.1
 rw [eN]
 refine cond_i (fun h => ?_) (fun h => ?_)
 ·have hlt : k < cs.length := by have := of_decide_eq_true h; omega
  have b1 := bdF_rg z k 0
  refine ⟨⟨by trivial, by omega⟩, ⟨by omega, by omega⟩, ⟨cond_i (fun _ => ⟨by trivial, trivial⟩) (fun _ => ⟨⟨by omega, by omega⟩, ⟨by trivial, by omega⟩, trivial⟩), lt_i fun x1 h1 => ?_⟩⟩
  have e1 : x1 = opnB ls cs.length k := by rw [← h1]; unfold opnB; cases (bdF ls cs.length 0 k == 1152921504606846976) <;> rfl
  subst e1
  refine cond_i (fun g => ?_) (fun g => ⟨⟨by omega, by omega⟩, ⟨by trivial, by omega⟩, lt_i fun x2 h2 => ⟨⟨by trivial, by omega⟩, ⟨by omega, by omega⟩, ?_, lt_i fun x3 h3 => ?_⟩⟩)
  ·have e : ofE cs ls = 21 := by
    unfold ofE
    rw [if_neg (by rw [q.1]; simp), if_pos q.2, if_pos]
    unfold ofS
    rw [List.any_eq_true]
    exact ⟨k, List.mem_range.2 hlt, g⟩
   rw [show ofV cs ls = [] from if_neg (by rw [e]; decide), e]
   exact le_tu le_nil (LeD.refl _)
  ·unfold roomP maxLen; rw [i4]; simp [ofK]; omega
  ·rw [wi (by omega)] at h2 h3
   subst h2 h3
   refine ⟨_, _, rfl, q, by omega, by omega, by omega, ?_, fun j hj => ?_⟩
   ·rw [show ((k : Int) + 1).toNat = k + 1 by omega, ofK_succ, List.map_append, i4, Int.zero_sub]
    rfl
   ·rcases (by omega : (j : Int) < k ∨ j = k) with c | rfl
    ·exact i5 j c
    ·exact g
 ·have h := of_decide_eq_false h
  have e : k = cs.length := by omega
  have eS : ofS cs ls = false := by
   unfold ofS
   rw [Bool.eq_false_iff]
   intro c
   obtain ⟨j, hj, hj2⟩ := List.any_eq_true.1 c
   have := List.mem_range.1 hj
   rw [i5 j (by omega)] at hj2
   cases hj2
  have e0 : ofE cs ls = 0 := by
   unfold ofE
   rw [if_neg (by rw [q.1]; simp), if_pos q.2, if_neg (by rw [eS]; simp)]
  rw [show ofV cs ls = ofK ls cs.length cs.length from if_pos e0, e0, i4, e]
  exact le_tu (le_rgs _) (LeD.refl _)
theorem zero_clock_OffsetsOf_0 (cs : List ByteArray) (ls : List Lnk) (v0_0 : List (List CV)) (v0_1 : Int)  (hi : (ntE cs ls = 0 ∧ bdB ls cs.length = true) ∧ 0 ≤ v0_1 ∧ v0_1 ≤ cs.length ∧ (0 : Int) + v0_1 = cs.length + 1 ∧ v0_0 = (ofK ls cs.length v0_1.toNat).map rgCv ∧ ∀ j : Nat, (j : Int) < v0_1 → opnB ls cs.length j = false) : False := by
 omega
theorem spec_clock_OffsetsOf (cs : List ByteArray) (ls : List Lnk) (hp : (∀ k, k < (cs).length → (txAt cs k).size ≤ 1000000)) : vc_clock_OffsetsOf (J_clock_OffsetsOf cs ls) cs ls (fun r => LeD r (.tu [.c (.sl 2 ((ofV cs ls).length) (rgsC (ofV cs ls))), .c (.v (.int .i64 (ofE cs ls)))])) := by
 unfold vc_clock_OffsetsOf
 simp only [lnks_listC, txs_of, Int.toNat_natCast]
 refine ⟨⟨txP_txs cs, numsP_lnks ls, hp⟩, cond_i (fun h => ?_) (fun h => ?_)⟩
 ·have h : ntE cs ls ≠ 0 := by simpa using h
  have e : ofE cs ls = ntE cs ls := if_pos h
  rw [show ofV cs ls = [] from if_neg (by rw [e]; exact h), e]
  exact le_tu le_nil (LeD.refl _)
 ·have h : ntE cs ls = 0 := by simpa using h
  refine ⟨⟨numsP_lnks ls, ntE_bd h⟩, cond_i (fun g => ?_) (fun g => ?_)⟩
  ·have g : bdB ls cs.length = false := by simpa using g
   have e : ofE cs ls = 13 := by unfold ofE; rw [if_neg (by rw [h]; simp), if_neg (by rw [g]; simp)]
   rw [show ofV cs ls = [] from if_neg (by rw [e]; decide), e]
   exact le_tu le_nil (LeD.refl _)
  ·have g : bdB ls cs.length = true := by simpa using g
   exact ⟨cs.length + 1, [], 0, rfl, ⟨h, g⟩, by omega, by omega, by omega, rfl, fun j hj => by omega⟩
theorem all_clock_OffsetsOf (cs : List ByteArray) (ls : List Lnk) (hp : (∀ k, k < (cs).length → (txAt cs k).size ≤ 1000000)) : AllG (J_clock_OffsetsOf cs ls) (loopsFn Try.prog tab Sw92 ann_clock_OffsetsOf (J_clock_OffsetsOf cs ls) Try.f39 (fun r => LeD r (.tu [.c (.sl 2 ((ofV cs ls).length) (rgsC (ofV cs ls))), .c (.v (.int .i64 (ofE cs ls)))]))) := by
 rw [lp_clock_OffsetsOf]
 refine ⟨⟨?_, ?_⟩, trivial⟩
 ·intro F s h
  obtain _ | ⟨g, F⟩ := F
  case cons => exact h.elim
  obtain ⟨w0, w1, rfl, hi⟩ := h
  exact zero_clock_OffsetsOf_0 cs ls w0 w1 hi
 ·intro n F s h
  obtain _ | ⟨g, F⟩ := F
  case cons => exact h.elim
  obtain ⟨w0, w1, rfl, hi⟩ := h
  rw [er_clock_OffsetsOf_0]
  exact rnd_clock_OffsetsOf_0 cs ls _ _ _ hp hi
def con_clock_OffsetsOf : Con := fun args => match args with
 | [.t (.a [.sl 1 n_cs c_cs, .sl 4 n_ls c_ls])] => some (.tu [.c (.sl 2 ((ofV (txOf n_cs c_cs) (listC n_ls mkLnk c_ls)).length) (rgsC (ofV (txOf n_cs c_cs) (listC n_ls mkLnk c_ls)))), .c (.v (.int .i64 (ofE (txOf n_cs c_cs) (listC n_ls mkLnk c_ls))))], some (txP n_cs c_cs ∧ numsP 4 n_ls c_ls ∧ (∀ k, k < ((txOf n_cs c_cs)).length → (txAt (txOf n_cs c_cs) k).size ≤ 1000000)), false)
 | _ => none
theorem ok_clock_OffsetsOf : Ok Try.prog 39 con_clock_OffsetsOf := by
 refine Ok.fn (ann := ann_clock_OffsetsOf) mixed tabOK VSw92 VI1 (fn := Try.f39) (by kernel_rfl) (by kernel_rfl) fit_clock_OffsetsOf fun args r pre fresh h hp => ?_
 unfold con_clock_OffsetsOf at h
 split at h
 ·rename_i n_cs c_cs n_ls c_ls
  cases h
  obtain ⟨hp0, hp1, hp⟩ := hp
  refine ⟨rfl, J_clock_OffsetsOf (txOf n_cs c_cs) (listC n_ls mkLnk c_ls), [.t (.a [.sl 1 ((txOf n_cs c_cs).length) (txsC (txOf n_cs c_cs)), .sl 4 ((listC n_ls mkLnk c_ls).length) (lnksC (listC n_ls mkLnk c_ls))])], ?_, Nat.le_of_ble_eq_true (by kernel_rfl), ?_, ?_⟩
  ·exact (LeA_cons (leT_a (LeCs.cons ((leL_str hp0)) (LeCs.cons ((leL_Lnk hp1)) LeCs.nil))) LeA_nil)
  ·rw [ev_clock_OffsetsOf]; exact spec_clock_OffsetsOf (txOf n_cs c_cs) (listC n_ls mkLnk c_ls) hp
  ·exact all_clock_OffsetsOf (txOf n_cs c_cs) (listC n_ls mkLnk c_ls) hp
 ·cases h
def Sw93 : Sum := addS Sw92 39 con_clock_OffsetsOf
theorem VSw93 : Valid Try.prog Sw93 := Valid.add VSw92 ok_clock_OffsetsOf
def Sw94 : Sum := Sw93
theorem VSw94 : Valid Try.prog Sw94 := VSw93
def Sw95 : Sum := Sw94
theorem VSw95 : Valid Try.prog Sw95 := VSw94
def Sw96 : Sum := Sw95
theorem VSw96 : Valid Try.prog Sw96 := VSw95
def vc_law01_Cable  (post : DV → Prop) : Prop := post (.t (.a [.v (.int .i64 100), .v (.int .i64 2)]))
def ann_law01_Cable : Ann := ⟨fun _ => none, fun _ => none, fun _ => [], I1, false, fun _ => none, fun _ => none⟩
theorem ev_law01_Cable (J : Inv)  (post : DV → Prop) : evFn Try.prog tab Sw96 ann_law01_Cable J Try.f122 [] post = vc_law01_Cable  post := by kernel_rfl
theorem fit_law01_Cable : okFn ann_law01_Cable Try.f122 = true := by kernel_rfl
theorem lp_law01_Cable (J : Inv) (post : DV → Prop) : AllG J (loopsFn Try.prog tab Sw96 ann_law01_Cable J Try.f122 post) = (True) := by kernel_rfl
theorem spec_law01_Cable  : vc_law01_Cable  (fun r => LeD r (.t (.a [.v (.int .i64 100), .v (.int .i64 2)]))) := by
 exact LeD.refl _
def con_law01_Cable : Con := fun args => match args with
 | [] => some (.t (.a [.v (.int .i64 100), .v (.int .i64 2)]), none, false)
 | _ => none
theorem ok_law01_Cable : Ok Try.prog 122 con_law01_Cable := by
 refine Ok.fn (ann := ann_law01_Cable) mixed tabOK VSw96 VI1 (fn := Try.f122) (by kernel_rfl) (by kernel_rfl) fit_law01_Cable fun args r pre fresh h hp => ?_
 unfold con_law01_Cable at h
 split at h
 ·cases h
  refine ⟨rfl, fun _ _ _ => False, _, LeA.refl _, Nat.le_of_ble_eq_true (by kernel_rfl), ?_, ?_⟩
  ·rw [ev_law01_Cable]; exact spec_law01_Cable 
  ·rw [lp_law01_Cable]; trivial
 ·cases h
def Sw97 : Sum := addS Sw96 122 con_law01_Cable
theorem VSw97 : Valid Try.prog Sw97 := Valid.add VSw96 ok_law01_Cable
def vc_law01_Ping  (post : DV → Prop) : Prop := post (.t (.a [.v (.int .i64 1000), .v (.int .i64 50), .v (.int .i64 250), .v (.int .i64 1300)]))
def ann_law01_Ping : Ann := ⟨fun _ => none, fun _ => none, fun _ => [], I1, false, fun _ => none, fun _ => none⟩
theorem ev_law01_Ping (J : Inv)  (post : DV → Prop) : evFn Try.prog tab Sw97 ann_law01_Ping J Try.f123 [] post = vc_law01_Ping  post := by kernel_rfl
theorem fit_law01_Ping : okFn ann_law01_Ping Try.f123 = true := by kernel_rfl
theorem lp_law01_Ping (J : Inv) (post : DV → Prop) : AllG J (loopsFn Try.prog tab Sw97 ann_law01_Ping J Try.f123 post) = (True) := by kernel_rfl
theorem spec_law01_Ping  : vc_law01_Ping  (fun r => LeD r (.t (.a [.v (.int .i64 1000), .v (.int .i64 50), .v (.int .i64 250), .v (.int .i64 1300)]))) := by
 exact LeD.refl _
def con_law01_Ping : Con := fun args => match args with
 | [] => some (.t (.a [.v (.int .i64 1000), .v (.int .i64 50), .v (.int .i64 250), .v (.int .i64 1300)]), none, false)
 | _ => none
theorem ok_law01_Ping : Ok Try.prog 123 con_law01_Ping := by
 refine Ok.fn (ann := ann_law01_Ping) mixed tabOK VSw97 VI1 (fn := Try.f123) (by kernel_rfl) (by kernel_rfl) fit_law01_Ping fun args r pre fresh h hp => ?_
 unfold con_law01_Ping at h
 split at h
 ·cases h
  refine ⟨rfl, fun _ _ _ => False, _, LeA.refl _, Nat.le_of_ble_eq_true (by kernel_rfl), ?_, ?_⟩
  ·rw [ev_law01_Ping]; exact spec_law01_Ping 
  ·rw [lp_law01_Ping]; trivial
 ·cases h
def Sw98 : Sum := addS Sw97 123 con_law01_Ping
theorem VSw98 : Valid Try.prog Sw98 := Valid.add VSw97 ok_law01_Ping
def vc_law01_Track  (post : DV → Prop) : Prop := post (.t (.a [.v (.int .i64 100), .v (.int .i64 2), .sl 4 2 (genC [[.v (.int .i64 1000), .v (.int .i64 50), .v (.int .i64 250), .v (.int .i64 1300)], [.v (.int .i64 101000), .v (.int .i64 100050), .v (.int .i64 100250), .v (.int .i64 101304)]])]))
def ann_law01_Track : Ann := ⟨fun _ => none, fun _ => none, fun _ => [], I1, true, fun _ => none, fun _ => none⟩
theorem ev_law01_Track (J : Inv)  (post : DV → Prop) : evFn Try.prog tab Sw98 ann_law01_Track J Try.f77 [] post = vc_law01_Track  post := by kernel_rfl
theorem fit_law01_Track : okFn ann_law01_Track Try.f77 = true := by kernel_rfl
theorem lp_law01_Track (J : Inv) (post : DV → Prop) : AllG J (loopsFn Try.prog tab Sw98 ann_law01_Track J Try.f77 post) = (True) := by kernel_rfl
theorem spec_law01_Track  : vc_law01_Track  (fun r => LeD r (.t (.a [.v (.int .i64 100), .v (.int .i64 2), .sl 4 exP.length (pngsC exP)]))) := by
 exact leT_a (LeCs.cons (LeC1.refl _) (LeCs.cons (LeC1.refl _) (LeCs.cons (leC_pngs exP) LeCs.nil)))
def con_law01_Track : Con := fun args => match args with
 | [] => some (.t (.a [.v (.int .i64 100), .v (.int .i64 2), .sl 4 exP.length (pngsC exP)]), none, true)
 | _ => none
theorem ok_law01_Track : Ok Try.prog 77 con_law01_Track := by
 refine Ok.fnFr (ann := ann_law01_Track) mixed tabOK VSw98 VI1 rfl (fn := Try.f77) (by kernel_rfl) (by kernel_rfl) fit_law01_Track fun args r pre fresh h hp => ?_
 unfold con_law01_Track at h
 split at h
 ·cases h
  refine ⟨rfl, (by intro x hx; simp only [List.mem_cons, List.not_mem_nil, or_false] at hx; rcases hx with rfl | rfl | rfl <;> first | trivial | exact (fun i j _ hj => plain_Png _ i j)), fun _ _ _ => False, _, LeA.refl _, Nat.le_of_ble_eq_true (by kernel_rfl), ?_, ?_⟩
  ·rw [ev_law01_Track]; exact spec_law01_Track 
  ·rw [lp_law01_Track]; trivial
 ·cases h
def Sw99 : Sum := addS Sw98 77 con_law01_Track
theorem VSw99 : Valid Try.prog Sw99 := Valid.add VSw98 ok_law01_Track
def vc_law01_Net  (post : DV → Prop) : Prop := post (.t (.a [.sl 1 3 (genC [[.v (.string ⟨#[97]⟩)], [.v (.string ⟨#[98]⟩)], [.v (.string ⟨#[100]⟩)]]), .sl 4 3 (genC [[.v (.int .i64 0), .v (.int .i64 1), .v (.int .i64 5), .v (.int .i64 7)], [.v (.int .i64 1), .v (.int .i64 2), .v (.int .i64 1), .v (.int .i64 2)], [.v (.int .i64 0), .v (.int .i64 2), .v (.int .i64 7), .v (.int .i64 10)]])]))
def ann_law01_Net : Ann := ⟨fun _ => none, fun _ => none, fun _ => [], I1, true, fun _ => none, fun _ => none⟩
theorem ev_law01_Net (J : Inv)  (post : DV → Prop) : evFn Try.prog tab Sw99 ann_law01_Net J Try.f78 [] post = vc_law01_Net  post := by kernel_rfl
theorem fit_law01_Net : okFn ann_law01_Net Try.f78 = true := by kernel_rfl
theorem lp_law01_Net (J : Inv) (post : DV → Prop) : AllG J (loopsFn Try.prog tab Sw99 ann_law01_Net J Try.f78 post) = (True) := by kernel_rfl
theorem spec_law01_Net  : vc_law01_Net  (fun r => LeD r (.t (.a [.sl 1 exC.length (txsC exC), .sl 4 exL.length (lnksC exL)]))) := by
 exact leT_a (LeCs.cons (leC_txs exC) (LeCs.cons (leC_lnks exL) LeCs.nil))
def con_law01_Net : Con := fun args => match args with
 | [] => some (.t (.a [.sl 1 exC.length (txsC exC), .sl 4 exL.length (lnksC exL)]), none, true)
 | _ => none
theorem ok_law01_Net : Ok Try.prog 78 con_law01_Net := by
 refine Ok.fnFr (ann := ann_law01_Net) mixed tabOK VSw99 VI1 rfl (fn := Try.f78) (by kernel_rfl) (by kernel_rfl) fit_law01_Net fun args r pre fresh h hp => ?_
 unfold con_law01_Net at h
 split at h
 ·cases h
  refine ⟨rfl, (by intro x hx; simp only [List.mem_cons, List.not_mem_nil, or_false] at hx; rcases hx with rfl | rfl <;> first | trivial | exact (fun i j _ hj => plain_str _ i j) | exact (fun i j _ hj => plain_Lnk _ i j)), fun _ _ _ => False, _, LeA.refl _, Nat.le_of_ble_eq_true (by kernel_rfl), ?_, ?_⟩
  ·rw [ev_law01_Net]; exact spec_law01_Net 
  ·rw [lp_law01_Net]; trivial
 ·cases h
def Sw100 : Sum := addS Sw99 78 con_law01_Net
theorem VSw100 : Valid Try.prog Sw100 := Valid.add VSw99 ok_law01_Net
end Go.Proofs.Ytkifmfmenobhnaa