/- Texts of this claim, together. -/
import Derived.Test.YtlapeoboekchpaaGreatDoorTS8
import Derived.Test.YtlapeoboekchpaaGreatDoorTS9

set_option linter.unusedVariables false
set_option linter.unusedSimpArgs false
namespace Go.Proofs.YtlapeoboekchpaaGreatDoor
open Go.RowKit Ev
def lnksC (l : List Lnk) : Nat → Nat → CV := fun i j => match j with
 | 0 => .v (.int .i64 (lnkAt l i).frm)
 | 1 => .v (.int .i64 (lnkAt l i).«to»)
 | 2 => .v (.int .i64 (lnkAt l i).lo)
 | _ => .v (.int .i64 (lnkAt l i).hi)
def mkLnk (g : Nat → Int) : Lnk := ⟨g 0, g 1, g 2, g 3⟩
def lnkCv (x : Lnk) : List CV := [.v (.int .i64 x.frm), .v (.int .i64 x.to), .v (.int .i64 x.lo), .v (.int .i64 x.hi)]
theorem lnkAt_C {n : Nat} {c : Nat → Nat → CV} {i : Nat} (hi : i < n) : lnkAt (listC n mkLnk c) i = mkLnk fun j => cvInt (c i j) := listC_get hi
theorem leL_Lnk {n : Nat} {c : Nat → Nat → CV} (hp : numsP 4 n c) : LeD (.t (.c (.sl 4 n c))) (.t (.c (.sl 4 (listC n mkLnk c).length (lnksC (listC n mkLnk c))))) := by
 refine leL hp fun i j hi hj => ?_
 unfold lnksC
 rw [lnkAt_C hi]
 rcases (by omega : j = 0 ∨ j = 1 ∨ j = 2 ∨ j = 3) with rfl | rfl | rfl | rfl <;> rfl
theorem numsP_lnks (l : List Lnk) : numsP 4 l.length (lnksC l) := by
 intro i j hi hj
 rcases (by omega : j = 0 ∨ j = 1 ∨ j = 2 ∨ j = 3) with rfl | rfl | rfl | rfl <;> rfl
theorem lnks_listC (l : List Lnk) : listC l.length mkLnk (lnksC l) = l := listC_id ⟨0, 0, 0, 0⟩ fun i hi => rfl
theorem plain_Lnk (l : List Lnk) (i j : Nat) : ∃ y, lnksC l i j = .v y := by unfold lnksC; split <;> exact ⟨_, rfl⟩
theorem le_lnks (l : List Lnk) : LeD (.t (.c (.sl 4 (l.map lnkCv).length (genC (l.map lnkCv))))) (.t (.c (.sl 4 l.length (lnksC l)))) := by
 rw [List.length_map]
 refine leSl fun i j hi hj => ?_
 unfold genC lnksC lnkAt
 simp only [List.getD_eq_getElem?_getD, List.getElem?_map, List.getElem?_eq_getElem hi, Option.map_some, Option.getD_some]
 rcases (by omega : j = 0 ∨ j = 1 ∨ j = 2 ∨ j = 3) with rfl | rfl | rfl | rfl <;> rfl
theorem lnk_ext {a b : Lnk} : a = b ↔ a.frm = b.frm ∧ a.to = b.to ∧ a.lo = b.lo ∧ a.hi = b.hi := by
 obtain ⟨_, _, _, _⟩ := a
 obtain ⟨_, _, _, _⟩ := b
 simp [and_assoc]
instance : DecidableEq Lnk := fun a b => decidable_of_iff _ lnk_ext.symm
theorem lnks_fwd (l : List Lnk) : ((List.range l.length).map fun i => fwd ((lnksC l) i) 0 4) = l.map lnkCv := by
 apply List.ext_getElem?
 intro i
 by_cases hi : i < l.length
 ·simp only [List.getElem?_map, List.getElem?_range hi, List.getElem?_eq_getElem hi, Option.map_some]
  have e : lnkAt l i = l[i] := by simp [lnkAt, List.getD, hi]
  rw [← e]; rfl
 ·rw [List.getElem?_eq_none (by simpa using hi), List.getElem?_eq_none (by simpa using hi)]
theorem numsP_lnkg (l : List Lnk) : numsP 4 (l.map lnkCv).length (genC (l.map lnkCv)) := by
 rw [List.length_map]
 intro i j hi hj
 have e : genC (l.map lnkCv) i j = lnksC l i j := by
  unfold genC lnksC lnkAt
  simp only [List.getD_eq_getElem?_getD, List.getElem?_map, List.getElem?_eq_getElem hi, Option.map_some, Option.getD_some]
  rcases (by omega : j = 0 ∨ j = 1 ∨ j = 2 ∨ j = 3) with rfl | rfl | rfl | rfl <;> rfl
 rw [e]
 exact numsP_lnks l i j hi hj
theorem lnkg_listC (l : List Lnk) : listC (l.map lnkCv).length mkLnk (genC (l.map lnkCv)) = l := by
 rw [List.length_map]
 refine listC_id ⟨0, 0, 0, 0⟩ fun i hi => ?_
 unfold mkLnk genC
 simp only [List.getD_eq_getElem?_getD, List.getElem?_map, List.getElem?_eq_getElem hi, Option.map_some, Option.getD_some]
 rfl
def ntH (cs : List ByteArray) (ls : List Lnk) : Int := firstNZ [unl (decide ((cs.length : Int) > 0)) 10, unl (decide ((cs.length : Int) ≤ 6) && decide ((ls.length : Int) ≤ 12)) 8]
def nmE (cs : List ByteArray) (i : Nat) : Int := firstNZ [unl (nameB (txAt cs i)) 4, unl (!(cs.take i).contains (txAt cs i)) 5]
def lkE (n : Nat) (x : Lnk) : Int := firstNZ [unl (inB x.frm 0 ((n : Int) - 1) && inB x.to 0 ((n : Int) - 1)) 6, unl (x.frm != x.to) 15, unl (inB x.lo (-1000000000) 1000000000 && inB x.hi (-1000000000) 1000000000) 2, unl (decide (x.lo ≤ x.hi)) 9]
def ntE (cs : List ByteArray) (ls : List Lnk) : Int := if ntH cs ls ≠ 0 then ntH cs ls else if scan (nmE cs) cs.length ≠ 0 then scan (nmE cs) cs.length else scan (fun i => lkE cs.length (lnkAt ls i)) ls.length
def ntI (cs : List ByteArray) (ls : List Lnk) : Int := if ntH cs ls ≠ 0 then 0 else if scan (nmE cs) cs.length ≠ 0 then scanI (nmE cs) cs.length else scanI (fun i => lkE cs.length (lnkAt ls i)) ls.length
theorem ntH_ok {cs : List ByteArray} {ls : List Lnk} (h : ntH cs ls = 0) : (0 < cs.length ∧ cs.length ≤ 6) ∧ ls.length ≤ 12 := by
 obtain ⟨h1, h2⟩ := fn2 (show firstNZ [_, _] = 0 from h)
 rw [unl_0 (by decide)] at h1 h2
 rw [Bool.and_eq_true, decide_eq_true_eq, decide_eq_true_eq] at h2
 have h1 := of_decide_eq_true h1
 omega
def con_clock_isName : Con := fun args => match args with
 | [.t (.c (.v (.string nm)))] => some (.t (.c (.v (.bool (nameB nm)))), some ((nm).size ≤ 1000000), false)
 | _ => none
theorem ok_clock_isName : Ok Tryz.prog 124 con_clock_isName := by
 refine Ok.oldGd (Enters.of (fn := Tryz.f124) (by kernel_rfl) (by kernel_rfl) (by kernel_rfl)) fun args r pre fresh h hp => ?_
 unfold con_clock_isName at h
 split at h
 ·rename_i nm
  cases h
  refine ⟨rfl, _, rfl, fun W N vs hG hv => ?_⟩
  have hp := hp
  obtain ⟨u0, ws0, k0, g0, hv0⟩ := hv.cons_inv
  subst k0
  have e0 := plain_arg rfl g0
  subst e0
  have ev := hv0.nil_inv
  subst ev
  exact walk_isName W hG nm hp
 ·cases h
def Sn46 : Sum := addS Se45 124 con_clock_isName
theorem VSn46 : Valid Tryz.prog Sn46 := Valid.add VSe45 ok_clock_isName
def con_base_IsName : Con := fun args => match args with
 | [.t (.c (.v (.string nm)))] => some (.t (.c (.v (.bool (nameB nm)))), some ((nm).size ≤ 1000000), false)
 | _ => none
theorem ok_base_IsName : Ok Tryz.prog 98 con_base_IsName := by
 refine Ok.oldG (Enters.of (fn := Tryz.f98) (by kernel_rfl) (by kernel_rfl) (by kernel_rfl)) fun args r pre fresh h hp => ?_
 unfold con_base_IsName at h
 split at h
 ·rename_i nm
  cases h
  refine ⟨rfl, _, rfl, fun W N vs hv => ?_⟩
  have hp := hp
  obtain ⟨u0, ws0, k0, g0, hv0⟩ := hv.cons_inv
  subst k0
  have e0 := plain_arg rfl g0
  subst e0
  have ev := hv0.nil_inv
  subst ev
  exact walk_IsName W nm hp
 ·cases h
def Sn47 : Sum := addS Sn46 98 con_base_IsName
theorem VSn47 : Valid Tryz.prog Sn47 := Valid.add VSn46 ok_base_IsName
def con_slices_Contains_string_string : Con := fun args => match args with
 | [.t (.c (.sl 1 n_cs c_cs)), .t (.c (.v (.string nm)))] => some (.t (.c (.v (.bool (((txOf n_cs c_cs)).contains nm)))), some (txP n_cs c_cs ∧ ((txOf n_cs c_cs)).length ≤ 1000000), false)
 | _ => none
theorem ok_slices_Contains_string_string : Ok Tryz.prog 125 con_slices_Contains_string_string := by
 refine Ok.oldG (Enters.of (fn := Tryz.f125) (by kernel_rfl) (by kernel_rfl) (by kernel_rfl)) fun args r pre fresh h hp => ?_
 unfold con_slices_Contains_string_string at h
 split at h
 ·rename_i n_cs c_cs nm
  cases h
  refine ⟨rfl, _, rfl, fun W N vs hv => ?_⟩
  obtain ⟨hp0, hp⟩ := hp
  obtain ⟨v_cs, ws0, k0, g0, hv0⟩ := hv.cons_inv
  subst k0
  have h_cs := at_str hp0 g0
  obtain ⟨u1, ws1, k1, g1, hv1⟩ := hv0.cons_inv
  subst k1
  have e1 := plain_arg rfl g1
  subst e1
  have ev := hv1.nil_inv
  subst ev
  generalize txOf n_cs c_cs = cs at *
  exact by
   obtain ⟨ao, cap, rfl, hc⟩ := h_cs
   have h := walk_ContainsT W cs nm ao cap cs.length (Nat.le_refl _) hp hc
   rw [List.take_length] at h
   exact h
 ·cases h
def Sn48 : Sum := addS Sn47 125 con_slices_Contains_string_string
theorem VSn48 : Valid Tryz.prog Sn48 := Valid.add VSn47 ok_slices_Contains_string_string
def con_base_HasText : Con := fun args => match args with
 | [.t (.c (.sl 1 n_cs c_cs)), .t (.c (.v (.string nm)))] => some (.t (.c (.v (.bool (((txOf n_cs c_cs)).contains nm)))), some (txP n_cs c_cs ∧ ((txOf n_cs c_cs)).length ≤ 1000000), false)
 | _ => none
theorem ok_base_HasText : Ok Tryz.prog 25 con_base_HasText := by
 refine Ok.oldG (Enters.of (fn := Tryz.f25) (by kernel_rfl) (by kernel_rfl) (by kernel_rfl)) fun args r pre fresh h hp => ?_
 unfold con_base_HasText at h
 split at h
 ·rename_i n_cs c_cs nm
  cases h
  refine ⟨rfl, _, rfl, fun W N vs hv => ?_⟩
  obtain ⟨hp0, hp⟩ := hp
  obtain ⟨v_cs, ws0, k0, g0, hv0⟩ := hv.cons_inv
  subst k0
  have h_cs := at_str hp0 g0
  obtain ⟨u1, ws1, k1, g1, hv1⟩ := hv0.cons_inv
  subst k1
  have e1 := plain_arg rfl g1
  subst e1
  have ev := hv1.nil_inv
  subst ev
  generalize txOf n_cs c_cs = cs at *
  exact by
   obtain ⟨ao, cap, rfl, hc⟩ := h_cs
   have h := walk_HasText W cs nm ao cap cs.length (Nat.le_refl _) hp hc
   rw [List.take_length] at h
   exact h
 ·cases h
def Sn49 : Sum := addS Sn48 25 con_base_HasText
theorem VSn49 : Valid Tryz.prog Sn49 := Valid.add VSn48 ok_base_HasText
def vc_clock_CheckNet_1 (k : Int) (cs : List ByteArray) (ls : List Lnk) (post : DV → Prop) : Prop := lt (IntKind.i64.wrap (((cs.length : Nat) : Int) - (1 : Int))) fun x1 => post (.t (.c (.v (.bool (inB k (0 : Int) x1)))))
def ann_clock_CheckNet_1 : Ann := ⟨fun _ => none, fun _ => none, fun _ => [], noIt, false, fun _ => none, fun _ => none⟩
theorem ev_clock_CheckNet_1 (J : Inv) (k : Int) (cs : List ByteArray) (ls : List Lnk) (post : DV → Prop) : evFn Tryz.prog tab Sn49 ann_clock_CheckNet_1 J Tryz.f126 [.t (.c (.v (.int .i64 k))), .t (.c (.px 2 0 (boxC [.sl 1 cs.length (txsC cs), .sl 4 ls.length (lnksC ls)])))] post = vc_clock_CheckNet_1 k cs ls post := by kernel_rfl
theorem fit_clock_CheckNet_1 : okFn ann_clock_CheckNet_1 Tryz.f126 = true := by kernel_rfl
theorem lp_clock_CheckNet_1 (J : Inv) (post : DV → Prop) : AllG J (loopsFn Tryz.prog tab Sn49 ann_clock_CheckNet_1 J Tryz.f126 post) = (True) := by kernel_rfl
theorem spec_clock_CheckNet_1 (k : Int) (cs : List ByteArray) (ls : List Lnk) (hp : (cs).length ≤ 1000000) : vc_clock_CheckNet_1 k cs ls (fun r => LeD r (.t (.c (.v (.bool (inB k 0 (((cs).length : Int) - 1))))))) := by
 unfold vc_clock_CheckNet_1
 refine lt_i fun x hx => leB ?_
 rw [wi (by omega)] at hx
 rw [← hx]
def con_clock_CheckNet_1 : Con := fun args => match args with
 | [.t (.c (.v (.int .i64 k))), .t (.c (.px 2 0 c_q))] => some (.t (.c (.v (.bool (inB k 0 ((((txOf (cvLen (c_q 0)) (cvCells (c_q 0)))).length : Int) - 1))))), some (intsB [] c_q = true ∧ slP 1 (c_q 0) ∧ txP (cvLen (c_q 0)) (cvCells (c_q 0)) ∧ slP 4 (c_q 1) ∧ numsP 4 (cvLen (c_q 1)) (cvCells (c_q 1)) ∧ ((txOf (cvLen (c_q 0)) (cvCells (c_q 0)))).length ≤ 1000000), false)
 | _ => none
theorem ok_clock_CheckNet_1 : Ok Tryz.prog 126 con_clock_CheckNet_1 := by
 refine Ok.fn (ann := ann_clock_CheckNet_1) mixed tabOK VSn49 ValidIt.no (fn := Tryz.f126) (by kernel_rfl) (by kernel_rfl) fit_clock_CheckNet_1 fun args r pre fresh h hp => ?_
 unfold con_clock_CheckNet_1 at h
 split at h
 ·rename_i k c_q
  cases h
  obtain ⟨hp0, hp1, hp2, hp3, hp4, hp⟩ := hp
  refine ⟨rfl, fun _ _ _ => False, [.t (.c (.v (.int .i64 k))), .t (.c (.px 2 0 (boxC [.sl 1 ((txOf (cvLen (c_q 0)) (cvCells (c_q 0))).length) (txsC (txOf (cvLen (c_q 0)) (cvCells (c_q 0)))), .sl 4 ((listC (cvLen (c_q 1)) mkLnk (cvCells (c_q 1))).length) (lnksC (listC (cvLen (c_q 1)) mkLnk (cvCells (c_q 1))))])))], ?_, Nat.le_of_ble_eq_true (by kernel_rfl), ?_, ?_⟩
  ·exact (LeA_cons (LeD.refl _) (LeA_cons (leT_c (leC_p (LeCs.cons (leC_s hp1 (leL_str hp2)) (LeCs.cons (leC_s hp3 (leL_Lnk hp4)) LeCs.nil)))) LeA_nil))
  ·rw [ev_clock_CheckNet_1]; exact spec_clock_CheckNet_1 k (txOf (cvLen (c_q 0)) (cvCells (c_q 0))) (listC (cvLen (c_q 1)) mkLnk (cvCells (c_q 1))) hp
  ·rw [lp_clock_CheckNet_1]; trivial
 ·cases h
def Sn50 : Sum := addS Sn49 126 con_clock_CheckNet_1
theorem VSn50 : Valid Tryz.prog Sn50 := Valid.add VSn49 ok_clock_CheckNet_1
def vc_clock_CheckNet_2 (k : Int) (post : DV → Prop) : Prop := post (.t (.c (.v (.bool (inB k (-1000000000 : Int) (1000000000 : Int))))))
def ann_clock_CheckNet_2 : Ann := ⟨fun _ => none, fun _ => none, fun _ => [], noIt, false, fun _ => none, fun _ => none⟩
theorem ev_clock_CheckNet_2 (J : Inv) (k : Int) (post : DV → Prop) : evFn Tryz.prog tab Sn50 ann_clock_CheckNet_2 J Tryz.f127 [.t (.c (.v (.int .i64 k)))] post = vc_clock_CheckNet_2 k post := by kernel_rfl
theorem fit_clock_CheckNet_2 : okFn ann_clock_CheckNet_2 Tryz.f127 = true := by kernel_rfl
theorem lp_clock_CheckNet_2 (J : Inv) (post : DV → Prop) : AllG J (loopsFn Tryz.prog tab Sn50 ann_clock_CheckNet_2 J Tryz.f127 post) = (True) := by kernel_rfl
theorem spec_clock_CheckNet_2 (k : Int) : vc_clock_CheckNet_2 k (fun r => LeD r (.t (.c (.v (.bool (inB k (-1000000000) 1000000000)))))) := by
 exact LeD.refl _
def con_clock_CheckNet_2 : Con := fun args => match args with
 | [.t (.c (.v (.int .i64 k)))] => some (.t (.c (.v (.bool (inB k (-1000000000) 1000000000)))), none, false)
 | _ => none
theorem ok_clock_CheckNet_2 : Ok Tryz.prog 127 con_clock_CheckNet_2 := by
 refine Ok.fn (ann := ann_clock_CheckNet_2) mixed tabOK VSn50 ValidIt.no (fn := Tryz.f127) (by kernel_rfl) (by kernel_rfl) fit_clock_CheckNet_2 fun args r pre fresh h hp => ?_
 unfold con_clock_CheckNet_2 at h
 split at h
 ·rename_i k
  cases h
  refine ⟨rfl, fun _ _ _ => False, _, LeA.refl _, Nat.le_of_ble_eq_true (by kernel_rfl), ?_, ?_⟩
  ·rw [ev_clock_CheckNet_2]; exact spec_clock_CheckNet_2 k
  ·rw [lp_clock_CheckNet_2]; trivial
 ·cases h
def Sn51 : Sum := addS Sn50 127 con_clock_CheckNet_2
theorem VSn51 : Valid Tryz.prog Sn51 := Valid.add VSn50 ok_clock_CheckNet_2
def vc_ref01_isOffset (k : Int) (post : DV → Prop) : Prop := post (.t (.c (.v (.bool (inB k (-1000000000 : Int) (1000000000 : Int))))))
def ann_ref01_isOffset : Ann := ⟨fun _ => none, fun _ => none, fun _ => [], noIt, false, fun _ => none, fun _ => none⟩
theorem ev_ref01_isOffset (J : Inv) (k : Int) (post : DV → Prop) : evFn Tryz.prog tab Sn51 ann_ref01_isOffset J Tryz.f99 [.t (.c (.v (.int .i64 k)))] post = vc_ref01_isOffset k post := by kernel_rfl
theorem fit_ref01_isOffset : okFn ann_ref01_isOffset Tryz.f99 = true := by kernel_rfl
theorem lp_ref01_isOffset (J : Inv) (post : DV → Prop) : AllG J (loopsFn Tryz.prog tab Sn51 ann_ref01_isOffset J Tryz.f99 post) = (True) := by kernel_rfl
theorem spec_ref01_isOffset (k : Int) : vc_ref01_isOffset k (fun r => LeD r (.t (.c (.v (.bool (inB k (-1000000000) 1000000000)))))) := by
 exact LeD.refl _
def con_ref01_isOffset : Con := fun args => match args with
 | [.t (.c (.v (.int .i64 k)))] => some (.t (.c (.v (.bool (inB k (-1000000000) 1000000000)))), none, false)
 | _ => none
theorem ok_ref01_isOffset : Ok Tryz.prog 99 con_ref01_isOffset := by
 refine Ok.fn (ann := ann_ref01_isOffset) mixed tabOK VSn51 ValidIt.no (fn := Tryz.f99) (by kernel_rfl) (by kernel_rfl) fit_ref01_isOffset fun args r pre fresh h hp => ?_
 unfold con_ref01_isOffset at h
 split at h
 ·rename_i k
  cases h
  refine ⟨rfl, fun _ _ _ => False, _, LeA.refl _, Nat.le_of_ble_eq_true (by kernel_rfl), ?_, ?_⟩
  ·rw [ev_ref01_isOffset]; exact spec_ref01_isOffset k
  ·rw [lp_ref01_isOffset]; trivial
 ·cases h
def Sn52 : Sum := addS Sn51 99 con_ref01_isOffset
theorem VSn52 : Valid Tryz.prog Sn52 := Valid.add VSn51 ok_ref01_isOffset
def mk_clock_CheckNet_0 (cs : List ByteArray) (ls : List Lnk) (v0_0 : Int) : DS := ⟨[none, some (.t (.c (.p 1 0))), none, none, none, none, none, none, none, none, none, none, none, none, none, none, none, none, none, none, none, none, none, none, none, none, none, none, none, none, none, none, none, none, none, some (.t (.c (.sl 1 cs.length (txsC cs)))), some (.t (.c (.v (.int .i64 ((cs.length : Nat) : Int))))), some (.t (.c (.v (.int .i64 v0_0)))), none, none, none, none, none, none, none, none, none, none, none, none, none, none, none, none, none, none, none, none, none, none, none, none, none, none, none, none, none, none, none, none, none, none, none, none, none, none, none, none, none, none, none, none, none, none, none, none, none, none, none, none, none, none, none, none, none, none, none, none, none, none, none, none, none, none, none, none, none, none, none, none, none, none, none, none], [none, some (.box 27 [.sl 1 cs.length (txsC cs), .sl 4 ls.length (lnksC ls)]), none, none, none, none, none, none, none, none, none, none, none, none, none, none, none, none, none, none, none, none, none, none, none, none, none, none, none, none, none, none, none, none, none, none, none, none, none, none, none, none, none, none, none, none, none, none, none, none, none, none, none, none, none, none, none, none, none, none, none, none, none, none, none, none, none, none, none, none, none, none, none, none, none, none, none, none, none, none, none, none, none, none, none, none, none, none, none, none, none, none, none, none, none, none, none, none, none, none, none, none, none, none, none, none, none, none, none, none, none, none, none, none]⟩
def mk_clock_CheckNet_2 (cs : List ByteArray) (ls : List Lnk) (v2_0 : Int) : DS := ⟨[none, none, none, none, none, none, none, none, some (.t (.fn 126 [.p 1 0])), some (.t (.fn 127 [])), none, none, none, none, none, none, none, none, none, none, none, none, none, none, none, none, none, none, none, none, none, none, none, none, none, none, none, none, none, none, none, none, none, none, none, none, none, none, none, none, none, none, none, none, none, none, none, none, none, none, none, none, some (.t (.c (.sl 4 ls.length (lnksC ls)))), some (.t (.c (.v (.int .i64 ((ls.length : Nat) : Int))))), some (.t (.c (.v (.int .i64 v2_0)))), none, none, none, none, none, none, none, none, none, none, none, none, none, none, none, none, none, none, none, none, none, none, none, none, none, none, none, none, none, none, none, none, none, none, none, none, none, none, none, none, none, none, none, none, none, none, none, none, none], [none, some (.box 27 [.sl 1 cs.length (txsC cs), .sl 4 ls.length (lnksC ls)]), none, none, none, none, none, none, none, none, none, none, none, none, none, none, none, none, none, none, none, none, none, none, none, none, none, none, none, none, none, none, none, none, none, none, none, none, none, none, none, none, none, none, none, none, none, none, none, none, none, none, none, none, none, none, none, none, none, none, none, none, none, none, none, none, none, none, none, none, none, none, none, none, none, none, none, none, none, none, none, none, none, none, none, none, none, none, none, none, none, none, none, none, none, none, none, none, none, none, none, none, none, none, none, none, none, none, none, none, none, none, none, none]⟩
def vc_clock_CheckNet (J : Inv) (cs : List ByteArray) (ls : List Lnk) (post : DV → Prop) : Prop := cond (decide (((cs.length : Nat) : Int) ≤ (6 : Int))) ((numsP 1 2 (genC [[.v (.int .i64 (unl (decide (((cs.length : Nat) : Int) > (0 : Int))) (10 : Int)))], [.v (.int .i64 (unl (decide (((ls.length : Nat) : Int) ≤ (12 : Int))) (8 : Int)))]]) ∧ (([(unl (decide (((cs.length : Nat) : Int) > (0 : Int))) (10 : Int)), (unl (decide (((ls.length : Nat) : Int) ≤ (12 : Int))) (8 : Int))] : List Int)).length ≤ 100) ∧ (cond ((firstNZ ([(unl (decide (((cs.length : Nat) : Int) > (0 : Int))) (10 : Int)), (unl (decide (((ls.length : Nat) : Int) ≤ (12 : Int))) (8 : Int))] : List Int)) != (0 : Int)) (post (.tu [.c (.v (.int .i64 0)), .c (.v (.int .i64 (firstNZ ([(unl (decide (((cs.length : Nat) : Int) > (0 : Int))) (10 : Int)), (unl (decide (((ls.length : Nat) : Int) ≤ (12 : Int))) (8 : Int))] : List Int))))])) (∃ n, J 0 (n :: []) (mk_clock_CheckNet_0 cs ls 0)))) ((false = false) ∧ ((numsP 1 2 (genC [[.v (.int .i64 (unl (decide (((cs.length : Nat) : Int) > (0 : Int))) (10 : Int)))], [.v (.int .i64 (unl false (8 : Int)))]]) ∧ (([(unl (decide (((cs.length : Nat) : Int) > (0 : Int))) (10 : Int)), (unl false (8 : Int))] : List Int)).length ≤ 100) ∧ (cond ((firstNZ ([(unl (decide (((cs.length : Nat) : Int) > (0 : Int))) (10 : Int)), (unl false (8 : Int))] : List Int)) != (0 : Int)) (post (.tu [.c (.v (.int .i64 0)), .c (.v (.int .i64 (firstNZ ([(unl (decide (((cs.length : Nat) : Int) > (0 : Int))) (10 : Int)), (unl false (8 : Int))] : List Int))))])) (∃ n, J 0 (n :: []) (mk_clock_CheckNet_0 cs ls 0)))))
def ann_clock_CheckNet : Ann := ⟨fun r => lookA r [(1, ([[], [0], [0, 1], [0, 1, 2], [0, 1, 2, 3], [], [5], [5, 6], [5, 6, 7], [0, 1, 2, 3, 4, 5, 6, 7, 8], [0, 1, 2, 3, 4, 5, 6, 7, 8, 9], [0, 1, 2, 3, 4, 5, 6, 7, 8, 9, 10], [0, 1, 2, 3, 4, 5, 6, 7, 8, 9, 10, 11], [0, 1, 2, 3, 4, 5, 6, 7, 8, 9, 10, 11, 12], [0, 1, 2, 3, 4, 5, 6, 7, 8, 9, 10, 11, 12, 13], [0, 1, 2, 3, 4, 5, 6, 7, 8, 9, 10, 11, 12, 13, 14], [0, 1, 2, 3, 4, 5, 6, 7, 8, 9, 10, 11, 12, 13, 14, 15], [0, 1, 2, 3, 4, 5, 6, 7, 8, 9, 10, 11, 12, 13, 14, 15, 16], [0, 1, 2, 3, 4, 5, 6, 7, 8, 9, 10, 11, 12, 13, 14, 15, 16, 17]], [[17, 28, 29, 30], [17, 28, 29, 30], [17, 28, 29, 30], [17, 28, 29, 30], [28, 29, 30], [17, 28, 29, 30], [17, 28, 29, 30], [17, 28, 29, 30], [17, 28, 29, 30], [28, 29, 30], [28, 29, 30], [28, 29, 30], [28, 29, 30], [28, 29, 30], [28, 29, 30], [29, 30], [30], [], []])), (7, ([[], [0], [0, 1], [], [3], [], [3, 4, 5], [], [0, 1, 2, 3, 4, 5, 6, 7], [0, 1, 2, 3, 4, 5, 6, 7, 8], [0, 1, 2, 3, 4, 5, 6, 7, 8, 9], [0, 1, 2, 3, 4, 5, 6, 7, 8, 9, 10], [0, 1, 2, 3, 4, 5, 6, 7, 8, 9, 10, 11], [0, 1, 2, 3, 4, 5, 6, 7, 8, 9, 10, 11, 12]], [[43, 44, 50, 52, 53, 54], [44, 50, 52, 53, 54], [50, 52, 53, 54], [43, 44, 50, 52, 53, 54], [43, 44, 50, 52, 53, 54], [43, 44, 50, 52, 53, 54], [43, 44, 50, 52, 53, 54], [43, 44, 50, 52, 53, 54], [52, 53, 54], [52, 53, 54], [53, 54], [54], [], []])), (16, ([[], [], [1], [0, 1, 2], [0, 1, 2, 3], [0, 1, 2, 3, 4], [0, 1, 2, 3, 4], [0, 1, 2, 3, 4, 6], [0, 1, 2, 3, 4, 5, 6, 7], [0, 1, 2, 3, 4, 5, 6, 7, 8], [0, 1, 2, 3, 4, 5, 6, 7, 8, 9], [], [11], [], [13], [11, 12, 13, 14], [0, 1, 2, 3, 4, 5, 6, 7, 8, 9, 10, 11, 12, 13, 14, 15], [], [], [18], [18, 19], [0, 1, 2, 3, 4, 5, 6, 7, 8, 9, 10, 11, 12, 13, 14, 15, 16, 17, 18, 19, 20], [0, 1, 2, 3, 4, 5, 6, 7, 8, 9, 10, 11, 12, 13, 14, 15, 16, 17, 18, 19, 20, 21], [0, 1, 2, 3, 4, 5, 6, 7, 8, 9, 10, 11, 12, 13, 14, 15, 16, 17, 18, 19, 20, 21, 22], [0, 1, 2, 3, 4, 5, 6, 7, 8, 9, 10, 11, 12, 13, 14, 15, 16, 17, 18, 19, 20, 21, 22], [0, 1, 2, 3, 4, 5, 6, 7, 8, 9, 10, 11, 12, 13, 14, 15, 16, 17, 18, 19, 20, 21, 22, 24], [0, 1, 2, 3, 4, 5, 6, 7, 8, 9, 10, 11, 12, 13, 14, 15, 16, 17, 18, 19, 20, 21, 22, 24, 25], [0, 1, 2, 3, 4, 5, 6, 7, 8, 9, 10, 11, 12, 13, 14, 15, 16, 17, 18, 19, 20, 21, 22, 23, 24, 25, 26], [0, 1, 2, 3, 4, 5, 6, 7, 8, 9, 10, 11, 12, 13, 14, 15, 16, 17, 18, 19, 20, 21, 22, 23, 24, 25, 26, 27], [0, 1, 2, 3, 4, 5, 6, 7, 8, 9, 10, 11, 12, 13, 14, 15, 16, 17, 18, 19, 20, 21, 22, 23, 24, 25, 26, 27, 28], [], [30], [30, 31], [], [33], [33, 34], [30, 31, 32, 33, 34, 35], [0, 1, 2, 3, 4, 5, 6, 7, 8, 9, 10, 11, 12, 13, 14, 15, 16, 17, 18, 19, 20, 21, 22, 23, 24, 25, 26, 27, 28, 29, 30, 31, 32, 33, 34, 35, 36], [0, 1, 2, 3, 4, 5, 6, 7, 8, 9, 10, 11, 12, 13, 14, 15, 16, 17, 18, 19, 20, 21, 22, 23, 24, 25, 26, 27, 28, 29, 30, 31, 32, 33, 34, 35, 36, 37], [0, 1, 2, 3, 4, 5, 6, 7, 8, 9, 10, 11, 12, 13, 14, 15, 16, 17, 18, 19, 20, 21, 22, 23, 24, 25, 26, 27, 28, 29, 30, 31, 32, 33, 34, 35, 36, 37, 38], [0, 1, 2, 3, 4, 5, 6, 7, 8, 9, 10, 11, 12, 13, 14, 15, 16, 17, 18, 19, 20, 21, 22, 23, 24, 25, 26, 27, 28, 29, 30, 31, 32, 33, 34, 35, 36, 37, 38, 39]], [[72, 77, 79, 85, 90, 96, 98, 106, 107, 108], [72, 77, 79, 85, 90, 96, 98, 106, 107, 108], [72, 77, 79, 85, 90, 96, 98, 106, 107, 108], [77, 79, 85, 90, 96, 98, 106, 107, 108], [77, 79, 85, 90, 96, 98, 106, 107, 108], [77, 79, 85, 90, 96, 98, 106, 107, 108], [77, 79, 85, 90, 96, 98, 106, 107, 108], [77, 79, 85, 90, 96, 98, 106, 107, 108], [79, 85, 90, 96, 98, 106, 107, 108], [79, 85, 90, 96, 98, 106, 107, 108], [85, 90, 96, 98, 106, 107, 108], [72, 77, 79, 85, 90, 96, 98, 106, 107, 108], [72, 77, 79, 85, 90, 96, 98, 106, 107, 108], [72, 77, 79, 85, 90, 96, 98, 106, 107, 108], [72, 77, 79, 85, 90, 96, 98, 106, 107, 108], [72, 77, 79, 85, 90, 96, 98, 106, 107, 108], [90, 96, 98, 106, 107, 108], [72, 77, 79, 85, 90, 96, 98, 106, 107, 108], [72, 77, 79, 85, 90, 96, 98, 106, 107, 108], [72, 77, 79, 85, 90, 96, 98, 106, 107, 108], [72, 77, 79, 85, 90, 96, 98, 106, 107, 108], [96, 98, 106, 107, 108], [96, 98, 106, 107, 108], [96, 98, 106, 107, 108], [96, 98, 106, 107, 108], [96, 98, 106, 107, 108], [96, 98, 106, 107, 108], [98, 106, 107, 108], [98, 106, 107, 108], [106, 107, 108], [72, 77, 79, 85, 90, 96, 98, 106, 107, 108], [72, 77, 79, 85, 90, 96, 98, 106, 107, 108], [72, 77, 79, 85, 90, 96, 98, 106, 107, 108], [72, 77, 79, 85, 90, 96, 98, 106, 107, 108], [72, 77, 79, 85, 90, 96, 98, 106, 107, 108], [72, 77, 79, 85, 90, 96, 98, 106, 107, 108], [72, 77, 79, 85, 90, 96, 98, 106, 107, 108], [107, 108], [108], [], []]))], fun b => lookA b [(0, (none, some ⟨[1, 35, 36, 37], [1], []⟩)), (2, (none, some ⟨[8, 9, 62, 63, 64], [1], []⟩))], fun _ => [], noIt, false, fun _ => none, fun _ => none⟩
theorem ev_clock_CheckNet (J : Inv) (cs : List ByteArray) (ls : List Lnk) (post : DV → Prop) : evFn Tryz.prog tab Sn52 ann_clock_CheckNet J Tryz.f95 [.t (.a [.sl 1 cs.length (txsC cs), .sl 4 ls.length (lnksC ls)])] post = vc_clock_CheckNet J cs ls post := by kernel_rfl
theorem fit_clock_CheckNet : okFn ann_clock_CheckNet Tryz.f95 = true := by kernel_rfl
def rd_clock_CheckNet_0 (J : Inv) (cs : List ByteArray) (ls : List Lnk) (v0_0 : Int) (nn0 : Nat) (post : DV → Prop) : Prop := cond (decide (v0_0 < ((cs.length : Nat) : Int))) ((0 ≤ v0_0 ∧ v0_0 < ((cs.length : Nat) : Int)) ∧ ((((txAt cs v0_0.toNat)).size ≤ 1000000) ∧ ((0 ≤ (0 : Int) ∧ (0 : Int) ≤ v0_0 ∧ v0_0 ≤ ((cs.length : Nat) : Int)) ∧ ((txP ((v0_0 - (0 : Int)).toNat) (fun i j => (txsC cs) (((0 : Int)).toNat + i) j) ∧ ((txOf ((v0_0 - (0 : Int)).toNat) (fun i j => (txsC cs) (((0 : Int)).toNat + i) j))).length ≤ 1000000) ∧ ((numsP 1 2 (genC [[.v (.int .i64 (unl (nameB (txAt cs v0_0.toNat)) (4 : Int)))], [.v (.int .i64 (unl (!(((txOf ((v0_0 - (0 : Int)).toNat) (fun i j => (txsC cs) (((0 : Int)).toNat + i) j))).contains (txAt cs v0_0.toNat))) (5 : Int)))]]) ∧ (([(unl (nameB (txAt cs v0_0.toNat)) (4 : Int)), (unl (!(((txOf ((v0_0 - (0 : Int)).toNat) (fun i j => (txsC cs) (((0 : Int)).toNat + i) j))).contains (txAt cs v0_0.toNat))) (5 : Int))] : List Int)).length ≤ 100) ∧ (cond ((firstNZ ([(unl (nameB (txAt cs v0_0.toNat)) (4 : Int)), (unl (!(((txOf ((v0_0 - (0 : Int)).toNat) (fun i j => (txsC cs) (((0 : Int)).toNat + i) j))).contains (txAt cs v0_0.toNat))) (5 : Int))] : List Int)) != (0 : Int)) (post (.tu [.c (.v (.int .i64 v0_0)), .c (.v (.int .i64 (firstNZ ([(unl (nameB (txAt cs v0_0.toNat)) (4 : Int)), (unl (!(((txOf ((v0_0 - (0 : Int)).toNat) (fun i j => (txsC cs) (((0 : Int)).toNat + i) j))).contains (txAt cs v0_0.toNat))) (5 : Int))] : List Int))))])) (lt (IntKind.i64.wrap (v0_0 + (1 : Int))) fun x1 => J 0 (nn0 :: []) (mk_clock_CheckNet_0 cs ls x1)))))))) (∃ n, J 2 (n :: []) (mk_clock_CheckNet_2 cs ls 0))
theorem er_clock_CheckNet_0 (J : Inv) (cs : List ByteArray) (ls : List Lnk) (v0_0 : Int) (nn0 : Nat) (post : DV → Prop) : round Tryz.prog tab Sn52 ann_clock_CheckNet J Tryz.f95 post 0 (nn0 :: []) (mk_clock_CheckNet_0 cs ls v0_0) = rd_clock_CheckNet_0 J cs ls v0_0 nn0 post := by kernel_rfl
def rd_clock_CheckNet_2 (J : Inv) (cs : List ByteArray) (ls : List Lnk) (v2_0 : Int) (nn2 : Nat) (post : DV → Prop) : Prop := cond (decide (v2_0 < ((ls.length : Nat) : Int))) ((0 ≤ v2_0 ∧ v2_0 < ((ls.length : Nat) : Int)) ∧ ((intsB [] (boxC [.sl 1 cs.length (txsC cs), .sl 4 ls.length (lnksC ls)]) = true ∧ slP 1 ((boxC [.sl 1 cs.length (txsC cs), .sl 4 ls.length (lnksC ls)]) 0) ∧ txP cs.length (txsC cs) ∧ slP 4 ((boxC [.sl 1 cs.length (txsC cs), .sl 4 ls.length (lnksC ls)]) 1) ∧ numsP 4 ls.length (lnksC ls) ∧ ((txOf cs.length (txsC cs))).length ≤ 1000000) ∧ (cond (inB ((lnkAt ls v2_0.toNat).frm) 0 ((((txOf cs.length (txsC cs))).length : Int) - 1)) ((intsB [] (boxC [.sl 1 cs.length (txsC cs), .sl 4 ls.length (lnksC ls)]) = true ∧ slP 1 ((boxC [.sl 1 cs.length (txsC cs), .sl 4 ls.length (lnksC ls)]) 0) ∧ txP cs.length (txsC cs) ∧ slP 4 ((boxC [.sl 1 cs.length (txsC cs), .sl 4 ls.length (lnksC ls)]) 1) ∧ numsP 4 ls.length (lnksC ls) ∧ ((txOf cs.length (txsC cs))).length ≤ 1000000) ∧ (cond (inB ((lnkAt ls v2_0.toNat).lo) (-1000000000) 1000000000) ((numsP 1 4 (genC [[.v (.int .i64 (unl (inB ((lnkAt ls v2_0.toNat).«to») 0 ((((txOf cs.length (txsC cs))).length : Int) - 1)) (6 : Int)))], [.v (.int .i64 (unl (((lnkAt ls v2_0.toNat).frm) != ((lnkAt ls v2_0.toNat).«to»)) (15 : Int)))], [.v (.int .i64 (unl (inB ((lnkAt ls v2_0.toNat).hi) (-1000000000) 1000000000) (2 : Int)))], [.v (.int .i64 (unl (decide (((lnkAt ls v2_0.toNat).lo) ≤ ((lnkAt ls v2_0.toNat).hi))) (9 : Int)))]]) ∧ (([(unl (inB ((lnkAt ls v2_0.toNat).«to») 0 ((((txOf cs.length (txsC cs))).length : Int) - 1)) (6 : Int)), (unl (((lnkAt ls v2_0.toNat).frm) != ((lnkAt ls v2_0.toNat).«to»)) (15 : Int)), (unl (inB ((lnkAt ls v2_0.toNat).hi) (-1000000000) 1000000000) (2 : Int)), (unl (decide (((lnkAt ls v2_0.toNat).lo) ≤ ((lnkAt ls v2_0.toNat).hi))) (9 : Int))] : List Int)).length ≤ 100) ∧ (cond ((firstNZ ([(unl (inB ((lnkAt ls v2_0.toNat).«to») 0 ((((txOf cs.length (txsC cs))).length : Int) - 1)) (6 : Int)), (unl (((lnkAt ls v2_0.toNat).frm) != ((lnkAt ls v2_0.toNat).«to»)) (15 : Int)), (unl (inB ((lnkAt ls v2_0.toNat).hi) (-1000000000) 1000000000) (2 : Int)), (unl (decide (((lnkAt ls v2_0.toNat).lo) ≤ ((lnkAt ls v2_0.toNat).hi))) (9 : Int))] : List Int)) != (0 : Int)) (post (.tu [.c (.v (.int .i64 v2_0)), .c (.v (.int .i64 (firstNZ ([(unl (inB ((lnkAt ls v2_0.toNat).«to») 0 ((((txOf cs.length (txsC cs))).length : Int) - 1)) (6 : Int)), (unl (((lnkAt ls v2_0.toNat).frm) != ((lnkAt ls v2_0.toNat).«to»)) (15 : Int)), (unl (inB ((lnkAt ls v2_0.toNat).hi) (-1000000000) 1000000000) (2 : Int)), (unl (decide (((lnkAt ls v2_0.toNat).lo) ≤ ((lnkAt ls v2_0.toNat).hi))) (9 : Int))] : List Int))))])) (lt (IntKind.i64.wrap (v2_0 + (1 : Int))) fun x1 => J 2 (nn2 :: []) (mk_clock_CheckNet_2 cs ls x1)))) ((false = false) ∧ ((numsP 1 4 (genC [[.v (.int .i64 (unl (inB ((lnkAt ls v2_0.toNat).«to») 0 ((((txOf cs.length (txsC cs))).length : Int) - 1)) (6 : Int)))], [.v (.int .i64 (unl (((lnkAt ls v2_0.toNat).frm) != ((lnkAt ls v2_0.toNat).«to»)) (15 : Int)))], [.v (.int .i64 (unl false (2 : Int)))], [.v (.int .i64 (unl (decide (((lnkAt ls v2_0.toNat).lo) ≤ ((lnkAt ls v2_0.toNat).hi))) (9 : Int)))]]) ∧ (([(unl (inB ((lnkAt ls v2_0.toNat).«to») 0 ((((txOf cs.length (txsC cs))).length : Int) - 1)) (6 : Int)), (unl (((lnkAt ls v2_0.toNat).frm) != ((lnkAt ls v2_0.toNat).«to»)) (15 : Int)), (unl false (2 : Int)), (unl (decide (((lnkAt ls v2_0.toNat).lo) ≤ ((lnkAt ls v2_0.toNat).hi))) (9 : Int))] : List Int)).length ≤ 100) ∧ (cond ((firstNZ ([(unl (inB ((lnkAt ls v2_0.toNat).«to») 0 ((((txOf cs.length (txsC cs))).length : Int) - 1)) (6 : Int)), (unl (((lnkAt ls v2_0.toNat).frm) != ((lnkAt ls v2_0.toNat).«to»)) (15 : Int)), (unl false (2 : Int)), (unl (decide (((lnkAt ls v2_0.toNat).lo) ≤ ((lnkAt ls v2_0.toNat).hi))) (9 : Int))] : List Int)) != (0 : Int)) (post (.tu [.c (.v (.int .i64 v2_0)), .c (.v (.int .i64 (firstNZ ([(unl (inB ((lnkAt ls v2_0.toNat).«to») 0 ((((txOf cs.length (txsC cs))).length : Int) - 1)) (6 : Int)), (unl (((lnkAt ls v2_0.toNat).frm) != ((lnkAt ls v2_0.toNat).«to»)) (15 : Int)), (unl false (2 : Int)), (unl (decide (((lnkAt ls v2_0.toNat).lo) ≤ ((lnkAt ls v2_0.toNat).hi))) (9 : Int))] : List Int))))])) (lt (IntKind.i64.wrap (v2_0 + (1 : Int))) fun x2 => J 2 (nn2 :: []) (mk_clock_CheckNet_2 cs ls x2))))))) ((false = false) ∧ (cond (inB ((lnkAt ls v2_0.toNat).lo) (-1000000000) 1000000000) ((numsP 1 4 (genC [[.v (.int .i64 (unl false (6 : Int)))], [.v (.int .i64 (unl (((lnkAt ls v2_0.toNat).frm) != ((lnkAt ls v2_0.toNat).«to»)) (15 : Int)))], [.v (.int .i64 (unl (inB ((lnkAt ls v2_0.toNat).hi) (-1000000000) 1000000000) (2 : Int)))], [.v (.int .i64 (unl (decide (((lnkAt ls v2_0.toNat).lo) ≤ ((lnkAt ls v2_0.toNat).hi))) (9 : Int)))]]) ∧ (([(unl false (6 : Int)), (unl (((lnkAt ls v2_0.toNat).frm) != ((lnkAt ls v2_0.toNat).«to»)) (15 : Int)), (unl (inB ((lnkAt ls v2_0.toNat).hi) (-1000000000) 1000000000) (2 : Int)), (unl (decide (((lnkAt ls v2_0.toNat).lo) ≤ ((lnkAt ls v2_0.toNat).hi))) (9 : Int))] : List Int)).length ≤ 100) ∧ (cond ((firstNZ ([(unl false (6 : Int)), (unl (((lnkAt ls v2_0.toNat).frm) != ((lnkAt ls v2_0.toNat).«to»)) (15 : Int)), (unl (inB ((lnkAt ls v2_0.toNat).hi) (-1000000000) 1000000000) (2 : Int)), (unl (decide (((lnkAt ls v2_0.toNat).lo) ≤ ((lnkAt ls v2_0.toNat).hi))) (9 : Int))] : List Int)) != (0 : Int)) (post (.tu [.c (.v (.int .i64 v2_0)), .c (.v (.int .i64 (firstNZ ([(unl false (6 : Int)), (unl (((lnkAt ls v2_0.toNat).frm) != ((lnkAt ls v2_0.toNat).«to»)) (15 : Int)), (unl (inB ((lnkAt ls v2_0.toNat).hi) (-1000000000) 1000000000) (2 : Int)), (unl (decide (((lnkAt ls v2_0.toNat).lo) ≤ ((lnkAt ls v2_0.toNat).hi))) (9 : Int))] : List Int))))])) (lt (IntKind.i64.wrap (v2_0 + (1 : Int))) fun x3 => J 2 (nn2 :: []) (mk_clock_CheckNet_2 cs ls x3)))) ((false = false) ∧ ((numsP 1 4 (genC [[.v (.int .i64 (unl false (6 : Int)))], [.v (.int .i64 (unl (((lnkAt ls v2_0.toNat).frm) != ((lnkAt ls v2_0.toNat).«to»)) (15 : Int)))], [.v (.int .i64 (unl false (2 : Int)))], [.v (.int .i64 (unl (decide (((lnkAt ls v2_0.toNat).lo) ≤ ((lnkAt ls v2_0.toNat).hi))) (9 : Int)))]]) ∧ (([(unl false (6 : Int)), (unl (((lnkAt ls v2_0.toNat).frm) != ((lnkAt ls v2_0.toNat).«to»)) (15 : Int)), (unl false (2 : Int)), (unl (decide (((lnkAt ls v2_0.toNat).lo) ≤ ((lnkAt ls v2_0.toNat).hi))) (9 : Int))] : List Int)).length ≤ 100) ∧ (cond ((firstNZ ([(unl false (6 : Int)), (unl (((lnkAt ls v2_0.toNat).frm) != ((lnkAt ls v2_0.toNat).«to»)) (15 : Int)), (unl false (2 : Int)), (unl (decide (((lnkAt ls v2_0.toNat).lo) ≤ ((lnkAt ls v2_0.toNat).hi))) (9 : Int))] : List Int)) != (0 : Int)) (post (.tu [.c (.v (.int .i64 v2_0)), .c (.v (.int .i64 (firstNZ ([(unl false (6 : Int)), (unl (((lnkAt ls v2_0.toNat).frm) != ((lnkAt ls v2_0.toNat).«to»)) (15 : Int)), (unl false (2 : Int)), (unl (decide (((lnkAt ls v2_0.toNat).lo) ≤ ((lnkAt ls v2_0.toNat).hi))) (9 : Int))] : List Int))))])) (lt (IntKind.i64.wrap (v2_0 + (1 : Int))) fun x4 => J 2 (nn2 :: []) (mk_clock_CheckNet_2 cs ls x4)))))))))) (post (.tu [.c (.v (.int .i64 0)), .c (.v (.int .i64 0))]))
theorem er_clock_CheckNet_2 (J : Inv) (cs : List ByteArray) (ls : List Lnk) (v2_0 : Int) (nn2 : Nat) (post : DV → Prop) : round Tryz.prog tab Sn52 ann_clock_CheckNet J Tryz.f95 post 1 (nn2 :: []) (mk_clock_CheckNet_2 cs ls v2_0) = rd_clock_CheckNet_2 J cs ls v2_0 nn2 post := by kernel_rfl
theorem lp_clock_CheckNet (J : Inv) (post : DV → Prop) : AllG J (loopsFn Tryz.prog tab Sn52 ann_clock_CheckNet J Tryz.f95 post) = (((∀ F s, ¬ J 0 (0 :: F) s) ∧ ∀ n F s, J 0 ((n + 1) :: F) s → round Tryz.prog tab Sn52 ann_clock_CheckNet J Tryz.f95 post 0 (n :: F) s) ∧ ((∀ F s, ¬ J 2 (0 :: F) s) ∧ ∀ n F s, J 2 ((n + 1) :: F) s → round Tryz.prog tab Sn52 ann_clock_CheckNet J Tryz.f95 post 1 (n :: F) s) ∧ True) := by kernel_rfl
def J_clock_CheckNet (cs : List ByteArray) (ls : List Lnk) : Inv := fun b F s => match b, F with
 | 0, [nn0] => ∃ (v0_0 : Int), s = mk_clock_CheckNet_0 cs ls v0_0 ∧ ((ntH cs ls = 0 ∧ (∀ k, k < cs.length → (txAt cs k).size ≤ 1000000)) ∧ 0 ≤ v0_0 ∧ v0_0 ≤ cs.length ∧ (nn0 : Int) + v0_0 = cs.length + 1 ∧ ∀ j : Nat, (j : Int) < v0_0 → nmE cs j = 0)
 | 2, [nn2] => ∃ (v2_0 : Int), s = mk_clock_CheckNet_2 cs ls v2_0 ∧ ((ntH cs ls = 0 ∧ scan (nmE cs) cs.length = 0) ∧ 0 ≤ v2_0 ∧ v2_0 ≤ ls.length ∧ (nn2 : Int) + v2_0 = ls.length + 1 ∧ ∀ j : Nat, (j : Int) < v2_0 → lkE cs.length (lnkAt ls j) = 0)
 | _, _ => False
theorem rnd_clock_CheckNet_0 (cs : List ByteArray) (ls : List Lnk) (v0_0 : Int) (nn0 : Nat) (hp : (∀ k, k < (cs).length → (txAt cs k).size ≤ 1000000)) (hi : (ntH cs ls = 0 ∧ (∀ k, k < cs.length → (txAt cs k).size ≤ 1000000)) ∧ 0 ≤ v0_0 ∧ v0_0 ≤ cs.length ∧ ((nn0 + 1) : Int) + v0_0 = cs.length + 1 ∧ ∀ j : Nat, (j : Int) < v0_0 → nmE cs j = 0) : rd_clock_CheckNet_0 (J_clock_CheckNet cs ls) cs ls v0_0 nn0 (fun r => LeD r (.tu [.c (.v (.int .i64 (ntI cs ls))), .c (.v (.int .i64 (ntE cs ls)))])) := by
 obtain ⟨⟨q, hs⟩, i1, i2, i3, i4⟩ := hi
 obtain ⟨k, rfl⟩ : ∃ k : Nat, v0_0 = k := ⟨v0_0.toNat, by omega⟩
 have hk : (k : Int).toNat = k := rfl
 have z := ntH_ok q
 unfold rd_clock_CheckNet_0
 rw [hk]
 refine cond_i (fun h => ?_) (fun h => ?_)
 ·have hlt : k < cs.length := by have := of_decide_eq_true h; omega
  have et : txOf ((k : Int) - 0).toNat (fun i j => (txsC cs) (((0 : Int)).toNat + i) j) = cs.take k := by
   have := txs_part cs (lo := 0) (n := k) (by omega)
   rw [show ((k : Int) - 0).toNat = k by omega]
   simpa using this
  rw [et]
  refine ⟨by omega, hs k hlt, by omega, ⟨txP_part cs _ _, by rw [List.length_take]; omega⟩, ⟨numsP_gen [_, _], Nat.le_of_ble_eq_true rfl⟩, cond_i (fun g => ?_) (fun g => lt_i fun x hx => ?_)⟩
  ·have g : nmE cs k ≠ 0 := by unfold nmE; simpa using g
   have e1 := scan_at (f := nmE cs) (fun j hj => i4 j (by omega)) hlt g
   have e2 := scanI_at (f := nmE cs) (fun j hj => i4 j (by omega)) hlt g
   have e3 : scan (nmE cs) cs.length ≠ 0 := by rw [e1]; exact g
   refine le2 ?_ ?_
   ·unfold ntI; rw [if_neg (by rw [q]; simp), if_pos e3, e2]
   ·unfold ntE; rw [if_neg (by rw [q]; simp), if_pos e3, e1]; rfl
  ·have g : nmE cs k = 0 := by unfold nmE; simpa using g
   rw [wi (by omega)] at hx
   subst hx
   exact ⟨_, rfl, ⟨q, hs⟩, by omega, by omega, by omega, fun j hj => by
    by_cases c : j = k
    ·rw [c]; exact g
    ·exact i4 j (by omega)⟩
 ·have h := of_decide_eq_false h
  exact ⟨ls.length + 1, 0, rfl, ⟨q, scan_end fun j hj => i4 j (by omega)⟩, by omega, by omega, by omega, fun j hj => by omega⟩
theorem zero_clock_CheckNet_0 (cs : List ByteArray) (ls : List Lnk) (v0_0 : Int)  (hi : (ntH cs ls = 0 ∧ (∀ k, k < cs.length → (txAt cs k).size ≤ 1000000)) ∧ 0 ≤ v0_0 ∧ v0_0 ≤ cs.length ∧ (0 : Int) + v0_0 = cs.length + 1 ∧ ∀ j : Nat, (j : Int) < v0_0 → nmE cs j = 0) : False := by
 omega
theorem rnd_clock_CheckNet_2 (cs : List ByteArray) (ls : List Lnk) (v2_0 : Int) (nn2 : Nat) (hp : (∀ k, k < (cs).length → (txAt cs k).size ≤ 1000000)) (hi : (ntH cs ls = 0 ∧ scan (nmE cs) cs.length = 0) ∧ 0 ≤ v2_0 ∧ v2_0 ≤ ls.length ∧ ((nn2 + 1) : Int) + v2_0 = ls.length + 1 ∧ ∀ j : Nat, (j : Int) < v2_0 → lkE cs.length (lnkAt ls j) = 0) : rd_clock_CheckNet_2 (J_clock_CheckNet cs ls) cs ls v2_0 nn2 (fun r => LeD r (.tu [.c (.v (.int .i64 (ntI cs ls))), .c (.v (.int .i64 (ntE cs ls)))])) := by
 obtain ⟨⟨q, q2⟩, i1, i2, i3, i4⟩ := hi
 obtain ⟨k, rfl⟩ : ∃ k : Nat, v2_0 = k := ⟨v2_0.toNat, by omega⟩
 have hk : (k : Int).toNat = k := rfl
 have z := ntH_ok q
 unfold rd_clock_CheckNet_2
 simp only [txs_of, hk]
 refine cond_i (fun h => ?_) (fun h => ?_)
 ·have hlt : k < ls.length := by have := of_decide_eq_true h; omega
  have fin : ∀ e9 : Int, e9 = lkE cs.length (lnkAt ls k) → cond (e9 != 0) (LeD (.tu [.c (.v (.int .i64 k)), .c (.v (.int .i64 e9))]) (.tu [.c (.v (.int .i64 (ntI cs ls))), .c (.v (.int .i64 (ntE cs ls)))])) (lt (IntKind.i64.wrap ((k : Int) + 1)) fun x2 => J_clock_CheckNet cs ls 2 (nn2 :: []) (mk_clock_CheckNet_2 cs ls x2)) := by
   intro e9 he
   refine cond_i (fun g => ?_) (fun g => lt_i fun x hx => ?_)
   ·have g : lkE cs.length (lnkAt ls k) ≠ 0 := by rw [← he]; simpa using g
    have e1 := scan_at (f := fun i => lkE cs.length (lnkAt ls i)) (fun j hj => i4 j (by omega)) hlt g
    have e2 := scanI_at (f := fun i => lkE cs.length (lnkAt ls i)) (fun j hj => i4 j (by omega)) hlt g
    refine le2 ?_ ?_
    ·unfold ntI; rw [if_neg (by rw [q]; simp), if_neg (by rw [q2]; simp), e2]
    ·unfold ntE; rw [if_neg (by rw [q]; simp), if_neg (by rw [q2]; simp), e1, he]
   ·have g : lkE cs.length (lnkAt ls k) = 0 := by rw [← he]; simpa using g
    rw [wi (by omega)] at hx
    subst hx
    exact ⟨_, rfl, ⟨q, q2⟩, by omega, by omega, by omega, fun j hj => by
     by_cases c : j = k
     ·rw [c]; exact g
     ·exact i4 j (by omega)⟩
  have P1 : intsB [] (boxC [.sl 1 cs.length (txsC cs), .sl 4 ls.length (lnksC ls)]) = true ∧ slP 1 ((boxC [.sl 1 cs.length (txsC cs), .sl 4 ls.length (lnksC ls)]) 0) ∧ txP cs.length (txsC cs) ∧ slP 4 ((boxC [.sl 1 cs.length (txsC cs), .sl 4 ls.length (lnksC ls)]) 1) ∧ numsP 4 ls.length (lnksC ls) ∧ cs.length ≤ 1000000 := ⟨rfl, rfl, txP_txs cs, rfl, numsP_lnks ls, by omega⟩
  refine ⟨by omega, P1, cond_i (fun a1 => ⟨P1, cond_i (fun a2 => ⟨⟨numsP_gen [_, _, _, _], Nat.le_of_ble_eq_true rfl⟩, fin _ ?_⟩) (fun a2 => ⟨by trivial, ⟨numsP_gen [_, _, _, _], Nat.le_of_ble_eq_true rfl⟩, fin _ ?_⟩)⟩) (fun a1 => ⟨by trivial, cond_i (fun a2 => ⟨⟨numsP_gen [_, _, _, _], Nat.le_of_ble_eq_true rfl⟩, fin _ ?_⟩) (fun a2 => ⟨by trivial, ⟨numsP_gen [_, _, _, _], Nat.le_of_ble_eq_true rfl⟩, fin _ ?_⟩)⟩)⟩
  all_goals
   unfold lkE
   rw [a1, a2]
   rfl
 ·have h := of_decide_eq_false h
  have e1 := scan_end (f := fun i => lkE cs.length (lnkAt ls i)) (n := ls.length) fun j hj => i4 j (by omega)
  have e2 := scanI_end (f := fun i => lkE cs.length (lnkAt ls i)) (n := ls.length) fun j hj => i4 j (by omega)
  refine le2 ?_ ?_
  ·unfold ntI; rw [if_neg (by rw [q]; simp), if_neg (by rw [q2]; simp), e2]
  ·unfold ntE; rw [if_neg (by rw [q]; simp), if_neg (by rw [q2]; simp), e1]
theorem zero_clock_CheckNet_2 (cs : List ByteArray) (ls : List Lnk) (v2_0 : Int)  (hi : (ntH cs ls = 0 ∧ scan (nmE cs) cs.length = 0) ∧ 0 ≤ v2_0 ∧ v2_0 ≤ ls.length ∧ (0 : Int) + v2_0 = ls.length + 1 ∧ ∀ j : Nat, (j : Int) < v2_0 → lkE cs.length (lnkAt ls j) = 0) : False := by
 omega
theorem spec_clock_CheckNet (cs : List ByteArray) (ls : List Lnk) (hp : (∀ k, k < (cs).length → (txAt cs k).size ≤ 1000000)) : vc_clock_CheckNet (J_clock_CheckNet cs ls) cs ls (fun r => LeD r (.tu [.c (.v (.int .i64 (ntI cs ls))), .c (.v (.int .i64 (ntE cs ls)))])) := by
 unfold vc_clock_CheckNet
 have tail : cond (ntH cs ls != 0) (LeD (.tu [.c (.v (.int .i64 0)), .c (.v (.int .i64 (ntH cs ls)))]) (.tu [.c (.v (.int .i64 (ntI cs ls))), .c (.v (.int .i64 (ntE cs ls)))])) (∃ n, J_clock_CheckNet cs ls 0 (n :: []) (mk_clock_CheckNet_0 cs ls 0)) := by
  refine cond_i (fun g => ?_) (fun g => ?_)
  ·have g : ntH cs ls ≠ 0 := by simpa using g
   exact le2 (if_pos g).symm (if_pos g).symm
  ·have g : ntH cs ls = 0 := by simpa using g
   exact ⟨cs.length + 1, 0, rfl, ⟨g, hp⟩, by omega, by omega, by omega, fun j hj => by omega⟩
 refine cond_i (fun h => ⟨⟨numsP_gen [_, _], Nat.le_of_ble_eq_true rfl⟩, ?_⟩) (fun h => ⟨rfl, ⟨numsP_gen [_, _], Nat.le_of_ble_eq_true rfl⟩, ?_⟩)
 ·have e : ntH cs ls = firstNZ [unl (decide ((cs.length : Int) > 0)) 10, unl (decide ((ls.length : Int) ≤ 12)) 8] := by unfold ntH; rw [h]; rfl
  rw [← e]
  exact tail
 ·have e : ntH cs ls = firstNZ [unl (decide ((cs.length : Int) > 0)) 10, unl false 8] := by unfold ntH; rw [h]; rfl
  rw [← e]
  exact tail
theorem all_clock_CheckNet (cs : List ByteArray) (ls : List Lnk) (hp : (∀ k, k < (cs).length → (txAt cs k).size ≤ 1000000)) : AllG (J_clock_CheckNet cs ls) (loopsFn Tryz.prog tab Sn52 ann_clock_CheckNet (J_clock_CheckNet cs ls) Tryz.f95 (fun r => LeD r (.tu [.c (.v (.int .i64 (ntI cs ls))), .c (.v (.int .i64 (ntE cs ls)))]))) := by
 rw [lp_clock_CheckNet]
 refine ⟨⟨?_, ?_⟩, ⟨?_, ?_⟩, trivial⟩
 ·intro F s h
  obtain _ | ⟨g, F⟩ := F
  case cons => exact h.elim
  obtain ⟨w0, rfl, hi⟩ := h
  exact zero_clock_CheckNet_0 cs ls w0 hi
 ·intro n F s h
  obtain _ | ⟨g, F⟩ := F
  case cons => exact h.elim
  obtain ⟨w0, rfl, hi⟩ := h
  rw [er_clock_CheckNet_0]
  exact rnd_clock_CheckNet_0 cs ls _ _ hp hi
 ·intro F s h
  obtain _ | ⟨g, F⟩ := F
  case cons => exact h.elim
  obtain ⟨w0, rfl, hi⟩ := h
  exact zero_clock_CheckNet_2 cs ls w0 hi
 ·intro n F s h
  obtain _ | ⟨g, F⟩ := F
  case cons => exact h.elim
  obtain ⟨w0, rfl, hi⟩ := h
  rw [er_clock_CheckNet_2]
  exact rnd_clock_CheckNet_2 cs ls _ _ hp hi
def con_clock_CheckNet : Con := fun args => match args with
 | [.t (.a [.sl 1 n_cs c_cs, .sl 4 n_ls c_ls])] => some (.tu [.c (.v (.int .i64 (ntI (txOf n_cs c_cs) (listC n_ls mkLnk c_ls)))), .c (.v (.int .i64 (ntE (txOf n_cs c_cs) (listC n_ls mkLnk c_ls))))], some (txP n_cs c_cs ∧ numsP 4 n_ls c_ls ∧ (∀ k, k < ((txOf n_cs c_cs)).length → (txAt (txOf n_cs c_cs) k).size ≤ 1000000)), false)
 | _ => none
theorem ok_clock_CheckNet : Ok Tryz.prog 95 con_clock_CheckNet := by
 refine Ok.fn (ann := ann_clock_CheckNet) mixed tabOK VSn52 ValidIt.no (fn := Tryz.f95) (by kernel_rfl) (by kernel_rfl) fit_clock_CheckNet fun args r pre fresh h hp => ?_
 unfold con_clock_CheckNet at h
 split at h
 ·rename_i n_cs c_cs n_ls c_ls
  cases h
  obtain ⟨hp0, hp1, hp⟩ := hp
  refine ⟨rfl, J_clock_CheckNet (txOf n_cs c_cs) (listC n_ls mkLnk c_ls), [.t (.a [.sl 1 ((txOf n_cs c_cs).length) (txsC (txOf n_cs c_cs)), .sl 4 ((listC n_ls mkLnk c_ls).length) (lnksC (listC n_ls mkLnk c_ls))])], ?_, Nat.le_of_ble_eq_true (by kernel_rfl), ?_, ?_⟩
  ·exact (LeA_cons (leT_a (LeCs.cons ((leL_str hp0)) (LeCs.cons ((leL_Lnk hp1)) LeCs.nil))) LeA_nil)
  ·rw [ev_clock_CheckNet]; exact spec_clock_CheckNet (txOf n_cs c_cs) (listC n_ls mkLnk c_ls) hp
  ·exact all_clock_CheckNet (txOf n_cs c_cs) (listC n_ls mkLnk c_ls) hp
 ·cases h
def Sn53 : Sum := addS Sn52 95 con_clock_CheckNet
theorem VSn53 : Valid Tryz.prog Sn53 := Valid.add VSn52 ok_clock_CheckNet
def vc_clock_netErr (cs : List ByteArray) (ls : List Lnk) (post : DV → Prop) : Prop := (txP cs.length (txsC cs) ∧ numsP 4 ls.length (lnksC ls) ∧ (∀ k, k < ((txOf cs.length (txsC cs))).length → (txAt (txOf cs.length (txsC cs)) k).size ≤ 1000000)) ∧ (post (.t (.c (.v (.int .i64 (ntE (txOf cs.length (txsC cs)) (listC ls.length mkLnk (lnksC ls))))))))
def ann_clock_netErr : Ann := ⟨fun _ => none, fun _ => none, fun _ => [], noIt, false, fun _ => none, fun _ => none⟩
theorem ev_clock_netErr (J : Inv) (cs : List ByteArray) (ls : List Lnk) (post : DV → Prop) : evFn Tryz.prog tab Sn53 ann_clock_netErr J Tryz.f53 [.t (.a [.sl 1 cs.length (txsC cs), .sl 4 ls.length (lnksC ls)])] post = vc_clock_netErr cs ls post := by kernel_rfl
theorem fit_clock_netErr : okFn ann_clock_netErr Tryz.f53 = true := by kernel_rfl
theorem lp_clock_netErr (J : Inv) (post : DV → Prop) : AllG J (loopsFn Tryz.prog tab Sn53 ann_clock_netErr J Tryz.f53 post) = (True) := by kernel_rfl
theorem spec_clock_netErr (cs : List ByteArray) (ls : List Lnk) (hp : (∀ k, k < (cs).length → (txAt cs k).size ≤ 1000000)) : vc_clock_netErr cs ls (fun r => LeD r (.t (.c (.v (.int .i64 (ntE cs ls)))))) := by
 unfold vc_clock_netErr
 simp only [txs_of, lnks_listC]
 exact ⟨⟨txP_txs cs, numsP_lnks ls, hp⟩, LeD.refl _⟩
def con_clock_netErr : Con := fun args => match args with
 | [.t (.a [.sl 1 n_cs c_cs, .sl 4 n_ls c_ls])] => some (.t (.c (.v (.int .i64 (ntE (txOf n_cs c_cs) (listC n_ls mkLnk c_ls))))), some (txP n_cs c_cs ∧ numsP 4 n_ls c_ls ∧ (∀ k, k < ((txOf n_cs c_cs)).length → (txAt (txOf n_cs c_cs) k).size ≤ 1000000)), false)
 | _ => none
theorem ok_clock_netErr : Ok Tryz.prog 53 con_clock_netErr := by
 refine Ok.fn (ann := ann_clock_netErr) mixed tabOK VSn53 ValidIt.no (fn := Tryz.f53) (by kernel_rfl) (by kernel_rfl) fit_clock_netErr fun args r pre fresh h hp => ?_
 unfold con_clock_netErr at h
 split at h
 ·rename_i n_cs c_cs n_ls c_ls
  cases h
  obtain ⟨hp0, hp1, hp⟩ := hp
  refine ⟨rfl, fun _ _ _ => False, [.t (.a [.sl 1 ((txOf n_cs c_cs).length) (txsC (txOf n_cs c_cs)), .sl 4 ((listC n_ls mkLnk c_ls).length) (lnksC (listC n_ls mkLnk c_ls))])], ?_, Nat.le_of_ble_eq_true (by kernel_rfl), ?_, ?_⟩
  ·exact (LeA_cons (leT_a (LeCs.cons ((leL_str hp0)) (LeCs.cons ((leL_Lnk hp1)) LeCs.nil))) LeA_nil)
  ·rw [ev_clock_netErr]; exact spec_clock_netErr (txOf n_cs c_cs) (listC n_ls mkLnk c_ls) hp
  ·rw [lp_clock_netErr]; trivial
 ·cases h
def Sn54 : Sum := addS Sn53 53 con_clock_netErr
theorem VSn54 : Valid Tryz.prog Sn54 := Valid.add VSn53 ok_clock_netErr
def mk_ref01_CheckNet_0 (cs : List ByteArray) (ls : List Lnk) (v0_0 : Int) : DS := ⟨[none, some (.t (.c (.p 1 0))), none, none, some (.t (.c (.v (.int .i64 v0_0)))), none, none, none, none, none, none, none, none, none, none, none, none, none, none, none, none, none, none, none, none, none, none, none, none, none, none, none, none, none, none, none, none, none, none, none, none, none, none, none, none, none, none, none, none, none, none, none, none, none, none, none, none, none, none, none, none, none, none, none, none, none, none, none, none, none, none, none, none, none, none, none, none, none, none, none, none, none, none, none, none, none, none, none, none, none, none, none, none, none, none, none, none, none, none, none, none, none, none, none, none], [none, some (.box 27 [.sl 1 cs.length (txsC cs), .sl 4 ls.length (lnksC ls)]), none, none, none, none, none, none, none, none, none, none, none, none, none, none, none, none, none, none, none, none, none, none, none, none, none, none, none, none, none, none, none, none, none, none, none, none, none, none, none, none, none, none, none, none, none, none, none, none, none, none, none, none, none, none, none, none, none, none, none, none, none, none, none, none, none, none, none, none, none, none, none, none, none, none, none, none, none, none, none, none, none, none, none, none, none, none, none, none, none, none, none, none, none, none, none, none, none, none, none, none, none, none, none]⟩
def mk_ref01_CheckNet_2 (cs : List ByteArray) (ls : List Lnk) (v2_0 : Int) : DS := ⟨[none, some (.t (.c (.p 1 0))), none, none, none, some (.t (.c (.v (.int .i64 v2_0)))), none, none, none, none, none, none, none, none, none, none, none, none, none, none, none, none, none, none, none, none, none, none, none, none, none, none, none, none, none, none, none, none, none, none, none, none, none, none, none, none, none, none, none, none, none, none, none, none, none, none, none, none, none, none, none, none, none, none, none, none, none, none, none, none, none, none, none, none, none, none, none, none, none, none, none, none, none, none, none, none, none, none, none, none, none, none, none, none, none, none, none, none, none, none, none, none, none, none, none], [none, some (.box 27 [.sl 1 cs.length (txsC cs), .sl 4 ls.length (lnksC ls)]), none, none, none, none, none, none, none, none, none, none, none, none, none, none, none, none, none, none, none, none, none, none, none, none, none, none, none, none, none, none, none, none, none, none, none, none, none, none, none, none, none, none, none, none, none, none, none, none, none, none, none, none, none, none, none, none, none, none, none, none, none, none, none, none, none, none, none, none, none, none, none, none, none, none, none, none, none, none, none, none, none, none, none, none, none, none, none, none, none, none, none, none, none, none, none, none, none, none, none, none, none, none, none]⟩
def vc_ref01_CheckNet (J : Inv) (cs : List ByteArray) (ls : List Lnk) (post : DV → Prop) : Prop := cond (((cs.length : Nat) : Int) == (0 : Int)) (post (.tu [.c (.v (.int .i64 0)), .c (.v (.int .i64 10))])) ((cond (decide (((cs.length : Nat) : Int) > (6 : Int))) ((true = true) ∧ (True)) (True)) ∧ (lt ((bif decide (((cs.length : Nat) : Int) > (6 : Int)) then true else decide (((ls.length : Nat) : Int) > (12 : Int)))) fun x1 => cond x1 (post (.tu [.c (.v (.int .i64 0)), .c (.v (.int .i64 8))])) (∃ n, J 0 (n :: []) (mk_ref01_CheckNet_0 cs ls 0))))
def ann_ref01_CheckNet : Ann := ⟨fun r => lookA r [(10, ([[], [0], [], [0, 1, 2], [], [4], [], [4, 5, 6], [4, 5, 6, 7], [0, 1, 2, 3, 4, 5, 6, 7, 8]], [[45], [45], [45], [45], [45], [45], [45], [45], [45], []]))], fun b => lookA b [(0, (none, some ⟨[1, 4], [1], []⟩)), (2, (none, some ⟨[1, 5], [1], []⟩))], fun _ => [], noIt, false, fun r => lookA r [(3, (5, [20])), (16, (9, [76])), (20, (6, [95]))], fun _ => none⟩
theorem ev_ref01_CheckNet (J : Inv) (cs : List ByteArray) (ls : List Lnk) (post : DV → Prop) : evFn Tryz.prog tab Sn54 ann_ref01_CheckNet J Tryz.f58 [.t (.a [.sl 1 cs.length (txsC cs), .sl 4 ls.length (lnksC ls)])] post = vc_ref01_CheckNet J cs ls post := by kernel_rfl
theorem fit_ref01_CheckNet : okFn ann_ref01_CheckNet Tryz.f58 = true := by kernel_rfl
def rd_ref01_CheckNet_0 (J : Inv) (cs : List ByteArray) (ls : List Lnk) (v0_0 : Int) (nn0 : Nat) (post : DV → Prop) : Prop := cond (decide (v0_0 < ((cs.length : Nat) : Int))) ((0 ≤ v0_0 ∧ v0_0 < ((cs.length : Nat) : Int)) ∧ ((((txAt cs v0_0.toNat)).size ≤ 1000000) ∧ (cond (!(nameB (txAt cs v0_0.toNat))) (post (.tu [.c (.v (.int .i64 v0_0)), .c (.v (.int .i64 4))])) ((0 ≤ (0 : Int) ∧ (0 : Int) ≤ v0_0 ∧ v0_0 ≤ ((cs.length : Nat) : Int)) ∧ ((0 ≤ v0_0 ∧ v0_0 < ((cs.length : Nat) : Int)) ∧ ((txP ((v0_0 - (0 : Int)).toNat) (fun i j => (txsC cs) (((0 : Int)).toNat + i) j) ∧ ((txOf ((v0_0 - (0 : Int)).toNat) (fun i j => (txsC cs) (((0 : Int)).toNat + i) j))).length ≤ 1000000) ∧ (cond (((txOf ((v0_0 - (0 : Int)).toNat) (fun i j => (txsC cs) (((0 : Int)).toNat + i) j))).contains (txAt cs v0_0.toNat)) (post (.tu [.c (.v (.int .i64 v0_0)), .c (.v (.int .i64 5))])) (lt (IntKind.i64.wrap (v0_0 + (1 : Int))) fun x1 => J 0 (nn0 :: []) (mk_ref01_CheckNet_0 cs ls x1))))))))) (∃ n, J 2 (n :: []) (mk_ref01_CheckNet_2 cs ls 0))
theorem er_ref01_CheckNet_0 (J : Inv) (cs : List ByteArray) (ls : List Lnk) (v0_0 : Int) (nn0 : Nat) (post : DV → Prop) : round Tryz.prog tab Sn54 ann_ref01_CheckNet J Tryz.f58 post 0 (nn0 :: []) (mk_ref01_CheckNet_0 cs ls v0_0) = rd_ref01_CheckNet_0 J cs ls v0_0 nn0 post := by kernel_rfl
def rd_ref01_CheckNet_2 (J : Inv) (cs : List ByteArray) (ls : List Lnk) (v2_0 : Int) (nn2 : Nat) (post : DV → Prop) : Prop := cond (decide (v2_0 < ((ls.length : Nat) : Int))) ((0 ≤ v2_0 ∧ v2_0 < ((ls.length : Nat) : Int)) ∧ (lt (IntKind.i64.wrap (((cs.length : Nat) : Int) - (1 : Int))) fun x1 => (cond (!(inB ((lnkAt ls v2_0.toNat).frm) (0 : Int) x1)) ((true = true) ∧ (True)) (lt (IntKind.i64.wrap (((cs.length : Nat) : Int) - (1 : Int))) fun x3 => True)) ∧ (lt ((bif (!(inB ((lnkAt ls v2_0.toNat).frm) (0 : Int) x1)) then true else (!(inB ((lnkAt ls v2_0.toNat).«to») (0 : Int) (IntKind.i64.wrap (((cs.length : Nat) : Int) - (1 : Int))))))) fun x4 => cond x4 (post (.tu [.c (.v (.int .i64 v2_0)), .c (.v (.int .i64 6))])) (cond (((lnkAt ls v2_0.toNat).frm) == ((lnkAt ls v2_0.toNat).«to»)) (post (.tu [.c (.v (.int .i64 v2_0)), .c (.v (.int .i64 15))])) ((cond (!(inB ((lnkAt ls v2_0.toNat).lo) (-1000000000) 1000000000)) ((true = true) ∧ (True)) (True)) ∧ (lt ((bif (!(inB ((lnkAt ls v2_0.toNat).lo) (-1000000000) 1000000000)) then true else (!(inB ((lnkAt ls v2_0.toNat).hi) (-1000000000) 1000000000)))) fun x5 => cond x5 (post (.tu [.c (.v (.int .i64 v2_0)), .c (.v (.int .i64 2))])) (cond (decide (((lnkAt ls v2_0.toNat).lo) > ((lnkAt ls v2_0.toNat).hi))) (post (.tu [.c (.v (.int .i64 v2_0)), .c (.v (.int .i64 9))])) (lt (IntKind.i64.wrap (v2_0 + (1 : Int))) fun x6 => J 2 (nn2 :: []) (mk_ref01_CheckNet_2 cs ls x6))))))))) (post (.tu [.c (.v (.int .i64 0)), .c (.v (.int .i64 0))]))
theorem er_ref01_CheckNet_2 (J : Inv) (cs : List ByteArray) (ls : List Lnk) (v2_0 : Int) (nn2 : Nat) (post : DV → Prop) : round Tryz.prog tab Sn54 ann_ref01_CheckNet J Tryz.f58 post 1 (nn2 :: []) (mk_ref01_CheckNet_2 cs ls v2_0) = rd_ref01_CheckNet_2 J cs ls v2_0 nn2 post := by kernel_rfl
theorem lp_ref01_CheckNet (J : Inv) (post : DV → Prop) : AllG J (loopsFn Tryz.prog tab Sn54 ann_ref01_CheckNet J Tryz.f58 post) = (((∀ F s, ¬ J 0 (0 :: F) s) ∧ ∀ n F s, J 0 ((n + 1) :: F) s → round Tryz.prog tab Sn54 ann_ref01_CheckNet J Tryz.f58 post 0 (n :: F) s) ∧ ((∀ F s, ¬ J 2 (0 :: F) s) ∧ ∀ n F s, J 2 ((n + 1) :: F) s → round Tryz.prog tab Sn54 ann_ref01_CheckNet J Tryz.f58 post 1 (n :: F) s) ∧ True) := by kernel_rfl
def J_ref01_CheckNet (cs : List ByteArray) (ls : List Lnk) : Inv := fun b F s => match b, F with
 | 0, [nn0] => ∃ (v0_0 : Int), s = mk_ref01_CheckNet_0 cs ls v0_0 ∧ ((ntH cs ls = 0 ∧ (∀ k, k < cs.length → (txAt cs k).size ≤ 1000000)) ∧ 0 ≤ v0_0 ∧ v0_0 ≤ cs.length ∧ (nn0 : Int) + v0_0 = cs.length + 1 ∧ ∀ j : Nat, (j : Int) < v0_0 → nmE cs j = 0)
 | 2, [nn2] => ∃ (v2_0 : Int), s = mk_ref01_CheckNet_2 cs ls v2_0 ∧ ((ntH cs ls = 0 ∧ scan (nmE cs) cs.length = 0) ∧ 0 ≤ v2_0 ∧ v2_0 ≤ ls.length ∧ (nn2 : Int) + v2_0 = ls.length + 1 ∧ ∀ j : Nat, (j : Int) < v2_0 → lkE cs.length (lnkAt ls j) = 0)
 | _, _ => False
theorem rnd_ref01_CheckNet_0 (cs : List ByteArray) (ls : List Lnk) (v0_0 : Int) (nn0 : Nat) (hp : (∀ k, k < (cs).length → (txAt cs k).size ≤ 1000000)) (hi : (ntH cs ls = 0 ∧ (∀ k, k < cs.length → (txAt cs k).size ≤ 1000000)) ∧ 0 ≤ v0_0 ∧ v0_0 ≤ cs.length ∧ ((nn0 + 1) : Int) + v0_0 = cs.length + 1 ∧ ∀ j : Nat, (j : Int) < v0_0 → nmE cs j = 0) : rd_ref01_CheckNet_0 (J_ref01_CheckNet cs ls) cs ls v0_0 nn0 (fun r => LeD r (.tu [.c (.v (.int .i64 (ntI cs ls))), .c (.v (.int .i64 (ntE cs ls)))])) := by
 obtain ⟨⟨q, hs⟩, i1, i2, i3, i4⟩ := hi
 obtain ⟨k, rfl⟩ : ∃ k : Nat, v0_0 = k := ⟨v0_0.toNat, by omega⟩
 have hk : (k : Int).toNat = k := rfl
 have z := ntH_ok q
 unfold rd_ref01_CheckNet_0
 rw [hk]
 refine cond_i (fun h => ?_) (fun h => ?_)
 ·have hlt : k < cs.length := by have := of_decide_eq_true h; omega
  have et : txOf ((k : Int) - 0).toNat (fun i j => (txsC cs) (((0 : Int)).toNat + i) j) = cs.take k := by
   have := txs_part cs (lo := 0) (n := k) (by omega)
   rw [show ((k : Int) - 0).toNat = k by omega]
   simpa using this
  rw [et]
  have bad : ∀ e9 : Int, e9 = nmE cs k → e9 ≠ 0 → LeD (.tu [.c (.v (.int .i64 k)), .c (.v (.int .i64 e9))]) (.tu [.c (.v (.int .i64 (ntI cs ls))), .c (.v (.int .i64 (ntE cs ls)))]) := fun e9 he hn => by
   rw [he] at hn ⊢
   have e1 := scan_at (f := nmE cs) (fun j hj => i4 j (by omega)) hlt hn
   have e2 := scanI_at (f := nmE cs) (fun j hj => i4 j (by omega)) hlt hn
   have e3 : scan (nmE cs) cs.length ≠ 0 := by rw [e1]; exact hn
   refine le2 ?_ ?_
   ·unfold ntI; rw [if_neg (by rw [q]; simp), if_pos e3, e2]
   ·unfold ntE; rw [if_neg (by rw [q]; simp), if_pos e3, e1]
  refine ⟨by omega, hs k hlt, cond_i (fun g => bad _ ?_ (by decide)) (fun g => ⟨by omega, by omega, ⟨txP_part cs _ _, by rw [List.length_take]; omega⟩, cond_i (fun f => bad _ ?_ (by decide)) (fun f => lt_i fun x hx => ?_)⟩)⟩
  ·have g : nameB (txAt cs k) = false := by simpa using g
   unfold nmE; rw [g]; rfl
  ·have g : nameB (txAt cs k) = true := by simpa using g
   unfold nmE; rw [g, f]; rfl
  ·have g : nameB (txAt cs k) = true := by simpa using g
   rw [wi (by omega)] at hx
   subst hx
   exact ⟨_, rfl, ⟨q, hs⟩, by omega, by omega, by omega, fun j hj => by
    by_cases c : j = k
    ·rw [c]; unfold nmE; rw [g, f]; rfl
    ·exact i4 j (by omega)⟩
 ·have h := of_decide_eq_false h
  exact ⟨ls.length + 1, 0, rfl, ⟨q, scan_end fun j hj => i4 j (by omega)⟩, by omega, by omega, by omega, fun j hj => by omega⟩
theorem zero_ref01_CheckNet_0 (cs : List ByteArray) (ls : List Lnk) (v0_0 : Int)  (hi : (ntH cs ls = 0 ∧ (∀ k, k < cs.length → (txAt cs k).size ≤ 1000000)) ∧ 0 ≤ v0_0 ∧ v0_0 ≤ cs.length ∧ (0 : Int) + v0_0 = cs.length + 1 ∧ ∀ j : Nat, (j : Int) < v0_0 → nmE cs j = 0) : False := by
 omega
theorem rnd_ref01_CheckNet_2 (cs : List ByteArray) (ls : List Lnk) (v2_0 : Int) (nn2 : Nat) (hp : (∀ k, k < (cs).length → (txAt cs k).size ≤ 1000000)) (hi : (ntH cs ls = 0 ∧ scan (nmE cs) cs.length = 0) ∧ 0 ≤ v2_0 ∧ v2_0 ≤ ls.length ∧ ((nn2 + 1) : Int) + v2_0 = ls.length + 1 ∧ ∀ j : Nat, (j : Int) < v2_0 → lkE cs.length (lnkAt ls j) = 0) : rd_ref01_CheckNet_2 (J_ref01_CheckNet cs ls) cs ls v2_0 nn2 (fun r => LeD r (.tu [.c (.v (.int .i64 (ntI cs ls))), .c (.v (.int .i64 (ntE cs ls)))])) := by
 obtain ⟨⟨q, q2⟩, i1, i2, i3, i4⟩ := hi
 obtain ⟨k, rfl⟩ : ∃ k : Nat, v2_0 = k := ⟨v2_0.toNat, by omega⟩
 have hk : (k : Int).toNat = k := rfl
 have z := ntH_ok q
 unfold rd_ref01_CheckNet_2
 rw [hk]
 refine cond_i (fun h => ?_) (fun h => ?_)
 ·have hlt : k < ls.length := by have := of_decide_eq_true h; omega
  obtain ⟨X, hX⟩ : ∃ X, X = lnkAt ls k := ⟨_, rfl⟩
  rw [← hX]
  have bad : ∀ e9 : Int, e9 = lkE cs.length X → e9 ≠ 0 → LeD (.tu [.c (.v (.int .i64 k)), .c (.v (.int .i64 e9))]) (.tu [.c (.v (.int .i64 (ntI cs ls))), .c (.v (.int .i64 (ntE cs ls)))]) := fun e9 he hn => by
   rw [he, hX] at hn
   have e1 := scan_at (f := fun i => lkE cs.length (lnkAt ls i)) (fun j hj => i4 j (by omega)) hlt hn
   have e2 := scanI_at (f := fun i => lkE cs.length (lnkAt ls i)) (fun j hj => i4 j (by omega)) hlt hn
   refine le2 ?_ ?_
   ·unfold ntI; rw [if_neg (by rw [q]; simp), if_neg (by rw [q2]; simp), e2]
   ·unfold ntE; rw [if_neg (by rw [q]; simp), if_neg (by rw [q2]; simp), e1, he, hX]
  have hw : IntKind.i64.wrap ((cs.length : Int) - 1) = (cs.length : Int) - 1 := wi (by omega)
  rw [hw]
  refine ⟨by omega, lt_i fun x1 h1 => ⟨cond_i (fun _ => ⟨rfl, trivial⟩) (fun _ => lt_i fun _ _ => trivial), lt_i fun x4 h4 => cond_i (fun a => bad _ ?_ (by decide)) (fun a => cond_i (fun b => bad _ ?_ (by decide)) (fun b => ⟨cond_i (fun _ => ⟨rfl, trivial⟩) (fun _ => trivial), lt_i fun x5 h5 => cond_i (fun d => bad _ ?_ (by decide)) (fun d => cond_i (fun f => bad _ ?_ (by decide)) (fun f => lt_i fun x hx => ?_))⟩))⟩⟩
  all_goals
   subst h1
   have ea : (inB X.frm 0 ((cs.length : Int) - 1) && inB X.to 0 ((cs.length : Int) - 1)) = !x4 := by
    rw [← h4]; cases inB X.frm 0 ((cs.length : Int) - 1) <;> cases inB X.to 0 ((cs.length : Int) - 1) <;> rfl
   rw [a] at ea
  ·unfold lkE; rw [ea]; rfl
  all_goals
   have eb : (X.frm != X.to) = !(X.frm == X.to) := rfl
   rw [b] at eb
  ·unfold lkE; rw [ea, eb]; rfl
  all_goals
   have ed : (inB X.lo (-1000000000) 1000000000 && inB X.hi (-1000000000) 1000000000) = !x5 := by
    rw [← h5]; cases inB X.lo (-1000000000) 1000000000 <;> cases inB X.hi (-1000000000) 1000000000 <;> rfl
   rw [d] at ed
  ·unfold lkE; rw [ea, eb, ed]; rfl
  ·have f := of_decide_eq_true f
   unfold lkE; rw [ea, eb, ed, decide_eq_false (by omega)]; rfl
  ·have f := of_decide_eq_false f
   have e0 : lkE cs.length X = 0 := by unfold lkE; rw [ea, eb, ed, decide_eq_true (by omega)]; rfl
   rw [wi (by omega)] at hx
   subst hx
   exact ⟨_, rfl, ⟨q, q2⟩, by omega, by omega, by omega, fun j hj => by
    by_cases c : j = k
    ·rw [c, ← hX]; exact e0
    ·exact i4 j (by omega)⟩
 ·have h := of_decide_eq_false h
  have e1 := scan_end (f := fun i => lkE cs.length (lnkAt ls i)) (n := ls.length) fun j hj => i4 j (by omega)
  have e2 := scanI_end (f := fun i => lkE cs.length (lnkAt ls i)) (n := ls.length) fun j hj => i4 j (by omega)
  refine le2 ?_ ?_
  ·unfold ntI; rw [if_neg (by rw [q]; simp), if_neg (by rw [q2]; simp), e2]
  ·unfold ntE; rw [if_neg (by rw [q]; simp), if_neg (by rw [q2]; simp), e1]
theorem zero_ref01_CheckNet_2 (cs : List ByteArray) (ls : List Lnk) (v2_0 : Int)  (hi : (ntH cs ls = 0 ∧ scan (nmE cs) cs.length = 0) ∧ 0 ≤ v2_0 ∧ v2_0 ≤ ls.length ∧ (0 : Int) + v2_0 = ls.length + 1 ∧ ∀ j : Nat, (j : Int) < v2_0 → lkE cs.length (lnkAt ls j) = 0) : False := by
 omega
theorem spec_ref01_CheckNet (cs : List ByteArray) (ls : List Lnk) (hp : (∀ k, k < (cs).length → (txAt cs k).size ≤ 1000000)) : vc_ref01_CheckNet (J_ref01_CheckNet cs ls) cs ls (fun r => LeD r (.tu [.c (.v (.int .i64 (ntI cs ls))), .c (.v (.int .i64 (ntE cs ls)))])) := by
 unfold vc_ref01_CheckNet
 refine cond_i (fun h => ?_) (fun h => ⟨cond_i (fun _ => ⟨rfl, trivial⟩) (fun _ => trivial), lt_i fun x1 h1 => cond_i (fun g => ?_) (fun g => ?_)⟩)
 ·have h : (cs.length : Int) = 0 := by simpa using h
  have e : ntH cs ls = 10 := by unfold ntH; rw [decide_eq_false (by omega)]; rfl
  have e0 : ntH cs ls ≠ 0 := by rw [e]; decide
  exact le2 (if_pos e0).symm (e.symm.trans (if_pos e0).symm)
 all_goals
  have h : ¬ (cs.length : Int) = 0 := by simpa using h
  have eb : (decide ((cs.length : Int) ≤ 6) && decide ((ls.length : Int) ≤ 12)) = !x1 := by
   rw [← h1]
   by_cases a : (cs.length : Int) > 6
   ·rw [decide_eq_true a, decide_eq_false (by omega)]; rfl
   ·rw [decide_eq_false a, decide_eq_true (show (cs.length : Int) ≤ 6 by omega)]
    by_cases b : (ls.length : Int) > 12
    ·rw [decide_eq_true b, decide_eq_false (by omega)]; rfl
    ·rw [decide_eq_false b, decide_eq_true (show (ls.length : Int) ≤ 12 by omega)]; rfl
  have e : ntH cs ls = unl (!x1) 8 := by
   unfold ntH
   rw [eb, decide_eq_true (show (cs.length : Int) > 0 by omega)]
   cases x1 <;> rfl
  rw [g] at e
 ·have e0 : ntH cs ls ≠ 0 := by rw [e]; decide
  exact le2 (if_pos e0).symm (e.symm.trans (if_pos e0).symm)
 ·exact ⟨cs.length + 1, 0, rfl, ⟨e, hp⟩, by omega, by omega, by omega, fun j hj => by omega⟩
theorem all_ref01_CheckNet (cs : List ByteArray) (ls : List Lnk) (hp : (∀ k, k < (cs).length → (txAt cs k).size ≤ 1000000)) : AllG (J_ref01_CheckNet cs ls) (loopsFn Tryz.prog tab Sn54 ann_ref01_CheckNet (J_ref01_CheckNet cs ls) Tryz.f58 (fun r => LeD r (.tu [.c (.v (.int .i64 (ntI cs ls))), .c (.v (.int .i64 (ntE cs ls)))]))) := by
 rw [lp_ref01_CheckNet]
 refine ⟨⟨?_, ?_⟩, ⟨?_, ?_⟩, trivial⟩
 ·intro F s h
  obtain _ | ⟨g, F⟩ := F
  case cons => exact h.elim
  obtain ⟨w0, rfl, hi⟩ := h
  exact zero_ref01_CheckNet_0 cs ls w0 hi
 ·intro n F s h
  obtain _ | ⟨g, F⟩ := F
  case cons => exact h.elim
  obtain ⟨w0, rfl, hi⟩ := h
  rw [er_ref01_CheckNet_0]
  exact rnd_ref01_CheckNet_0 cs ls _ _ hp hi
 ·intro F s h
  obtain _ | ⟨g, F⟩ := F
  case cons => exact h.elim
  obtain ⟨w0, rfl, hi⟩ := h
  exact zero_ref01_CheckNet_2 cs ls w0 hi
 ·intro n F s h
  obtain _ | ⟨g, F⟩ := F
  case cons => exact h.elim
  obtain ⟨w0, rfl, hi⟩ := h
  rw [er_ref01_CheckNet_2]
  exact rnd_ref01_CheckNet_2 cs ls _ _ hp hi
def con_ref01_CheckNet : Con := fun args => match args with
 | [.t (.a [.sl 1 n_cs c_cs, .sl 4 n_ls c_ls])] => some (.tu [.c (.v (.int .i64 (ntI (txOf n_cs c_cs) (listC n_ls mkLnk c_ls)))), .c (.v (.int .i64 (ntE (txOf n_cs c_cs) (listC n_ls mkLnk c_ls))))], some (txP n_cs c_cs ∧ numsP 4 n_ls c_ls ∧ (∀ k, k < ((txOf n_cs c_cs)).length → (txAt (txOf n_cs c_cs) k).size ≤ 1000000)), false)
 | _ => none
theorem ok_ref01_CheckNet : Ok Tryz.prog 58 con_ref01_CheckNet := by
 refine Ok.fn (ann := ann_ref01_CheckNet) mixed tabOK VSn54 ValidIt.no (fn := Tryz.f58) (by kernel_rfl) (by kernel_rfl) fit_ref01_CheckNet fun args r pre fresh h hp => ?_
 unfold con_ref01_CheckNet at h
 split at h
 ·rename_i n_cs c_cs n_ls c_ls
  cases h
  obtain ⟨hp0, hp1, hp⟩ := hp
  refine ⟨rfl, J_ref01_CheckNet (txOf n_cs c_cs) (listC n_ls mkLnk c_ls), [.t (.a [.sl 1 ((txOf n_cs c_cs).length) (txsC (txOf n_cs c_cs)), .sl 4 ((listC n_ls mkLnk c_ls).length) (lnksC (listC n_ls mkLnk c_ls))])], ?_, Nat.le_of_ble_eq_true (by kernel_rfl), ?_, ?_⟩
  ·exact (LeA_cons (leT_a (LeCs.cons ((leL_str hp0)) (LeCs.cons ((leL_Lnk hp1)) LeCs.nil))) LeA_nil)
  ·rw [ev_ref01_CheckNet]; exact spec_ref01_CheckNet (txOf n_cs c_cs) (listC n_ls mkLnk c_ls) hp
  ·exact all_ref01_CheckNet (txOf n_cs c_cs) (listC n_ls mkLnk c_ls) hp
 ·cases h
def Sn55 : Sum := addS Sn54 58 con_ref01_CheckNet
theorem VSn55 : Valid Tryz.prog Sn55 := Valid.add VSn54 ok_ref01_CheckNet
def vc_ref01_NetErr (cs : List ByteArray) (ls : List Lnk) (post : DV → Prop) : Prop := (txP cs.length (txsC cs) ∧ numsP 4 ls.length (lnksC ls) ∧ (∀ k, k < ((txOf cs.length (txsC cs))).length → (txAt (txOf cs.length (txsC cs)) k).size ≤ 1000000)) ∧ (post (.t (.c (.v (.int .i64 (ntE (txOf cs.length (txsC cs)) (listC ls.length mkLnk (lnksC ls))))))))
def ann_ref01_NetErr : Ann := ⟨fun _ => none, fun _ => none, fun _ => [], noIt, false, fun _ => none, fun _ => none⟩
theorem ev_ref01_NetErr (J : Inv) (cs : List ByteArray) (ls : List Lnk) (post : DV → Prop) : evFn Tryz.prog tab Sn55 ann_ref01_NetErr J Tryz.f19 [.t (.a [.sl 1 cs.length (txsC cs), .sl 4 ls.length (lnksC ls)])] post = vc_ref01_NetErr cs ls post := by kernel_rfl
theorem fit_ref01_NetErr : okFn ann_ref01_NetErr Tryz.f19 = true := by kernel_rfl
theorem lp_ref01_NetErr (J : Inv) (post : DV → Prop) : AllG J (loopsFn Tryz.prog tab Sn55 ann_ref01_NetErr J Tryz.f19 post) = (True) := by kernel_rfl
theorem spec_ref01_NetErr (cs : List ByteArray) (ls : List Lnk) (hp : (∀ k, k < (cs).length → (txAt cs k).size ≤ 1000000)) : vc_ref01_NetErr cs ls (fun r => LeD r (.t (.c (.v (.int .i64 (ntE cs ls)))))) := by
 unfold vc_ref01_NetErr
 simp only [txs_of, lnks_listC]
 exact ⟨⟨txP_txs cs, numsP_lnks ls, hp⟩, LeD.refl _⟩
def con_ref01_NetErr : Con := fun args => match args with
 | [.t (.a [.sl 1 n_cs c_cs, .sl 4 n_ls c_ls])] => some (.t (.c (.v (.int .i64 (ntE (txOf n_cs c_cs) (listC n_ls mkLnk c_ls))))), some (txP n_cs c_cs ∧ numsP 4 n_ls c_ls ∧ (∀ k, k < ((txOf n_cs c_cs)).length → (txAt (txOf n_cs c_cs) k).size ≤ 1000000)), false)
 | _ => none
theorem ok_ref01_NetErr : Ok Tryz.prog 19 con_ref01_NetErr := by
 refine Ok.fn (ann := ann_ref01_NetErr) mixed tabOK VSn55 ValidIt.no (fn := Tryz.f19) (by kernel_rfl) (by kernel_rfl) fit_ref01_NetErr fun args r pre fresh h hp => ?_
 unfold con_ref01_NetErr at h
 split at h
 ·rename_i n_cs c_cs n_ls c_ls
  cases h
  obtain ⟨hp0, hp1, hp⟩ := hp
  refine ⟨rfl, fun _ _ _ => False, [.t (.a [.sl 1 ((txOf n_cs c_cs).length) (txsC (txOf n_cs c_cs)), .sl 4 ((listC n_ls mkLnk c_ls).length) (lnksC (listC n_ls mkLnk c_ls))])], ?_, Nat.le_of_ble_eq_true (by kernel_rfl), ?_, ?_⟩
  ·exact (LeA_cons (leT_a (LeCs.cons ((leL_str hp0)) (LeCs.cons ((leL_Lnk hp1)) LeCs.nil))) LeA_nil)
  ·rw [ev_ref01_NetErr]; exact spec_ref01_NetErr (txOf n_cs c_cs) (listC n_ls mkLnk c_ls) hp
  ·rw [lp_ref01_NetErr]; trivial
 ·cases h
def Sn56 : Sum := addS Sn55 19 con_ref01_NetErr
theorem VSn56 : Valid Tryz.prog Sn56 := Valid.add VSn55 ok_ref01_NetErr
end Go.Proofs.YtlapeoboekchpaaGreatDoor
set_option linter.unusedVariables false
set_option linter.unusedSimpArgs false
namespace Go.Proofs.YtlapeoboekchpaaGreatDoor
open Go.RowKit Ev
def con_eras : ItC := fun l => match l with
 | [.px 1 0 c_x] => some ⟨(listC (cvLen (c_x 0)) mkLpp (cvCells (c_x 0))).length + 1, 2, erY (listC (cvLen (c_x 0)) mkLpp (cvCells (c_x 0))), some (slP 2 (c_x 0) ∧ numsP 2 (cvLen (c_x 0)) (cvCells (c_x 0)) ∧ lpsOk (listC (cvLen (c_x 0)) mkLpp (cvCells (c_x 0)))), false, some 103, none⟩
 | _ => none
theorem ok_eras : OkIt Tryz.prog 111 con_eras := by
 intro l R h hp
 unfold con_eras at h
 split at h
 ·rename_i c_x
  cases h
  obtain ⟨hq0, hr0, hp⟩ := hp
  refine ⟨Enters.of (fn := Tryz.f111) (by kernel_rfl) (by kernel_rfl) (by kernel_rfl), fun i _ => ⟨rfl, rfl⟩, fun w N vs hv => ?_⟩
  have hz : LeCs (fwd c_x 0 1) [.sl 2 (listC (cvLen (c_x 0)) mkLpp (cvCells (c_x 0))).length (lppsC (listC (cvLen (c_x 0)) mkLpp (cvCells (c_x 0))))] := LeCs.cons (leC_s hq0 (leL_Lp hr0)) LeCs.nil
  exact seq_eras w N vs _ hp (leC_cons (leC_p hz) (LeC.refl []) w N vs hv)
 ·cases h
def I1 : It := addI noIt 111 con_eras
theorem VI1 : ValidIt Tryz.prog I1 := ValidIt.add ValidIt.no ok_eras
end Go.Proofs.YtlapeoboekchpaaGreatDoor
set_option linter.unusedVariables false
set_option linter.unusedSimpArgs false
namespace Go.Proofs.YtlapeoboekchpaaGreatDoor
open Go.RowKit Ev
theorem lps_ok {l : List Lp} (h : lpE l = 0) : lpsOk l := ⟨(lpE_ok h).1, fun k hk => ⟨((lpE_ok h).2 k hk).1, ((lpE_ok h).2 k hk).2.1⟩⟩
theorem tfK_succ (l : List Lp) (n : Int) (k : Nat) : tfK l n (k + 1) = tfK l n k ++ (if erB l (n - erS l k) k = true then [n - erS l k] else []) := by
 unfold tfK
 rw [List.range_succ, List.filter_append, List.map_append]
 congr 1
 rw [List.filter_cons]
 cases erB l (n - erS l k) k <;> rfl
theorem tfK_len (l : List Lp) (n : Int) (k : Nat) : (tfK l n k).length ≤ k := by
 unfold tfK
 rw [List.length_map]
 have := List.length_filter_le (fun i => erB l (n - erS l i) i) (List.range k)
 rwa [List.length_range] at this
def vc_clock_eras (l : List Lp) (post : DV → Prop) : Prop := post (.t (.fn 111 [.px 1 0 (boxC [.sl 2 l.length (lppsC l)])]))
def ann_clock_eras : Ann := ⟨fun _ => none, fun _ => none, fun _ => [], I1, false, fun _ => none, fun _ => none⟩
theorem ev_clock_eras (J : Inv) (l : List Lp) (post : DV → Prop) : evFn Tryz.prog tab Sn56 ann_clock_eras J Tryz.f83 [.t (.c (.sl 2 l.length (lppsC l)))] post = vc_clock_eras l post := by kernel_rfl
theorem fit_clock_eras : okFn ann_clock_eras Tryz.f83 = true := by kernel_rfl
theorem lp_clock_eras (J : Inv) (post : DV → Prop) : AllG J (loopsFn Tryz.prog tab Sn56 ann_clock_eras J Tryz.f83 post) = (True) := by kernel_rfl
theorem spec_clock_eras (l : List Lp) : vc_clock_eras l (fun r => LeD r (.t (.fn 111 [.px 1 0 (boxC [.sl 2 l.length (lppsC l)])]))) := by
 exact LeD.refl _
def con_clock_eras : Con := fun args => match args with
 | [.t (.c (.sl 2 n_l c_l))] => some (.t (.fn 111 [.px 1 0 (boxC [.sl 2 ((listC n_l mkLpp c_l).length) (lppsC (listC n_l mkLpp c_l))])]), some (numsP 2 n_l c_l), false)
 | _ => none
theorem ok_clock_eras : Ok Tryz.prog 83 con_clock_eras := by
 refine Ok.fn (ann := ann_clock_eras) mixed tabOK VSn56 VI1 (fn := Tryz.f83) (by kernel_rfl) (by kernel_rfl) fit_clock_eras fun args r pre fresh h hp => ?_
 unfold con_clock_eras at h
 split at h
 ·rename_i n_l c_l
  cases h
  have hp0 := hp
  refine ⟨rfl, fun _ _ _ => False, [.t (.c (.sl 2 ((listC n_l mkLpp c_l).length) (lppsC (listC n_l mkLpp c_l))))], ?_, Nat.le_of_ble_eq_true (by kernel_rfl), ?_, ?_⟩
  ·exact (LeA_cons (leT_c ((leL_Lp hp0))) LeA_nil)
  ·rw [ev_clock_eras]; exact spec_clock_eras (listC n_l mkLpp c_l)
  ·rw [lp_clock_eras]; trivial
 ·cases h
def St57 : Sum := addS Sn56 83 con_clock_eras
theorem VSt57 : Valid Tryz.prog St57 := Valid.add VSn56 ok_clock_eras
def mk_clock_TicksFor_0 (l : List Lp) (n : Int) (v0_0 : List Int) : DS := ⟨[none, none, none, some (.t (.c (.p 3 0))), none, none, none, some (.t (.c (.p 7 0))), none, none, none, none, none, none, none, none, none, none, none, none, none, some (.t (.fn 111 [.px 1 0 (boxC [.sl 2 ((listC l.length mkLpp (lppsC l)).length) (lppsC (listC l.length mkLpp (lppsC l)))])])), none, none, none, none, none, none, none, none, none, none, none, none, none, none, none, none, none], [some (.num 3 .i64 v0_0), none, none, some (.box 3 [.v (.int .i64 n)]), none, none, none, some (.box 46 [.os 0]), none, none, none, none, none, none, none, none, none, none, none, none, none, none, none, none, none, none, none, none, none, none, none, none, none, none, none, none, none, none, none]⟩
def vc_clock_TicksFor (J : Inv) (l : List Lp) (n : Int) (post : DV → Prop) : Prop := (numsP 2 l.length (lppsC l)) ∧ ((numsP 1 2 (genC [[.v (.int .i64 (lpE (listC l.length mkLpp (lppsC l))))], [.v (.int .i64 (unl (inB n (-2000000000000 : Int) (2000000000000 : Int)) (2 : Int)))]]) ∧ (([(lpE (listC l.length mkLpp (lppsC l))), (unl (inB n (-2000000000000 : Int) (2000000000000 : Int)) (2 : Int))] : List Int)).length ≤ 100) ∧ (cond ((firstNZ ([(lpE (listC l.length mkLpp (lppsC l))), (unl (inB n (-2000000000000 : Int) (2000000000000 : Int)) (2 : Int))] : List Int)) != (0 : Int)) (post (.tu [.c (.v (.slice none 0 0)), .c (.v (.int .i64 (firstNZ ([(lpE (listC l.length mkLpp (lppsC l))), (unl (inB n (-2000000000000 : Int) (2000000000000 : Int)) (2 : Int))] : List Int))))])) ((numsP 2 l.length (lppsC l)) ∧ ((slP 2 ((boxC [.sl 2 ((listC l.length mkLpp (lppsC l)).length) (lppsC (listC l.length mkLpp (lppsC l)))]) 0) ∧ numsP 2 ((listC l.length mkLpp (lppsC l)).length) (lppsC (listC l.length mkLpp (lppsC l))) ∧ lpsOk (listC ((listC l.length mkLpp (lppsC l)).length) mkLpp (lppsC (listC l.length mkLpp (lppsC l))))) ∧ (J 0 [0] (mk_clock_TicksFor_0 l n ([])))))))
def ann_clock_TicksFor : Ann := ⟨fun r => lookA r [(1, ([[], [0], [], [0, 1, 2], [0, 1, 2, 3], [0, 1, 2, 3, 4], [0, 1, 2, 3, 4, 5], [0, 1, 2, 3, 4, 5, 6]], [[11, 13, 14, 15, 16], [13, 14, 15, 16], [11, 13, 14, 15, 16], [14, 15, 16], [15, 16], [16], [], []]))], fun b => lookA b [(0, (none, some ⟨[3, 7, 21], [3, 7], []⟩))], fun b => (lookA b [(0, [(7, 0, 0, .num 3 .i64 ([]))])]).getD [], I1, true, fun _ => none, fun _ => none⟩
theorem ev_clock_TicksFor (J : Inv) (l : List Lp) (n : Int) (post : DV → Prop) : evFn Tryz.prog tab St57 ann_clock_TicksFor J Tryz.f43 [.t (.c (.sl 2 l.length (lppsC l))), .t (.c (.v (.int .i64 n)))] post = vc_clock_TicksFor J l n post := by kernel_rfl
theorem fit_clock_TicksFor : okFn ann_clock_TicksFor Tryz.f43 = true := by kernel_rfl
def rd_clock_TicksFor_0 (J : Inv) (l : List Lp) (n : Int) (v0_0 : List Int) (nn0 : Nat) (post : DV → Prop) : Prop := (nn0 = ((listC ((listC l.length mkLpp (lppsC l)).length) mkLpp (lppsC (listC l.length mkLpp (lppsC l)))).length + 1) → post (.tu [.c (.sl 1 v0_0.length (numsC .i64 v0_0)), .c (.v (.int .i64 0))])) ∧ (nn0 < ((listC ((listC l.length mkLpp (lppsC l)).length) mkLpp (lppsC (listC l.length mkLpp (lppsC l)))).length + 1) → lt (IntKind.i64.wrap (n - (erS (listC ((listC l.length mkLpp (lppsC l)).length) mkLpp (lppsC (listC l.length mkLpp (lppsC l)))) nn0))) fun x1 => cond (inB x1 (erF (listC ((listC l.length mkLpp (lppsC l)).length) mkLpp (lppsC (listC l.length mkLpp (lppsC l)))) nn0) (erT (listC ((listC l.length mkLpp (lppsC l)).length) mkLpp (lppsC (listC l.length mkLpp (lppsC l)))) nn0)) (lt (IntKind.i64.wrap (n - (erS (listC ((listC l.length mkLpp (lppsC l)).length) mkLpp (lppsC (listC l.length mkLpp (lppsC l)))) nn0))) fun x2 => ((IntKind.i64 = IntKind.i64 ∧ True) ∧ roomP 8 (v0_0.length + ([x2] : List Int).length)) ∧ (((some (.t (.fn 111 [.px 1 0 (boxC [.sl 2 ((listC l.length mkLpp (lppsC l)).length) (lppsC (listC l.length mkLpp (lppsC l)))])])) : Option DV) = some (.t (.fn 111 [.px 1 0 (boxC [.sl 2 ((listC l.length mkLpp (lppsC l)).length) (lppsC (listC l.length mkLpp (lppsC l)))])]))) ∧ J 0 [nn0 + 1] (mk_clock_TicksFor_0 l n (v0_0 ++ ([x2]))))) (((some (.t (.fn 111 [.px 1 0 (boxC [.sl 2 ((listC l.length mkLpp (lppsC l)).length) (lppsC (listC l.length mkLpp (lppsC l)))])])) : Option DV) = some (.t (.fn 111 [.px 1 0 (boxC [.sl 2 ((listC l.length mkLpp (lppsC l)).length) (lppsC (listC l.length mkLpp (lppsC l)))])]))) ∧ J 0 [nn0 + 1] (mk_clock_TicksFor_0 l n v0_0)))
theorem er_clock_TicksFor_0 (J : Inv) (l : List Lp) (n : Int) (v0_0 : List Int) (nn0 : Nat) (post : DV → Prop) : round Tryz.prog tab St57 ann_clock_TicksFor J Tryz.f43 post 0 (nn0 :: []) (mk_clock_TicksFor_0 l n v0_0) = rd_clock_TicksFor_0 J l n v0_0 nn0 post := by kernel_rfl
theorem lp_clock_TicksFor (J : Inv) (post : DV → Prop) : AllG J (loopsFn Tryz.prog tab St57 ann_clock_TicksFor J Tryz.f43 post) = ((∀ i s, J 0 [i] s → round Tryz.prog tab St57 ann_clock_TicksFor J Tryz.f43 post 0 [i] s) ∧ True) := by kernel_rfl
def J_clock_TicksFor (l : List Lp) (n : Int) : Inv := fun b F s => match b, F with
 | 0, [nn0] => ∃ (v0_0 : List Int), s = mk_clock_TicksFor_0 l n v0_0 ∧ (tfE l n = 0 ∧ nn0 ≤ l.length + 1 ∧ v0_0 = tfK l n nn0)
 | _, _ => False
theorem rnd_clock_TicksFor_0 (l : List Lp) (n : Int) (v0_0 : List Int) (nn0 : Nat) (hi : tfE l n = 0 ∧ nn0 ≤ l.length + 1 ∧ v0_0 = tfK l n nn0) : rd_clock_TicksFor_0 (J_clock_TicksFor l n) l n v0_0 nn0 (fun r => LeD r (.tu [.c (.sl 1 ((tfV l n).length) (intsC (tfV l n))), .c (.v (.int .i64 (tfE l n)))])) := by
 obtain ⟨q, i1, i2⟩ := hi
 obtain ⟨q1, q2⟩ := fn2 (show firstNZ [_, _] = 0 from q)
 rw [unl_0 (by decide), inB_true] at q2
 unfold rd_clock_TicksFor_0
 simp only [lpps_listC]
 refine ⟨fun h => ?_, fun h => lt_i fun x1 h1 => cond_i (fun e => lt_i fun x2 h2 => ⟨⟨by trivial, ?_⟩, by trivial, _, rfl, q, by omega, ?_⟩) (fun e => ⟨by trivial, _, rfl, q, by omega, ?_⟩)⟩
 ·rw [show tfV l n = tfK l n (l.length + 1) from if_pos q, q, i2, h]
  exact LeD.refl _
 all_goals
  have r := erS_rg (lps_ok q1) nn0 (by omega)
  have b := (lpE_ok q1).1
  rw [wi (by omega)] at h1
  subst h1
 ·have hl := tfK_len l n nn0
  unfold roomP maxLen; rw [i2]; simp; omega
 ·rw [wi (by omega)] at h2
  rw [tfK_succ, if_pos (show erB l (n - erS l nn0) nn0 = true from e), i2, h2]
 ·rw [tfK_succ, if_neg (by rw [show erB l (n - erS l nn0) nn0 = false from e]; simp), i2, List.append_nil]
theorem spec_clock_TicksFor (l : List Lp) (n : Int) : vc_clock_TicksFor (J_clock_TicksFor l n) l n (fun r => LeD r (.tu [.c (.sl 1 ((tfV l n).length) (intsC (tfV l n))), .c (.v (.int .i64 (tfE l n)))])) := by
 unfold vc_clock_TicksFor
 simp only [lpps_listC]
 refine ⟨numsP_lpps l, ⟨numsP_gen [_, _], Nat.le_of_ble_eq_true rfl⟩, cond_i (fun h => ?_) (fun h => ?_)⟩
 ·have h : tfE l n ≠ 0 := by unfold tfE; simpa using h
  rw [show tfV l n = [] from if_neg h]
  exact le_tu le_nil (LeD.refl _)
 ·have h : tfE l n = 0 := by unfold tfE; simpa using h
  exact ⟨numsP_lpps l, ⟨rfl, numsP_lpps l, lps_ok (fn2 (show firstNZ [_, _] = 0 from h)).1⟩, _, rfl, h, Nat.zero_le _, rfl⟩
theorem all_clock_TicksFor (l : List Lp) (n : Int) : AllG (J_clock_TicksFor l n) (loopsFn Tryz.prog tab St57 ann_clock_TicksFor (J_clock_TicksFor l n) Tryz.f43 (fun r => LeD r (.tu [.c (.sl 1 ((tfV l n).length) (intsC (tfV l n))), .c (.v (.int .i64 (tfE l n)))]))) := by
 rw [lp_clock_TicksFor]
 refine ⟨?_, trivial⟩
 ·intro i s h
  obtain ⟨w0, rfl, hi⟩ := h
  rw [er_clock_TicksFor_0]
  exact rnd_clock_TicksFor_0 l n _ _ hi
def con_clock_TicksFor : Con := fun args => match args with
 | [.t (.c (.sl 2 n_l c_l)), .t (.c (.v (.int .i64 n)))] => some (.tu [.c (.sl 1 ((tfV (listC n_l mkLpp c_l) n).length) (intsC (tfV (listC n_l mkLpp c_l) n))), .c (.v (.int .i64 (tfE (listC n_l mkLpp c_l) n)))], some (numsP 2 n_l c_l), true)
 | _ => none
theorem ok_clock_TicksFor : Ok Tryz.prog 43 con_clock_TicksFor := by
 refine Ok.fnFr (ann := ann_clock_TicksFor) mixed tabOK VSt57 VI1 rfl (fn := Tryz.f43) (by kernel_rfl) (by kernel_rfl) fit_clock_TicksFor fun args r pre fresh h hp => ?_
 unfold con_clock_TicksFor at h
 split at h
 ·rename_i n_l c_l n
  cases h
  have hp0 := hp
  refine ⟨rfl, (by intro x hx; simp only [List.mem_cons, List.not_mem_nil, or_false] at hx; rcases hx with rfl | rfl; exact (fun i j _ hj => plain_int _ i j); exact trivial), J_clock_TicksFor (listC n_l mkLpp c_l) n, [.t (.c (.sl 2 ((listC n_l mkLpp c_l).length) (lppsC (listC n_l mkLpp c_l)))), .t (.c (.v (.int .i64 n)))], ?_, Nat.le_of_ble_eq_true (by kernel_rfl), ?_, ?_⟩
  ·exact (LeA_cons (leT_c ((leL_Lp hp0))) (LeA_cons (LeD.refl _) LeA_nil))
  ·rw [ev_clock_TicksFor]; exact spec_clock_TicksFor (listC n_l mkLpp c_l) n
  ·exact all_clock_TicksFor (listC n_l mkLpp c_l) n
 ·cases h
def St58 : Sum := addS St57 43 con_clock_TicksFor
theorem VSt58 : Valid Tryz.prog St58 := Valid.add VSt57 ok_clock_TicksFor
end Go.Proofs.YtlapeoboekchpaaGreatDoor
set_option linter.unusedVariables false
set_option linter.unusedSimpArgs false
namespace Go.Proofs.YtlapeoboekchpaaGreatDoor
open Go.RowKit Ev
def bdF (l : List Lnk) (n : Nat) : Nat → Nat → Int := kK (lnkM l l.length) n n
def bdB (l : List Lnk) (n : Nat) : Bool := (List.range n).all fun i => decide (0 ≤ bdF l n i i)
def bdN (l : List Lnk) (n : Nat) : Nat := if bdB l n = true then n else 0
def matC (n : Nat) (f : Nat → Nat → Int) : Nat → Nat → CV := fun i _ => .sl 1 n (fun j _ => .v (.int .i64 (f i j)))
def bdOk (n : Int) (l : List Lnk) : Prop := (1 ≤ n ∧ n ≤ 6) ∧ l.length ≤ 12 ∧ ∀ k, k < l.length → (lnkAt l k).ok n.toNat
theorem bdB_true {l : List Lnk} {n : Nat} : bdB l n = true ↔ ∀ i, i < n → 0 ≤ bdF l n i i := by
 unfold bdB; simp [List.all_eq_true]
theorem bdB_false {l : List Lnk} {n : Nat} (h : ∃ i, i < n ∧ bdF l n i i < 0) : bdB l n = false := by
 obtain ⟨i, hi, hn⟩ := h
 cases e : bdB l n
 ·rfl
 ·have := bdB_true.1 e i hi; omega
def con_bounds : Con := fun args => match args with
 | [.t (.c (.v (.int .i64 n))), .t (.c (.sl 4 n_ls c_ls))] => some (.tu [.c (.sl 1 (bdN (listC n_ls mkLnk c_ls) n.toNat) (matC n.toNat (bdF (listC n_ls mkLnk c_ls) n.toNat))), .c (.v (.bool (bdB (listC n_ls mkLnk c_ls) n.toNat)))], some (numsP 4 n_ls c_ls ∧ bdOk n (listC n_ls mkLnk c_ls)), Fre.no)
 | _ => none
theorem ok_bounds : Ok Tryz.prog 69 con_bounds := by
 intro args r pre fresh h hp
 unfold con_bounds at h
 split at h
 ·rename_i n n_ls c_ls
  cases h
  obtain ⟨hp0, hp⟩ := hp
  refine ⟨Enters.of (fn := Tryz.f69) (by kernel_rfl) (by kernel_rfl) (by kernel_rfl), fun W N vs hG hv => ?_⟩
  have hv : All2 (RelD (RelF W N)) [.t (.c (.v (.int .i64 n))), .t (.c (.sl 4 n_ls c_ls))] vs := hv
  obtain ⟨v0, us0, rfl, r0, hv0⟩ := hv.cons_inv
  obtain ⟨v1, us1, rfl, r1, hv1⟩ := hv0.cons_inv
  obtain rfl := hv1.nil_inv
  obtain ⟨rfl, _⟩ : v0 = .int .i64 n ∧ _ := r0
  have h1 : RelF W N (.sl 4 (listC n_ls mkLnk c_ls).length (lnksC (listC n_ls mkLnk c_ls))) v1 := leL_Lnk hp0 W N v1 r1
  generalize listC n_ls mkLnk c_ls = L at *
  obtain ⟨ao, cap, rfl, hcap, hmx, hnil, hcells⟩ := h1
  obtain ⟨⟨hn1, hn2⟩, hl, hok⟩ := hp
  obtain ⟨m, rfl⟩ : ∃ m : Nat, n = m := ⟨n.toNat, by omega⟩
  rw [Int.toNat_natCast] at *
  refine (walk_bounds W m (by omega) L ao cap hl (low_links (by omega) hok) hok ?_).mono ?_
  ·intro k hk
   obtain ⟨b, off, e1, e2, e3, e4⟩ := hcells (by omega)
   obtain ⟨x0, a0, b0⟩ := e4 k 0 hk (by omega)
   obtain ⟨x1, a1, b1⟩ := e4 k 1 hk (by omega)
   obtain ⟨x2, a2, b2⟩ := e4 k 2 hk (by omega)
   obtain ⟨x3, a3, b3⟩ := e4 k 3 hk (by omega)
   obtain ⟨rfl, _⟩ := b0
   obtain ⟨rfl, _⟩ := b1
   obtain ⟨rfl, _⟩ := b2
   obtain ⟨rfl, _⟩ := b3
   exact ⟨b, off, e1, e2, a0, a1, a2, a3⟩
  ·rintro e w' ⟨hb, ⟨hex, rfl⟩ | ⟨hall, rfl, hM⟩⟩
   ·refine ⟨_, rfl, ?_, hb⟩
    have e := bdB_false (l := L) (n := m) hex
    simp only [RetOk]
    unfold bdN
    rw [e]
    exact ⟨[_, _], rfl, ⟨none, 0, rfl, Nat.le_refl _, by unfold maxLen; omega, fun _ => rfl, fun h => absurd h (by simp)⟩, ⟨rfl, rfl⟩, trivial⟩
   ·refine ⟨_, rfl, ?_, hb⟩
    have e : bdB L m = true := bdB_true.2 hall
    simp only [RetOk]
    unfold bdN
    rw [e, if_pos rfl]
    refine ⟨[_, _], rfl, ⟨some ⟨W.heap.size, 0, none⟩, m, rfl, Nat.le_refl _, by unfold maxLen; omega, (fun h => by cases h), fun _ => ⟨W.heap.size, 0, rfl, hM.lt.1, Or.inr (Nat.le_refl _), fun i j hi hj => ⟨.slice (some ⟨W.heap.size + 2 + 2 * i, 0, none⟩) m m, ?_, ?_⟩⟩⟩, ⟨rfl, rfl⟩, trivial⟩
    ·rw [show 0 + i * 1 + j = i by omega]; exact hM.cell_top hi hi
    ·refine ⟨some ⟨W.heap.size + 2 + 2 * i, 0, none⟩, m, rfl, Nat.le_refl _, by unfold maxLen; omega, (fun h => by cases h), fun _ => ⟨_, 0, rfl, hM.lt.2 i hi, Or.inr (by omega), fun i' j' hi' hj' => ⟨_, ?_, rfl, rfl⟩⟩⟩
     rw [show 0 + i' * 1 + j' = i' by omega]
     exact hM.cell_row hi hi'
 ·cases h
end Go.Proofs.YtlapeoboekchpaaGreatDoor